/-
  Clone at ranges, what the sort compares by, and done: walked. Raw of the program, walked over what is asked of the sort: a right set of just the points that the ranges have.
-/
import Derived.Test.YtbiahhojnjchnaaGreatSetF
import Derived.Test.YtbiahhojnjchnaaGreatGC
import Derived.Sort.Grow
import Derived.StillTailTactics
set_option linter.unusedVariables false
set_option linter.unusedSimpArgs false
namespace Go.Proofs.YtbiahhojnjchnaaGreat
open Go.RowKit
set_option maxHeartbeats 1000000 in
theorem clone117 (l:List (Int × Int)) (A:Option Addr) (n c:Nat) (w:World) (hn:n≤1000000) (ha:Rds w w.heap.size 2 A n (rngs l)) :
  Calls Tryz.prog 71 #[.slice A n c] w (OwnRngs w l):=by
 have hq:=fun (A:Option Addr) (n c:Nat) (W:World)=>Lib.run_eql_slice_nil (P:=Tryz.prog) W 23 67 A n c 0 0 Tryz.underlying23
 cases A with
 | none =>
  have hn0:n=0:=by
   rcases Nat.eq_zero_or_pos n with h|h
   ·exact h
   ·obtain ⟨_,_,h,_⟩:=ha.2 h;cases h
  subst hn0
  have hl:l=[]:=List.eq_nil_of_length_eq_zero ha.rngs_len
  subst hl
  go_enter Tryz.func71,Tryz.ntmps71
  go_wp2
  go_ret
  exact ownRngs_of rfl (World.ownsRow_nil _ _ _ _) (Below.refl _ _)
 | some ad =>
  have R:=Lib.hid ((ha.alloc (Nat.le_refl _) (.cells #[] 67)).more (B':=w.heap.size+1) (by omega))
  have hown:(w.alloc (.cells #[] 67)).ownsRow w.heap.size 67 2 (.slice (some ⟨w.heap.size,0,none⟩) 0 0) 0 (rngs []):=own_new w w.heap.size 67 2 0 #[] (Nat.le_refl _) rfl (by decide)
  have HOWN:=Lib.hid hown
  clear hown
  go_enter Tryz.func71,Tryz.ntmps71
  go_wp2_with (at_builtin;refine app_rngs (.tmp 5) (.tmp 6) (base:=w.heap.size) (xs:=[]) (n:=0) (by exact HOWN.out) R.out (by omega) (by simp) rfl rfl rfl rfl ?_;intro v3 w3 hown3 hg3 hat3)
  go_ret
  exact ownRngs_of rfl hown3 (((Below.refl _ _).alloc (Nat.le_refl _) _).grown hg3 (by simp) (fun g hg=>Nat.le_of_eq (Option.some.inj hg)))
open Go.Sort in
set_option maxHeartbeats 1000000 in
theorem cmp119 (x y u v:Int) (w:World) (hx:0≤x∧x≤1114111) (hu:0≤u∧u≤1114111) :
  Calls Tryz.prog 105 #[.agg #[.int .i64 x,.int .i64 y],.agg #[.int .i64 u,.int .i64 v]] w fun e w'=>e=.returned (.int .i64 (x - u))∧∃ q os',w'=grow (w.drewN q) os':=by
 obtain ⟨x0,x1⟩:=hx
 obtain ⟨u0,u1⟩:=hu
 go_enter Tryz.func105,Tryz.ntmps105
 go_wp2
 go_ret
 exact ⟨rfl,0,_,by rw [alloc_eq_grow,alloc_eq_grow,grow_grow];rfl⟩
def RR:Type:={ r:Int × Int // okR r=true }
instance:Inhabited RR:=⟨⟨(0,0),rfl⟩⟩
def encRR (r:RR):List Value:=[.int .i64 r.1.1,.int .i64 r.1.2]
def cfRR (a b:RR):Int:=a.1.1 - b.1.1
set_option maxHeartbeats 1000000 in
theorem done_many (A:Option Addr) (n c:Nat) (w:World) (h:400 < n):Calls Tryz.prog 70 #[.slice A n c] w fun e w'=>e=.returned (.tuple #[.slice none 0 0,.int .i64 2])∧w=w':=by
 have hb:(400:Int) < (n:Int):=by omega
 go_enter Tryz.func70,Tryz.ntmps70
 go_wp2
 go_ret2
 exact ⟨rfl,rfl⟩
set_option maxHeartbeats 1000000 in
theorem done_ok (A:Option Addr) (n c:Nat) (w:World) (h:n≤400):Calls Tryz.prog 70 #[.slice A n c] w fun e w'=>e=.returned (.tuple #[.slice A n c,.int .i64 0])∧w=w':=by
 have hb:(n:Int)≤400:=by omega
 go_enter Tryz.func70,Tryz.ntmps70
 go_wp2
 go_ret2
 exact ⟨rfl,rfl⟩
end Go.Proofs.YtbiahhojnjchnaaGreat
namespace Go.Proofs.YtbiahhojnjchnaaGreat
open Go.RowKit
/-- what is asked of the sort: the row holds the same ranges, their beginnings rise; nothing else that was there has turned. -/
def SortC:Prop:=∀ (l:List (Int × Int)) (A:Option Addr) (n c base:Nat) (w:World),n≤1000000→(∀ r ∈ l,okR r=true)→w.ownsRow base 67 2 (.slice A n c) n (rngs l) →
 Calls Tryz.prog 104 #[.slice A n c,.func (.func 105) #[] #[]] w fun e w'=>e=.returned (.tuple #[])∧∃ l',l'.Perm l∧l'.Pairwise (fun r s=>r.1≤s.1)∧Rds w' w'.heap.size 2 A n (rngs l')∧Below base w w'
theorem rawStep_nil (r:Int × Int):rawStep [] r=[r]:=rfl
theorem rawStep_snoc (i:List (Int × Int)) (s r:Int × Int):rawStep (i ++ [s]) r=if r.1≤s.2+1 then i ++ [(s.1,max s.2 r.2)] else i ++ [s] ++ [r]:=by
 simp [rawStep]
def RawSt (l:List (Int × Int)) (k:Nat) (out:List (Int × Int)):Prop:=IsSet out (mem (l.take k))∧∀ s ∈ out,∀ j (hj:j < l.length),k≤j→s.1≤(l[j]).1
theorem RawSt.start (l:List (Int × Int)):RawSt l 0 []:=⟨⟨Can.nil,fun p=>by simp⟩,by simp⟩
theorem RawSt.step {l:List (Int × Int)} (hs:l.Pairwise fun r s=>r.1≤s.1) (hok:∀ r ∈ l,okR r=true) {k:Nat} (hk:k < l.length) {out:List (Int × Int)} (h:RawSt l k out):RawSt l (k+1) (rawStep out l[k]):=by
 have hst:=rawStep_set h.1 (hok _ (List.getElem_mem hk)) (fun s hs=>h.2 s hs k hk (Nat.le_refl _))
 refine ⟨by rw [take_snoc' l k hk];exact hst.1,fun s hsm j hj hkj=>?_⟩
 have h1:=hst.2 s hsm
 have h2:=List.pairwise_iff_getElem.1 hs k j hk hj (by omega)
 omega
set_option maxRecDepth 100000 in
set_option maxHeartbeats 2000000 in
theorem raw72 (HSORT:Hid SortC) (l:List (Int × Int)) (A:Option Addr) (n c:Nat) (w:World) (hn:n≤500000) (hok:∀ r ∈ l,okR r=true) (ha:Rds w w.heap.size 2 A n (rngs l)) :
  Calls Tryz.prog 67 #[.slice A n c] w fun e w'=>∃ out,IsSet out (mem l)∧out.length≤n∧OwnRngs w out e w':=by
 have HA:=Lib.hid ha.rngs_len
 have HOK:=Lib.hid hok
 clear hok
 go_enter Tryz.func67,Tryz.ntmps67
 go_wp2_with fail
 refine (clone117 l A n c _ (by omega) ha).mono ?_
 rintro e w1 ⟨A1,n1,c1,rfl,hown,hb1⟩
 have hn1:n1=n:=by rw [own_rngs_len hown,HA.out]
 subst hn1
 obtain ⟨_,_,hv1,q1,q2⟩:=own_slice hown
 injection hv1 with e1 e2 e3
 subst e1 e3
 clear e2
 go_wp2_with fail
 refine (HSORT.out l A1 n1 c1 w.heap.size w1 (by omega) HOK.out hown).mono ?_
 rintro e w2 ⟨rfl,l',hperm,hsorted,hr,hb2⟩
 have HP:=Lib.hid hperm
 have HS:=Lib.hid hsorted
 have HL':=Lib.hid hr.rngs_len
 have HOK':=Lib.hid (show ∀ r ∈ l',okR r=true from fun r hr=>HOK.out r (hperm.mem_iff.1 hr))
 have hz1:=hb1.size
 have hz2:=hb2.size
 clear hperm hsorted hown
 unfold maxLen at q2
 go_wp2_with fail
 go_loopw [3,13] (fun v i wr=>∃ (k t:Nat) (out:List (Int × Int)),k≤n1∧i=.int .i64 k∧t≤k∧RawSt l' k out∧wr.ownsRow w2.heap.size 67 2 v t (rngs out)∧Below w2.heap.size w2 wr) (fun _ i _=>n1 - (intOf i).toNat)
 case atStart=>exact ⟨0,0,[],Nat.zero_le _,rfl,Nat.le_refl _,RawSt.start l',World.ownsRow_nil _ _ _ _,Below.refl _ _⟩
 case round =>
  obtain ⟨k,t,out,hk,rfl,ht,hst,hout,hB⟩:=hrel
  obtain ⟨Ao,co,rfl,hoc,hco⟩:=own_slice hout
  unfold maxLen at hco
  have hsz:=hB.size
  have HST:=Lib.hid hst
  clear hst
  by_cases hlt:k < n1
  ·obtain ⟨bl,ol,hl1,hA,hbl,hc1,hd1⟩:=(hr.below hB (Nat.le_refl _)).rng_at hlt
   subst hA
   have hr':=(okR_iff _).1 (HOK'.out _ (List.getElem_mem hl1))
   have HNX:=Lib.hid (HST.out.step HS.out HOK'.out hl1)
   obtain ⟨p,hp⟩:∃ p,p=l'[k]:=⟨_,rfl⟩
   rw [← hp] at hc1 hd1 hr' HNX
   clear hp
   obtain ⟨x,y⟩:=p
   simp only at hc1 hd1 hr'
   obtain ⟨r0,r1,r2⟩:=hr'
   have HNB:=Lib.hid (show (some wr.heap.size:Option Nat)≠(Value.slice Ao t co).ownBlock from fun e=>by have:=hout.lt _ e.symm;omega)
   have R0:=Rds.new (wr.alloc (.cells #[.int .i64 x,.int .i64 y] 67)) 2 1 #[.int .i64 x,.int .i64 y] 67 (rngs [(x,y)]) rfl rfl
   rw [show (wr.alloc (.cells #[.int .i64 x,.int .i64 y] 67)).heap.size=wr.heap.size+1 by simp] at R0
   have R:=Lib.hid R0
   clear R0
   rcases snoc_cases out with rfl|⟨o,s,rfl⟩
   ·obtain rfl:t=0:=own_rngs_len hout
    go_wp2_with fail
    go_quiet (fail)
    go_wp2_with (at_builtin;refine app_rngs (.tmp 47) (.tmp 49) (base:=w2.heap.size) (xs:=[]) (n:=0) (by exact (hout.alloc _).alloc _) R.out (by omega) (by simp;omega) rfl rfl rfl rfl ?_;intro v3 w3 hown3 hg3 hat3)
    go_roundw
    case rel=>exact ⟨k+1,1,[(x,y)],by omega,by go_num,by omega,HNX.out,hown3,(((below_drewN (hB.alloc hsz _) _).alloc (by simp;omega) _).grown hg3 (by simp;omega) (fun g hg=>(hout.lt g hg).1))⟩
    case measure=>simp [intOf];omega
   ·obtain ⟨gl,hAo,hgl,hgl2,htl,htc,hca,hcb,hfz,hst⟩:=own_last hout
    obtain ⟨gz,hgz,-,-,-,-,-,-,-,hst2⟩:=own_last (hout.alloc (.cells #[.int .i64 x,.int .i64 y] 67))
    obtain ⟨u,hu⟩:∃ u,u=o.length:=⟨_,rfl⟩
    rw [← hu] at hca hcb hfz hst2 htl
    have HU:=Lib.hid hu
    clear hu
    obtain rfl:t=u+1:=htl
    obtain ⟨sa,sb⟩:=s
    simp only at hca hcb hst2
    have hsb:=(okR_iff _).1 (HST.out.1.1.1 (sa,sb) (by simp))
    simp only at hsb
    obtain ⟨s0,s1,s2⟩:=hsb
    subst hAo
    obtain rfl:gl=gz:=by injection hgz with hgz;injection hgz
    have HSTO:=Lib.hid hst2
    clear hst hst2 hca hgz
    have u1:(0:Int)≤(u:Int):=by omega
    have u2:(0:Int) < (u:Int)+1:=by omega
    have W1:=Lib.hid (show IntKind.i64.wrap ((u:Int)+1 - 1)=(u:Int) by rw [IntWalk.i64_in _ (by omega)];omega)
    have W2:=Lib.hid (show IntKind.i64.wrap (sb+1)=sb+1 from IntWalk.i64_in _ (by omega))
    have u3:(u:Int) < (u:Int)+1:=by omega
    have hcb':(wr.alloc (.cells #[.int .i64 x,.int .i64 y] 67)).cell? ⟨gl,u * 2+1,none⟩=some (.int .i64 sb):=by rw [World.cell?_alloc_lt _ _ ⟨gl,u * 2+1,none⟩ hgl2];exact hcb
    have hfz':(wr.alloc (.cells #[.int .i64 x,.int .i64 y] 67)).frozen? ⟨gl,u * 2+1,none⟩=false:=by rw [World.frozen?_of_block (w:=wr) (a:=⟨gl,u * 2+1,none⟩) (Below.heap_alloc wr _ gl hgl2)];exact hfz
    by_cases hj:x≤sb+1
    ·by_cases hm:sb < y
     ·have HMX:=Lib.hid (show max sb y=y by omega)
      go_wp2_with fail
      have z1:=W1.out
      have z2:=W2.out
      go_quiet (fail)
      go_wp2_with fail
      have w9:IntKind.i64.wrap (u:Int)=(u:Int):=IntWalk.i64_in _ (by clear z1 z2;omega)
      go_region
      clear z1 z2 w9
      go_wp2
      go_roundw
      case rel=>exact ⟨k+1,u+1,o ++ [(sa,y)],by omega,by go_num,by omega,(by have:=HNX.out;rw [rawStep_snoc,if_pos hj] at this;rw [← HMX.out];exact this),HSTO.out y,(below_drewN (hB.alloc hsz _) _).setCell hgl _⟩
      case measure=>simp [intOf];omega
     ·have HMX:=Lib.hid (show max sb y=sb by omega)
      go_wp2_with fail
      have z1:=W1.out
      have z2:=W2.out
      go_quiet (fail)
      go_wp2_with fail
      have w9:IntKind.i64.wrap (u:Int)=(u:Int):=IntWalk.i64_in _ (by clear z1 z2;omega)
      go_region
      clear z1 z2 w9
      go_wp2
      go_roundw
      case rel=>exact ⟨k+1,u+1,o ++ [(sa,sb)],by omega,by go_num,by omega,(by have:=HNX.out;rw [rawStep_snoc,if_pos hj] at this;rw [← HMX.out];exact this),HSTO.out sb,(below_drewN (hB.alloc hsz _) _).setCell hgl _⟩
      case measure=>simp [intOf];omega
    ·go_wp2_with fail
     have z1:=W1.out
     have z2:=W2.out
     go_quiet (fail)
     clear z1 z2
     go_wp2_with (at_builtin;refine app_rngs (.tmp 47) (.tmp 49) (base:=w2.heap.size) (xs:=o ++ [(sa,sb)]) (n:=u+1) (by exact (hout.alloc _).alloc _) R.out (by omega) (by simp;omega) rfl rfl rfl rfl ?_;intro v3 w3 hown3 hg3 hat3)
     go_roundw
     case rel=>exact ⟨k+1,u+1+1,o ++ [(sa,sb)] ++ [(x,y)],by omega,by go_num,by omega,(by have:=HNX.out;rw [rawStep_snoc,if_neg (by omega)] at this;exact this),hown3,(((below_drewN (hB.alloc hsz _) _).alloc (by simp;omega) _).grown hg3 (by simp;omega) (fun g hg=>(hout.lt g hg).1))⟩
     case measure=>simp [intOf];omega
  ·obtain rfl:k=n1:=by omega
   have HT:=Lib.hid (show l'.take k=l' from List.take_of_length_le (by rw [HL'.out];exact Nat.le_refl _))
   go_wp2
   go_ret
   refine ⟨out,⟨HST.out.1.1,fun p=>?_⟩,by rw [← own_rngs_len hout];omega,ownRngs_of rfl (own_mono hout (by omega)) ((hb1.trans hb2).trans (hB.mono (by omega)))⟩
   rw [HST.out.1.2 p,HT.out]
   exact mem_perm HP.out p
end Go.Proofs.YtbiahhojnjchnaaGreat
