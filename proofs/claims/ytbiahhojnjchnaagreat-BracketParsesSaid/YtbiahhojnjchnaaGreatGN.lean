/-
  join of the program: walked (the code of Raw, behind Concat). class of the program at each of its names: walked. class of the program at what is no name; Class, IsClass, foldBegun: walked.
-/
import Derived.Test.YtbiahhojnjchnaaGreatHF
import Derived.Test.YtbiahhojnjchnaaGreatGI
import Derived.Test.YtbiahhojnjchnaaGreatGO
set_option linter.unusedVariables false
set_option linter.unusedSimpArgs false
namespace Go.Proofs.YtbiahhojnjchnaaGreat
open Go.RowKit Go.Sort Go.Shelf Go.Lib
def SortC2:Prop:=∀ (l:List (Int × Int)) (A:Option Addr) (n c base:Nat) (w:World),n≤1000000→(∀ r ∈ l,okR r=true)→w.ownsRow base 67 2 (.slice A n c) n (rngs l) →
 Calls Tryz.prog 104 #[.slice A n c,.func (.func 220) #[] #[]] w fun e w'=>e=.returned (.tuple #[])∧∃ l',l'.Perm l∧l'.Pairwise (fun r s=>r.1≤s.1)∧Rds w' w'.heap.size 2 A n (rngs l')∧Below base w w'
open Go.Sort in
set_option maxHeartbeats 1000000 in
theorem cmp156 (x y u v:Int) (w:World) (hx:0≤x∧x≤1114111) (hu:0≤u∧u≤1114111) :
  Calls Tryz.prog 220 #[.agg #[.int .i64 x,.int .i64 y],.agg #[.int .i64 u,.int .i64 v]] w fun e w'=>e=.returned (.int .i64 (x - u))∧∃ q os',w'=grow (w.drewN q) os':=by
 obtain ⟨x0,x1⟩:=hx
 obtain ⟨u0,u1⟩:=hu
 go_enter Tryz.func220,Tryz.ntmps220
 go_wp2
 go_ret
 exact ⟨rfl,0,_,by rw [alloc_eq_grow,alloc_eq_grow,grow_grow];rfl⟩
theorem cmpLays156 (blk off size:Nat) (w:World):CmpLays Tryz.prog 220 #[] encRR 2 cfRR blk off size w:=fun _ _ _ _ x y=>by
 have hx:=(okR_iff _).1 x.2
 have hy:=(okR_iff _).1 y.2
 exact cmp156 x.1.1 x.1.2 y.1.1 y.1.2 _ (by omega) (by omega)
theorem sortC2:SortC2:=by
 intro l A n c base w hn hok hown
 have hl:=own_rngs_len hown
 rcases Nat.eq_zero_or_pos n with h0|h0
 ·subst h0
  have hl0:l=[]:=List.eq_nil_of_length_eq_zero hl.symm
  subst hl0
  exact (AnyF.slices_SortFunc_none Tryz.sortRng A c (.func (.func 220) #[] #[]) w).mono fun e w' ⟨he,hw⟩=>⟨he,[],.refl _,.nil,Rds.nil_ _ _ _ _,by rw [hw];exact Below.refl _ _⟩
 ·obtain ⟨g,cap,hv,hg,hlt⟩:=hown.form h0
  have hA:A=some ⟨g,0,none⟩:=by injection hv
  subst hA
  obtain ⟨d,hd⟩:∃ d:Array RR,d=(l.map toRR).toArray:=⟨_,rfl⟩
  have hds:d.size=n:=by rw [hd];simp [hl]
  have hdv:∀ i (hi:i < d.size) (hi':i < l.length),(d[i]).1=l[i]:=fun i hi hi'=>by
   subst hd
   simp only [List.getElem_toArray,List.getElem_map]
   exact toRR_val (hok _ (List.getElem_mem hi'))
  have hfz:∀ o,w.frozen? ⟨g,o,none⟩=false:=fun o=>by
   rcases hown.2 with ⟨h,_⟩|⟨g',cap',cur,hv',_,hh,_⟩
   ·cases h
   ·have:g=g':=by injection hv' with h1;injection h1 with h1;injection h1
    subst this
    simp [World.frozen?,hh]
  have hcell:=Rds.of_own hown
  obtain ⟨b',o',e1,_,hc⟩:=hcell.2 h0
  obtain ⟨rfl,rfl⟩:g=b'∧0=o':=by injection e1 with e1;injection e1 with e1 e2;exact ⟨e1,e2⟩
  have hH:HoldsK encRR 2 w g 0 d:=by
   intro j hj
   have hj2:j < d.size * 2:=by rw [(flat_get d 0 (by omega)).1] at hj;exact hj
   refine ⟨?_,hfz _⟩
   have q:=rngs_flat l j (by omega)
   have f:=(flat_get d j hj2).2
   rw [hc j _ q,f]
   rw [hdv _ _ (by omega)]
   rfl
  have hs:=AnyQ.slices_SortFunc Tryz.sortRng 2 isAgg44 sizeOf44 encRR (fun _=>rfl) (fun x v hv=>by simp [encRR] at hv;rcases hv with rfl|rfl<;>rfl) cfRR swoRR 220 #[] g 0 c d w (enters_of Tryz.func220 (by kernel_rfl) rfl) (cmpLays156 g 0 d.size w) hH hlt (by omega)
  rw [hds] at hs
  refine Calls.mono hs ?_
  rintro e w' ⟨he,d',q,os,hp,hso,rfl⟩
  obtain ⟨hsz,_,hperm⟩:=hp
  have hbase:base≤w.heap.size:=by omega
  refine ⟨he,d'.toList.map (·.1),?_,?_,?_,?_⟩
  ·have e1:(d'.extract 0 n).toList=d'.toList:=by rw [show n=d'.size by omega];simp
   have e2:(d.extract 0 n).toList=d.toList:=by rw [show n=d.size by omega];simp
   rw [e1,e2] at hperm
   have hl2:d.toList.map (·.1)=l:=by
    refine List.ext_getElem (by simp [hds,hl]) fun i h1 h2=>?_
    rw [List.getElem_map]
    exact hdv i (by simpa using h1) h2
   rw [← hl2]
   exact hperm.map _
  ·rw [List.pairwise_map,List.pairwise_iff_getElem]
   intro i j hi hj hij
   have:=hso i j (Nat.zero_le _) hij (by simp at hj;omega)
   rw [getElem!_pos d' i (by simpa using hi),getElem!_pos d' j (by simpa using hj),ltRR] at this
   have:=of_decide_eq_false this
   simp only [Array.getElem_toList]
   omega
  ·have hH2:HoldsK encRR 2 (sortWorldK encRR 2 w g 0 q d' os) g 0 d':=by
    have k1:HoldsK encRR 2 (putRowK encRR 2 (Sort.ahead w q) g 0 d') g 0 d':=holdsK_putRowK (enc:=encRR) (k:=2) (Sort.ahead w q) g 0 d d' hH (by omega)
    exact holds_grow id _ os g 0 _ (by rw [size_putRowK];exact hlt) k1
   refine ⟨by rw [rngs_length,List.length_map,Array.length_toList];omega,fun _=>⟨g,0,rfl,?_,fun j u hu=>?_⟩⟩
   ·show g < (grow _ os).heap.size
    have:g < (putRowK encRR 2 (Sort.ahead w q) g 0 d').heap.size:=by rw [size_putRowK];exact hlt
    simp only [grow,Array.size_append];omega
   ·have hj:j < d'.size * 2:=by
     rcases Nat.lt_or_ge j (d'.size * 2) with h|h
     ·exact h
     ·rw [List.getElem?_eq_none (by rw [rngs_length,List.length_map,Array.length_toList];exact h)] at hu;cases hu
    have f:=flat_get d' j hj
    have c:=(hH2 j (by rw [f.1];exact hj)).1
    rw [f.2] at c
    rw [rngs_flat _ j (by rw [List.length_map,Array.length_toList];exact hj)] at hu
    injection hu with hu
    rw [c,← hu]
    simp only [List.getElem_map,Array.getElem_toList]
    rfl
  ·exact below_grow (below_putRow (Below.refl base w) hg) hbase os
end Go.Proofs.YtbiahhojnjchnaaGreat
namespace Go.Proofs.YtbiahhojnjchnaaGreat
open Go.RowKit
set_option maxRecDepth 100000 in
set_option maxHeartbeats 2000000 in
theorem join134 (HSORT:Hid SortC2) (ls:List (List (Int × Int))) (vs:List Value) (A0:Option Addr) (n0 c0:Nat) (w:World) (hn0:n0≤1000) (hv:Rds w w.heap.size 1 A0 n0 vs) (hs:Sls w w.heap.size vs ls) (ht:total ls≤100000) (hok:∀ r ∈ ls.flatten,okR r=true) :
  Calls Tryz.prog 198 #[.slice A0 n0 c0] w fun e w'=>∃ out,IsSet out (mem ls.flatten)∧out.length≤total ls∧OwnRngs w out e w':=by
 have C0:=Lib.hid (concat86 ls vs A0 n0 c0 w (by omega) hv hs (by omega))
 have HOK:=Lib.hid hok
 have hn:=ht
 obtain ⟨l,hl⟩:∃ l,l=ls.flatten:=⟨_,rfl⟩
 rw [← hl] at C0 HOK
 have HA:=Lib.hid (show l.length=total ls by rw [hl];rfl)
 rw [← hl]
 obtain ⟨n,hnn⟩:∃ n,n=total ls:=⟨_,rfl⟩
 rw [← hnn] at hn HA ⊢
 clear hok hl hnn ht
 go_enter Tryz.func198,Tryz.ntmps198
 go_wp2_with fail
 refine C0.out.mono ?_
 rintro e w1 ⟨A1,n1,c1,rfl,hown,hb1⟩
 have hn1:n1=n:=by rw [own_rngs_len hown,HA.out]
 subst hn1
 obtain ⟨_,_,hv1,q1,q2⟩:=own_slice hown
 injection hv1 with e1 e2 e3
 subst e1 e3
 clear e2 hv hs
 go_wp2_with fail
 refine (HSORT.out l A1 n1 c1 w.heap.size w1 (by omega) HOK.out hown).mono ?_
 rintro e w2 ⟨rfl,l',hperm,hsorted,hr,hb2⟩
 have HP:=Lib.hid hperm
 have HS:=Lib.hid hsorted
 have HL':=Lib.hid hr.rngs_len
 have HOK':=Lib.hid (show ∀ r ∈ l',okR r=true from fun r hr=>HOK.out r (hperm.mem_iff.1 hr))
 have hz1:=hb1.size
 have hz2:=hb2.size
 clear hperm hsorted hown
 unfold maxLen at q2
 go_wp2_with fail
 go_loopw [4,14] (fun v i wr=>∃ (k t:Nat) (out:List (Int × Int)),k≤n1∧i=.int .i64 k∧t≤k∧RawSt l' k out∧wr.ownsRow w2.heap.size 67 2 v t (rngs out)∧Below w2.heap.size w2 wr) (fun _ i _=>n1 - (intOf i).toNat)
 case atStart=>exact ⟨0,0,[],Nat.zero_le _,rfl,Nat.le_refl _,RawSt.start l',World.ownsRow_nil _ _ _ _,Below.refl _ _⟩
 case round =>
  obtain ⟨k,t,out,hk,rfl,ht,hst,hout,hB⟩:=hrel
  obtain ⟨Ao,co,rfl,hoc,hco⟩:=own_slice hout
  unfold maxLen at hco
  have hsz:=hB.size
  have HST:=Lib.hid hst
  clear hst
  by_cases hlt:k < n1
  ·obtain ⟨bl,ol,hl1,hA,hbl,hc1,hd1⟩:=(hr.below hB (Nat.le_refl _)).rng_at hlt
   subst hA
   have hr':=(okR_iff _).1 (HOK'.out _ (List.getElem_mem hl1))
   have HNX:=Lib.hid (HST.out.step HS.out HOK'.out hl1)
   obtain ⟨p,hp⟩:∃ p,p=l'[k]:=⟨_,rfl⟩
   rw [← hp] at hc1 hd1 hr' HNX
   clear hp
   obtain ⟨x,y⟩:=p
   simp only at hc1 hd1 hr'
   obtain ⟨r0,r1,r2⟩:=hr'
   have HNB:=Lib.hid (show (some wr.heap.size:Option Nat)≠(Value.slice Ao t co).ownBlock from fun e=>by have:=hout.lt _ e.symm;omega)
   have R0:=Rds.new (wr.alloc (.cells #[.int .i64 x,.int .i64 y] 67)) 2 1 #[.int .i64 x,.int .i64 y] 67 (rngs [(x,y)]) rfl rfl
   rw [show (wr.alloc (.cells #[.int .i64 x,.int .i64 y] 67)).heap.size=wr.heap.size+1 by simp] at R0
   have R:=Lib.hid R0
   clear R0
   rcases snoc_cases out with rfl|⟨o,s,rfl⟩
   ·obtain rfl:t=0:=own_rngs_len hout
    go_wp2_with fail
    go_quiet (fail)
    go_wp2_with (at_builtin;refine app_rngs (.tmp 48) (.tmp 50) (base:=w2.heap.size) (xs:=[]) (n:=0) (by exact (hout.alloc _).alloc _) R.out (by omega) (by simp;omega) rfl rfl rfl rfl ?_;intro v3 w3 hown3 hg3 hat3)
    go_roundw
    case rel=>exact ⟨k+1,1,[(x,y)],by omega,by go_num,by omega,HNX.out,hown3,(((below_drewN (hB.alloc hsz _) _).alloc (by simp;omega) _).grown hg3 (by simp;omega) (fun g hg=>(hout.lt g hg).1))⟩
    case measure=>simp [intOf];omega
   ·obtain ⟨gl,hAo,hgl,hgl2,htl,htc,hca,hcb,hfz,hst⟩:=own_last hout
    obtain ⟨gz,hgz,-,-,-,-,-,-,-,hst2⟩:=own_last (hout.alloc (.cells #[.int .i64 x,.int .i64 y] 67))
    obtain ⟨u,hu⟩:∃ u,u=o.length:=⟨_,rfl⟩
    rw [← hu] at hca hcb hfz hst2 htl
    have HU:=Lib.hid hu
    clear hu
    obtain rfl:t=u+1:=htl
    obtain ⟨sa,sb⟩:=s
    simp only at hca hcb hst2
    have hsb:=(okR_iff _).1 (HST.out.1.1.1 (sa,sb) (by simp))
    simp only at hsb
    obtain ⟨s0,s1,s2⟩:=hsb
    subst hAo
    obtain rfl:gl=gz:=by injection hgz with hgz;injection hgz
    have HSTO:=Lib.hid hst2
    clear hst hst2 hca hgz
    have u1:(0:Int)≤(u:Int):=by omega
    have u2:(0:Int) < (u:Int)+1:=by omega
    have W1:=Lib.hid (show IntKind.i64.wrap ((u:Int)+1 - 1)=(u:Int) by rw [IntWalk.i64_in _ (by omega)];omega)
    have W2:=Lib.hid (show IntKind.i64.wrap (sb+1)=sb+1 from IntWalk.i64_in _ (by omega))
    have u3:(u:Int) < (u:Int)+1:=by omega
    have hcb':(wr.alloc (.cells #[.int .i64 x,.int .i64 y] 67)).cell? ⟨gl,u * 2+1,none⟩=some (.int .i64 sb):=by rw [World.cell?_alloc_lt _ _ ⟨gl,u * 2+1,none⟩ hgl2];exact hcb
    have hfz':(wr.alloc (.cells #[.int .i64 x,.int .i64 y] 67)).frozen? ⟨gl,u * 2+1,none⟩=false:=by rw [World.frozen?_of_block (w:=wr) (a:=⟨gl,u * 2+1,none⟩) (Below.heap_alloc wr _ gl hgl2)];exact hfz
    by_cases hj:x≤sb+1
    ·by_cases hm:sb < y
     ·have HMX:=Lib.hid (show max sb y=y by omega)
      go_wp2_with fail
      have z1:=W1.out
      have z2:=W2.out
      go_quiet (fail)
      go_wp2_with fail
      have w9:IntKind.i64.wrap (u:Int)=(u:Int):=IntWalk.i64_in _ (by clear z1 z2;omega)
      go_region
      clear z1 z2 w9
      go_wp2
      go_roundw
      case rel=>exact ⟨k+1,u+1,o ++ [(sa,y)],by omega,by go_num,by omega,(by have:=HNX.out;rw [rawStep_snoc,if_pos hj] at this;rw [← HMX.out];exact this),(by rw [HMX.out];exact HSTO.out y),(below_drewN (hB.alloc hsz _) _).setCell hgl _⟩
      case measure=>simp [intOf];omega
     ·have HMX:=Lib.hid (show max sb y=sb by omega)
      go_wp2_with fail
      have z1:=W1.out
      have z2:=W2.out
      go_quiet (fail)
      go_wp2_with fail
      have w9:IntKind.i64.wrap (u:Int)=(u:Int):=IntWalk.i64_in _ (by clear z1 z2;omega)
      go_region
      clear z1 z2 w9
      go_wp2
      go_roundw
      case rel=>exact ⟨k+1,u+1,o ++ [(sa,sb)],by omega,by go_num,by omega,(by have:=HNX.out;rw [rawStep_snoc,if_pos hj] at this;rw [← HMX.out];exact this),(by rw [HMX.out];exact HSTO.out sb),(below_drewN (hB.alloc hsz _) _).setCell hgl _⟩
      case measure=>simp [intOf];omega
    ·go_wp2_with fail
     have z1:=W1.out
     have z2:=W2.out
     go_quiet (fail)
     clear z1 z2
     go_wp2_with (at_builtin;refine app_rngs (.tmp 48) (.tmp 50) (base:=w2.heap.size) (xs:=o ++ [(sa,sb)]) (n:=u+1) (by exact (hout.alloc _).alloc _) R.out (by omega) (by simp;omega) rfl rfl rfl rfl ?_;intro v3 w3 hown3 hg3 hat3)
     go_roundw
     case rel=>exact ⟨k+1,u+1+1,o ++ [(sa,sb)] ++ [(x,y)],by omega,by go_num,by omega,(by have:=HNX.out;rw [rawStep_snoc,if_neg (by omega)] at this;exact this),hown3,(((below_drewN (hB.alloc hsz _) _).alloc (by simp;omega) _).grown hg3 (by simp;omega) (fun g hg=>(hout.lt g hg).1))⟩
     case measure=>simp [intOf];omega
  ·obtain rfl:k=n1:=by omega
   have HT:=Lib.hid (show l'.take k=l' from List.take_of_length_le (by rw [HL'.out];exact Nat.le_refl _))
   go_wp2
   go_ret
   refine ⟨out,⟨HST.out.1.1,fun p=>?_⟩,by rw [← own_rngs_len hout];omega,ownRngs_of rfl (own_mono hout (by omega)) ((hb1.trans hb2).trans (hB.mono (by omega)))⟩
   rw [HST.out.1.2 p,HT.out]
   exact mem_perm HP.out p
end Go.Proofs.YtbiahhojnjchnaaGreat
namespace Go.Proofs.YtbiahhojnjchnaaGreat
open Go.RowKit
theorem can_of {l:List (Int × Int)} (h:(l.all okR && gapB l)=true):Can l:=by
 rw [Bool.and_eq_true,List.all_eq_true] at h
 exact ⟨h.1,gap_pairwise l h.1 h.2⟩
/-- a class handed back -/
def ClsOut (w:World) (l:List (Int × Int)) (e:Ending) (w':World):Prop :=
 ∃ out A n c,e=.returned (.tuple #[.slice A n c,.bool true])∧IsSet out (mem l)∧out.length≤200∧w'.ownsRow w.heap.size 67 2 (.slice A n c) n (rngs out)∧Below w.heap.size w w'
def SetOut (w:World) (l:List (Int × Int)) (e:Ending) (w':World):Prop :=
 ∃ out A n c,e=.returned (.slice A n c)∧IsSet out (mem l)∧out.length≤200∧w'.ownsRow w.heap.size 67 2 (.slice A n c) n (rngs out)∧Below w.heap.size w w'
theorem okR_all2 {a b:List (Int × Int)} (ha:a.all okR=true) (hb:b.all okR=true):∀ r ∈ [a,b].flatten,okR r=true:=fun r hr=>by
 rcases List.mem_append.1 (by simpa using hr:r ∈ a ++ b) with h|h
 ·exact List.all_eq_true.1 ha r h
 ·exact List.all_eq_true.1 hb r h
/-- join of two sets that read -/
theorem join_two (a b:List (Int × Int)) (A B:Option Addr) (n c m d:Nat) (w:World) (hnc:n≤c) (hc:c≤maxLen) (hmd:m≤d) (hd:d≤maxLen) (hl:a.length+b.length≤200) (hoa:a.all okR=true) (hob:b.all okR=true)
  (ha:Rds w w.heap.size 2 A n (rngs a)) (hb:Rds w w.heap.size 2 B m (rngs b)) :
  Calls Tryz.prog 198 #[.slice (some ⟨w.heap.size,0,none⟩) 2 2] (w.alloc (.cells #[.slice A n c,.slice B m d] 23)) (SetOut w (a ++ b)):=by
 have hb0:Below w.heap.size w (w.alloc (.cells #[.slice A n c,.slice B m d] 23)):=by go_grown
 refine (join134 (Lib.hid sortC2) [a,b] [.slice A n c,.slice B m d] _ 2 2 _ (by decide) ((Rds.new w 1 2 #[.slice A n c,.slice B m d] 23 [.slice A n c,.slice B m d] rfl rfl).more (by simp)) ((sls_two hnc hc ha hmd hd hb).below hb0 (Nat.le_refl _) |>.more (by simp)) (by simp [total];omega) (okR_all2 hoa hob)).mono ?_
 rintro e w1 ⟨out,hs,hlen,A1,n1,c1,rfl,hown,hb1⟩
 exact ⟨out,A1,n1,c1,rfl,by simpa using hs,by simp [total] at hlen;omega,own_mono hown (by simp),hb0.trans (hb1.mono (by simp))⟩
def l_any:List (Int × Int):=[(0,1114111)]
set_option maxRecDepth 100000 in
set_option maxHeartbeats 2000000 in
theorem class_any (w:World):Calls Tryz.prog 168 #[.string ⟨#[97,110,121]⟩] w (ClsOut w l_any):=by
 have hb0:Below w.heap.size w (w.alloc (.cells #[.int .i64 0,.int .i64 1114111] 3)):=by go_grown
 have C:=Lib.hid (span133 [(0,1114111)] _ 2 2 (w.alloc (.cells #[.int .i64 0,.int .i64 1114111] 3)) (by decide) ((Rds.new w 1 2 #[.int .i64 0,.int .i64 1114111] 3 (rngs [(0,1114111)]) rfl rfl).more (by simp)))
 go_enter Tryz.func168,Tryz.ntmps168
 go_wp2_with fail
 refine C.out.mono ?_
 rintro e w1 ⟨A,n,c,rfl,hown,hb⟩
 go_wp2
 go_ret2
 exact ⟨_,A,n,c,rfl,⟨can_of (by decide),fun p=>Iff.rfl⟩,by decide,own_mono hown (by simp),hb0.trans (hb.mono (by simp))⟩
def l_ascii:List (Int × Int):=[(0,127)]
set_option maxRecDepth 100000 in
set_option maxHeartbeats 2000000 in
theorem class_ascii (w:World):Calls Tryz.prog 168 #[.string ⟨#[97,115,99,105,105]⟩] w (ClsOut w l_ascii):=by
 have hb0:Below w.heap.size w (w.alloc (.cells #[.int .i64 0,.int .i64 127] 3)):=by go_grown
 have C:=Lib.hid (span133 [(0,127)] _ 2 2 (w.alloc (.cells #[.int .i64 0,.int .i64 127] 3)) (by decide) ((Rds.new w 1 2 #[.int .i64 0,.int .i64 127] 3 (rngs [(0,127)]) rfl rfl).more (by simp)))
 go_enter Tryz.func168,Tryz.ntmps168
 go_wp2_with fail
 refine C.out.mono ?_
 rintro e w1 ⟨A,n,c,rfl,hown,hb⟩
 go_wp2
 go_ret2
 exact ⟨_,A,n,c,rfl,⟨can_of (by decide),fun p=>Iff.rfl⟩,by decide,own_mono hown (by simp),hb0.trans (hb.mono (by simp))⟩
def l_cntrl:List (Int × Int):=[(0,31),(127,159)]
set_option maxRecDepth 100000 in
set_option maxHeartbeats 2000000 in
theorem class_cntrl (w:World):Calls Tryz.prog 168 #[.string ⟨#[99,110,116,114,108]⟩] w (ClsOut w l_cntrl):=by
 have hb0:Below w.heap.size w (w.alloc (.cells #[.int .i64 0,.int .i64 31,.int .i64 127,.int .i64 159] 3)):=by go_grown
 have C:=Lib.hid (span133 [(0,31),(127,159)] _ 4 4 (w.alloc (.cells #[.int .i64 0,.int .i64 31,.int .i64 127,.int .i64 159] 3)) (by decide) ((Rds.new w 1 4 #[.int .i64 0,.int .i64 31,.int .i64 127,.int .i64 159] 3 (rngs [(0,31),(127,159)]) rfl rfl).more (by simp)))
 go_enter Tryz.func168,Tryz.ntmps168
 go_wp2_with fail
 refine C.out.mono ?_
 rintro e w1 ⟨A,n,c,rfl,hown,hb⟩
 go_wp2
 go_ret2
 exact ⟨_,A,n,c,rfl,⟨can_of (by decide),fun p=>Iff.rfl⟩,by decide,own_mono hown (by simp),hb0.trans (hb.mono (by simp))⟩
def l_digit:List (Int × Int):=[(48,57),(1632,1641)]
set_option maxRecDepth 100000 in
set_option maxHeartbeats 2000000 in
theorem class_digit (w:World):Calls Tryz.prog 168 #[.string ⟨#[100,105,103,105,116]⟩] w (ClsOut w l_digit):=by
 have hb0:Below w.heap.size w (w.alloc (.cells #[.int .i64 48,.int .i64 57,.int .i64 1632,.int .i64 1641] 3)):=by go_grown
 have C:=Lib.hid (span133 [(48,57),(1632,1641)] _ 4 4 (w.alloc (.cells #[.int .i64 48,.int .i64 57,.int .i64 1632,.int .i64 1641] 3)) (by decide) ((Rds.new w 1 4 #[.int .i64 48,.int .i64 57,.int .i64 1632,.int .i64 1641] 3 (rngs [(48,57),(1632,1641)]) rfl rfl).more (by simp)))
 go_enter Tryz.func168,Tryz.ntmps168
 go_wp2_with fail
 refine C.out.mono ?_
 rintro e w1 ⟨A,n,c,rfl,hown,hb⟩
 go_wp2
 go_ret2
 exact ⟨_,A,n,c,rfl,⟨can_of (by decide),fun p=>Iff.rfl⟩,by decide,own_mono hown (by simp),hb0.trans (hb.mono (by simp))⟩
def l_xdigit:List (Int × Int):=[(48,57),(65,70),(97,102)]
set_option maxRecDepth 100000 in
set_option maxHeartbeats 2000000 in
theorem class_xdigit (w:World):Calls Tryz.prog 168 #[.string ⟨#[120,100,105,103,105,116]⟩] w (ClsOut w l_xdigit):=by
 have hb0:Below w.heap.size w (w.alloc (.cells #[.int .i64 48,.int .i64 57,.int .i64 65,.int .i64 70,.int .i64 97,.int .i64 102] 3)):=by go_grown
 have C:=Lib.hid (span133 [(48,57),(65,70),(97,102)] _ 6 6 (w.alloc (.cells #[.int .i64 48,.int .i64 57,.int .i64 65,.int .i64 70,.int .i64 97,.int .i64 102] 3)) (by decide) ((Rds.new w 1 6 #[.int .i64 48,.int .i64 57,.int .i64 65,.int .i64 70,.int .i64 97,.int .i64 102] 3 (rngs [(48,57),(65,70),(97,102)]) rfl rfl).more (by simp)))
 go_enter Tryz.func168,Tryz.ntmps168
 go_wp2_with fail
 refine C.out.mono ?_
 rintro e w1 ⟨A,n,c,rfl,hown,hb⟩
 go_wp2
 go_ret2
 exact ⟨_,A,n,c,rfl,⟨can_of (by decide),fun p=>Iff.rfl⟩,by decide,own_mono hown (by simp),hb0.trans (hb.mono (by simp))⟩
def l_blank:List (Int × Int):=[(9,9),(32,32)]
set_option maxRecDepth 100000 in
set_option maxHeartbeats 2000000 in
theorem class_blank (w:World):Calls Tryz.prog 168 #[.string ⟨#[98,108,97,110,107]⟩] w (ClsOut w l_blank):=by
 have hb0:Below w.heap.size w (w.alloc (.cells #[.int .i64 9,.int .i64 9,.int .i64 32,.int .i64 32] 3)):=by go_grown
 have C:=Lib.hid (span133 [(9,9),(32,32)] _ 4 4 (w.alloc (.cells #[.int .i64 9,.int .i64 9,.int .i64 32,.int .i64 32] 3)) (by decide) ((Rds.new w 1 4 #[.int .i64 9,.int .i64 9,.int .i64 32,.int .i64 32] 3 (rngs [(9,9),(32,32)]) rfl rfl).more (by simp)))
 go_enter Tryz.func168,Tryz.ntmps168
 go_wp2_with fail
 refine C.out.mono ?_
 rintro e w1 ⟨A,n,c,rfl,hown,hb⟩
 go_wp2
 go_ret2
 exact ⟨_,A,n,c,rfl,⟨can_of (by decide),fun p=>Iff.rfl⟩,by decide,own_mono hown (by simp),hb0.trans (hb.mono (by simp))⟩
def l_space:List (Int × Int):=[(9,13),(32,32),(133,133),(160,160),(8192,8202),(8232,8233),(12288,12288)]
set_option maxRecDepth 100000 in
set_option maxHeartbeats 2000000 in
theorem class_space (w:World):Calls Tryz.prog 168 #[.string ⟨#[115,112,97,99,101]⟩] w (ClsOut w l_space):=by
 have hb0:Below w.heap.size w (w.alloc (.cells #[.int .i64 9,.int .i64 13,.int .i64 32,.int .i64 32,.int .i64 133,.int .i64 133,.int .i64 160,.int .i64 160,.int .i64 8192,.int .i64 8202,.int .i64 8232,.int .i64 8233,.int .i64 12288,.int .i64 12288] 3)):=by go_grown
 have C:=Lib.hid (span133 [(9,13),(32,32),(133,133),(160,160),(8192,8202),(8232,8233),(12288,12288)] _ 14 14 (w.alloc (.cells #[.int .i64 9,.int .i64 13,.int .i64 32,.int .i64 32,.int .i64 133,.int .i64 133,.int .i64 160,.int .i64 160,.int .i64 8192,.int .i64 8202,.int .i64 8232,.int .i64 8233,.int .i64 12288,.int .i64 12288] 3)) (by decide) ((Rds.new w 1 14 #[.int .i64 9,.int .i64 13,.int .i64 32,.int .i64 32,.int .i64 133,.int .i64 133,.int .i64 160,.int .i64 160,.int .i64 8192,.int .i64 8202,.int .i64 8232,.int .i64 8233,.int .i64 12288,.int .i64 12288] 3 (rngs [(9,13),(32,32),(133,133),(160,160),(8192,8202),(8232,8233),(12288,12288)]) rfl rfl).more (by simp)))
 go_enter Tryz.func168,Tryz.ntmps168
 go_wp2_with fail
 refine C.out.mono ?_
 rintro e w1 ⟨A,n,c,rfl,hown,hb⟩
 go_wp2
 go_ret2
 exact ⟨_,A,n,c,rfl,⟨can_of (by decide),fun p=>Iff.rfl⟩,by decide,own_mono hown (by simp),hb0.trans (hb.mono (by simp))⟩
def l_punct:List (Int × Int):=[(33,47),(58,64),(91,96),(123,126),(161,169),(171,180),(182,185),(187,191),(215,215),(247,247)]
set_option maxRecDepth 100000 in
set_option maxHeartbeats 2000000 in
theorem class_punct (w:World):Calls Tryz.prog 168 #[.string ⟨#[112,117,110,99,116]⟩] w (ClsOut w l_punct):=by
 have hb0:Below w.heap.size w (w.alloc (.cells #[.int .i64 33,.int .i64 47,.int .i64 58,.int .i64 64,.int .i64 91,.int .i64 96,.int .i64 123,.int .i64 126,.int .i64 161,.int .i64 169,.int .i64 171,.int .i64 180,.int .i64 182,.int .i64 185,.int .i64 187,.int .i64 191,.int .i64 215,.int .i64 215,.int .i64 247,.int .i64 247] 3)):=by go_grown
 have C:=Lib.hid (span133 [(33,47),(58,64),(91,96),(123,126),(161,169),(171,180),(182,185),(187,191),(215,215),(247,247)] _ 20 20 (w.alloc (.cells #[.int .i64 33,.int .i64 47,.int .i64 58,.int .i64 64,.int .i64 91,.int .i64 96,.int .i64 123,.int .i64 126,.int .i64 161,.int .i64 169,.int .i64 171,.int .i64 180,.int .i64 182,.int .i64 185,.int .i64 187,.int .i64 191,.int .i64 215,.int .i64 215,.int .i64 247,.int .i64 247] 3)) (by decide) ((Rds.new w 1 20 #[.int .i64 33,.int .i64 47,.int .i64 58,.int .i64 64,.int .i64 91,.int .i64 96,.int .i64 123,.int .i64 126,.int .i64 161,.int .i64 169,.int .i64 171,.int .i64 180,.int .i64 182,.int .i64 185,.int .i64 187,.int .i64 191,.int .i64 215,.int .i64 215,.int .i64 247,.int .i64 247] 3 (rngs [(33,47),(58,64),(91,96),(123,126),(161,169),(171,180),(182,185),(187,191),(215,215),(247,247)]) rfl rfl).more (by simp)))
 go_enter Tryz.func168,Tryz.ntmps168
 go_wp2_with fail
 refine C.out.mono ?_
 rintro e w1 ⟨A,n,c,rfl,hown,hb⟩
 go_wp2
 go_ret2
 exact ⟨_,A,n,c,rfl,⟨can_of (by decide),fun p=>Iff.rfl⟩,by decide,own_mono hown (by simp),hb0.trans (hb.mono (by simp))⟩
def l_alpha:List (Int × Int):=[(65,90),(97,122),(170,170),(181,181),(186,186),(192,214),(216,246),(248,591),(913,929),(931,974),(1024,1153),(7838,7838),(8490,8491)]
set_option maxRecDepth 100000 in
set_option maxHeartbeats 2000000 in
theorem class_alpha (w:World):Calls Tryz.prog 168 #[.string ⟨#[97,108,112,104,97]⟩] w (ClsOut w l_alpha):=by
 have hb0:Below w.heap.size w (w.alloc (.cells #[.int .i64 65,.int .i64 90,.int .i64 97,.int .i64 122,.int .i64 170,.int .i64 170,.int .i64 181,.int .i64 181,.int .i64 186,.int .i64 186,.int .i64 192,.int .i64 214,.int .i64 216,.int .i64 246,.int .i64 248,.int .i64 591,.int .i64 913,.int .i64 929,.int .i64 931,.int .i64 974,.int .i64 1024,.int .i64 1153,.int .i64 7838,.int .i64 7838,.int .i64 8490,.int .i64 8491] 3)):=by go_grown
 have C:=Lib.hid (span133 [(65,90),(97,122),(170,170),(181,181),(186,186),(192,214),(216,246),(248,591),(913,929),(931,974),(1024,1153),(7838,7838),(8490,8491)] _ 26 26 (w.alloc (.cells #[.int .i64 65,.int .i64 90,.int .i64 97,.int .i64 122,.int .i64 170,.int .i64 170,.int .i64 181,.int .i64 181,.int .i64 186,.int .i64 186,.int .i64 192,.int .i64 214,.int .i64 216,.int .i64 246,.int .i64 248,.int .i64 591,.int .i64 913,.int .i64 929,.int .i64 931,.int .i64 974,.int .i64 1024,.int .i64 1153,.int .i64 7838,.int .i64 7838,.int .i64 8490,.int .i64 8491] 3)) (by decide) ((Rds.new w 1 26 #[.int .i64 65,.int .i64 90,.int .i64 97,.int .i64 122,.int .i64 170,.int .i64 170,.int .i64 181,.int .i64 181,.int .i64 186,.int .i64 186,.int .i64 192,.int .i64 214,.int .i64 216,.int .i64 246,.int .i64 248,.int .i64 591,.int .i64 913,.int .i64 929,.int .i64 931,.int .i64 974,.int .i64 1024,.int .i64 1153,.int .i64 7838,.int .i64 7838,.int .i64 8490,.int .i64 8491] 3 (rngs [(65,90),(97,122),(170,170),(181,181),(186,186),(192,214),(216,246),(248,591),(913,929),(931,974),(1024,1153),(7838,7838),(8490,8491)]) rfl rfl).more (by simp)))
 go_enter Tryz.func168,Tryz.ntmps168
 go_wp2_with fail
 refine C.out.mono ?_
 rintro e w1 ⟨A,n,c,rfl,hown,hb⟩
 go_wp2
 go_ret2
 exact ⟨_,A,n,c,rfl,⟨can_of (by decide),fun p=>Iff.rfl⟩,by decide,own_mono hown (by simp),hb0.trans (hb.mono (by simp))⟩
def l_upper:List (Int × Int):=[(65,90),(192,214),(216,222),(913,929),(931,939),(1024,1071),(7838,7838),(8490,8491)] ++ evens 256 24
set_option maxRecDepth 100000 in
set_option maxHeartbeats 2000000 in
theorem class_upper (w:World):Calls Tryz.prog 168 #[.string ⟨#[117,112,112,101,114]⟩] w (ClsOut w l_upper):=by
 have hb0:Below w.heap.size w (w.alloc (.cells #[.int .i64 65,.int .i64 90,.int .i64 192,.int .i64 214,.int .i64 216,.int .i64 222,.int .i64 913,.int .i64 929,.int .i64 931,.int .i64 939,.int .i64 1024,.int .i64 1071,.int .i64 7838,.int .i64 7838,.int .i64 8490,.int .i64 8491] 3)):=by go_grown
 have C:=Lib.hid (span133 [(65,90),(192,214),(216,222),(913,929),(931,939),(1024,1071),(7838,7838),(8490,8491)] _ 16 16 (w.alloc (.cells #[.int .i64 65,.int .i64 90,.int .i64 192,.int .i64 214,.int .i64 216,.int .i64 222,.int .i64 913,.int .i64 929,.int .i64 931,.int .i64 939,.int .i64 1024,.int .i64 1071,.int .i64 7838,.int .i64 7838,.int .i64 8490,.int .i64 8491] 3)) (by decide) ((Rds.new w 1 16 #[.int .i64 65,.int .i64 90,.int .i64 192,.int .i64 214,.int .i64 216,.int .i64 222,.int .i64 913,.int .i64 929,.int .i64 931,.int .i64 939,.int .i64 1024,.int .i64 1071,.int .i64 7838,.int .i64 7838,.int .i64 8490,.int .i64 8491] 3 (rngs [(65,90),(192,214),(216,222),(913,929),(931,939),(1024,1071),(7838,7838),(8490,8491)]) rfl rfl).more (by simp)))
 go_enter Tryz.func168,Tryz.ntmps168
 go_wp2_with fail
 refine C.out.mono ?_
 rintro e w1 ⟨A,n,c,rfl,hown,hb⟩
 have R1:=Lib.hid (Rds.of_own hown)
 obtain ⟨_,_,hv,q1,q2⟩:=own_slice hown
 injection hv with e1 e2 e3
 subst e1 e3
 clear e2 hown
 have b1:=hb0.trans (hb.mono (by simp))
 have hz1:=b1.size
 clear hb hb0
 go_wp2_with fail
 refine (second135 256 23 w1 (by decide) (by decide) (by decide)).mono ?_
 rintro e w2 ⟨A2,n2,c2,rfl,hown,hb⟩
 have R2:=Lib.hid (R1.out.next hb)
 have R3:=Lib.hid (Rds.of_own hown)
 obtain ⟨_,_,hv,q3,q4⟩:=own_slice hown
 injection hv with e1 e2 e3
 subst e1 e3
 clear e2 hown
 have b2:=below_next b1 hb
 clear hb b1
 go_wp2_with fail
 refine (join_two [(65,90),(192,214),(216,222),(913,929),(931,939),(1024,1071),(7838,7838),(8490,8491)] (evens 256 24) A A2 n c n2 c2 w2 q1 q2 q3 q4 (by decide) (by decide) (by decide) R2.out R3.out).mono ?_
 rintro e w3 ⟨out,A3,n3,c3,rfl,hs,hl,hown,hb⟩
 have HS:=Lib.hid hs
 have HL:=Lib.hid hl
 clear hs hl
 go_wp2
 go_ret2
 exact ⟨out,A3,n3,c3,rfl,HS.out,HL.out,own_mono hown b2.size,below_next b2 hb⟩
def l_lower:List (Int × Int):=[(97,122),(181,181),(223,246),(248,255),(945,971),(1072,1119)] ++ evens 257 24
set_option maxRecDepth 100000 in
set_option maxHeartbeats 2000000 in
theorem class_lower (w:World):Calls Tryz.prog 168 #[.string ⟨#[108,111,119,101,114]⟩] w (ClsOut w l_lower):=by
 have hb0:Below w.heap.size w (w.alloc (.cells #[.int .i64 97,.int .i64 122,.int .i64 181,.int .i64 181,.int .i64 223,.int .i64 246,.int .i64 248,.int .i64 255,.int .i64 945,.int .i64 971,.int .i64 1072,.int .i64 1119] 3)):=by go_grown
 have C:=Lib.hid (span133 [(97,122),(181,181),(223,246),(248,255),(945,971),(1072,1119)] _ 12 12 (w.alloc (.cells #[.int .i64 97,.int .i64 122,.int .i64 181,.int .i64 181,.int .i64 223,.int .i64 246,.int .i64 248,.int .i64 255,.int .i64 945,.int .i64 971,.int .i64 1072,.int .i64 1119] 3)) (by decide) ((Rds.new w 1 12 #[.int .i64 97,.int .i64 122,.int .i64 181,.int .i64 181,.int .i64 223,.int .i64 246,.int .i64 248,.int .i64 255,.int .i64 945,.int .i64 971,.int .i64 1072,.int .i64 1119] 3 (rngs [(97,122),(181,181),(223,246),(248,255),(945,971),(1072,1119)]) rfl rfl).more (by simp)))
 go_enter Tryz.func168,Tryz.ntmps168
 go_wp2_with fail
 refine C.out.mono ?_
 rintro e w1 ⟨A,n,c,rfl,hown,hb⟩
 have R1:=Lib.hid (Rds.of_own hown)
 obtain ⟨_,_,hv,q1,q2⟩:=own_slice hown
 injection hv with e1 e2 e3
 subst e1 e3
 clear e2 hown
 have b1:=hb0.trans (hb.mono (by simp))
 have hz1:=b1.size
 clear hb hb0
 go_wp2_with fail
 refine (second135 257 23 w1 (by decide) (by decide) (by decide)).mono ?_
 rintro e w2 ⟨A2,n2,c2,rfl,hown,hb⟩
 have R2:=Lib.hid (R1.out.next hb)
 have R3:=Lib.hid (Rds.of_own hown)
 obtain ⟨_,_,hv,q3,q4⟩:=own_slice hown
 injection hv with e1 e2 e3
 subst e1 e3
 clear e2 hown
 have b2:=below_next b1 hb
 clear hb b1
 go_wp2_with fail
 refine (join_two [(97,122),(181,181),(223,246),(248,255),(945,971),(1072,1119)] (evens 257 24) A A2 n c n2 c2 w2 q1 q2 q3 q4 (by decide) (by decide) (by decide) R2.out R3.out).mono ?_
 rintro e w3 ⟨out,A3,n3,c3,rfl,hs,hl,hown,hb⟩
 have HS:=Lib.hid hs
 have HL:=Lib.hid hl
 clear hs hl
 go_wp2
 go_ret2
 exact ⟨out,A3,n3,c3,rfl,HS.out,HL.out,own_mono hown b2.size,below_next b2 hb⟩
set_option maxRecDepth 100000 in
set_option maxHeartbeats 2000000 in
theorem both136 (s1 s2:ByteArray) (l1 l2:List (Int × Int)) (w:World) (h1:∀ w,Calls Tryz.prog 168 #[.string s1] w (ClsOut w l1)) (h2:∀ w,Calls Tryz.prog 168 #[.string s2] w (ClsOut w l2)) (hk:∀ a b:List (Int × Int),IsSet a (mem l1)→IsSet b (mem l2)→a.length+b.length≤200) :
  Calls Tryz.prog 200 #[.string s1,.string s2] w (SetOut w (l1 ++ l2)):=by
 have H1:=Lib.hid h1
 have H2:=Lib.hid h2
 have HK:=Lib.hid hk
 clear h1 h2 hk
 go_enter Tryz.func200,Tryz.ntmps200
 go_wp2_with fail
 refine (H1.out _).mono ?_
 rintro e w1 ⟨out1,A,n,c,rfl,hs1,_,hown,hb⟩
 have R1:=Lib.hid (Rds.of_own hown)
 have S1:=Lib.hid hs1
 obtain ⟨_,_,hv,q1,q2⟩:=own_slice hown
 injection hv with e1 e2 e3
 subst e1 e3
 clear e2 hown hs1
 have b1:=hb
 clear hb
 go_wp2_with fail
 refine (H2.out _).mono ?_
 rintro e w2 ⟨out2,A2,n2,c2,rfl,hs2,_,hown,hb⟩
 have R2:=Lib.hid (R1.out.next hb)
 have R3:=Lib.hid (Rds.of_own hown)
 have S2:=Lib.hid hs2
 obtain ⟨_,_,hv,q3,q4⟩:=own_slice hown
 injection hv with e1 e2 e3
 subst e1 e3
 clear e2 hown hs2
 have b2:=below_next b1 hb
 clear hb b1
 go_wp2_with fail
 refine (join_two out1 out2 A A2 n c n2 c2 w2 q1 q2 q3 q4 (HK.out _ _ S1.out S2.out) (List.all_eq_true.2 S1.out.1.1) (List.all_eq_true.2 S2.out.1.1) R2.out R3.out).mono ?_
 rintro e w3 ⟨out,A3,n3,c3,rfl,hs,hl,hown,hb⟩
 have HS:=Lib.hid hs
 have HL:=Lib.hid hl
 clear hs hl
 go_wp2
 go_ret
 exact ⟨out,A3,n3,c3,rfl,⟨HS.out.1,fun p=>(HS.out.2 p).trans (by rw [mem_append,mem_append,S1.out.2 p,S2.out.2 p])⟩,HL.out,own_mono hown b2.size,below_next b2 hb⟩
theorem len_of {l a:List (Int × Int)} (hc:(l.all okR && gapB l)=true) (ha:IsSet a (mem l)):a.length=l.length:=by
 rw [ha.eq ⟨can_of hc,fun p=>Iff.rfl⟩ (fun p=>Iff.rfl)]
theorem l2_len {l1 l2:List (Int × Int)} (h1:(l1.all okR && gapB l1)=true) (h2:(l2.all okR && gapB l2)=true) (h:l1.length+l2.length≤200):∀ a b:List (Int × Int),IsSet a (mem l1)→IsSet b (mem l2)→a.length+b.length≤200:=fun a b ha hb=>by
 rw [len_of h1 ha,len_of h2 hb];exact h
theorem both_ad (w:World):Calls Tryz.prog 200 #[.string ⟨#[97,108,112,104,97]⟩,.string ⟨#[100,105,103,105,116]⟩] w (SetOut w (l_alpha ++ l_digit)):=both136 _ _ _ _ w class_alpha class_digit (l2_len (by decide) (by decide) (by decide))
theorem both_pp (w:World):Calls Tryz.prog 200 #[.string ⟨#[112,117,110,99,116]⟩,.string ⟨#[112,117,110,99,116]⟩] w (SetOut w (l_punct ++ l_punct)):=both136 _ _ _ _ w class_punct class_punct (l2_len (by decide) (by decide) (by decide))
def l_alnum:List (Int × Int):=l_alpha ++ l_digit
def l_word:List (Int × Int):=l_alnum ++ [(95,95)]
def l_graph:List (Int × Int):=l_alnum ++ (l_punct ++ l_punct)
set_option maxRecDepth 100000 in
set_option maxHeartbeats 2000000 in
theorem class_alnum (w:World):Calls Tryz.prog 168 #[.string ⟨#[97,108,110,117,109]⟩] w (ClsOut w l_alnum):=by
 go_enter Tryz.func168,Tryz.ntmps168
 go_wp2_with fail
 refine (both_ad _).mono ?_
 rintro e w1 ⟨out,A,n,c,rfl,hs,hl,hown,hb⟩
 have HS:=Lib.hid hs
 have HL:=Lib.hid hl
 clear hs hl
 go_wp2
 go_ret2
 exact ⟨out,A,n,c,rfl,HS.out,HL.out,hown,hb⟩
def ad_set:List (Int × Int):=[(48,57),(65,90),(97,122),(170,170),(181,181),(186,186),(192,214),(216,246),(248,591),(913,929),(931,974),(1024,1153),(1632,1641),(7838,7838),(8490,8491)]
theorem ad_len {a:List (Int × Int)} (h:IsSet a (mem (l_alpha ++ l_digit))):a.length≤15:=by
 have:a=ad_set:=h.eq (g:=mem ad_set) ⟨can_of (by decide),fun p=>Iff.rfl⟩ fun p=>by
  simp only [l_alpha,l_digit,ad_set,List.cons_append,List.nil_append,mem_cons]
  have:=mem_nil p
  constructor
  ·intro h;simp only [this,or_false] at *;omega
  ·intro h;simp only [this,or_false] at *;omega
 rw [this];decide
theorem pp_len {a:List (Int × Int)} (h:IsSet a (mem (l_punct ++ l_punct))):a.length≤15:=by
 have:a=l_punct:=h.eq (g:=mem l_punct) ⟨can_of (by decide),fun p=>Iff.rfl⟩ fun p=>by rw [mem_append,or_self]
 rw [this];decide
set_option maxRecDepth 100000 in
set_option maxHeartbeats 2000000 in
theorem class_word (w:World):Calls Tryz.prog 168 #[.string ⟨#[119,111,114,100]⟩] w (ClsOut w l_word):=by
 go_enter Tryz.func168,Tryz.ntmps168
 go_wp2_with fail
 refine (both_ad _).mono ?_
 rintro e w1 ⟨out,A,n,c,rfl,hs,hl,hown,hb⟩
 have S1:=Lib.hid hs
 have L1:=Lib.hid hl
 have R1:=Lib.hid (Rds.of_own hown)
 obtain ⟨_,_,hv,q1,q2⟩:=own_slice hown
 injection hv with e1 e2 e3
 subst e1 e3
 clear e2 hown hs hl
 have b1:=hb
 clear hb
 have hb9:Below w1.heap.size w1 (w1.alloc (.cells #[.int .i64 95,.int .i64 95] 3)):=by go_grown
 have R9:=Lib.hid (R1.out.next hb9)
 have b9:=below_next b1 hb9
 have C:=Lib.hid (span133 [(95,95)] _ 2 2 (w1.alloc (.cells #[.int .i64 95,.int .i64 95] 3)) (by decide) ((Rds.new w1 1 2 #[.int .i64 95,.int .i64 95] 3 (rngs [(95,95)]) rfl rfl).more (by simp)))
 clear b1 hb9
 have b1:=b9
 clear b9
 go_wp2_with fail
 refine C.out.mono ?_
 rintro e w2 ⟨A2,n2,c2,rfl,hown,hb⟩
 have R2:=Lib.hid (R9.out.next hb)
 have R3:=Lib.hid (Rds.of_own hown)
 obtain ⟨_,_,hv,q3,q4⟩:=own_slice hown
 injection hv with e1 e2 e3
 subst e1 e3
 clear e2 hown
 have b2:=below_next b1 hb
 clear hb b1
 have HT:=Lib.hid (ad_len S1.out)
 go_wp2_with fail
 refine (join_two out [(95,95)] A A2 n c n2 c2 w2 q1 q2 q3 q4 (by have:=HT.out;simp;omega) (List.all_eq_true.2 S1.out.1.1) (by decide) R2.out R3.out).mono ?_
 rintro e w3 ⟨out3,A3,n3,c3,rfl,hs,hl,hown,hb⟩
 have HS:=Lib.hid hs
 have HL:=Lib.hid hl
 clear hs hl
 go_wp2
 go_ret2
 exact ⟨out3,A3,n3,c3,rfl,⟨HS.out.1,fun p=>(HS.out.2 p).trans (by rw [mem_append,S1.out.2 p];exact (mem_append _ _ _).symm)⟩,HL.out,own_mono hown b2.size,below_next b2 hb⟩
set_option maxRecDepth 100000 in
set_option maxHeartbeats 2000000 in
theorem class_graph (w:World):Calls Tryz.prog 168 #[.string ⟨#[103,114,97,112,104]⟩] w (ClsOut w l_graph):=by
 go_enter Tryz.func168,Tryz.ntmps168
 go_wp2_with fail
 refine (both_ad _).mono ?_
 rintro e w1 ⟨out,A,n,c,rfl,hs,hl,hown,hb⟩
 have S1:=Lib.hid hs
 have L1:=Lib.hid hl
 have R1:=Lib.hid (Rds.of_own hown)
 obtain ⟨_,_,hv,q1,q2⟩:=own_slice hown
 injection hv with e1 e2 e3
 subst e1 e3
 clear e2 hown hs hl
 have b1:=hb
 clear hb
 go_wp2_with fail
 refine (both_pp _).mono ?_
 rintro e w2 ⟨out2,A2,n2,c2,rfl,hs2,hl2,hown,hb⟩
 have S2:=Lib.hid hs2
 have L2:=Lib.hid (pp_len hs2)
 have R2:=Lib.hid (R1.out.next hb)
 clear hs2 hl2
 have R3:=Lib.hid (Rds.of_own hown)
 obtain ⟨_,_,hv,q3,q4⟩:=own_slice hown
 injection hv with e1 e2 e3
 subst e1 e3
 clear e2 hown
 have b2:=below_next b1 hb
 clear hb b1
 have HT:=Lib.hid (ad_len S1.out)
 go_wp2_with fail
 refine (join_two out out2 A A2 n c n2 c2 w2 q1 q2 q3 q4 (by have:=HT.out;have:=L2.out;omega) (List.all_eq_true.2 S1.out.1.1) (List.all_eq_true.2 S2.out.1.1) R2.out R3.out).mono ?_
 rintro e w3 ⟨out3,A3,n3,c3,rfl,hs,hl,hown,hb⟩
 have HS:=Lib.hid hs
 have HL:=Lib.hid hl
 clear hs hl
 go_wp2
 go_ret2
 exact ⟨out3,A3,n3,c3,rfl,⟨HS.out.1,fun p=>(HS.out.2 p).trans (by rw [mem_append,S1.out.2 p,S2.out.2 p];exact (mem_append _ _ _).symm)⟩,HL.out,own_mono hown b2.size,below_next b2 hb⟩
end Go.Proofs.YtbiahhojnjchnaaGreat
namespace Go.Proofs.YtbiahhojnjchnaaGreat
open Go.RowKit
/-- the class of a name -/
def cls (t:List UInt8):Option (List (Int × Int)) :=
 if t=[97,110,121] then some l_any else if t=[97,115,99,105,105] then some l_ascii else if t=[99,110,116,114,108] then some l_cntrl else if t=[100,105,103,105,116] then some l_digit else if t=[120,100,105,103,105,116] then some l_xdigit else if t=[98,108,97,110,107] then some l_blank else if t=[115,112,97,99,101] then some l_space else if t=[112,117,110,99,116] then some l_punct else if t=[97,108,112,104,97] then some l_alpha else if t=[117,112,112,101,114] then some l_upper else if t=[108,111,119,101,114] then some l_lower else if t=[97,108,110,117,109] then some l_alnum else if t=[119,111,114,100] then some l_word else if t=[103,114,97,112,104] then some l_graph else none
theorem lit_eq {s:ByteArray} {l:List UInt8} (h:s.toList=l):s=⟨l.toArray⟩:=by
 obtain ⟨d⟩:=s
 rw [ByteArray.toList_eq] at h
 subst h
 rfl
theorem class_some (s:ByteArray) (l:List (Int × Int)) (w:World) (h:cls s.toList=some l):Calls Tryz.prog 168 #[.string s] w (ClsOut w l):=by
 unfold cls at h
 by_cases e:s.toList=[97,110,121]
 ·rw [if_pos e] at h;injection h with h;subst h;obtain rfl:=lit_eq e;exact class_any w
 rw [if_neg e] at h
 clear e
 by_cases e:s.toList=[97,115,99,105,105]
 ·rw [if_pos e] at h;injection h with h;subst h;obtain rfl:=lit_eq e;exact class_ascii w
 rw [if_neg e] at h
 clear e
 by_cases e:s.toList=[99,110,116,114,108]
 ·rw [if_pos e] at h;injection h with h;subst h;obtain rfl:=lit_eq e;exact class_cntrl w
 rw [if_neg e] at h
 clear e
 by_cases e:s.toList=[100,105,103,105,116]
 ·rw [if_pos e] at h;injection h with h;subst h;obtain rfl:=lit_eq e;exact class_digit w
 rw [if_neg e] at h
 clear e
 by_cases e:s.toList=[120,100,105,103,105,116]
 ·rw [if_pos e] at h;injection h with h;subst h;obtain rfl:=lit_eq e;exact class_xdigit w
 rw [if_neg e] at h
 clear e
 by_cases e:s.toList=[98,108,97,110,107]
 ·rw [if_pos e] at h;injection h with h;subst h;obtain rfl:=lit_eq e;exact class_blank w
 rw [if_neg e] at h
 clear e
 by_cases e:s.toList=[115,112,97,99,101]
 ·rw [if_pos e] at h;injection h with h;subst h;obtain rfl:=lit_eq e;exact class_space w
 rw [if_neg e] at h
 clear e
 by_cases e:s.toList=[112,117,110,99,116]
 ·rw [if_pos e] at h;injection h with h;subst h;obtain rfl:=lit_eq e;exact class_punct w
 rw [if_neg e] at h
 clear e
 by_cases e:s.toList=[97,108,112,104,97]
 ·rw [if_pos e] at h;injection h with h;subst h;obtain rfl:=lit_eq e;exact class_alpha w
 rw [if_neg e] at h
 clear e
 by_cases e:s.toList=[117,112,112,101,114]
 ·rw [if_pos e] at h;injection h with h;subst h;obtain rfl:=lit_eq e;exact class_upper w
 rw [if_neg e] at h
 clear e
 by_cases e:s.toList=[108,111,119,101,114]
 ·rw [if_pos e] at h;injection h with h;subst h;obtain rfl:=lit_eq e;exact class_lower w
 rw [if_neg e] at h
 clear e
 by_cases e:s.toList=[97,108,110,117,109]
 ·rw [if_pos e] at h;injection h with h;subst h;obtain rfl:=lit_eq e;exact class_alnum w
 rw [if_neg e] at h
 clear e
 by_cases e:s.toList=[119,111,114,100]
 ·rw [if_pos e] at h;injection h with h;subst h;obtain rfl:=lit_eq e;exact class_word w
 rw [if_neg e] at h
 clear e
 by_cases e:s.toList=[103,114,97,112,104]
 ·rw [if_pos e] at h;injection h with h;subst h;obtain rfl:=lit_eq e;exact class_graph w
 rw [if_neg e] at h
 clear e
 cases h
theorem cls_none {t:List UInt8} (h:cls t=none):t≠[97,110,121]∧t≠[97,115,99,105,105]∧t≠[99,110,116,114,108]∧t≠[100,105,103,105,116]∧t≠[120,100,105,103,105,116]∧t≠[98,108,97,110,107]∧t≠[115,112,97,99,101]∧t≠[112,117,110,99,116]∧t≠[97,108,112,104,97]∧t≠[117,112,112,101,114]∧t≠[108,111,119,101,114]∧t≠[97,108,110,117,109]∧t≠[119,111,114,100]∧t≠[103,114,97,112,104]:=by
 unfold cls at h
 by_cases e0:t=[97,110,121]
 ·rw [if_pos e0] at h;cases h
 rw [if_neg e0] at h
 by_cases e1:t=[97,115,99,105,105]
 ·rw [if_pos e1] at h;cases h
 rw [if_neg e1] at h
 by_cases e2:t=[99,110,116,114,108]
 ·rw [if_pos e2] at h;cases h
 rw [if_neg e2] at h
 by_cases e3:t=[100,105,103,105,116]
 ·rw [if_pos e3] at h;cases h
 rw [if_neg e3] at h
 by_cases e4:t=[120,100,105,103,105,116]
 ·rw [if_pos e4] at h;cases h
 rw [if_neg e4] at h
 by_cases e5:t=[98,108,97,110,107]
 ·rw [if_pos e5] at h;cases h
 rw [if_neg e5] at h
 by_cases e6:t=[115,112,97,99,101]
 ·rw [if_pos e6] at h;cases h
 rw [if_neg e6] at h
 by_cases e7:t=[112,117,110,99,116]
 ·rw [if_pos e7] at h;cases h
 rw [if_neg e7] at h
 by_cases e8:t=[97,108,112,104,97]
 ·rw [if_pos e8] at h;cases h
 rw [if_neg e8] at h
 by_cases e9:t=[117,112,112,101,114]
 ·rw [if_pos e9] at h;cases h
 rw [if_neg e9] at h
 by_cases e10:t=[108,111,119,101,114]
 ·rw [if_pos e10] at h;cases h
 rw [if_neg e10] at h
 by_cases e11:t=[97,108,110,117,109]
 ·rw [if_pos e11] at h;cases h
 rw [if_neg e11] at h
 by_cases e12:t=[119,111,114,100]
 ·rw [if_pos e12] at h;cases h
 rw [if_neg e12] at h
 by_cases e13:t=[103,114,97,112,104]
 ·rw [if_pos e13] at h;cases h
 rw [if_neg e13] at h
 exact ⟨e0,e1,e2,e3,e4,e5,e6,e7,e8,e9,e10,e11,e12,e13⟩
set_option maxRecDepth 100000 in
set_option maxHeartbeats 2000000 in
theorem class_none (s:ByteArray) (w:World) (h:cls s.toList=none) :
  Calls Tryz.prog 168 #[.string s] w fun e w'=>e=.returned (.tuple #[.slice none 0 0,.bool false])∧w=w':=by
 obtain ⟨h0,h1,h2,h3,h4,h5,h6,h7,h8,h9,h10,h11,h12,h13⟩:=cls_none h
 have b0:(s.toList == [97,110,121])=false:=beq_eq_false_iff_ne.2 h0
 have b1:(s.toList == [97,115,99,105,105])=false:=beq_eq_false_iff_ne.2 h1
 have b2:(s.toList == [99,110,116,114,108])=false:=beq_eq_false_iff_ne.2 h2
 have b3:(s.toList == [100,105,103,105,116])=false:=beq_eq_false_iff_ne.2 h3
 have b4:(s.toList == [120,100,105,103,105,116])=false:=beq_eq_false_iff_ne.2 h4
 have b5:(s.toList == [98,108,97,110,107])=false:=beq_eq_false_iff_ne.2 h5
 have b6:(s.toList == [115,112,97,99,101])=false:=beq_eq_false_iff_ne.2 h6
 have b7:(s.toList == [112,117,110,99,116])=false:=beq_eq_false_iff_ne.2 h7
 have b8:(s.toList == [97,108,112,104,97])=false:=beq_eq_false_iff_ne.2 h8
 have b9:(s.toList == [117,112,112,101,114])=false:=beq_eq_false_iff_ne.2 h9
 have b10:(s.toList == [108,111,119,101,114])=false:=beq_eq_false_iff_ne.2 h10
 have b11:(s.toList == [97,108,110,117,109])=false:=beq_eq_false_iff_ne.2 h11
 have b12:(s.toList == [119,111,114,100])=false:=beq_eq_false_iff_ne.2 h12
 have b13:(s.toList == [103,114,97,112,104])=false:=beq_eq_false_iff_ne.2 h13
 clear h h0 h1 h2 h3 h4 h5 h6 h7 h8 h9 h10 h11 h12 h13
 go_enter Tryz.func168,Tryz.ntmps168
 go_wp2
 go_ret2
 exact ⟨rfl,rfl⟩
set_option maxRecDepth 100000 in
set_option maxHeartbeats 2000000 in
theorem class56 (s:ByteArray) (l:List (Int × Int)) (w:World) (h:cls s.toList=some l):Calls Tryz.prog 131 #[.string s] w fun e w'=>∃ out A n c,e=.returned (.tuple #[.slice A n c,.int .i64 0])∧n≤c∧c≤maxLen∧Hid (IsSet out (mem l))∧Hid (out.length≤200)∧Hid (out.length=n)∧Hid (Rds w' w'.heap.size 2 A n (rngs out))∧Below w.heap.size w w':=by
 have C:=Lib.hid (class_some s l w h)
 clear h
 go_enter Tryz.func131,Tryz.ntmps131
 go_wp2_with fail
 refine C.out.mono ?_
 rintro e w1 ⟨out,A,n,c,rfl,hs,hl,hown,hb⟩
 have S:=Lib.hid hs
 have L:=Lib.hid hl
 have O:=Lib.hid hown
 obtain ⟨_,_,hv,q1,q2⟩:=own_slice hown
 injection hv with e1 e2 e3
 subst e1 e3
 clear e2 hown hs hl
 go_wp2
 go_ret2
 exact ⟨out,A,n,c,rfl,q1,q2,S,L,Lib.hid (own_rngs_len O.out).symm,Lib.hid (Rds.of_own O.out),hb⟩
set_option maxRecDepth 100000 in
set_option maxHeartbeats 2000000 in
theorem class56_none (s:ByteArray) (w:World) (h:cls s.toList=none):Calls Tryz.prog 131 #[.string s] w fun e w'=>e=.returned (.tuple #[.slice none 0 0,.int .i64 5])∧w=w':=by
 have C:=Lib.hid (class_none s w h)
 clear h
 go_enter Tryz.func131,Tryz.ntmps131
 go_wp2_with fail
 refine C.out.mono ?_
 rintro e w1 ⟨rfl,rfl⟩
 go_wp2
 go_ret2
 exact ⟨rfl,rfl⟩
set_option maxRecDepth 100000 in
theorem lst_k:lst 107=75:=by decide +kernel
def nms:List ByteArray:=[⟨#[97,110,121]⟩,⟨#[97,115,99,105,105]⟩,⟨#[99,110,116,114,108]⟩,⟨#[100,105,103,105,116]⟩,⟨#[120,100,105,103,105,116]⟩,⟨#[98,108,97,110,107]⟩,⟨#[115,112,97,99,101]⟩,⟨#[112,117,110,99,116]⟩,⟨#[97,108,112,104,97]⟩,⟨#[117,112,112,101,114]⟩,⟨#[108,111,119,101,114]⟩,⟨#[97,108,110,117,109]⟩,⟨#[119,111,114,100]⟩,⟨#[103,114,97,112,104]⟩]
def strs (l:List ByteArray):List Value:=l.map .string
theorem strs_get (l:List ByteArray) (k:Nat) (h:k < l.length):(strs l)[k]?=some (.string l[k]):=by simp [strs,h]
theorem Rds.str_at {w:World} {B n:Nat} {A:Option Addr} {l:List ByteArray} (h:Rds w B 1 A n (strs l)) {k:Nat} (hk:k < n) :
  ∃ b off,∃ hl:k < l.length,A=some ⟨b,off,none⟩∧b < B∧w.cell? ⟨b,off+k,none⟩=some (.string l[k]):=by
 obtain ⟨b,off,e,hb,hc⟩:=h.2 (by omega)
 have hl:k < l.length:=by have:=h.1;simp [strs] at this;omega
 exact ⟨b,off,hl,e,hb,hc _ _ (strs_get l k hl)⟩
/-- is the list of bytes one of the names? -/
def isNm (l:List ByteArray) (t:List UInt8):Bool:=l.any fun b=>b.toList == t
theorem isNm_snoc (l:List ByteArray) (b:ByteArray) (t:List UInt8):isNm (l ++ [b]) t=(isNm l t || b.toList == t):=by simp [isNm]
theorem isNm_at {l:List ByteArray} {t:List UInt8} (k:Nat) (h:k < l.length) (hx:(l[k].toList == t)=true):isNm l t=true:=by
 simp only [isNm,List.any_eq_true];exact ⟨_,List.getElem_mem h,hx⟩
theorem isNm_cls (t:List UInt8):isNm nms t=(cls t).isSome:=by
 simp only [isNm,nms,ByteArray.toList_eq,List.any_cons,List.any_nil,cls,Bool.or_false]
 by_cases e0:t=[97,110,121]
 ·subst e0;decide
 rw [if_neg e0]
 by_cases e1:t=[97,115,99,105,105]
 ·subst e1;decide
 rw [if_neg e1]
 by_cases e2:t=[99,110,116,114,108]
 ·subst e2;decide
 rw [if_neg e2]
 by_cases e3:t=[100,105,103,105,116]
 ·subst e3;decide
 rw [if_neg e3]
 by_cases e4:t=[120,100,105,103,105,116]
 ·subst e4;decide
 rw [if_neg e4]
 by_cases e5:t=[98,108,97,110,107]
 ·subst e5;decide
 rw [if_neg e5]
 by_cases e6:t=[115,112,97,99,101]
 ·subst e6;decide
 rw [if_neg e6]
 by_cases e7:t=[112,117,110,99,116]
 ·subst e7;decide
 rw [if_neg e7]
 by_cases e8:t=[97,108,112,104,97]
 ·subst e8;decide
 rw [if_neg e8]
 by_cases e9:t=[117,112,112,101,114]
 ·subst e9;decide
 rw [if_neg e9]
 by_cases e10:t=[108,111,119,101,114]
 ·subst e10;decide
 rw [if_neg e10]
 by_cases e11:t=[97,108,110,117,109]
 ·subst e11;decide
 rw [if_neg e11]
 by_cases e12:t=[119,111,114,100]
 ·subst e12;decide
 rw [if_neg e12]
 by_cases e13:t=[103,114,97,112,104]
 ·subst e13;decide
 rw [if_neg e13]
 simp [Ne.symm e0,Ne.symm e1,Ne.symm e2,Ne.symm e3,Ne.symm e4,Ne.symm e5,Ne.symm e6,Ne.symm e7,Ne.symm e8,Ne.symm e9,Ne.symm e10,Ne.symm e11,Ne.symm e12,Ne.symm e13]
set_option maxRecDepth 100000 in
set_option maxHeartbeats 2000000 in
theorem names104 (w:World):Calls Tryz.prog 144 #[] w fun e w'=>∃ g,e=.returned (.slice (some ⟨g,0,none⟩) 14 14)∧Rds w' w'.heap.size 1 (some ⟨g,0,none⟩) 14 (strs nms)∧Below w.heap.size w w':=by
 have R:=Lib.hid (Rds.new w 1 14 (strs nms).toArray 9 (strs nms) (by simp) rfl)
 go_enter Tryz.func144,Tryz.ntmps144
 go_wp2
 go_ret
 refine ⟨w.heap.size,rfl,?_,by go_grown⟩
 exact R.out.more (by simp)
set_option maxRecDepth 100000 in
set_option maxHeartbeats 2000000 in
theorem isClass57 (s:ByteArray) (v:Bool) (hv:(cls s.toList).isSome=v) (w:World):Calls Tryz.prog 120 #[.string s] w fun e w'=>e=.returned (.bool v)∧Below w.heap.size w w':=by
 have HV:=Lib.hid ((isNm_cls s.toList).trans hv)
 clear hv
 go_enter Tryz.func120,Tryz.ntmps120
 go_wp2_with fail
 refine (names104 w).mono ?_
 rintro e w1 ⟨g,rfl,ha,hb⟩
 go_wp2_with fail
 go_loop [4] (fun i=>∃ k:Nat,k≤14∧i=.int .i64 k∧isNm (nms.take k) s.toList=false) (fun i=>14 - (intOf i).toNat)
 case atStart=>exact ⟨0,Nat.zero_le _,rfl,rfl⟩
 case round =>
  obtain ⟨k,hk,rfl,hall⟩:=hrel
  have HALL:=Lib.hid hall
  clear hall
  by_cases hlt:k < 14
  ·obtain ⟨b1,off1,hl1,hA,hb1,hc1⟩:=ha.str_at hlt
   injection hA with hA
   injection hA with e1 e2
   subst e1 e2
   have HT:=Lib.hid (take_snoc' nms k hl1)
   have HM:=Lib.hid (isNm_at (t:=s.toList) k hl1)
   obtain ⟨y,hy⟩:∃ r,r=nms[k]:=⟨_,rfl⟩
   rw [← hy] at hc1 HT HM
   clear hy
   simp only [Nat.zero_add] at hc1
   have k2:(k:Int) < 14:=by omega
   cases hxy:(y.toList == s.toList)
   ·have HXY:=Lib.hid hxy
    go_wp2
    go_round
    case rel=>exact ⟨k+1,by omega,by go_num,by rw [HT.out,isNm_snoc,HALL.out,HXY.out];rfl⟩
    case measure=>simp [intOf];omega
   ·have HXY:=Lib.hid hxy
    go_wp2
    go_ret
    exact ⟨ret_bool ((HV.out.symm.trans (HM.out HXY.out)).symm),hb⟩
  ·obtain rfl:k=14:=by omega
   go_wp2
   go_ret
   exact ⟨ret_bool (HALL.out.symm.trans HV.out),hb⟩
end Go.Proofs.YtbiahhojnjchnaaGreat
