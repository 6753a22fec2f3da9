/-
  orbit, Orbit and Least of the program: walked. span and second of the program: walked.
-/
import Derived.Test.YtbiahhojnjchnaaGreatGJ
import Derived.Test.YtbiahhojnjchnaaGreatGM
import Derived.Test.YtbiahhojnjchnaaGreatGK
set_option linter.unusedVariables false
set_option linter.unusedSimpArgs false
namespace Go.Proofs.YtbiahhojnjchnaaGreat
open Go.RowKit
/-- a row of the call's own, and apart from it a slice that is read -/
def Two (w wr:World) (v:Value) (t:Nat) (l:List Int) (size:Nat) (A:Option Addr) (n:Nat) (xs:List Value):Prop :=
 wr.ownsRow w.heap.size 3 1 v t (ints l)∧Below w.heap.size w wr∧Rds wr wr.heap.size size A n xs∧∀ x,A=some x→x.block < wr.heap.size∧some x.block≠v.ownBlock
theorem Rds.grown_ap {w w':World} {B size n:Nat} {A:Option Addr} {xs:List Value} {row:Option Nat} (h:Rds w B size A n xs) (hg:w.grownBy w' row) (hne:∀ x,A=some x→some x.block≠row):Rds w' B size A n xs :=
 ⟨h.1,fun hn=>by
  obtain ⟨b,o,e,hb,hc⟩:=h.2 hn
  exact ⟨b,o,e,hb,fun j u hu=>hg.cell (hc j u hu) (show some b≠row from hne _ e)⟩⟩
theorem Two.more {w W w3:World} {v v3:Value} {t size n:Nat} {l l3:List Int} {A:Option Addr} {xs:List Value} {cs:Obj} {t3:Nat} (h:Two w W v t l size A n xs) (ho:w3.ownsRow w.heap.size 3 1 v3 t3 (ints l3)) (hg:(W.alloc cs).grownBy w3 v.ownBlock)
  (ha:v3.ownBlock=v.ownBlock∨v3.ownBlock=some (W.heap.size+1)):Two w w3 v3 t3 l3 size A n xs:=by
 obtain ⟨h1,h2,h3,h4⟩:=h
 have hs:=hg.size
 simp at hs
 refine ⟨ho,(h2.alloc h2.size _).grown hg (by simp;have:=h2.size;omega) (fun k hk=>(h1.lt k hk).1),((h3.next ((Below.refl _ _).alloc (Nat.le_refl _) cs)).grown_ap hg fun x hx=>(h4 x hx).2).more (by simp;omega),fun x hx=>?_⟩
 have:=h4 x hx
 refine ⟨by omega,?_⟩
 rcases ha with e|e
 ·rw [e];exact this.2
 ·rw [e];intro e';injection e' with e';omega
theorem nodup_len:∀ {a b:List Int},a.Nodup→(∀ x ∈ a,x ∈ b)→a.length≤b.length
 | [],_,_,_=>by simp
 | x :: a,b,ha,h=>by
  have h1:=List.nodup_cons.1 ha
  have hx:=h x (.head _)
  have ih:=nodup_len (b:=b.erase x) h1.2 fun y hy=>(List.mem_erase_of_ne (fun e=>h1.1 (by rw [← e];exact hy))).2 (h y (.tail _ hy))
  rw [List.length_erase_of_mem hx] at ih
  have:0 < b.length:=List.length_pos_of_mem hx
  simp only [List.length_cons]
  omega
/-- some of the orbit -/
structure OrbSt (p:Int) (out:List Int):Prop where
 nodup:out.Nodup
 has:p ∈ out
 sub:∀ x ∈ out,x ∈ orb p
theorem OrbSt.start (p:Int):OrbSt p [p]:=⟨by simp,by simp,fun x hx=>by rw [List.mem_singleton.1 hx];exact self_orb p⟩
theorem OrbSt.snoc {p q:Int} {out:List Int} (h:OrbSt p out) (hq:q ∈ orb p) (hn:hasI out q=false):OrbSt p (out ++ [q]):=by
 have hn':q ∉ out:=fun hm=>by rw [(hasI_iff out q).2 hm] at hn;cases hn
 refine ⟨?_,List.mem_append_left _ h.has,fun x hx=>?_⟩
 ·rw [List.nodup_append]
  exact ⟨h.nodup,by simp,fun x hx y hy=>by rw [List.mem_singleton.1 hy];intro e;subst e;exact hn' hx⟩
 ·rcases List.mem_append.1 hx with hx|hx
  ·exact h.sub x hx
  ·rw [List.mem_singleton.1 hx];exact hq
theorem OrbSt.len {p:Int} {out:List Int} (h:OrbSt p out) (h0:0≤p) (h1:p≤1114111):out.length≤4 :=
 Nat.le_trans (nodup_len h.nodup h.sub) (orb_facts p h0 h1).1
theorem OrbSt.done {p:Int} {out:List Int} (h:OrbSt p out) (hc:∀ x ∈ out,∀ q ∈ besP x,q ∈ out):srt out=orb p:=by
 refine rise_ext ?_ (orb_lt p) fun x=>?_
 ·have h1:=srt_sorted out
  have h2:(srt out).Nodup:=(srt_perm out).nodup_iff.2 h.nodup
  exact List.Pairwise.imp₂ (fun a b hab hne=>by omega) h1 h2
 ·rw [(srt_perm out).mem_iff]
  exact ⟨h.sub x,orb_least (S:=fun x=>x ∈ out) h.has hc⟩
/-- the loop's state: of the first i of out whatever is beside them is in -/
def OrbDone (out:List Int) (i:Nat):Prop:=∀ x ∈ out.take i,∀ q ∈ besP x,q ∈ out
theorem OrbDone.snoc {out:List Int} {i:Nat} (h:OrbDone out i) (hi:i≤out.length) (q:Int):OrbDone (out ++ [q]) i:=fun x hx r hr=>by
 rw [List.take_append_of_le_length hi] at hx
 exact List.mem_append_left _ (h x hx r hr)
theorem OrbDone.succ {out:List Int} {i:Nat} (h:OrbDone out i) (hi:i < out.length) (hb:∀ q ∈ besP out[i],q ∈ out):OrbDone out (i+1):=fun x hx r hr=>by
 rw [take_snoc' out i hi] at hx
 rcases List.mem_append.1 hx with hx|hx
 ·exact h x hx r hr
 ·rw [List.mem_singleton.1 hx] at hr;exact hb r hr
theorem besP_rng {p x q:Int} (h0:0≤p) (h1:p≤1114111) (hx:x ∈ orb p):0≤x∧x≤1114111:=((orb_facts p h0 h1).2 x hx).1
def InnerSt (p:Int) (i j:Nat) (x:Int) (out:List Int):Prop:=OrbSt p out∧OrbDone out i∧(∃ h:i < out.length,out[i]=x)∧∀ q ∈ (besP x).take j,q ∈ out
theorem InnerSt.skip {p x q:Int} {i j:Nat} {out:List Int} (h:InnerSt p i j x out) (hj:j < (besP x).length) (hq:(besP x)[j]=q) (hm:hasI out q=true):InnerSt p i (j+1) x out :=
 ⟨h.1,h.2.1,h.2.2.1,fun r hr=>by
  rw [take_snoc' _ j hj] at hr
  rcases List.mem_append.1 hr with hr|hr
  ·exact h.2.2.2 r hr
  ·rw [List.mem_singleton.1 hr,hq];exact (hasI_iff out q).1 hm⟩
theorem InnerSt.more {p x q:Int} {i j:Nat} {out:List Int} (h0:0≤p) (h1:p≤1114111) (h:InnerSt p i j x out) (hj:j < (besP x).length) (hq:(besP x)[j]=q) (hm:hasI out q=false):InnerSt p i (j+1) x (out ++ [q]):=by
 obtain ⟨hi,hxi⟩:=h.2.2.1
 have hqo:q ∈ orb p:=orb_closed h0 h1 (x:=x) (h.1.sub x (by rw [← hxi];exact List.getElem_mem hi)) (by rw [← hq];exact List.getElem_mem hj)
 refine ⟨h.1.snoc hqo hm,h.2.1.snoc (by omega) q,⟨by simp;omega,by rw [List.getElem_append_left hi];exact hxi⟩,fun r hr=>?_⟩
 rw [take_snoc' _ j hj] at hr
 rcases List.mem_append.1 hr with hr|hr
 ·exact List.mem_append_left _ (h.2.2.2 r hr)
 ·rw [List.mem_singleton.1 hr,hq];exact List.mem_append_right _ (by simp)
set_option maxRecDepth 100000 in
set_option maxHeartbeats 4000000 in
theorem orbit108 (p:Int) (w:World) (h0:0≤p) (h1:p≤1114111):Calls Tryz.prog 110 #[.int .i64 p] w (OwnInts w (orb p)):=by
 have hown0:(w.alloc (.cells #[.int .i64 p] 3)).ownsRow w.heap.size 3 1 (.slice (some ⟨w.heap.size,0,none⟩) 1 1) 1 (ints [p]):=own_new w w.heap.size 3 1 1 #[.int .i64 p] (Nat.le_refl _) rfl (by decide)
 have HO0:=Lib.hid hown0
 clear hown0
 go_enter Tryz.func110,Tryz.ntmps110
 go_wp2_with fail
 go_loopw [3,4] (fun v i wr=>∃ (k t:Nat) (out:List Int),i=.int .i64 k∧k≤t∧Hid (out.length=t)∧t≤4∧Hid (OrbSt p out∧OrbDone out k)∧wr.ownsRow w.heap.size 3 1 v t (ints out)∧Below w.heap.size w wr) (fun _ i _=>5 - (intOf i).toNat)
 case atStart=>exact ⟨0,1,[p],rfl,by omega,rfl,by omega,⟨OrbSt.start p,fun x hx=>by simp at hx⟩,HO0.out,by go_grown⟩
 case round =>
  obtain ⟨k,t,out,rfl,hkt,HL,ht,HS,hown,hB⟩:=hrel
  obtain ⟨Av,cv,rfl,hmc,hcv⟩:=own_slice hown
  unfold maxLen at hcv
  by_cases hlt:k < t
  ·obtain ⟨b1,off1,hl1,hA,hb1,hc1⟩:=(Rds.of_own hown).int_at hlt
   subst hA
   have HX:=Lib.hid (besP_rng (q:=0) h0 h1 (HS.out.1.sub _ (List.getElem_mem hl1)))
   have HI0:=Lib.hid (show InnerSt p k 0 out[k] out from ⟨HS.out.1,HS.out.2,⟨hl1,rfl⟩,fun q hq=>by simp at hq⟩)
   obtain ⟨x,hx⟩:∃ r,r=out[k]:=⟨_,rfl⟩
   rw [← hx] at hc1 HX HI0
   clear hx
   obtain ⟨x0,x1⟩:=HX.out
   have HO:=Lib.hid hown
   go_wp2_with fail
   refine (beside137 x _ (by omega)).mono ?_
   rintro e w1 ⟨A1,n1,c1,rfl,hown1,hb1'⟩
   have hz1:=hb1'.size
   have HN1:=Lib.hid (own_ints_len hown1)
   have hT0:Two w w1 (.slice (some ⟨b1,off1,none⟩) t cv) t out 1 A1 n1 (ints (besP x)) :=
    ⟨own_below HO.out hb1' (Nat.le_refl _),below_next hB hb1',Rds.of_own hown1,fun y hy=>by
     subst hy
     have q1:=hown1.lt _ rfl
     exact ⟨q1.2,fun e=>by have:=HO.out.lt _ e.symm;omega⟩⟩
   have HT0:=Lib.hid hT0
   obtain ⟨_,_,hv1,q1,q2⟩:=own_slice hown1
   injection hv1 with e1 e2 e3
   subst e1 e3
   clear e2 hT0 hown hown1 hc1
   unfold maxLen at q2
   go_wp2_with fail
   go_loopw [3,21] (fun v j wr=>∃ (m t:Nat) (out:List Int),j=.int .i64 m∧m≤n1∧k < t∧Hid (out.length=t)∧t≤4∧Hid (InnerSt p k m x out)∧Two w wr v t out 1 A1 n1 (ints (besP x))) (fun _ j _=>n1 - (intOf j).toNat)
   case atStart=>exact ⟨0,t,out,rfl,by omega,hlt,HL,ht,HI0,HT0.out⟩
   case round =>
    clear HO HT0 HI0 HS HL
    obtain ⟨m,t,out,rfl,hm,hkt,HL,ht,HS,hT⟩:=hrel
    have HT:=Lib.hid hT
    obtain ⟨Av,cv,rfl,hmc,hcv⟩:=own_slice hT.1
    unfold maxLen at hcv
    by_cases hlt:m < n1
    ·obtain ⟨b2,off2,hl2,hA2,hb2,hc2⟩:=hT.2.2.1.int_at hlt
     subst hA2
     clear hT
     have HMO:=Lib.hid (fun hm=>HS.out.more h0 h1 hl2 rfl hm)
     have HSK:=Lib.hid (fun hm=>HS.out.skip hl2 rfl hm)
     obtain ⟨q,hq⟩:∃ r,r=(besP x)[m]:=⟨_,rfl⟩
     rw [← hq] at hc2 HMO HSK
     clear hq
     have C:=Lib.hid (contains138 out q Av t cv _ (by unfold maxLen;omega) (Rds.of_own HT.out.1))
     have n2:=World.new_ne
     cases hh:hasI out q
     ·have HH:=Lib.hid hh
      rw [hh] at C
      have HLEN:=Lib.hid ((HMO.out hh).1.len h0 h1)
      have hlen4:t+1≤4:=by have:=HLEN.out;have:=HL.out;simp at *;omega
      clear hh
      go_wp2_with fail
      refine C.out.mono ?_
      rintro e w' ⟨rfl,rfl⟩
      have R:=Lib.hid (Rds.new wr 1 1 #[.int .i64 q] 3 (ints [q]) rfl rfl)
      have n3:=n2 wr
      have hsz:=HT.out.2.1.size
      clear n2
      go_wp2_with (at_builtin;refine app_ints (.tmp 29) (.tmp 31) (base:=w.heap.size) (HT.out.1.alloc _) R.out (by omega) (by simp;omega) rfl rfl rfl rfl ?_;intro v3 w3 hown3 hg3 hat3)
      simp at hat3
      go_roundw
      case rel=>exact ⟨m+1,t+1,out ++ [q],by go_num,by omega,by omega,by have:=HL.out;show (out ++ [q]).length=t+1;simp;omega,hlen4,HMO.out HH.out,HT.out.more hown3 hg3 hat3⟩
      case measure=>simp [intOf];omega
     ·have HH:=Lib.hid hh
      rw [hh] at C
      clear hh
      go_wp2_with fail
      refine C.out.mono ?_
      rintro e w' ⟨rfl,rfl⟩
      go_wp2
      go_roundw
      case rel=>exact ⟨m+1,t,out,by go_num,by omega,hkt,HL,ht,HSK.out HH.out,HT.out⟩
      case measure=>simp [intOf];omega
    ·obtain rfl:m=n1:=by omega
     clear hT
     have HD:=Lib.hid (show OrbSt p out∧OrbDone out (k+1) from ⟨HS.out.1,by
      obtain ⟨hi,hxi⟩:=HS.out.2.2.1
      refine HS.out.2.1.succ hi fun q hq=>HS.out.2.2.2 q ?_
      rw [List.take_of_length_le (by rw [HN1.out];exact Nat.le_refl _),← hxi];exact hq⟩)
     go_wp2
     go_roundw
     case rel=>exact ⟨k+1,t,out,by go_num,by omega,HL,ht,HD,HT.out.1,HT.out.2.1⟩
     case measure=>simp [intOf];omega
  ·obtain rfl:k=t:=by omega
   have HE:=Lib.hid (HS.out.1.done (by
    have:=HS.out.2
    intro x hx q hq
    exact this x (by rw [List.take_of_length_le (by rw [HL.out];exact Nat.le_refl _)];exact hx) q hq))
   have hsz:=hB.size
   have C:=Lib.hid (sort139 out Av k cv w.heap.size _ (by omega) hown hsz)
   rw [HE.out] at C
   go_wp2_with fail
   refine C.out.mono ?_
   rintro e w' ⟨rfl,ho,hb⟩
   have HO:=Lib.hid ho
   clear ho
   go_wp2
   go_ret
   exact ownInts_of rfl HO.out (hB.trans hb)
set_option maxHeartbeats 1000000 in
theorem orbit60 (p:Int) (w:World) (h0:0≤p) (h1:p≤1114111):Calls Tryz.prog 73 #[.int .i64 p] w fun e w'=>∃ A n c,e=.returned (.tuple #[.slice A n c,.int .i64 0])∧n≤c∧c≤maxLen∧Hid ((orb p).length=n)∧Hid (Rds w' w'.heap.size 1 A n (ints (orb p)))∧Below w.heap.size w w':=by
 have HP:=Lib.hid (show (decide (0≤p) && decide (p≤1114111))=true by simp;omega)
 go_enter Tryz.func73,Tryz.ntmps73
 go_wp2_with fail
 refine (isPoint107 p true _ HP.out).mono ?_
 rintro e w' ⟨rfl,rfl⟩
 go_wp2_with fail
 refine (orbit108 p _ h0 h1).mono ?_
 rintro e w1 ⟨A,n,c,rfl,hown,hb⟩
 have HO:=Lib.hid hown
 obtain ⟨_,_,hv,q1,q2⟩:=own_slice hown
 injection hv with e1 e2 e3
 subst e1 e3
 clear e2 hown
 go_wp2
 go_ret2
 exact ⟨A,n,c,rfl,q1,q2,Lib.hid (own_ints_len HO.out).symm,Lib.hid (Rds.of_own HO.out),hb⟩
set_option maxHeartbeats 1000000 in
theorem orbit60_no (p:Int) (w:World) (h:¬ (0≤p∧p≤1114111)):Calls Tryz.prog 73 #[.int .i64 p] w fun e w'=>e=.returned (.tuple #[.slice none 0 0,.int .i64 3])∧w=w':=by
 have HP:=Lib.hid (show (decide (0≤p) && decide (p≤1114111))=false by rw [Bool.eq_false_iff];simp;omega)
 clear h
 go_enter Tryz.func73,Tryz.ntmps73
 go_wp2_with fail
 refine (isPoint107 p false _ HP.out).mono ?_
 rintro e w' ⟨rfl,rfl⟩
 go_wp2
 go_ret2
 exact ⟨rfl,rfl⟩
/-- the least of an orbit -/
def lst (p:Int):Int:=(orb p).headD 0
theorem orb_ne (p:Int):0 < (orb p).length:=List.length_pos_of_mem (self_orb p)
theorem headD_get:∀ (l:List Int) (h:0 < l.length),l[0]=l.headD 0
 | [],h=>by simp at h
 | x :: l,_=>rfl
theorem lst_get (p:Int) (h:0 < (orb p).length):(orb p)[0]=lst p:=headD_get _ h
end Go.Proofs.YtbiahhojnjchnaaGreat
namespace Go.Proofs.YtbiahhojnjchnaaGreat
open Go.RowKit
set_option maxRecDepth 100000 in
set_option maxHeartbeats 2000000 in
theorem span133 (rs:List (Int × Int)) (A:Option Addr) (n c:Nat) (w:World) (hn:n≤1000) (ha:Rds w w.heap.size 1 A n (rngs rs)) :
  Calls Tryz.prog 197 #[.slice A n c] w (OwnRngs w rs):=by
 have HN:=Lib.hid (show n=rs.length * 2 by have:=ha.1;rw [rngs_length] at this;omega)
 go_enter Tryz.func197,Tryz.ntmps197
 go_wp2_with fail
 go_loopw [3,4] (fun v i wr=>∃ k:Nat,k≤rs.length∧i=.int .i64 ((k * 2:Nat):Int)∧wr.ownsRow w.heap.size 67 2 v k (rngs (rs.take k))∧Below w.heap.size w wr) (fun _ i _=>n - (intOf i).toNat)
 case atStart=>exact ⟨0,Nat.zero_le _,rfl,World.ownsRow_nil _ _ _ _,Below.refl _ _⟩
 case round =>
  obtain ⟨k,hk,rfl,hown,hBl⟩:=hrel
  obtain ⟨Av,cv,rfl,hmc,hcv⟩:=own_slice hown
  unfold maxLen at hcv
  by_cases hlt:k < rs.length
  ·obtain ⟨b1,off1,hA,hb1,hcells⟩:=(ha.below hBl (Nat.le_refl _)).2 (by rw [HN.out];omega)
   subst hA
   obtain ⟨g1,g2⟩:=rngs_get rs k hlt
   have hc1:=hcells _ _ g1
   have hd1:=hcells _ _ g2
   have HT1:=Lib.hid (take_snoc' rs k hlt)
   have hkn:k * 2+1 < n:=by rw [HN.out];omega
   have hk1000:k≤1000:=by have:=HN.out;omega
   clear hcells g1 g2
   obtain ⟨p,hp⟩:∃ p,p=rs[k]:=⟨_,rfl⟩
   rw [← hp] at hc1 hd1 HT1
   clear hp
   obtain ⟨x,y⟩:=p
   simp only at hc1 hd1
   obtain ⟨m,hm⟩:∃ m,m=k * 2:=⟨_,rfl⟩
   have HM:=Lib.hid hm
   rw [← hm] at hc1 hd1 hkn ⊢
   clear hm
   have i1:(0:Int)≤(m:Int):=by omega
   have i2:(m:Int)+1 < (n:Int):=by omega
   have i3:(m:Int) < (n:Int):=by omega
   have i4:(0:Int)≤(m:Int)+1:=by omega
   have hsz:=hBl.size
   have W1:=Lib.hid (show IntKind.i64.wrap ((m:Int)+1)=(m:Int)+1 from IntWalk.i64_in _ (by omega))
   have W2:=Lib.hid (show ((m:Int)+1).toNat=m+1 by omega)
   have R:=Lib.hid (Rds.new wr 2 1 #[.int .i64 x,.int .i64 y] 67 (rngs [(x,y)]) rfl rfl)
   have hne:(some b1:Option Nat)≠(Value.slice Av k cv).ownBlock:=fun e=>by have:=hown.lt b1 e.symm;omega
   have HNE:=Lib.hid hne
   have hn1:=World.new_ne wr
   clear hne
   go_wp2_with fail
   have w1:=W1.out
   have w2:=W2.out
   go_region_held3 (fun w'=>w'.cell? ⟨b1,off1+m,none⟩=some (.int .i64 x)∧w'.cell? ⟨b1,off1+(m+1),none⟩=some (.int .i64 y))
    (first
     | (exact ⟨by simpa using hc1,by simpa using hd1⟩)
     | (go_split_ands;exact keep2 hg3 (by assumption) (by assumption) HNE.out)
     | go_keep
     | (go_split_ands;trace_state;fail))
    (first
     | (refine step_app_rngs (.tmp 11) (.tmp 22) (hown.alloc _) R.out (by omega) (by simp;omega) rfl rfl rfl rfl ?_;intro v3 w3 hown3 hg3 hat3))
   clear w1 w2
   go_wp2
   go_roundw
   case rel=>exact ⟨k+1,by omega,by rw [HM.out];go_num,by rw [HT1.out];exact hown3,by first|exact grown_own (hBl.alloc hsz _) (hown.alloc _) hg3 (Nat.le_refl _) (by simp;omega)|exact grown_own (hBl.alloc hsz _).drew (hown.alloc _) hg3 (Nat.le_refl _) (by simp;omega)⟩
   case measure=>simp [intOf];omega
  ·obtain rfl:k=rs.length:=by omega
   have HT:=Lib.hid (show rs.take rs.length=rs from List.take_of_length_le (Nat.le_refl _))
   have hge:(n:Int)≤((rs.length * 2:Nat):Int):=by rw [HN.out];exact Int.le_refl _
   rw [HT.out] at hown
   obtain ⟨m,hm⟩:∃ m:Nat,m=rs.length * 2:=⟨_,rfl⟩
   rw [← hm] at hge ⊢
   clear hm
   go_wp2
   go_ret
   exact ownRngs_of rfl hown hBl
def evens (a:Int):Nat→List (Int × Int)
 | 0=>[]
 | k+1=>evens a k ++ [(a+2 * k,a+2 * k)]
theorem evens_len (a:Int) (k:Nat):(evens a k).length=k:=by
 induction k with
 | zero=>rfl
 | succ k ih=>simp [evens,ih]
set_option maxRecDepth 100000 in
set_option maxHeartbeats 2000000 in
theorem second135 (a:Int) (k:Nat) (w:World) (ha:0≤a) (ha1:a≤1000) (hk:k≤100) :
  Calls Tryz.prog 199 #[.int .i64 a,.int .i64 (a+2 * k)] w (OwnRngs w (evens a (k+1))):=by
 obtain ⟨b,hb⟩:∃ b,b=a+2 * k:=⟨_,rfl⟩
 rw [← hb]
 have HB:=Lib.hid hb
 have b1:a≤b:=by omega
 have b2:b≤2000:=by omega
 clear hb
 go_enter Tryz.func199,Tryz.ntmps199
 go_wp2_with fail
 go_loopw [5,6] (fun v i wr=>∃ j:Nat,j≤k+1∧i=.int .i64 (a+2 * j)∧wr.ownsRow w.heap.size 67 2 v j (rngs (evens a j))∧Below w.heap.size w wr) (fun _ i _=>(b+2 - intOf i).toNat)
 case atStart=>exact ⟨0,by omega,by simp,World.ownsRow_nil _ _ _ _,Below.refl _ _⟩
 case round =>
  obtain ⟨j,hj,rfl,hown,hBl⟩:=hrel
  obtain ⟨Av,cv,rfl,hmc,hcv⟩:=own_slice hown
  unfold maxLen at hcv
  have HE:=Lib.hid (show evens a (j+1)=evens a j ++ [(a+2 * j,a+2 * j)] from rfl)
  obtain ⟨x,hx⟩:∃ x,x=a+2 * (j:Int):=⟨_,rfl⟩
  have hx0:0≤x:=by omega
  have hx2:x≤b+2:=by have:=HB.out;omega
  rw [← hx] at HE ⊢
  have HX:=Lib.hid hx
  clear hx
  have hsz:=hBl.size
  have R:=Lib.hid (Rds.new wr 2 1 #[.int .i64 x,.int .i64 x] 67 (rngs [(x,x)]) rfl rfl)
  by_cases hlt:x≤b
  ·have hjk:j≤k:=by have:=HB.out;have:=HX.out;omega
   go_wp2_with (at_builtin;refine app_rngs (.tmp 13) (.tmp 17) (base:=w.heap.size) (hown.alloc _) R.out (by omega) (by simp;omega) rfl rfl rfl rfl ?_;intro v3 w3 hown3 hg3 hat3)
   go_roundw
   case rel=>exact ⟨j+1,by omega,congrArg (Value.int .i64) (by have:=HX.out;omega),by rw [HE.out];exact hown3,grown_own (hBl.alloc hsz _) (hown.alloc _) hg3 (Nat.le_refl _) (by simp;omega)⟩
   case measure=>simp [intOf];omega
  ·have hjk:j=k+1:=by have:=HB.out;have:=HX.out;omega
   subst hjk
   go_wp2
   go_ret
   exact ownRngs_of rfl hown hBl
end Go.Proofs.YtbiahhojnjchnaaGreat
