/-
  OrbitOf of the reference: walked.
-/
import Derived.Test.YtbiahhojnjchnaaGreatHS
set_option linter.unusedVariables false
set_option linter.unusedSimpArgs false
namespace Go.Proofs.YtbiahhojnjchnaaGreat
open Go.RowKit
theorem Two.drew {w W:World} {v:Value} {t size n:Nat} {l:List Int} {A:Option Addr} {xs:List Value} (h:Two w W v t l size A n xs):Two w W.drew v t l size A n xs :=
 ⟨h.1,h.2.1.drew,h.2.2.1,h.2.2.2⟩
theorem Two.next {w W W':World} {v:Value} {t size n:Nat} {l:List Int} {A:Option Addr} {xs:List Value} (h:Two w W v t l size A n xs) (hb:Below W.heap.size W W'):Two w W' v t l size A n xs :=
 ⟨own_below h.1 hb (Nat.le_refl _),below_next h.2.1 hb,h.2.2.1.next hb,fun x hx=>⟨Nat.lt_of_lt_of_le (h.2.2.2 x hx).1 hb.size,(h.2.2.2 x hx).2⟩⟩
theorem near_rng {x:Int} (h0:0≤x) (h1:x≤1114111) (i:Nat) (hi:i < (near x).length):-20000≤(near x)[i]∧(near x)[i]≤2000000:=by
 have:∀ q ∈ near x,-20000≤q∧q≤2000000:=by
  intro q hq
  simp only [near,List.mem_cons,List.not_mem_nil,or_false] at hq
  omega
 exact this _ (List.getElem_mem hi)
/-- what is taken out so far, and what is left -/
def SelSt (p:Int) (l res:List Int):Prop:=l.Nodup∧(∀ x,x ∈ orb p↔x ∈ res∨x ∈ l)∧res.Pairwise (· < ·)∧∀ a ∈ res,∀ b ∈ l,a < b
theorem split_at (l:List Int) (a:Nat) (h:a < l.length):l=l.take a ++ l[a] :: l.drop (a+1):=by
 conv=>lhs;rw [← List.take_append_drop a l]
 rw [List.drop_eq_getElem_cons h]
theorem SelSt.step {p:Int} {l res:List Int} (h:SelSt p l res) (a:Nat) (ha:a < l.length) (hm:∀ j (hj:j < l.length),l[a]≤l[j]):SelSt p (l.take a ++ l.drop (a+1)) (res ++ [l[a]]):=by
 obtain ⟨h1,h2,h3,h4⟩:=h
 have e:=split_at l a ha
 have hmem:∀ x,x ∈ l↔x=l[a]∨x ∈ l.take a ++ l.drop (a+1):=fun x=>by
  conv=>lhs;rw [e]
  simp only [List.mem_append,List.mem_cons]
  constructor
  ·rintro (h|h|h)
   ·exact .inr (.inl h)
   ·exact .inl h
   ·exact .inr (.inr h)
  ·rintro (h|h|h)
   ·exact .inr (.inl h)
   ·exact .inl h
   ·exact .inr (.inr h)
 have hnd:(l[a] :: (l.take a ++ l.drop (a+1))).Nodup:=by
  have:(l.take a ++ l[a] :: l.drop (a+1)).Nodup:=by rw [← e];exact h1
  exact (List.perm_middle.nodup_iff).1 this
 have hn:=List.nodup_cons.1 hnd
 refine ⟨hn.2,fun x=>?_,?_,fun b hb c hc=>?_⟩
 ·have e1:x ∈ res ++ [l[a]]↔x ∈ res∨x=l[a]:=by rw [List.mem_append,List.mem_singleton]
  rw [h2 x,hmem x,e1]
  constructor
  ·rintro (h|h|h)
   ·exact .inl (.inl h)
   ·exact .inl (.inr h)
   ·exact .inr h
  ·rintro ((h|h)|h)
   ·exact .inl h
   ·exact .inr (.inl h)
   ·exact .inr (.inr h)
 ·rw [List.pairwise_append]
  exact ⟨h3,List.pairwise_singleton _ _,fun x hx y hy=>by rw [List.mem_singleton.1 hy];exact h4 x hx _ (List.getElem_mem ha)⟩
 ·have hcl:c ∈ l:=(hmem c).2 (.inr hc)
  rcases List.mem_append.1 hb with hb|hb
  ·exact h4 b hb c hcl
  ·rw [List.mem_singleton.1 hb]
   obtain ⟨j,hj,rfl⟩:=List.mem_iff_getElem.1 hcl
   have:=hm j hj
   have hne:l[j]≠l[a]:=fun e=>hn.1 (by rw [← e];exact hc)
   omega
theorem SelSt.done {p:Int} {res:List Int} (h:SelSt p [] res):res=orb p:=rise_ext h.2.2.1 (orb_lt p) fun x=>by rw [h.2.1 x];simp
theorem SelSt.start {p:Int} {out:List Int} (h:OrbSt p out) (hc:∀ x ∈ out,∀ q ∈ besP x,q ∈ out):SelSt p out [] :=
 ⟨h.nodup,fun x=>⟨fun hx=>.inr (orb_least (S:=fun x=>x ∈ out) h.has hc hx),fun hx=>by rcases hx with hx|hx;(· simp at hx);exact h.sub x hx⟩,.nil,by simp⟩
/-- the least of the first b -/
def MinAt (l:List Int) (a b:Nat):Prop:=∃ h:a < l.length,∀ j (hj:j < l.length),j < b→l[a]≤l[j]
theorem MinAt.next_new {l:List Int} {a b:Nat} (h:MinAt l a b) (hb:b < l.length) (hlt:l[b] < l[a]'h.1):MinAt l b (b+1) :=
 ⟨hb,fun j hj hjb=>by
  by_cases e:j=b
  ·subst e;exact Int.le_refl _
  ·have:=h.2 j hj (by omega);omega⟩
theorem MinAt.next_old {l:List Int} {a b:Nat} (h:MinAt l a b) (hb:b < l.length) (hlt:l[a]'h.1≤l[b]):MinAt l a (b+1) :=
 ⟨h.1,fun j hj hjb=>by
  by_cases e:j=b
  ·subst e;exact hlt
  ·exact h.2 j hj (by omega)⟩
theorem Two.swap {w W W':World} {v:Value} {t size n n2:Nat} {l:List Int} {ad:Addr} {A2:Option Addr} {xs xs2:List Value} (h:Two w W v t l size (some ad) n xs) (hg:W.grownBy W' none) (hr:Rds W' W'.heap.size size A2 n2 xs2)
  (ha:∀ y,A2=some y→y=ad∨(W.heap.size≤y.block∧y.block < W'.heap.size)):Two w W' v t l size A2 n2 xs2:=by
 obtain ⟨h1,h2,h3,h4⟩:=h
 refine ⟨h1.kept hg ?_,h2.grown hg h2.size (fun g hg=>by cases hg),hr,fun y hy=>?_⟩
 ·cases v.ownBlock
  ·exact .inl rfl
  ·exact .inr (by simp)
 ·rcases ha y hy with e|⟨e1,e2⟩
  ·subst e
   exact ⟨Nat.lt_of_lt_of_le (h4 _ rfl).1 hg.size,(h4 _ rfl).2⟩
  ·refine ⟨e2,fun e=>?_⟩
   have:=h1.lt _ e.symm
   omega
set_option maxRecDepth 100000 in
set_option maxHeartbeats 8000000 in
theorem orbitOf62 (p:Int) (w:World) (h0:0≤p) (h1:p≤1114111):Calls Tryz.prog 96 #[.int .i64 p] w (OwnInts w (orb p)):=by
 have hown0:(w.alloc (.cells #[.int .i64 p] 3)).ownsRow w.heap.size 3 1 (.slice (some ⟨w.heap.size,0,none⟩) 1 1) 1 (ints [p]):=own_new w w.heap.size 3 1 1 #[.int .i64 p] (Nat.le_refl _) rfl (by decide)
 have HO0:=Lib.hid hown0
 clear hown0
 go_enter Tryz.func96,Tryz.ntmps96
 go_wp2_with fail
 go_loopw [3,4] (fun v z wr=>∃ (ch:Bool) (t:Nat) (out:List Int),z=.bool ch∧Hid (out.length=t)∧t≤4∧Hid (OrbSt p out∧(ch=false→∀ x ∈ out,∀ q ∈ besP x,q ∈ out))∧wr.ownsRow w.heap.size 3 1 v t (ints out)∧Below w.heap.size w wr) (fun v z _=>2 * (5 - lenOf v)+bitOf z)
 case atStart=>exact ⟨true,1,[p],rfl,rfl,by omega,⟨OrbSt.start p,fun h=>by cases h⟩,HO0.out,by go_grown⟩
 case round =>
  obtain ⟨ch,t0,out0,rfl,HL0,ht0,HS0,hown,hB⟩:=hrel
  have HO:=Lib.hid hown
  obtain ⟨Av0,cv0,rfl,hmc0,hcv0⟩:=own_slice hown
  clear hown
  unfold maxLen at hcv0
  cases ch
  ·have HSEL:=Lib.hid (SelSt.start HS0.out.1 (HS0.out.2 rfl))
   have HT0:=Lib.hid (show Two w wr (.slice none 0 0) 0 [] 1 Av0 t0 (ints out0) from ⟨World.ownsRow_nil _ _ _ _,hB,Rds.of_own HO.out,fun x hx=>by
    subst hx
    exact ⟨(HO.out.lt _ rfl).2,by simp [Value.ownBlock]⟩⟩)
   clear HO hB HS0
   go_wp2_with fail
   go_loopw [3,12] (fun v ov wr=>∃ (A:Option Addr) (n c t:Nat) (l res:List Int),v=.slice A n c∧n≤c∧c≤2 ^ 63 - 1∧Hid (l.length=n)∧n+t≤4∧Hid (SelSt p l res)∧Two w wr ov t res 1 A n (ints l)) (fun v _ _=>lenOf v)
   case atStart=>exact ⟨Av0,t0,cv0,0,out0,[],rfl,hmc0,hcv0,HL0,by omega,HSEL,HT0.out⟩
   case round =>
    clear HT0 HSEL HL0 hmc0 hcv0
    obtain ⟨A,n,c,t,l,res,rfl,hnc,hc,HL,hnt,HS,hT⟩:=hrel
    have HT:=Lib.hid hT
    obtain ⟨Ao,co,rfl,hmo,hco⟩:=own_slice hT.1
    unfold maxLen at hco
    obtain ⟨wo,rfl⟩:∃ wo:World,wo=wr:=⟨_,rfl⟩
    by_cases hn:0 < n
    ·obtain ⟨b0,off0,hl0,hA,hb0,_⟩:=hT.2.2.1.int_at hn
     subst hA
     clear hT
     go_wp2_with fail
     go_loopw [13,14] (fun x y wr=>∃ a b:Nat,x=.int .i64 a∧y=.int .i64 b∧1≤b∧b≤n∧a < n∧Hid (MinAt l a b)∧∃ q,wr=wo.drewN q) (fun _ y _=>n - (intOf y).toNat)
     case atStart=>exact ⟨0,1,rfl,rfl,by omega,by omega,hn,⟨hl0,fun j hj h=>by obtain rfl:j=0:=(by omega);exact Int.le_refl _⟩,0,rfl⟩
     case round =>
      obtain ⟨a,b,rfl,rfl,hb1,hbn,han,HM,q,rfl⟩:=hrel
      by_cases hlt:b < n
      ·obtain ⟨bx,ox,hlb,hAx,_,hcb⟩:=HT.out.2.2.1.int_at hlt
       injection hAx with hAx
       injection hAx with e1 e2
       subst e1 e2
       obtain ⟨bx,ox,hla,hAx,_,hca⟩:=HT.out.2.2.1.int_at han
       injection hAx with hAx
       injection hAx with e1 e2
       subst e1 e2
       have HM1:=Lib.hid (fun h=>HM.out.next_new hlb h)
       have HM2:=Lib.hid (fun h=>HM.out.next_old hlb h)
       obtain ⟨u,hu⟩:∃ r,r=l[b]:=⟨_,rfl⟩
       obtain ⟨v,hv⟩:∃ r,r=l[a]:=⟨_,rfl⟩
       rw [← hu] at hcb HM1 HM2
       rw [← hv] at hca HM1 HM2
       clear hu hv
       have i1:(0:Int)≤(a:Int):=by omega
       have i2:(a:Int) < (n:Int):=by omega
       have i3:(0:Int)≤(b:Int):=by omega
       have i4:(b:Int) < (n:Int):=by omega
       by_cases huv:u < v
       ·go_wp2_with fail
        go_quiet (fail)
        go_wp2
        go_roundw
        case rel=>exact ⟨b,b+1,rfl,by go_num,by omega,by omega,by omega,HM1.out (by trivial),_,rfl⟩
        case measure=>simp [intOf];omega
       ·go_wp2_with fail
        go_quiet (fail)
        go_wp2
        go_roundw
        case rel=>exact ⟨a,b+1,rfl,by go_num,by omega,by omega,by omega,HM2.out (by omega),_,rfl⟩
        case measure=>simp [intOf];omega
      ·obtain rfl:b=n:=by omega
       obtain ⟨bx,ox,hla,hAx,hblt,hca⟩:=HT.out.2.2.1.int_at han
       injection hAx with hAx
       injection hAx with e1 e2
       subst e1 e2
       have HS2:=Lib.hid (HS.out.step a hla (fun j hj=>HM.out.2 j hj (by rw [HL.out] at hj;exact hj)))
       obtain ⟨x,hx⟩:∃ r,r=l[a]:=⟨_,rfl⟩
       rw [← hx] at hca HS2
       clear hx
       have R:=Lib.hid (Rds.new (wo.drewN q) 1 1 #[.int .i64 x] 3 (ints [x]) rfl rfl)
       have HTq:=Lib.hid (HT.out.next (below_q wo q))
       have hsz:=HTq.out.2.1.size
       have n1:=World.new_ne (wo.drewN q)
       have i1:(0:Int)≤(a:Int):=by omega
       have i2:(a:Int) < (b:Int):=by omega
       go_upto_region 33 with (at_builtin;refine app_ints (.tmp 123) (.tmp 128) (base:=w.heap.size) (HTq.out.1.alloc _) R.out (by omega) (by simp at hsz ⊢;omega) rfl rfl rfl rfl ?_;intro v3 w3 hown3 hg3 hat3)
       have HT3:=Lib.hid (HTq.out.more hown3 hg3 (by simpa using hat3))
       obtain ⟨Av3,cv3,rfl,hmc3,hcv3⟩:=own_slice hown3
       clear hown3 hg3 hat3 n1 R
       obtain ⟨w4,hw4⟩:∃ w4:World,w4=w3:=⟨_,rfl⟩
       subst hw4
       have HFI:=Lib.hid (fun q:Nat=>(HT3.out.2.2.1.ints_first (j:=a) (by omega)).drewN q)
       by_cases hm:a+1 < b
       ·have HFR:=Lib.hid (fun q:Nat=>(HT3.out.2.2.1.ints_from (j:=a+1) (by omega)).drewN q)
        have hce:¬ c=a+1:=by omega
        have j1:(a:Int)≤(c:Int):=by omega
        have j2:(a:Int)+1≤(b:Int):=by omega
        have j3:(0:Int)≤(a:Int)+1:=by omega
        have j4:(b:Int)≤(c:Int):=by omega
        have W1:=Lib.hid (show IntKind.i64.wrap ((a:Int)+1)=(a:Int)+1 from IntWalk.i64_in _ (by omega))
        have W2:=Lib.hid (show ((a:Int)+1).toNat=a+1 by omega)
        have BD:=Lib.hid (show a+(b - (a+1))≤1000000000 by omega)
        have w1:=W1.out
        have w2:=W2.out
        go_region_held3 (fun w'=>True)
         (trivial)
         (first
          | (refine step_full_ints (.tmp 133) (.tmp 137) (HFI.out _) (HFR.out _) (Nat.le_refl _) BD.out rfl rfl rfl rfl ?_;intro A5 c5 w5 q5 q6 hr5 hg5 ha5))
        clear w1 w2
        go_wp2
        go_roundw
        case rel=>exact ⟨A5,a+(b - (a+1)),c5,t+1,l.take a ++ l.drop (a+1),res ++ [x],rfl,q5,by unfold maxLen at q6;exact q6,by have:=HL.out;show (l.take a ++ l.drop (a+1)).length=a+(b - (a+1));simp;omega,by omega,HS2.out,by first|exact HT3.out.swap hg5 hr5 ha5|exact HT3.out.drew.swap hg5 hr5 ha5⟩
        case measure=>simp [lenOf];omega
       ·obtain rfl:b=a+1:=by omega
        have HDR:=Lib.hid (show l.drop (a+1)=[] from List.drop_of_length_le (by rw [HL.out];exact Nat.le_refl _))
        have HFR:=Lib.hid (fun (A':Option Addr) (q:Nat)=>show Rds (w4.drewN q) w4.heap.size 1 A' 0 (ints (l.drop (a+1))) from by rw [HDR.out];exact Rds.nil_ _ _ _ _)
        have j1:(a:Int)≤(c:Int):=by omega
        have j3:(0:Int)≤(a:Int)+1:=by omega
        have j4:(a:Int)+1≤(c:Int):=by omega
        have W1:=Lib.hid (show IntKind.i64.wrap ((a:Int)+1)=(a:Int)+1 from IntWalk.i64_in _ (by omega))
        have W2:=Lib.hid (show ((a:Int)+1).toNat=a+1 by omega)
        have BD:=Lib.hid (show a+0≤1000000000 by omega)
        have j5:(a:Int)≤(a:Int)+1:=by omega
        have j6:a≤a+1:=by omega
        have j7:¬ ((a:Int)+1 < (a:Int)):=by omega
        rcases Decidable.em (c=a+1) with rfl|hce
        all_goals
         have w1:=W1.out
         have w2:=W2.out
         go_region_held3 (fun w'=>True)
          (trivial)
          (first
           | (refine step_full_ints (.tmp 133) (.tmp 137) (m:=0) (HFI.out _) (HFR.out _ _) (Nat.le_refl _) BD.out rfl rfl rfl rfl ?_;intro A5 c5 w5 q5 q6 hr5 hg5 ha5))
         clear w1 w2
         go_wp2
         go_roundw
         case rel=>exact ⟨A5,a+0,c5,t+1,l.take a ++ l.drop (a+1),res ++ [x],rfl,q5,by unfold maxLen at q6;exact q6,by have:=HL.out;show (l.take a ++ l.drop (a+1)).length=a+0;simp;omega,by omega,HS2.out,by first|exact HT3.out.swap hg5 hr5 ha5|exact HT3.out.drew.swap hg5 hr5 ha5⟩
         case measure=>simp [lenOf]
    ·obtain rfl:n=0:=by omega
     have hl:l=[]:=List.eq_nil_of_length_eq_zero HL.out
     subst hl
     have HE:=Lib.hid HS.out.done
     clear hT
     go_wp2
     go_ret
     have h1:=HT.out.1
     rw [HE.out] at h1
     exact ownInts_of rfl h1 HT.out.2.1
  ·go_wp2_with fail
   go_loopw [3,4,5] (fun v z i wr=>∃ (ch:Bool) (k t:Nat) (out:List Int),z=.bool ch∧i=.int .i64 k∧k≤t∧Hid (Grew ch t0 t)∧Hid (out.length=t)∧t≤4∧Hid (OrbSt p out∧F2 out k)∧wr.ownsRow w.heap.size 3 1 v t (ints out)∧Below w.heap.size w wr) (fun _ _ i _=>5 - (intOf i).toNat)
   case atStart=>exact ⟨false,0,t0,out0,rfl,rfl,by omega,⟨Nat.le_refl _,fun h=>by cases h⟩,HL0,ht0,⟨HS0.out.1,fun x hx=>by simp at hx⟩,HO.out,hB⟩
   case round =>
    clear HO hB
    obtain ⟨ch,k,t,out,rfl,rfl,hkt,HG,HL,ht,HS,hown,hB⟩:=hrel
    obtain ⟨Av,cv,rfl,hmc,hcv⟩:=own_slice hown
    unfold maxLen at hcv
    by_cases hlt:k < t
    ·obtain ⟨b1,off1,hl1,hA,hb1,hc1⟩:=(Rds.of_own hown).int_at hlt
     subst hA
     have HX:=Lib.hid (besP_rng (q:=0) h0 h1 (HS.out.1.sub _ (List.getElem_mem hl1)))
     have HI0:=Lib.hid (show In3 p k 0 out[k] out from ⟨HS.out.1,HS.out.2,⟨hl1,rfl⟩,fun q hq=>by simp at hq⟩)
     obtain ⟨x,hx⟩:∃ r,r=out[k]:=⟨_,rfl⟩
     rw [← hx] at hc1 HX HI0
     clear hx
     obtain ⟨x0,x1⟩:=HX.out
     have HO:=Lib.hid hown
     go_wp2_with fail
     refine (beside109 x _ (by omega)).mono ?_
     rintro e w1 ⟨A1,n1,c1,rfl,hown1,hb1'⟩
     have HN1:=Lib.hid (own_ints_len hown1)
     have HT0:=Lib.hid (show Two w w1 (.slice (some ⟨b1,off1,none⟩) t cv) t out 1 A1 n1 (ints (fwd x)) from
      ⟨own_below HO.out hb1' (Nat.le_refl _),below_next hB hb1',Rds.of_own hown1,fun y hy=>by
       subst hy
       have q1:=hown1.lt _ rfl
       exact ⟨q1.2,fun e=>by have:=HO.out.lt _ e.symm;omega⟩⟩)
     obtain ⟨_,_,hv1,q1,q2⟩:=own_slice hown1
     injection hv1 with e1 e2 e3
     subst e1 e3
     clear e2 hown hown1 hc1
     unfold maxLen at q2
     go_wp2_with fail
     go_loopw [3,4,7] (fun v z j wr=>∃ (ch:Bool) (m t:Nat) (out:List Int),z=.bool ch∧j=.int .i64 m∧m≤n1∧k < t∧Hid (Grew ch t0 t)∧Hid (out.length=t)∧t≤4∧Hid (In3 p k m x out)∧Two w wr v t out 1 A1 n1 (ints (fwd x))) (fun _ _ j _=>n1 - (intOf j).toNat)
     case atStart=>exact ⟨ch,0,t,out,rfl,rfl,by omega,hlt,HG,HL,ht,HI0,HT0.out⟩
     case round =>
      clear HO HT0 HI0 HS HL HG
      obtain ⟨ch,m,t,out,rfl,rfl,hm,hkt,HG,HL,ht,HS,hT⟩:=hrel
      have HT:=Lib.hid hT
      obtain ⟨Av,cv,rfl,hmc,hcv⟩:=own_slice hT.1
      unfold maxLen at hcv
      by_cases hlt:m < n1
      ·obtain ⟨b2,off2,hl2,hA2,hb2,hc2⟩:=hT.2.2.1.int_at hlt
       subst hA2
       clear hT
       have HMO:=Lib.hid (fun hm=>HS.out.more h0 h1 hl2 rfl hm)
       have HSK:=Lib.hid (fun hm=>HS.out.skip hl2 rfl hm)
       obtain ⟨q,hq⟩:∃ r,r=(fwd x)[m]:=⟨_,rfl⟩
       rw [← hq] at hc2 HMO HSK
       clear hq
       have C:=Lib.hid (hasInt64 out q Av t cv _ (by unfold maxLen;omega) (Rds.of_own HT.out.1))
       have n2:=World.new_ne wr
       cases hh:hasI out q
       ·have HH:=Lib.hid hh
        rw [hh] at C
        have HLEN:=Lib.hid ((HMO.out hh).1.len h0 h1)
        have hlen4:t+1≤4:=by have:=HLEN.out;have:=HL.out;simp at *;omega
        clear hh
        have hc2':∀ o:Obj,(wr.alloc o).cell? ⟨b2,off2+m,none⟩=some (.int .i64 q):=fun o=>by rw [World.cell?_alloc_lt _ _ _ hb2];exact hc2
        have R:=Lib.hid (Rds.new wr 1 1 #[.int .i64 q] 3 (ints [q]) rfl rfl)
        have hsz:=HT.out.2.1.size
        clear hc2'
        go_wp2_with fail
        refine C.out.mono ?_
        rintro e w' ⟨rfl,rfl⟩
        go_wp2_with (at_builtin;refine app_ints (.tmp 42) (.tmp 47) (base:=w.heap.size) (HT.out.1.alloc _) R.out (by omega) (by simp;omega) rfl rfl rfl rfl ?_;intro v3 w3 hown3 hg3 hat3)
        simp at hat3
        go_roundw
        case rel=>exact ⟨true,m+1,t+1,out ++ [q],rfl,by go_num,by omega,by omega,⟨by have:=HG.out.1;omega,fun _=>by have:=HG.out.1;omega⟩,by have:=HL.out;show (out ++ [q]).length=t+1;simp;omega,hlen4,HMO.out HH.out,HT.out.more hown3 hg3 hat3⟩
        case measure=>simp [intOf];omega
       ·have HH:=Lib.hid hh
        rw [hh] at C
        clear hh
        go_wp2_with fail
        refine C.out.mono ?_
        rintro e w' ⟨rfl,rfl⟩
        go_wp2
        go_roundw
        case rel=>exact ⟨ch,m+1,t,out,rfl,by go_num,by omega,hkt,HG,HL,ht,HSK.out HH.out,HT.out⟩
        case measure=>simp [intOf];omega
      ·obtain rfl:m=n1:=by omega
       clear hT
       have HD:=Lib.hid (HS.out.done (by rw [HN1.out];exact Nat.le_refl _))
       go_wp2
       go_roundw
       case rel=>exact ⟨ch,k+1,t,out,rfl,by go_num,by omega,HG,HL,ht,HD,HT.out.1,HT.out.2.1⟩
       case measure=>simp [intOf];omega
    ·obtain rfl:k=t:=by omega
     have HF2:=Lib.hid (show ∀ x ∈ out,∀ q ∈ fwd x,q ∈ out from fun x hx=>HS.out.2 x (by rw [List.take_of_length_le (by rw [HL.out];exact Nat.le_refl _)];exact hx))
     have HOS:=Lib.hid HS.out.1
     have HOW:=Lib.hid hown
     clear hown
     go_wp2_with fail
     go_loopw [3,4,8] (fun v z i wr=>∃ (ch:Bool) (m t:Nat) (out:List Int),z=.bool ch∧i=.int .i64 m∧m≤t∧Hid (Grew ch t0 t)∧Hid (out.length=t)∧t≤4∧Hid (OrbSt p out∧F4 out m∧(ch=false→∀ x ∈ out,∀ q ∈ fwd x,q ∈ out))∧wr.ownsRow w.heap.size 3 1 v t (ints out)∧Below w.heap.size w wr) (fun _ _ i _=>5 - (intOf i).toNat)
     case atStart=>exact ⟨ch,0,k,out,rfl,rfl,by omega,HG,HL,ht,⟨HOS.out,fun x hx=>by simp at hx,fun _=>HF2.out⟩,HOW.out,hB⟩
     case round =>
      clear HOW hB HF2 HOS HS HL HG
      obtain ⟨ch,m,t,out,rfl,rfl,hkt,HG,HL,ht,HS,hown,hB⟩:=hrel
      obtain ⟨Av,cv,rfl,hmc,hcv⟩:=own_slice hown
      unfold maxLen at hcv
      by_cases hlt:m < t
      ·obtain ⟨b1,off1,hl1,hA,hb1,hc1⟩:=(Rds.of_own hown).int_at hlt
       subst hA
       have HX:=Lib.hid (besP_rng (q:=0) h0 h1 (HS.out.1.sub _ (List.getElem_mem hl1)))
       have HI0:=Lib.hid (show In5 p m 0 out[m] out from ⟨HS.out.1,HS.out.2.1,⟨hl1,rfl⟩,fun q hq=>by simp at hq⟩)
       have HF:=Lib.hid HS.out.2.2
       obtain ⟨x,hx⟩:∃ r,r=out[m]:=⟨_,rfl⟩
       rw [← hx] at hc1 HX HI0
       clear hx
       obtain ⟨x0,x1⟩:=HX.out
       have HO:=Lib.hid hown
       have hblk:=hown.lt b1 rfl
       obtain ⟨wo,rfl⟩:∃ wo:World,wo=wr:=⟨_,rfl⟩
       have i1:(0:Int)≤(m:Int):=by omega
       have i2:(m:Int) < (t:Int):=by omega
       have n1:=World.new_ne wo
       have W1:=Lib.hid (show IntKind.i64.wrap (x - 32)=x - 32 from IntWalk.i64_in _ (by omega))
       have W2:=Lib.hid (show IntKind.i64.wrap (x - 1)=x - 1 from IntWalk.i64_in _ (by omega))
       have W3:=Lib.hid (show IntKind.i64.wrap (x - 80)=x - 80 from IntWalk.i64_in _ (by omega))
       have hbn:Below wo.heap.size wo (wo.alloc (.cells #[.int .i64 (x - 32),.int .i64 (x - 1),.int .i64 (x - 80),.int .i64 181,.int .i64 8490,.int .i64 8491,.int .i64 7838] 3)):=(Below.refl _ _).alloc (Nat.le_refl _) _
       have HT0:=Lib.hid (show Two w (wo.alloc (.cells #[.int .i64 (x - 32),.int .i64 (x - 1),.int .i64 (x - 80),.int .i64 181,.int .i64 8490,.int .i64 8491,.int .i64 7838] 3)) (.slice (some ⟨b1,off1,none⟩) t cv) t out 1 (some ⟨wo.heap.size,0,none⟩) 7 (ints (near x)) from
        ⟨own_below HO.out hbn (Nat.le_refl _),below_next hB hbn,(Rds.new wo 1 7 #[.int .i64 (x - 32),.int .i64 (x - 1),.int .i64 (x - 80),.int .i64 181,.int .i64 8490,.int .i64 8491,.int .i64 7838] 3 (ints (near x)) rfl rfl).more (by simp),fun y hy=>by
         injection hy with hy
         subst hy
         exact ⟨by simp,fun e=>by have:=HO.out.lt wo.heap.size e.symm;omega⟩⟩)
       clear hbn hown
       go_upto_region 17 with (fail)
       have w1:=W1.out
       have w2:=W2.out
       have w3:=W3.out
       go_region_held3 (fun w'=>w'.cell? ⟨b1,off1+m,none⟩=some (.int .i64 x))
        (first
         | (exact hc1)
         | go_keep)
        (fail)
       clear w1 w2 w3 W1 W2 W3 n1 hc1
       go_wp2_with fail
       go_loopw [3,4,10] (fun v z j wr=>∃ (ch:Bool) (i t:Nat) (out:List Int),z=.bool ch∧j=.int .i64 i∧i≤7∧m < t∧Hid (Grew ch t0 t)∧Hid (out.length=t)∧t≤4∧Hid (In5 p m i x out∧(ch=false→∀ x ∈ out,∀ q ∈ fwd x,q ∈ out))∧Two w wr v t out 1 (some ⟨wo.heap.size,0,none⟩) 7 (ints (near x))) (fun _ _ j _=>7 - (intOf j).toNat)
       case atStart=>exact ⟨ch,0,t,out,rfl,rfl,by omega,hlt,HG,HL,ht,⟨HI0.out,HF.out⟩,by first|exact HT0.out|exact HT0.out.drew⟩
       case round =>
        clear HO HT0 HI0 HS HL HG HF hB
        obtain ⟨ch,i,t,out,rfl,rfl,hi,hmt,HG,HL,ht,HS,hT⟩:=hrel
        have HT:=Lib.hid hT
        obtain ⟨Av,cv,rfl,hmc,hcv⟩:=own_slice hT.1
        unfold maxLen at hcv
        by_cases hlt:i < 7
        ·obtain ⟨b2,off2,hl2,hA2,hb2,hc2⟩:=hT.2.2.1.int_at hlt
         injection hA2 with hA2
         injection hA2 with e1 e2
         subst e1 e2
         clear hT
         have HMO:=Lib.hid (fun hx hm=>HS.out.1.more h0 h1 hl2 rfl hx hm)
         have HSK:=Lib.hid (fun hm=>HS.out.1.skip hl2 rfl hm)
         have hrg:=near_rng x0 x1 i hl2
         obtain ⟨q,hq⟩:∃ r,r=(near x)[i]:=⟨_,rfl⟩
         rw [← hq] at hc2 HMO HSK hrg
         clear hq
         rw [Nat.zero_add] at hc2
         obtain ⟨hxm,hxe⟩:=HS.out.1.2.2.1
         obtain ⟨b3,off3,hl3,hA3,hb3,hc3⟩:=(Rds.of_own HT.out.1).int_at (k:=m) hmt
         subst hA3
         rw [hxe] at hc3
         clear hxe
         have hbl:=HT.out.1.lt b3 rfl
         have hgw:=(HT.out.2.2.2 _ rfl).1
         go_wp2_with fail
         refine (beside109 q _ hrg).mono ?_
         rintro e w1 ⟨A1,n1,c1,rfl,hown1,hb1'⟩
         have HT1:=Lib.hid (HT.out.next hb1')
         have hc2':w1.cell? ⟨wo.heap.size,i,none⟩=some (.int .i64 q):=by rw [hb1'.cell (p:=⟨wo.heap.size,i,none⟩) hgw];exact hc2
         have hc3':w1.cell? ⟨b3,off3+m,none⟩=some (.int .i64 x):=by rw [hb1'.cell (p:=⟨b3,off3+m,none⟩) hb3];exact hc3
         have HR1:=Lib.hid (Rds.of_own hown1)
         obtain ⟨_,_,hv1,q1,q2⟩:=own_slice hown1
         injection hv1 with e1 e2 e3
         subst e1 e3
         clear e2 hown1 hc2 hc3
         have C1:=Lib.hid (hasInt64 (fwd q) x A1 n1 c1 _ (by omega) HR1.out)
         have C2:=Lib.hid (hasInt64 out q _ t cv _ (by unfold maxLen;omega) (Rds.of_own HT1.out.1))
         unfold maxLen at q2
         cases hx1:hasI (fwd q) x
         ·have HX1:=Lib.hid hx1
          rw [hx1] at C1
          have HSK2:=Lib.hid (HSK.out fun h=>by rw [(hasI_iff _ _).2 h] at hx1;cases hx1)
          clear hx1
          go_wp2_with fail
          refine C1.out.mono ?_
          rintro e w' ⟨rfl,rfl⟩
          go_wp2
          go_roundw
          case rel=>exact ⟨ch,i+1,t,out,rfl,by go_num,by omega,hmt,HG,HL,ht,⟨HSK2.out,HS.out.2⟩,HT1.out⟩
          case measure=>simp [intOf];omega
         ·have HX1:=Lib.hid ((hasI_iff _ _).1 hx1)
          rw [hx1] at C1
          clear hx1
          cases hh:hasI out q
          ·have HH:=Lib.hid hh
           rw [hh] at C2
           clear hh
           have HLEN:=Lib.hid ((HMO.out HX1.out HH.out).1.len h0 h1)
           have hlen4:t+1≤4:=by have:=HLEN.out;have:=HL.out;simp at *;omega
           have R:=Lib.hid (Rds.new w1 1 1 #[.int .i64 q] 3 (ints [q]) rfl rfl)
           have hsz:=HT1.out.2.1.size
           have n2:=World.new_ne w1
           go_wp2_with fail
           refine C1.out.mono ?_
           rintro e w' ⟨rfl,rfl⟩
           go_wp2_with fail
           refine C2.out.mono ?_
           rintro e w' ⟨rfl,rfl⟩
           go_wp2_with (at_builtin;refine app_ints (.tmp 97) (.tmp 102) (base:=w.heap.size) (HT1.out.1.alloc _) R.out (by omega) (by simp;omega) rfl rfl rfl rfl ?_;intro v3 w3 hown3 hg3 hat3)
           simp at hat3
           go_roundw
           case rel=>exact ⟨true,i+1,t+1,out ++ [q],rfl,by go_num,by omega,by omega,⟨by have:=HG.out.1;omega,fun _=>by have:=HG.out.1;omega⟩,by have:=HL.out;show (out ++ [q]).length=t+1;simp;omega,hlen4,⟨HMO.out HX1.out HH.out,fun h=>by cases h⟩,HT1.out.more hown3 hg3 hat3⟩
           case measure=>simp [intOf];omega
          ·have HSK2:=Lib.hid (HSK.out fun _=>(hasI_iff _ _).1 hh)
           rw [hh] at C2
           clear hh
           go_wp2_with fail
           refine C1.out.mono ?_
           rintro e w' ⟨rfl,rfl⟩
           go_wp2_with fail
           refine C2.out.mono ?_
           rintro e w' ⟨rfl,rfl⟩
           go_wp2
           go_roundw
           case rel=>exact ⟨ch,i+1,t,out,rfl,by go_num,by omega,hmt,HG,HL,ht,⟨HSK2.out,HS.out.2⟩,HT1.out⟩
           case measure=>simp [intOf];omega
        ·obtain rfl:i=7:=by omega
         clear hT
         have HD:=Lib.hid (HS.out.1.done (Nat.le_refl 7))
         go_wp2
         go_roundw
         case rel=>exact ⟨ch,m+1,t,out,rfl,by go_num,by omega,HG,HL,ht,⟨HD.out.1,HD.out.2,HS.out.2⟩,HT.out.1,HT.out.2.1⟩
         case measure=>simp [intOf];omega
      ·obtain rfl:m=t:=by omega
       have HE:=Lib.hid (show OrbSt p out∧(ch=false→∀ x ∈ out,∀ q ∈ besP x,q ∈ out) from ⟨HS.out.1,fun hc=>F24.done (HS.out.2.2 hc) (by rw [HL.out];exact HS.out.2.1)⟩)
       go_wp2
       go_roundw
       case rel=>exact ⟨ch,m,out,rfl,HL,ht,HE,hown,hB⟩
       case measure =>
        have h1:=HG.out.1
        have h2:=HG.out.2
        cases ch
        ·simp [lenOf,bitOf];omega
        ·have:=h2 rfl;simp [lenOf,bitOf];omega
end Go.Proofs.YtbiahhojnjchnaaGreat
