/-
  A bracket expression behind its [, of the reference: walked, over what its parts tell. An item of a bracket expression, of the reference, in general: joined. A bracket expression at any depth, of the reference: joined.
-/
import Derived.Test.YtbiahhojnjchnaaGreatBhD
import Derived.Test.YtbiahhojnjchnaaGreatBgQ
import Derived.Test.YtbiahhojnjchnaaGreatHB
set_option linter.unusedVariables false
set_option linter.unusedSimpArgs false
namespace Go.Proofs.YtbiahhojnjchnaaGreat
open Go.RowKit
def RFoldC (FQ:(Int→Prop)→Int→Prop):Prop:=∀ (a:List (Int × Int)) (A:Option Addr) (n c:Nat) (w:World),n≤400000→c≤maxLen→Can a→Rds w w.heap.size 2 A n (rngs a) →
 Calls Tryz.prog 63 #[.slice A n c] w fun e w'=>∃ out,IsSet out (FQ (mem a))∧OwnRngs w out e w'
def RMeetC:Prop:=∀ (a b:List (Int × Int)) (A B:Option Addr) (n c m d:Nat) (w:World),n+m≤500000→c≤maxLen→d≤maxLen→Can a→Can b→Rds w w.heap.size 2 A n (rngs a)→Rds w w.heap.size 2 B m (rngs b) →
 Calls Tryz.prog 64 #[.slice A n c,.slice B m d] w fun e w'=>∃ out,(IsSet out fun p=>mem a p∧mem b p)∧OwnRngs w out e w'
/-- what is asked of the parts of an expression -/
structure PartsR (b n c:Nat) (d:Int) (fo:Bool) (dp:Int) (A:Option Addr) (l:List Int) (FQ:(Int→Prop)→Int→Prop) (S:Int→BR SP) (G:(Int→Prop)→Int→Prop):Prop where
 part:∀ (first:Bool) (p:Int) W,Rs b n c d fo dp A l p W→Calls Tryz.prog 62 #[.pointer (some ⟨b,0,none⟩),.bool first] W (RP b n c d fo dp A l (partP d l S first (((l.length:Int) - p).toNat+1) 0 (fun _=>False) p) W)
 ahd:∀ (first:Bool) (p:Int) (r:SP),0≤p→partP d l S first (((l.length:Int) - p).toNat+1) 0 (fun _=>False) p=.ok r→p≤r.2
 short:∀ (first:Bool) (p:Int) (r:SP) (out:List (Int × Int)),0≤p→p≤n→r.2≤n→partP d l S first (((l.length:Int) - p).toNat+1) 0 (fun _=>False) p=.ok r→IsSet out r.1→out.length≤50000
 bad:∀ (first:Bool) (p:Int) (q:Int × Int),0≤p→partP d l S first (((l.length:Int) - p).toNat+1) 0 (fun _=>False) p=.error q→q.1≠0
 g0:∀ (p:Int) (r:SP),0≤p→partP d l S true (((l.length:Int) - p).toNat+1) 0 (fun _=>False) p=.ok r→G (FQ r.1) r.2
 g1:∀ (f:Int→Prop) (p:Int) (r:SP),0≤p→G f p→partP d l S false (((l.length:Int) - (p+2)).toNat+1) 0 (fun _=>False) (p+2)=.ok r→G (fun q=>f q∧FQ r.1 q) r.2
 gl:∀ (f:Int→Prop) (p:Int) (out:List (Int × Int)),G f p→p≤n→IsSet out f→out.length≤30000
 gf:∀ (p:Int) (r:SP),0≤p→partP d l S false (((l.length:Int) - p).toNat+1) 0 (fun _=>False) p=.ok r→G (FQ r.1) r.2
theorem isSet_none {out:List (Int × Int)} (h:IsSet out (fun _=>False)):out=[]:=by
 cases out with
 | nil=>rfl
 | cons r o =>
  have h1:=(okR_iff r).1 (h.1.1 r (by simp))
  exact ((h.2 r.1).1 ⟨r,by simp,Int.le_refl _,h1.2.1⟩).elim
set_option maxRecDepth 100000 in
set_option maxHeartbeats 16000000 in
theorem rwhole {b n c:Nat} {d dp at_:Int} {fo:Bool} {A:Option Addr} {l:List Int} {w:World} {FQ:(Int→Prop)→Int→Prop} {S:Int→BR SP} {G:(Int→Prop)→Int→Prop} {nt:Bool} {a:Int}
  (HF:Hid (fo=true→RFoldC FQ)) (HFI:Hid (fo=false→∀ f,FQ f=f)) (HM:Hid RMeetC) (HN:Hid RNotC) (HP:Hid (PartsR b n c d fo dp A l FQ S G)) (h:Rs b n c d fo dp A l at_ w) (hnt:saysB l at_ [94]=nt) (ha:a=if nt=true then at_+1 else at_) :
  Calls Tryz.prog 32 #[.pointer (some ⟨b,0,none⟩)] w (RW b n c d fo dp A l (turnG nt (allG d l FQ S a)) w):=by
 have hlen:=h.rb.len
 have hlo:=h.lo
 have hlt:=h.rb.lt
 have hhi:=h.hi
 have hsm:=h.rb.small
 have HA:=Lib.hid ha
 have HS0:=Lib.hid h
 have ha2:0≤a∧a≤n:=by
  cases nt with
  | false=>simp at ha;omega
  | true=>have:=says_fit hlen [94] at_ hlo (by simp) (by simp) hnt;simp at ha this;omega
 have CS:=Lib.hid (h.rb.says (p:=at_) (s:=⟨#[94]⟩) (v:=nt) (by omega) (by decide) ((saysP_b1 l at_ 94).trans hnt))
 have HP1:=Lib.hid (fun first p W hW=>HP.out.part first p W hW)
 obtain ⟨R,hR⟩:∃ R,R=turnG nt (allG d l FQ S a):=⟨_,rfl⟩
 rw [← hR]
 have HR:=Lib.hid hR
 clear h hnt ha hR
 obtain ⟨c0,c1,c2,c3,c4,c5,c6,f2,f4⟩:=HS0.out.rb.cells
 go_enter Tryz.func32,Tryz.ntmps32
 go_upto_region 1 with (fail)
 go_quiet ((go_at_call 61;exact (CS.out _)))
 go_upto_region 2 with (fail)
 obtain ⟨V,hV⟩:∃ V,V=w.drewN nq:=⟨_,rfl⟩
 have HB1:=Lib.hid (show Below w.heap.size w V by rw [hV];exact below_drewN (Below.refl _ _) _)
 rw [← hV]
 clear hV c0 c1 c2 c3 c4 c5 c6 f2 f4
 have HS1:=Lib.hid (HS0.out.next HB1.out)
 obtain ⟨c0,c1,c2,c3,c4,c5,c6,f2,f4⟩:=HS1.out.rb.cells
 go_upto_if 15 with (fail)
 go_cut [3] from 15 to 23 (fun v wc=>v=.bool nt∧Hid (Rs b n c d fo dp A l a wc)∧Hid (Kept b w wc))
 ·cases nt with
  | true =>
   have EA:=Lib.hid (show at_+1=a by have:=HA.out;simp at this;omega)
   have W1:IntKind.i64.wrap (at_+1)=at_+1:=IntWalk.i64_in _ (by omega)
   have HS2:=Lib.hid (HS1.out.move (y:=at_+1) (by omega) (by have:=EA.out;omega))
   go_wp2_with fail
   go_meet
   exact ⟨rfl,Lib.hid (by rw [← EA.out];exact HS2.out),Lib.hid ((Kept.of HB1.out).set 2 _)⟩
  | false =>
   have EA:=Lib.hid (show at_=a by have:=HA.out;simp at this;omega)
   go_wp2_with fail
   go_meet
   exact ⟨rfl,Lib.hid (by rw [← EA.out];exact HS1.out),Lib.hid (Kept.of HB1.out)⟩
 obtain ⟨rfl,HS3,HK3⟩:=hcut
 clear c0 c1 c2 c3 c4 c5 c6 f2 f4 HS0 HA HS1 HB1 CS
 have HC3:=Lib.hid (HP1.out true a wc HS3.out)
 cases hp:partP d l S true (((l.length:Int) - a).toNat+1) 0 (fun _=>False) a with
 | error q =>
  have HE:=Lib.hid (show R=.error q by rw [HR.out];unfold allG;rw [hp];rfl)
  have hq0:=HP.out.bad true a q ha2.1 hp
  have hqb:(q.1 == 0)=false:=beq_eq_false_iff_ne.2 hq0
  rw [hp] at HC3
  clear hp hq0 HR
  go_upto_region 5 with (go_at_call 62;(with_reducible refine HC3.out.mono ?_);rintro e w4 ⟨hk,A4,n4,c4,o4,rfl,hown,hset,hf⟩)
  have HF4:=Lib.hid hf
  have HK4:=Lib.hid (HK3.out.trans hk)
  have HO4:=Lib.hid (own_mono hown HK3.out.size)
  have hn4:n4=0:=by have:=own_rngs_len hown;rw [isSet_none hset] at this;exact this
  have ho4:=isSet_none hset
  subst ho4
  subst hn4
  obtain ⟨a',p',hrb⟩:=hf
  obtain ⟨c0,c1,c2,c3,c4',c5,c6,f2,f4⟩:=hrb.cells
  have HRB:=Lib.hid hrb
  obtain ⟨z,hz⟩:∃ z,IntKind.i64.wrap (a'+1)=z:=⟨_,rfl⟩
  have hcap:=own_slice_cap hown
  clear hown hset hrb hk HC3
  cases fo
  all_goals
   go_wp2_with fail
   go_loopw [4,5] (fun v u wr=>v=.slice A4 0 c4∧wr=w4) (fun _ _ _=>0)
   case atStart=>exact ⟨rfl,rfl⟩
   case round =>
    obtain ⟨rfl,rfl⟩:=hrel
    go_upto_region 7 with (fail)
    go_quiet (fail)
    go_upto_region 15 with (fail)
    obtain ⟨W,hW⟩:∃ W,W=wr.drewN nq:=⟨_,rfl⟩
    have HBW:=Lib.hid (show Below wr.heap.size wr W by rw [hW];exact below_drewN (Below.refl _ _) _)
    rw [← hW]
    clear hW c0 c1 c2 c3 c4' c5 c6 f2 f4
    have HRW:=Lib.hid (HRB.out.next HBW.out)
    have HOW:=Lib.hid (own_below HO4.out HBW.out (Nat.le_refl _))
    obtain ⟨c0,c1,c2,c3,c4',c5,c6,f2,f4⟩:=HRW.out.cells
    have HRX:=Lib.hid (HRW.out.set (j:=2) (v:=.int .i64 z) rfl)
    have HOX:=Lib.hid (own_keptb HOW.out ((Kept.refl b W).set 2 (.int .i64 z)) hlt)
    have HKX:=Lib.hid (((HK4.out.trans (Kept.of HBW.out))).set 2 (.int .i64 z))
    go_upto_if 87 with (fail)
    obtain ⟨X,hX⟩:∃ X,X=W.setCell ⟨b,2,none⟩ (.int .i64 z):=⟨_,rfl⟩
    rw [← hX] at HRX HOX HKX ⊢
    have CN:=Lib.hid (HN.out [] A4 0 c4 X (by omega) hcap (by simp) (Rds.of_own HOX.out))
    clear hX c0 c1 c2 c3 c4' c5 c6 f2 f4
    cases nt
    ·go_wp2
     go_ret
     rw [HE.out]
     exact ⟨HKX.out,_,_,_,rfl,_,_,HRX.out⟩
    ·go_wp2_with (go_at_call 65;(with_reducible refine CN.out.mono ?_);rintro e w7 ⟨out,hset7,A7,n7,c7,rfl,hown7,hb7⟩)
     go_ret
     rw [HE.out]
     exact ⟨HKX.out.trans (Kept.of hb7),_,_,_,rfl,_,_,HRX.out.next hb7⟩
 | ok r0 =>
  have HPO:=Lib.hid hp
  rw [hp] at HC3
  have HRM:=Lib.hid (show R=turnG nt (moreG d l FQ S (((l.length:Int) - r0.2).toNat+1) (FQ r0.1) r0.2) by rw [HR.out];unfold allG;rw [hp])
  have HEND:=Lib.hid (part_end _ _ _ _ _ hp)
  have HG0:=Lib.hid (HP.out.g0 a r0 ha2.1 hp)
  have hah:=HP.out.ahd true a r0 ha2.1 hp
  clear hp
  go_upto_region 5 with (go_at_call 62;(with_reducible refine HC3.out.mono ?_);rintro e w4 ⟨hk,A4,n4,c4,o4,rfl,hown,hset,hS⟩)
  have HS4:=Lib.hid hS
  have HK4:=Lib.hid (HK3.out.trans hk)
  have HO4:=Lib.hid (own_mono hown HK3.out.size)
  have HSET4:=Lib.hid hset
  have hcap4:=own_slice_cap hown
  have hn4:n4≤50000:=by have h1:=HP.out.short true a r0 o4 ha2.1 ha2.2 hS.hi HPO.out hset;have h2:=own_rngs_len hown;omega
  clear hk hset hown hS HC3 HR
  obtain ⟨c0,c1,c2,c3,c4',c5,c6,f2,f4⟩:=HS4.out.rb.cells
  go_cut [36] from 25 to 37 (fun v wc=>v=.bool fo∧wc=w4)
  ·cases fo
   all_goals
    go_wp2_with fail
    go_meet
    exact ⟨rfl,rfl⟩
  obtain ⟨rfl,rfl⟩:=hcut
  go_upto_if 36 with (fail)
  go_cut [4] from 37 to 39 (fun v wc=>∃ A5 n5 c5 o5,v=.slice A5 n5 c5∧Hid (IsSet o5 (FQ r0.1))∧Hid (wc.ownsRow w.heap.size 67 2 (.slice A5 n5 c5) n5 (rngs o5))∧Hid (Rs b n c d fo dp A l r0.2 wc)∧Hid (Kept b w wc))
  ·cases fo with
   | true =>
    have CF:=Lib.hid (HF.out rfl o4 A4 n4 c4 _ (by omega) hcap4 HSET4.out.1 (Rds.of_own HO4.out))
    go_wp2_with (go_at_call 63;(with_reducible refine CF.out.mono ?_);rintro e w5 ⟨o5,hset,A5,n5,c5,rfl,hown,hb⟩)
    go_meet
    exact ⟨A5,n5,c5,o5,rfl,Lib.hid (by rw [← mem_fun HSET4.out];exact hset),Lib.hid (own_mono hown HK4.out.size),Lib.hid (HS4.out.next hb),Lib.hid (HK4.out.trans (Kept.of hb))⟩
   | false =>
    go_wp2_with fail
    go_meet
    exact ⟨A4,n4,c4,o4,rfl,Lib.hid (by rw [HFI.out (by first|rfl|trivial)];exact HSET4.out),HO4,HS4,HK4⟩
  obtain ⟨A5,n5,cc5,o5,rfl,HSET5,HO5,HS5,HK5⟩:=hcut
  clear HS4 HK4 HO4 HSET4 c0 c1 c2 c3 c4' c5 c6 f2 f4
  go_wp2_with fail
  go_loopw [4,5] (fun v u wr=>∃ (m k:Nat) (o:List (Int × Int)) (f:Int→Prop) (p:Int),Hid (turnG nt (moreG d l FQ S (m+1) f p)=R)∧Hid ((n:Int) - p≤m)∧Hid (G f p)∧Hid (ptAt l p=93∨saysB l p [38,38]=true)∧Hid (wr.ownsRow w.heap.size 67 2 v k (rngs o))∧Hid (IsSet o f)∧Hid (Rs b n c d fo dp A l p wr)∧Hid (Kept b w wr)) (fun _ _ wr=>n - placeOf b wr)
  case atStart=>exact ⟨((l.length:Int) - r0.2).toNat,_,_,FQ r0.1,r0.2,Lib.hid HRM.out.symm,Lib.hid (by rw [hlen];omega),HG0,HEND,HO5,HSET5,HS5,HK5⟩
  case round =>
   clear HG0 HEND HO5 HSET5 HS5 HK5 HRM HPO HS3 HK3 hn4 hah ha2
   obtain ⟨m,k,o,f,p,HE,HMM,HG,HEN,HO1,HSET1,HS1,HK1⟩:=hrel
   have hp0:=HS1.out.lo
   have hp1:=HS1.out.hi
   have CS:=Lib.hid (fun v (hv:saysB l p [38,38]=v)=>HS1.out.rb.says (p:=p) (s:=⟨#[38,38]⟩) (v:=v) (by omega) (by decide) ((saysP_b2 l p 38 38).trans hv))
   obtain ⟨c0,c1,c2,c3,c4',c5,c6,f2,f4⟩:=HS1.out.rb.cells
   obtain ⟨A1,cc1,rfl,-,hcap1⟩:=own_slice HO1.out
   go_upto_region 7 with (fail)
   cases h38:saysB l p [38,38] with
   | true =>
    have C38:=Lib.hid (CS.out true h38)
    have N38:=Lib.hid h38
    clear h38
    go_quiet ((go_at_call 61;exact (C38.out _)))
    have hpf:=says_fit HS1.out.rb.len [38,38] p hp0 (by simp) (by simp) N38.out
    have hpl:placeOf b wr=p.toNat:=by unfold placeOf;rw [c2];rfl
    have HPL:=Lib.hid hpl
    simp only [List.length_cons,List.length_nil] at hpf
    have W2:IntKind.i64.wrap (p+2)=p+2:=IntWalk.i64_in _ (by omega)
    clear hpl CS C38
    obtain ⟨W,hW⟩:∃ W,W=wr.drewN nq:=⟨_,rfl⟩
    have HBW:=Lib.hid (show Below wr.heap.size wr W by rw [hW];exact below_drewN (Below.refl _ _) _)
    rw [← hW]
    clear hW c0 c1 c2 c3 c4' c5 c6 f2 f4
    have HSW:=Lib.hid (HS1.out.next HBW.out)
    have HOW:=Lib.hid (own_below HO1.out HBW.out (Nat.le_refl _))
    obtain ⟨c0,c1,c2,c3,c4',c5,c6,f2,f4⟩:=HSW.out.rb.cells
    have HSX:=Lib.hid (HSW.out.move (y:=p+2) (by omega) (by omega))
    have HOX:=Lib.hid (own_keptb HOW.out ((Kept.refl b W).set 2 (.int .i64 (p+2))) hlt)
    have HKX:=Lib.hid (((HK1.out.trans (Kept.of HBW.out))).set 2 (.int .i64 (p+2)))
    go_upto_region 9 with (fail)
    obtain ⟨X,hX⟩:∃ X,X=W.setCell ⟨b,2,none⟩ (.int .i64 (p+2)):=⟨_,rfl⟩
    rw [← hX] at HSX HOX HKX ⊢
    clear hX c0 c1 c2 c3 c4' c5 c6 f2 f4 HSW HOW HS1 HO1 HK1 HBW
    have HC2:=Lib.hid (HP1.out false (p+2) X HSX.out)
    cases hp:partP d l S false (((l.length:Int) - (p+2)).toNat+1) 0 (fun _=>False) (p+2) with
    | error q =>
     have HER:=Lib.hid (show R=.error q by rw [← HE.out,moreG,if_pos N38.out,hp];rfl)
     have hq0:=HP.out.bad false (p+2) q (by omega) hp
     have hqb:(q.1 != 0)=true:=by simp [hq0]
     rw [hp] at HC2
     clear hp hq0 HE
     go_upto_region 10 with (go_at_call 62;(with_reducible refine HC2.out.mono ?_);rintro e w4 ⟨hk,A4,n4,c4,o4,rfl,hown,hset,hf⟩)
     have HF4:=Lib.hid hf
     have HK4:=Lib.hid (HKX.out.trans hk)
     obtain ⟨a',p',hrb⟩:=hf
     obtain ⟨c0,c1,c2,c3,c4',c5,c6,f2,f4⟩:=hrb.cells
     clear hrb hk hset hown
     go_wp2
     go_ret
     rw [HER.out]
     exact ⟨HK4.out,_,_,_,rfl,HF4.out⟩
    | ok r1 =>
     have HPO:=Lib.hid hp
     have HRM:=Lib.hid (show turnG nt (moreG d l FQ S m (fun q=>f q∧FQ r1.1 q) r1.2)=R by rw [← HE.out,moreG,if_pos N38.out,hp])
     have HEND:=Lib.hid (part_end _ _ _ _ _ hp)
     have HG1:=Lib.hid (HP.out.g1 f p r1 hp0 HG.out hp)
     have HGF:=Lib.hid (HP.out.gf (p+2) r1 (by omega) hp)
     have hah:=HP.out.ahd false (p+2) r1 (by omega) hp
     have hk30:k≤30000:=by have h1:=HP.out.gl f p o HG.out hp1 HSET1.out;have h2:=own_rngs_len HOX.out;omega
     rw [hp] at HC2
     clear hp HE
     go_upto_region 10 with (go_at_call 62;(with_reducible refine HC2.out.mono ?_);rintro e w4 ⟨hk,A4,n4,c4,o4,rfl,hown,hset,hS⟩)
     have HS4:=Lib.hid hS
     have hr1:=hS.hi
     have HK4:=Lib.hid (HKX.out.trans hk)
     have HO4:=Lib.hid (own_mono hown HKX.out.size)
     have HO3:=Lib.hid (own_keptb HOX.out hk hlt)
     have HSET4:=Lib.hid hset
     have hcap4:=own_slice_cap hown
     have hn4:n4≤50000:=by have h1:=HP.out.short false (p+2) r1 o4 (by omega) (by omega) hS.hi HPO.out hset;have h2:=own_rngs_len hown;omega
     clear hk hset hown hS HC2 HOX HSX HKX
     obtain ⟨c0,c1,c2,c3,c4',c5,c6,f2,f4⟩:=HS4.out.rb.cells
     go_upto_if 74 with (fail)
     go_cut [5] from 75 to 77 (fun v wc=>∃ A5 n5 c5 o5,v=.slice A5 n5 c5∧Hid (IsSet o5 (FQ r1.1))∧Hid (wc.ownsRow w.heap.size 67 2 (.slice A5 n5 c5) n5 (rngs o5))∧Hid (wc.ownsRow w.heap.size 67 2 (.slice A1 k cc1) k (rngs o))∧Hid (Rs b n c d fo dp A l r1.2 wc)∧Hid (Kept b w wc))
     ·cases fo with
      | true =>
       have CF:=Lib.hid (HF.out rfl o4 A4 n4 c4 _ (by omega) hcap4 HSET4.out.1 (Rds.of_own HO4.out))
       go_wp2_with (go_at_call 63;(with_reducible refine CF.out.mono ?_);rintro e w5 ⟨o5,hset,A5,n5,c5,rfl,hown,hb⟩)
       go_meet
       exact ⟨A5,n5,c5,o5,rfl,Lib.hid (by rw [← mem_fun HSET4.out];exact hset),Lib.hid (own_mono hown HK4.out.size),Lib.hid (own_below HO3.out hb (Nat.le_refl _)),Lib.hid (HS4.out.next hb),Lib.hid (HK4.out.trans (Kept.of hb))⟩
      | false =>
       go_wp2_with fail
       go_meet
       exact ⟨A4,n4,c4,o4,rfl,Lib.hid (by rw [HFI.out (by first|rfl|trivial)];exact HSET4.out),HO4,HO3,HS4,HK4⟩
     obtain ⟨A5,n5,cc5,o5,rfl,HSET5,HO5,HO6,HS5,HK5⟩:=hcut
     clear HS4 HK4 HO4 HO3 HSET4 c0 c1 c2 c3 c4' c5 c6 f2 f4
     have hn5:n5≤30000:=by have h1:=HP.out.gl _ r1.2 o5 HGF.out hr1 HSET5.out;have h2:=own_rngs_len HO5.out;omega
     have HM1:=Lib.hid (HM.out o o5 A1 A5 k cc1 n5 cc5 _ (by omega) hcap1 (own_slice_cap HO5.out) HSET1.out.1 HSET5.out.1 (Rds.of_own HO6.out) (Rds.of_own HO5.out))
     go_wp2_with (go_at_call 64;(with_reducible refine HM1.out.mono ?_);rintro e w6 ⟨o6,hset,A6,n6,c6,rfl,hown,hb⟩;have HS7:=Lib.hid (HS5.out.next hb);have HK7:=Lib.hid (HK5.out.trans (Kept.of hb));have HO7:=Lib.hid (own_mono hown HK5.out.size);have HSET7:=Lib.hid (show IsSet o6 (fun q=>f q∧FQ r1.1 q) by rw [← mem_fun HSET5.out,← mem_fun HSET1.out];exact hset);clear hset hown hb)
     go_roundw
     case rel=>exact ⟨m - 1,_,o6,_,r1.2,Lib.hid (by rw [show m - 1+1=m by have:=HMM.out;omega];exact HRM.out),Lib.hid (by have:=HMM.out;omega),HG1,HEND,HO7,HSET7,HS7,HK7⟩
     case measure =>
      have h1:placeOf b w6=r1.2.toNat:=by unfold placeOf;rw [HS7.out.rb.cells.2.2.1];rfl
      rw [h1,HPL.out]
      omega
   | false =>
    have C38:=Lib.hid (CS.out false h38)
    have N38:=Lib.hid h38
    have hpt:ptAt l p=93:=HEN.out.elim id (fun e=>by rw [h38] at e;cases e)
    have hp2:=pt_hi hlen (show 0≤ptAt l p by omega)
    have HER:=Lib.hid (show R=turnG nt (.ok (f,p+1)) by rw [← HE.out,moreG,if_neg (by rw [h38];decide)])
    have hk30:k≤30000:=by have h1:=HP.out.gl f p o HG.out hp1 HSET1.out;have h2:=own_rngs_len HO1.out;omega
    have W1:IntKind.i64.wrap (p+1)=p+1:=IntWalk.i64_in _ (by omega)
    clear h38 hpt CS HE HEN
    go_quiet ((go_at_call 61;exact (C38.out _)))
    go_upto_region 15 with (fail)
    obtain ⟨W,hW⟩:∃ W,W=wr.drewN nq:=⟨_,rfl⟩
    have HBW:=Lib.hid (show Below wr.heap.size wr W by rw [hW];exact below_drewN (Below.refl _ _) _)
    rw [← hW]
    clear hW c0 c1 c2 c3 c4' c5 c6 f2 f4
    have HSW:=Lib.hid (HS1.out.next HBW.out)
    have HOW:=Lib.hid (own_below HO1.out HBW.out (Nat.le_refl _))
    obtain ⟨c0,c1,c2,c3,c4',c5,c6,f2,f4⟩:=HSW.out.rb.cells
    have HSX:=Lib.hid (HSW.out.move (y:=p+1) (by omega) (by omega))
    have HOX:=Lib.hid (own_keptb HOW.out ((Kept.refl b W).set 2 (.int .i64 (p+1))) hlt)
    have HKX:=Lib.hid (((HK1.out.trans (Kept.of HBW.out))).set 2 (.int .i64 (p+1)))
    go_upto_if 87 with (fail)
    obtain ⟨X,hX⟩:∃ X,X=W.setCell ⟨b,2,none⟩ (.int .i64 (p+1)):=⟨_,rfl⟩
    rw [← hX] at HSX HOX HKX ⊢
    have CN:=Lib.hid (HN.out o A1 k cc1 X (by omega) hcap1 HSET1.out.1.1 (Rds.of_own HOX.out))
    clear hX c0 c1 c2 c3 c4' c5 c6 f2 f4
    cases nt
    ·go_wp2
     go_ret
     rw [HER.out]
     exact ⟨HKX.out,_,_,_,rfl,o,HSET1.out,HOX.out,HSX.out⟩
    ·go_wp2_with (go_at_call 65;(with_reducible refine CN.out.mono ?_);rintro e w7 ⟨out,hset7,A7,n7,c7,rfl,hown7,hb7⟩)
     go_ret
     rw [HER.out]
     exact ⟨HKX.out.trans (Kept.of hb7),_,_,_,rfl,out,by show IsSet out (fun q=>0≤q∧q≤1114111∧¬ f q);rw [← mem_fun HSET1.out];exact hset7,own_mono hown7 HKX.out.size,HSX.out.next hb7⟩
end Go.Proofs.YtbiahhojnjchnaaGreat
namespace Go.Proofs.YtbiahhojnjchnaaGreat
open Go.RowKit
section
variable {b n c:Nat} {d dp:Int} {fo:Bool} {A:Option Addr} {l:List Int} {w:World} {p:Int}
theorem ritem_name (HI:Hid RIsC) (HC:Hid RClsC) (HN:Hid RNotC) {Wf:Int→BR SP} (h:Rs b n c d fo dp A l p w) (hb:saysB l p [91,58]=true) :
  Calls Tryz.prog 94 #[.pointer (some ⟨b,0,none⟩)] w (RI b n c d fo dp A l (itemP d l Wf p) w):=by
 have hlen:=h.rb.len
 have hlo:=h.lo
 have hf2:=says_fit hlen [91,58] p hlo (by simp) (by simp) hb
 simp only [List.length_cons,List.length_nil] at hf2
 obtain ⟨nt,hnt⟩:∃ nt,(decide (d=1) && saysB l (p+2) [94])=nt:=⟨_,rfl⟩
 obtain ⟨a,ha⟩:∃ a,a=if nt=true then p+3 else p+2:=⟨_,rfl⟩
 have han:a≤n:=by
  cases nt with
  | false=>simp at ha;omega
  | true =>
   simp only [Bool.and_eq_true] at hnt
   have:=says_fit hlen [94] (p+2) (by omega) (by simp) (by simp) hnt.2
   simp at ha this;omega
 have ha0:0≤a:=by cases nt<;>simp at ha<;>omega
 obtain ⟨K,hK⟩:∃ K,K=runLen isLow l a ((l.length:Int) - a).toNat:=⟨_,rfl⟩
 have hKn:a+K≤n:=by
  have:=runLen_le isLow l ((l.length:Int) - a).toNat a
  omega
 refine ritem_named HI HC HN h hb hnt ha hK ?_ han hKn ?_
 ·unfold itemP bNamedP
  rw [if_pos hb]
  simp only [hnt,← ha,← hK]
  by_cases hx:K=0∨saysB l (a+K) [58,93]=false
  ·rw [if_pos hx,if_pos hx]
  ·rw [if_neg hx,if_neg hx]
   cases cls (bytesP (runPts l a K))<;>rfl
 ·cases h58:saysB l (a+K) [58,93] with
  | false=>exact .inr (.inl rfl)
  | true =>
   have:=says_fit hlen [58,93] (a+K) (by omega) (by simp) (by simp) h58
   simp only [List.length_cons,List.length_nil] at this
   exact .inr (.inr (by omega))
theorem ritem_escP (HC:Hid RClsC) (HN:Hid RNotC) (HT:Hid (RTokC l)) (hl:∀ q:Int,ptAt l q≤1114111) (h:Rs b n c 1 fo dp A l p w) (hb:saysB l p [91,58]=false) (hp:ptAt l p=92) :
  Calls Tryz.prog 94 #[.pointer (some ⟨b,0,none⟩)] w (RI b n c 1 fo dp A l (escP 1 l p) w):=by
 have hin:=pt_hi h.rb.len (show 0≤ptAt l p by omega)
 have hlen:=h.rb.len
 have CT:∀ W,Pts W.heap.size n c A l W→Calls Tryz.prog 115 #[.int .i64 1,.slice A n c,.int .i64 p] W fun e w'=>ROutT (tokenP 1 l p) e∧Below W.heap.size W w':=fun W hW=>HT.out p A n c W hW h.lo (by omega) hp
 have hmv:=token_mv 1 l p (by omega)
 have her:=token_er 1 l p
 have hgd:Gd (tokenP 1 l p):=by
  have e:tokenP 1 l p=escapedP 1 l (p+1):=by simp [tokenP,hp]
  rw [e];exact gd_escaped _ (hl _)
 unfold escP
 cases ht:tokenP 1 l p with
 | error x =>
  rw [ht] at CT
  have hx:=her x ht
  exact ritem_tok HC HN (kd:=0) (num:=0) (le:=0) (mo:=0) (wy:=0) (fd:=0) (nx:=0) (er:=x) (tx:=⟨#[]⟩) (nt:=false) h hb hp (fun W hW=>(CT W hW).mono fun e w' ⟨he,hb⟩=>⟨he,hb⟩) (Lib.hid (by rw [if_pos (by omega)])) (Lib.hid fun e=>by omega)
 | ok q =>
  obtain ⟨t,nx⟩:=q
  rw [ht] at CT
  have h1:=hmv t nx ht
  have h2:=hgd t nx ht
  obtain ⟨kd,num,tx,nt,le,mo,wy,fd⟩:=t
  refine ritem_tok HC HN (kd:=kd) (num:=num) (le:=le) (mo:=mo) (wy:=wy) (fd:=fd) (nx:=nx) (er:=0) (tx:=⟨tx.toArray⟩) (nt:=nt) h hb hp (fun W hW=>(CT W hW).mono fun e w' ⟨he,hb⟩=>⟨he,hb⟩) (Lib.hid ?_) (Lib.hid fun _=>⟨h2.1,fun e=>by rw [arr_list];exact h2.2 e,by omega,by omega⟩)
  rw [if_neg (fun x=>x rfl),arr_list]
theorem ritem_any (HI:Hid RIsC) (HC:Hid RClsC) (HN:Hid RNotC) (HT:d=1→Hid (RTokC l)) (hl:∀ x ∈ l,0≤x∧x≤1114111) {Wf:Int→BR SP} (h:Rs b n c d fo dp A l p w) (hd0:0≤dp) (hd20:dp≤20)
  (hW:d=1→ptAt l p=91→dp=20∧Wf p=.error (2,p)∨dp≠20∧∀ W,Rs b n c d fo (dp+1) A l (p+1) W→Calls Tryz.prog 32 #[.pointer (some ⟨b,0,none⟩)] W (RW b n c d fo (dp+1) A l (Wf p) W)) :
  Calls Tryz.prog 94 #[.pointer (some ⟨b,0,none⟩)] w (RI b n c d fo dp A l (itemP d l Wf p) w):=by
 have hlen:=h.rb.len
 have hlo:=h.lo
 have hq:=pts_hi hl
 cases hb:saysB l p [91,58] with
 | true=>exact ritem_name HI HC HN h hb
 | false =>
  have hB:bNamedP d l p=none:=by unfold bNamedP;rw [if_neg (by rw [hb];decide)]
  by_cases hend:(l.length:Int)≤p
  ·have hI:itemP d l Wf p=.error (1,p):=by unfold itemP;rw [hB];simp only;rw [if_pos hend]
   rw [hI]
   exact ritem_end h hb (by rw [← hlen];exact hend)
  ·by_cases h91:d=1∧ptAt l p=91
   ·obtain ⟨rfl,hp⟩:=h91
    have hI:itemP 1 l Wf p=asItm (Wf p):=by unfold itemP;rw [hB];show (if (l.length:Int)≤p then _ else _)=_;rw [if_neg hend,if_pos ⟨rfl,hp⟩];cases Wf p<;>rfl
    rw [hI]
    rcases hW rfl hp with ⟨rfl,hr⟩|⟨hd,hw⟩
    ·rw [hr];exact ritem_full h hb hp
    ·exact ritem_within h hb hp hd hd0 hd20 hw
   ·by_cases h92:d=1∧ptAt l p=92
    ·obtain ⟨rfl,hp⟩:=h92
     have hI:itemP 1 l Wf p=escP 1 l p:=by
      unfold itemP
      rw [hB]
      show (if (l.length:Int)≤p then _ else _)=_
      rw [if_neg hend,if_neg h91,if_pos ⟨rfl,hp⟩]
     rw [hI]
     exact ritem_escP HC HN (HT rfl) hq h hb hp
    ·have hI:itemP d l Wf p=.ok ⟨fun q=>q=ptAt l p,ptAt l p,p+1⟩:=by unfold itemP;rw [hB];simp only;rw [if_neg hend,if_neg h91,if_neg h92]
     rw [hI]
     have hk:p.toNat < l.length:=by omega
     have hpt:=ptAt_in l hk
     rw [show ((p.toNat:Nat):Int)=p by omega] at hpt
     exact ritem_point h hb (by omega) h91 h92 (by rw [hpt];exact hl _ (List.getElem_mem _))
end
end Go.Proofs.YtbiahhojnjchnaaGreat
namespace Go.Proofs.YtbiahhojnjchnaaGreat
open Go.RowKit
section
variable {b n c:Nat} {d:Int} {fo:Bool} {A:Option Addr} {l:List Int}
/-- what the reference's functions are asked for -/
structure RefC (d:Int) (l:List Int):Prop where
 is_:RIsC
 cls_:RClsC
 not_:RNotC
 make:RMakeC
 meet:RMeetC
 fold:RFoldC (foldQ true)
 tok:d=1→RTokC l
theorem rparts_of (H:RefC d l) (hl:∀ x ∈ l,0≤x∧x≤1114111) {dp:Int} {k:Nat} (hlen:l.length=n) (hsm:n≤300) (hd0:0≤dp) (hd20:dp≤20)
  (hW:d=1→∀ p,ptAt l p=91→dp=20∧inP d l fo k p=.error (2,p)∨dp≠20∧∀ W,Rs b n c d fo (dp+1) A l (p+1) W→Calls Tryz.prog 32 #[.pointer (some ⟨b,0,none⟩)] W (RW b n c d fo (dp+1) A l (inP d l fo k p) W)) :
  PartsR b n c d fo dp A l (foldQ fo) (spanP d l (itemP d l (inP d l fo k))) (fun f p=>Ch 13001 f (2 * p)):=by
 have hq:=pts_hi hl
 have hAW:=in_ahd d l fo k
 have hAI:AhdI (itemP d l (inP d l fo k)):=fun p r h0 h=>ahd_item hAW h0 h
 have hAS:=ahd_span (d:=d) (l:=l) hAI
 have hNI:∀ p,0≤p→NZ (itemP d l (inP d l fo k) p):=fun p h0=>nz_item (nz_in fo k) h0
 have hNS:∀ p,0≤p→NZ (spanP d l (itemP d l (inP d l fo k)) p):=fun p h0=>nz_span hAI hNI h0
 have c0:∀ p r,0≤p→spanP d l (itemP d l (inP d l fo k)) p=.ok r→Ch 0 r.1 (1600 * (r.2 - p)):=fun p r h0 h=>ch_span (wts0 fo) hAI (fun p r h0 h=>ch_item (wts0 fo) hAW (ch_in (wts0 fo) k) h0 h) h0 h
 have c1:∀ p r,0≤p→spanP d l (itemP d l (inP d l fo k)) p=.ok r→Ch 13001 r.1 (2 * (r.2 - p)):=fun p r h0 h=>ch_span (wts1 fo) hAI (fun p r h0 h=>ch_item (wts1 fo) hAW (ch_in (wts1 fo) k) h0 h) h0 h
 have cp:∀ (first:Bool) (p:Int) (r:SP),0≤p→partP d l (spanP d l (itemP d l (inP d l fo k))) first (((l.length:Int) - p).toNat+1) 0 (fun _=>False) p=.ok r→Ch 13001 r.1 (2 * (r.2 - p)):=fun first p r h0 h=>(ch_part (wts1 fo) hAS c1 _ _ _ _ _ _ _ h0 (ch_none _) h).mono (by omega)
 have cf:∀ (first:Bool) (p:Int) (r:SP),0≤p→partP d l (spanP d l (itemP d l (inP d l fo k))) first (((l.length:Int) - p).toNat+1) 0 (fun _=>False) p=.ok r→Ch 13001 (foldQ fo r.1) (2 * (r.2 - p)):=fun first p r h0 h=>((wts1 fo).fold_ _ _ (cp first p r h0 h)).mono (by omega)
 refine ⟨fun first p W hS=>?_,fun first p r h0 h=>ahd_part hAS _ _ _ _ _ _ h0 h,fun first p r out h0 h1 h2 h hs=>?_,fun first p q h0 h=>?_,fun p r h0 h=>(cf true p r h0 h).mono (by omega),fun f p r h0 hg h=>?_,fun f p out hg h1 hs=>?_,fun p r h0 h=>(cf false p r h0 h).mono (by omega)⟩
 ·refine rpart (Lib.hid H.make) hS (fun p a h0 h=>hAI p a h0 h) (fun p hp=>item_out (by omega)) (fun p a h0 h=>item_pt hq h) (fun p W hS=>ritem_any (Lib.hid H.is_) (Lib.hid H.cls_) (Lib.hid H.not_) (fun e=>Lib.hid (H.tok e)) hl hS hd0 hd20 fun e hp=>hW e p hp) (fun p r out h0 h hs=>?_) fun p x y h0 h=>hNI p h0 (x,y) h
  have:=ch_len hs (c0 p r h0 h)
  simpa using this
 ·have:=ch_len hs (cp first p r h0 h)
  simp at this
  omega
 ·exact nz_part hAS hNS span_out first _ _ _ _ h0 (by omega) q h
 ·exact (ch_and hg (cf false (p+2) r (by omega) h)).mono (by omega)
 ·have:=ch_len hs hg
  simp at this
  omega
theorem rall_any (H:RefC d l) (hl:∀ x ∈ l,0≤x∧x≤1114111) {dp:Int} {k:Nat} (hd0:0≤dp) (hd20:dp≤20)
  (hW:d=1→∀ p,ptAt l p=91→dp=20∧inP d l fo k p=.error (2,p)∨dp≠20∧∀ W,Rs b n c d fo (dp+1) A l (p+1) W→Calls Tryz.prog 32 #[.pointer (some ⟨b,0,none⟩)] W (RW b n c d fo (dp+1) A l (inP d l fo k p) W)) {p:Int} {w:World} (h:Rs b n c d fo dp A l p w) :
  Calls Tryz.prog 32 #[.pointer (some ⟨b,0,none⟩)] w (RW b n c d fo dp A l (wholeP d l fo (spanP d l (itemP d l (inP d l fo k))) p) w):=by
 have P:=Lib.hid (rparts_of H hl h.rb.len h.rb.small hd0 hd20 hW)
 rw [← whole_eq]
 exact rwhole (Lib.hid fun e=>by rw [e];exact H.fold) (Lib.hid fun e=>by rw [e];exact fold_false) (Lib.hid H.meet) (Lib.hid H.not_) P h rfl rfl
theorem rin_any (H:RefC d l) (hl:∀ x ∈ l,0≤x∧x≤1114111) (k:Nat):∀ dp:Int,dp+k=20→0≤dp→∀ p,dp=20∧inP d l fo k p=.error (2,p)∨dp≠20∧∀ W,Rs b n c d fo (dp+1) A l (p+1) W→Calls Tryz.prog 32 #[.pointer (some ⟨b,0,none⟩)] W (RW b n c d fo (dp+1) A l (inP d l fo k p) W):=by
 induction k with
 | zero =>
  intro dp hk h0 p
  exact .inl ⟨by omega,rfl⟩
 | succ k ih =>
  intro dp hk h0 p
  exact .inr ⟨by omega,fun W hS=>rall_any H hl (by omega) (by omega) (fun _ p _=>ih (dp+1) (by omega) (by omega) p) hS⟩
theorem rallP_any (H:RefC d l) (hl:∀ x ∈ l,0≤x∧x≤1114111) (p:Int) (w:World) (h:Rs b n c d fo 0 A l p w) :
  Calls Tryz.prog 32 #[.pointer (some ⟨b,0,none⟩)] w (RW b n c d fo 0 A l (allP d l fo p) w):=rall_any H hl (k:=20) (by omega) (by omega) (fun _ p _=>rin_any H hl 20 0 (by omega) (by omega) p) h
end
end Go.Proofs.YtbiahhojnjchnaaGreat
