/-
  A part of a bracket expression, of the reference: walked.
-/
import Derived.Test.YtbiahhojnjchnaaGreatHN
set_option linter.unusedVariables false
set_option linter.unusedSimpArgs false
namespace Go.Proofs.YtbiahhojnjchnaaGreat
open Go.RowKit
def RMakeC:Prop:=∀ (a:List (Int × Int)) (A:Option Addr) (n c:Nat) (w:World),n≤500000→c≤maxLen→(∀ r ∈ a,okR r=true)→Rds w w.heap.size 2 A n (rngs a)→Calls Tryz.prog 93 #[.slice A n c] w fun e w'=>∃ out,IsSet out (mem a)∧OwnRngs w out e w'
/-- what a part leaves; where something is wrong, a set of nothing -/
def RP (b n c:Nat) (d:Int) (fo:Bool) (dp:Int) (A:Option Addr) (l:List Int) (r:BR SP) (w:World) (e:Ending) (w':World):Prop :=
 Kept b w w'∧∃ A' n' c' out,e=.returned (.slice A' n' c')∧w'.ownsRow w.heap.size 67 2 (.slice A' n' c') n' (rngs out)∧match r with
 | .error q=>IsSet out (fun _=>False)∧Rf b n c d fo A l q w'
 | .ok q=>IsSet out q.1∧Rs b n c d fo dp A l q.2 w'
theorem close_iff {l:List Int} {p:Int} {k:Nat} {first cl:Bool} (h:cl=(saysB l p [93] && !(first && decide (k=0)))):cl=true↔(0 < k∨first=false)∧ptAt l p=93:=by
 rw [h]
 cases first<;>simp [saysB]
 ·omega
theorem part_step {d:Int} {l:List Int} {S:Int→BR SP} {first cl me:Bool} {m k:Nat} {acc:Int→Prop} {p:Int} (h:cl=(saysB l p [93] && !(first && decide (k=0)))) (h2:me=(decide (d=1) && saysB l p [38,38])) :
  partP d l S first (m+1) k acc p=if (cl || me)=true then (if k=0 then .error (1,p) else .ok (acc,p)) else match S p with|.error e=>.error e|.ok r=>partP d l S first m (k+1) (fun q=>acc q∨r.1 q) r.2:=by
 have e1:=close_iff h
 have e2:me=true↔d=1∧saysB l p [38,38]=true:=by rw [h2];simp
 rw [partP]
 by_cases h1:cl=true
 ·have hx:(cl || me)=true:=by simp [h1]
  rw [if_pos (e1.1 h1),if_pos hx]
 ·rw [if_neg (fun x=>h1 (e1.2 x))]
  by_cases h3:me=true
  ·have hx:(cl || me)=true:=by simp [h3]
   rw [if_pos (e2.1 h3),if_pos hx]
  ·have hx:¬ (cl || me)=true:=by simp [h1,h3]
   rw [if_neg (fun x=>h3 (e2.2 x)),if_neg hx]
   cases S p<;>rfl
theorem isSet_nil:IsSet [] (fun _=>False):=⟨⟨by simp,by simp⟩,by simp [mem]⟩
theorem mem_nil_f:mem []=fun _=>False:=by funext p;simp [mem]
theorem span_step {d:Int} {l:List Int} {n:Nat} {I:Int→BR Itm} {p:Int} {a:Itm} {pr bad:Bool} (hlen:l.length=n) (hI:I p=.ok a) (hend:∀ p:Int,(n:Int)≤p→I p=.error (1,p)) (hpr:pr=(decide (0≤a.pt) && (saysB l a.nx [45] && !saysB l a.nx [45,93])))
  (hbad:bad=(saysB l (a.nx+1) [91,58] || (decide (d=1) && saysB l (a.nx+1) [91]))) :
  spanP d l I p=if pr=false then .ok (a.f,a.nx) else if bad=true then .error (1,a.nx+1) else pairP a.pt (a.nx+1) (I (a.nx+1)):=by
 unfold spanP
 rw [hI]
 simp only
 by_cases h1:saysB l a.nx [45]=false∨saysB l a.nx [45,93]=true∨a.pt < 0
 ·have hx:pr=false:=by
   rw [hpr]
   rcases h1 with h|h|h
   ·simp [h]
   ·simp [h]
   ·have:¬ 0≤a.pt:=by omega
    simp [this]
  rw [if_pos h1,if_pos hx]
 ·have hx:¬ pr=false:=by
   rw [hpr]
   simp only [not_or,Bool.not_eq_false,Bool.not_eq_true] at h1
   have:0≤a.pt:=by omega
   simp [h1.1,h1.2.1,this]
  rw [if_neg h1,if_neg hx]
  by_cases h2:(l.length:Int)≤a.nx+1
  ·have e1:ptAt l (a.nx+1)=-1:=by
    rcases pt_or l (a.nx+1) with h|h
    ·exact h
    ·omega
   have hb:¬ bad=true:=by rw [hbad];simp [saysB,e1]
   rw [if_pos h2,if_neg hb,hend _ (by omega)]
   rfl
  ·rw [if_neg h2]
   by_cases h3:saysB l (a.nx+1) [91,58]=true∨(d=1∧ptAt l (a.nx+1)=91)
   ·have hb:bad=true:=by
     rw [hbad]
     rcases h3 with h|h
     ·simp [h]
     ·simp [saysB,h.1,h.2]
    rw [if_pos h3,if_pos hb]
   ·have hb:¬ bad=true:=by
     rw [hbad]
     intro x
     apply h3
     simp only [Bool.or_eq_true,Bool.and_eq_true,decide_eq_true_eq] at x
     rcases x with x|x
     ·exact .inl x
     ·exact .inr ⟨x.1,by simpa [saysB] using x.2⟩
    rw [if_neg h3,if_neg hb]
theorem Kept.lowR {b:Nat} {w w1 w2:World} (h:Kept b w w1) (hb:Below w.heap.size w1 w2):Kept b w w2 :=
 ⟨hb.os.trans h.os,hb.tape.trans h.tape,hb.output.trans h.output,Nat.le_trans h.size hb.size,fun k hk hn=>(hb.block k hk).trans (h.block k hk hn)⟩
section
variable {b n c:Nat} {d at_ dp:Int} {fo:Bool} {A:Option Addr} {l:List Int} {w:World}
set_option maxRecDepth 100000 in
set_option maxHeartbeats 16000000 in
theorem rpart (HM:Hid RMakeC) {first:Bool} {I:Int→BR Itm} (h:Rs b n c d fo dp A l at_ w) (hA:∀ p a,0≤p→I p=.ok a→p < a.nx) (hend:∀ p:Int,(n:Int)≤p→I p=.error (1,p)) (hpt:∀ p a,0≤p→I p=.ok a→a.pt≤1114111)
  (hI:∀ p W,Rs b n c d fo dp A l p W→Calls Tryz.prog 94 #[.pointer (some ⟨b,0,none⟩)] W (RI b n c d fo dp A l (I p) W)) (hch:∀ p r out,0≤p→spanP d l I p=.ok r→IsSet out r.1→(out.length:Int)≤1600 * (r.2 - p)) (her:∀ p x y,0≤p→I p=.error (x,y)→x≠0) :
  Calls Tryz.prog 62 #[.pointer (some ⟨b,0,none⟩),.bool first] w (RP b n c d fo dp A l (partP d l (spanP d l I) first (((l.length:Int) - at_).toNat+1) 0 (fun _=>False) at_) w):=by
 have hlt:=h.rb.lt
 have hlo:=h.lo
 have hhi:=h.hi
 have hsm:=h.rb.small
 have hlen:=h.rb.len
 have HS0:=Lib.hid h
 have HII:=Lib.hid hI
 have HA:=Lib.hid hA
 have HEND:=Lib.hid hend
 have HPT:=Lib.hid hpt
 have HC:=Lib.hid hch
 have HER:=Lib.hid her
 clear h hI hA hend hpt hch her
 obtain ⟨R,hR⟩:∃ R,R=partP d l (spanP d l I) first (((l.length:Int) - at_).toNat+1) 0 (fun _=>False) at_:=⟨_,rfl⟩
 rw [← hR]
 have HR0:=Lib.hid hR
 clear hR
 go_enter Tryz.func62,Tryz.ntmps62
 go_upto_region 3 with (fail)
 go_loopw [5,6] (fun v i wr=>∃ (k:Nat) (B:List (Int × Int)),i=.int .i64 (k:Nat)∧Hid (wr.ownsRow w.heap.size 67 2 v B.length (rngs B))∧Hid (Kept b w wr)∧k≤1000∧B.length≤481000 ∧
  ((∃ (m:Nat) (p:Int) (acc:Int→Prop),Hid (k=0→B=[])∧Hid (partP d l (spanP d l I) first (m+1) k acc p=R)∧Hid ((n:Int) - p≤m)∧Hid ((k:Int)≤p - at_)∧Hid (Rs b n c d fo dp A l p wr)∧Hid (∀ r ∈ B,okR r=true)∧Hid (∀ q,mem B q↔acc q)∧Hid ((B.length:Int)≤1600 * (p - at_))) ∨
   ∃ q,Hid (R=.error q)∧q.1≠0∧Hid (Rf b n c d fo A l q wr))) (fun _ i _=>1001 - (intOf i).toNat)
 case atStart=>exact ⟨0,[],rfl,Lib.hid (World.ownsRow_nil _ _ _ _),Lib.hid (Kept.refl _ _),by omega,by simp,.inl ⟨((l.length:Int) - at_).toNat,at_,_,Lib.hid (fun _=>rfl),Lib.hid HR0.out.symm,Lib.hid (by rw [hlen];omega),Lib.hid (by omega),HS0,Lib.hid (by simp),Lib.hid (by simp [mem]),Lib.hid (by simp)⟩⟩
 case round =>
  obtain ⟨k,B,rfl,HO1,HK1,hk,hB,⟨m,p,acc,HB0,HE,HM1,HKP,HS1,HOK,HMEM,HBL⟩|⟨q,HRE,hq,HF⟩⟩:=hrel
  ·have hp0:=HS1.out.lo
   have hp1:=HS1.out.hi
   have hsz:=HK1.out.size
   have C93:=Lib.hid (fun v (hv:saysB l p [93]=v)=>HS1.out.rb.says (p:=p) (s:=⟨#[93]⟩) (v:=v) (by omega) (by decide) ((saysP_b1 l p 93).trans hv))
   obtain ⟨c0,c1,c2,c3,c4,c5,c6,f2,f4⟩:=HS1.out.rb.cells
   obtain ⟨cl,hcl⟩:∃ cl,cl=(saysB l p [93] && !(first && decide (k=0))):=⟨_,rfl⟩
   have HCL:=Lib.hid hcl
   clear hcl
   go_upto_region 5 with (fail)
   go_cut [7] from 22 to 39 (fun y wc=>y=.bool cl∧∃ q,wc=wr.drewN q)
   ·cases h93:saysB l p [93] with
    | true =>
     have CS:=Lib.hid (C93.out true h93)
     have HCL1:=Lib.hid (show cl=!(first && decide (k=0)) by rw [HCL.out,h93];rfl)
     clear h93
     cases first with
     | true =>
      by_cases hk0:k=0
      ·subst hk0
       go_quiet ((go_at_call 61;exact (CS.out _)))
       go_wp2_with fail
       go_meet
       exact ⟨by rw [HCL1.out];rfl,_,rfl⟩
      ·have k0:((k:Int) == 0)=false:=by rw [beq_eq_false_iff_ne];omega
       have HK0:=Lib.hid hk0
       clear hk0
       go_quiet ((go_at_call 61;exact (CS.out _)))
       go_wp2_with fail
       go_meet
       exact ⟨by rw [HCL1.out,decide_eq_false HK0.out];rfl,_,rfl⟩
     | false =>
      go_quiet ((go_at_call 61;exact (CS.out _)))
      go_wp2_with fail
      go_meet
      exact ⟨by rw [HCL1.out];rfl,_,rfl⟩
    | false =>
     have CS:=Lib.hid (C93.out false h93)
     have HCL1:=Lib.hid (show cl=false by rw [HCL.out,h93];rfl)
     clear h93
     go_quiet ((go_at_call 61;exact (CS.out _)))
     go_wp2_with fail
     go_meet
     exact ⟨by rw [HCL1.out],_,rfl⟩
   obtain ⟨rfl,q2,hwc⟩:=hcut
   obtain ⟨V,hV⟩:∃ V,V=wc:=⟨_,rfl⟩
   subst hV
   have HB2:=Lib.hid (show Below wr.heap.size wr V by rw [hwc];exact below_drewN (Below.refl _ _) _)
   clear hwc c0 c1 c2 c3 c4 c5 c6 f2 f4 C93
   have HS2:=Lib.hid (HS1.out.next HB2.out)
   have HO2:=Lib.hid (own_below HO1.out HB2.out (Nat.le_refl _))
   have HK2:=Lib.hid (HK1.out.trans (Kept.of HB2.out))
   clear HO1
   have C38:=Lib.hid (fun v (hv:saysB l p [38,38]=v)=>HS2.out.rb.says (p:=p) (s:=⟨#[38,38]⟩) (v:=v) (by omega) (by decide) ((saysP_b2 l p 38 38).trans hv))
   obtain ⟨c0,c1,c2,c3,c4,c5,c6,f2,f4⟩:=HS2.out.rb.cells
   obtain ⟨me,hme⟩:∃ me,me=(decide (d=1) && saysB l p [38,38]):=⟨_,rfl⟩
   have HME:=Lib.hid hme
   clear hme
   go_upto_region 6 with (fail)
   go_cut [8] from 39 to 55 (fun y wc=>y=.bool me∧∃ q,wc=V.drewN q)
   ·by_cases hd:d=1
    ·have HME1:=Lib.hid (show me=saysB l p [38,38] by rw [HME.out,decide_eq_true hd];rfl)
     subst hd
     clear HME
     have CS:=Lib.hid (C38.out me HME1.out.symm)
     go_quiet ((go_at_call 61;exact (CS.out _)))
     go_wp2_with fail
     go_meet
     exact ⟨rfl,_,rfl⟩
    ·have hdb:(d == 1)=false:=beq_eq_false_iff_ne.2 hd
     have HME1:=Lib.hid (show me=false by rw [HME.out,decide_eq_false hd];rfl)
     clear hd
     go_quiet (fail)
     go_wp2_with fail
     go_meet
     exact ⟨by rw [HME1.out],_,rfl⟩
   obtain ⟨rfl,q3,hwc⟩:=hcut
   have HB3:=Lib.hid (show Below V.heap.size V wc by rw [hwc];exact below_drewN (Below.refl _ _) _)
   clear hwc c0 c1 c2 c3 c4 c5 c6 f2 f4 C38
   have HS3:=Lib.hid (HS2.out.next HB3.out)
   have HO3:=Lib.hid (own_below HO2.out HB3.out (Nat.le_refl _))
   have HK3:=Lib.hid (HK2.out.trans (Kept.of HB3.out))
   have hs3:=HK3.out.size
   clear HO2 HS2 HS1 HB3 HB2 HK2 HK1
   obtain ⟨c0,c1,c2,c3,c4,c5,c6,f2,f4⟩:=HS3.out.rb.cells
   obtain ⟨B3,cap3,hv3,hn3,hcap3⟩:=own_slice HO3.out
   subst hv3
   unfold maxLen at hcap3
   have HE1:=Lib.hid ((part_step HCL.out HME.out).symm.trans HE.out)
   clear HE HCL HME
   have key:(cl || me)=true∨(cl=false∧me=false):=by cases cl<;>cases me<;>simp
   rcases key with hce|⟨rfl,rfl⟩
   ·have HE2:=Lib.hid ((if_pos hce).symm.trans HE1.out)
    clear HE1
    by_cases hk0:k=0
    ·have HE3:=Lib.hid ((if_pos hk0).symm.trans HE2.out)
     have hB0:=HB0.out hk0
     subst hB0
     subst hk0
     have CM:=Lib.hid (fun w hr=>HM.out [] B3 0 cap3 w (by omega) (by unfold maxLen;omega) (by simp) hr)
     have HCE:=Lib.hid hce
     clear HE2 hce
     have hcm:cl=true∨(cl=false∧me=true):=by cases cl<;>simp;simpa using HCE.out
     rcases hcm with rfl|⟨rfl,rfl⟩
     all_goals
      go_wp2_with (first
       | (go_at_call 33;(with_reducible refine (wrong33 HS3.out.rb 1 p).mono ?_);rintro e w9 ⟨rfl,hk9,hr9⟩;have HK9:=Lib.hid hk9;have HR9:=Lib.hid hr9;have CM1:=Lib.hid (CM.out w9 (Rds.of_own (own_keptb HO3.out hk9 hlt)));have hz9:=hk9.size;clear hk9 hr9)
       | (go_at_call 93;(with_reducible refine CM1.out.mono ?_);rintro e w7 ⟨out,hset,A7,n7,c7,rfl,hown,hb7⟩))
      go_ret
      rw [← HE3.out]
      exact ⟨(HK3.out.trans HK9.out).trans (Kept.of hb7),A7,n7,c7,out,rfl,own_mono hown (Nat.le_trans hs3 hz9),by rw [← mem_nil_f];exact hset,p,dp,HR9.out.next hb7⟩
    ·have HE3:=Lib.hid ((if_neg hk0).symm.trans HE2.out)
     have hkb:((k:Int) == 0)=false:=by rw [beq_eq_false_iff_ne];omega
     have CM:=Lib.hid (HM.out B B3 B.length cap3 wc (by omega) (by unfold maxLen;omega) HOK.out (Rds.of_own HO3.out))
     have HCE:=Lib.hid hce
     clear HE2 hce hk0
     have hcm:cl=true∨(cl=false∧me=true):=by cases cl<;>simp;simpa using HCE.out
     rcases hcm with rfl|⟨rfl,rfl⟩
     all_goals
      go_wp2_with (go_at_call 93;(with_reducible refine CM.out.mono ?_);rintro e w7 ⟨out,hset,A7,n7,c7,rfl,hown,hb7⟩)
      go_ret
      rw [← HE3.out]
      exact ⟨HK3.out.trans (Kept.of hb7),A7,n7,c7,out,rfl,own_mono hown hs3,⟨hset.1,fun q=>(hset.2 q).trans (HMEM.out q)⟩,HS3.out.next hb7⟩
   ·have HE2:=Lib.hid ((if_neg (by decide)).symm.trans HE1.out)
    clear HE1 c0 c1 c2 c3 c4 c5 c6 f2 f4
    have hm:1≤m∨(n:Int)≤p:=by have:=HM1.out;omega
    cases hi:I p with
    | error q =>
     have CI:=Lib.hid (show Calls Tryz.prog 94 #[.pointer (some ⟨b,0,none⟩)] wc (RI b n c d fo dp A l (.error q) wc) by have:=HII.out p wc HS3.out;rwa [hi] at this)
     have hq0:=HER.out p q.1 q.2 hp0 (by rw [hi])
     have HRQ:=Lib.hid (show R=.error q by have:=HE2.out;unfold spanP at this;rw [hi] at this;exact this.symm)
     have hqb:(q.1 != 0)=true:=by simp [hq0]
     clear hi hq0 hm
     go_upto_region 12 with (go_at_call 94;(with_reducible refine CI.out.mono ?_);rintro e w9 ⟨hk9,⟨v9,z9,rfl⟩,hf9⟩)
     have HF9:=Lib.hid hf9
     have HK9:=Lib.hid (HK3.out.trans hk9)
     obtain ⟨a',p',hrb⟩:=HF9.out
     obtain ⟨c0,c1,c2,c3,c4,c5,c6,f2,f4⟩:=hrb.cells
     clear hf9 hk9 hrb
     go_wp2
     go_ret
     rw [HRQ.out]
     exact ⟨HK9.out,_,0,_,[],rfl,World.ownsRow_nil _ _ _ _,isSet_nil,HF9.out⟩
    | ok a =>
     have CI:=Lib.hid (show Calls Tryz.prog 94 #[.pointer (some ⟨b,0,none⟩)] wc (RI b n c d fo dp A l (.ok a) wc) by have:=HII.out p wc HS3.out;rwa [hi] at this)
     have hpn:=HA.out p a hp0 hi
     have HSP:=Lib.hid (fun pr bad h1 h2=>span_step (d:=d) (pr:=pr) (bad:=bad) hlen hi HEND.out h1 h2)
     have HCH:=Lib.hid (fun r out=>HC.out p r out hp0)
     have hapt:=HPT.out p a hp0 hi
     clear hi
     obtain ⟨af,apt,anx⟩:=a
     simp only at hpn hapt HSP
     go_upto_region 12 with (go_at_call 94;(with_reducible refine CI.out.mono ?_);rintro e w9 ⟨hk9,out,A9,n9,c9,hset9,rfl,hr9,hs9⟩)
     have HS9:=Lib.hid hs9
     have HSET9:=Lib.hid hset9
     have HR9:=Lib.hid hr9
     have HK9:=Lib.hid (HK3.out.trans hk9)
     have HO9:=Lib.hid (own_keptb HO3.out hk9 hlt)
     have hol9:=hr9.rngs_len
     have hlo9:=hs9.lo
     have hhi9:=hs9.hi
     clear hs9 hset9 hr9 hk9 HS3 HK3 HO3
     obtain ⟨c0,c1,c2,c3,c4,c5,c6,f2,f4⟩:=HS9.out.rb.cells
     go_upto_region 14 with (fail)
     obtain ⟨pr,hpr⟩:∃ pr,pr=(decide (0≤apt) && (saysB l anx [45] && !saysB l anx [45,93])):=⟨_,rfl⟩
     have HPR:=Lib.hid hpr
     clear hpr
     have C45:=Lib.hid (fun v (hv:saysB l anx [45]=v)=>HS9.out.rb.says (p:=anx) (s:=⟨#[45]⟩) (v:=v) (by omega) (by decide) ((saysP_b1 l anx 45).trans hv))
     have C4593:=Lib.hid (fun v (hv:saysB l anx [45,93]=v)=>HS9.out.rb.says (p:=anx) (s:=⟨#[45,93]⟩) (v:=v) (by omega) (by decide) ((saysP_b2 l anx 45 93).trans hv))
     go_cut [104] from 80 to 105 (fun y wc=>y=.bool pr∧∃ q,wc=w9.drewN q)
     ·by_cases ha0:0≤apt
      ·have e1:(decide (apt ≥ (0:Int)))=true:=decide_eq_true ha0
       cases h45:saysB l anx [45] with
       | true =>
        have CS:=Lib.hid (C45.out true h45)
        have CS2:=Lib.hid (C4593.out (saysB l anx [45,93]) rfl)
        have HPR1:=Lib.hid (show pr=!saysB l anx [45,93] by rw [HPR.out,h45,decide_eq_true ha0];rfl)
        obtain ⟨v2,hv2⟩:∃ v,v=saysB l anx [45,93]:=⟨_,rfl⟩
        rw [← hv2] at CS2 HPR1
        clear h45 hv2
        go_quiet ((go_at_call 61;(first|with_reducible exact (CS.out _)|with_reducible exact (CS2.out _))))
        go_wp2_with fail
        go_meet
        exact ⟨by rw [HPR1.out],_,rfl⟩
       | false =>
        have CS:=Lib.hid (C45.out false h45)
        have HPR1:=Lib.hid (show pr=false by rw [HPR.out,h45];simp)
        clear h45
        go_quiet ((go_at_call 61;exact (CS.out _)))
        go_wp2_with fail
        go_meet
        exact ⟨by rw [HPR1.out],_,rfl⟩
      ·have e1:(decide (apt ≥ (0:Int)))=false:=decide_eq_false ha0
       have HPR1:=Lib.hid (show pr=false by rw [HPR.out,decide_eq_false ha0];rfl)
       go_quiet (fail)
       go_wp2_with fail
       go_meet
       exact ⟨by rw [HPR1.out],_,rfl⟩
     obtain ⟨rfl,q4,hwc⟩:=hcut
     obtain ⟨V4,hV4⟩:∃ V4,V4=wc:=⟨_,rfl⟩
     subst hV4
     have HB4:=Lib.hid (show Below w9.heap.size w9 V4 by rw [hwc];exact below_drewN (Below.refl _ _) _)
     clear hwc c0 c1 c2 c3 c4 c5 c6 f2 f4 C45 C4593
     have HS4:=Lib.hid (HS9.out.next HB4.out)
     have HO4:=Lib.hid (own_below HO9.out HB4.out (Nat.le_refl _))
     have HR4:=Lib.hid ((HR9.out.below HB4.out (Nat.le_refl _)).more HB4.out.size)
     have HK4:=Lib.hid (HK9.out.trans (Kept.of HB4.out))
     have hz4:=HK4.out.size
     clear HS9 HO9 HR9 HK9 HB4
     cases pr with
     | false =>
      have HSP1:=Lib.hid (HSP.out false _ HPR.out rfl)
      have HSP2:=Lib.hid ((HSP1.out).trans (if_pos rfl))
      have hln:=HCH.out _ out HSP2.out HSET9.out
      have HNX:=Lib.hid (show partP d l (spanP d l I) first m (k+1) (fun q=>acc q∨af q) anx=R by have:=HE2.out;rw [HSP2.out] at this;exact this)
      have hbl:=HBL.out
      have hkp:=HKP.out
      clear HSP1 HSP2 HSP HCH HE2 HPR
      simp only at hln
      go_wp2_with (at_builtin;refine app_rngs (.tmp 169) (.tmp 170) (base:=w.heap.size) (xs:=B) (ys:=out) (n:=B.length) (m:=n9) HO4.out HR4.out (by omega) (by omega) rfl rfl rfl rfl ?_;intro v3 w3 hown3 hg3 hat3)
      have hb3:Below w.heap.size V4 w3:=(Below.refl _ _).grown hg3 hz4 (fun g hg=>(HO4.out.lt g hg).1)
      go_roundw
      case rel=>exact ⟨k+1,B ++ out,by first|rfl|go_num,Lib.hid (by rw [List.length_append,hol9];exact hown3),Lib.hid (HK4.out.lowR hb3),by omega,by rw [List.length_append];omega,.inl ⟨m - 1,anx,_,Lib.hid (fun h=>absurd h (by omega)),Lib.hid (by rw [show m - 1+1=m by omega];exact HNX.out),Lib.hid (by have:=HM1.out;omega),Lib.hid (by omega),Lib.hid (HS4.out.below hb3 hlt),Lib.hid (fun x hx=>(List.mem_append.1 hx).elim (HOK.out x) (HSET9.out.1.1 x)),Lib.hid (fun q=>by rw [mem_append,HMEM.out q,HSET9.out.2 q]),Lib.hid (by rw [List.length_append];omega)⟩⟩
      case measure=>simp [intOf];omega
     | true =>
      have h45:saysB l anx [45]=true:=by have:=HPR.out;simp at this;exact this.2.1
      have hap0:0≤apt:=by have:=HPR.out;simp at this;exact this.1
      have hin:anx+1≤n:=(pt_hi hlen (p:=anx) (by simp [saysB] at h45;omega)).2
      clear h45 HCH HSET9 HR4
      obtain ⟨bad,hbad⟩:∃ bad,bad=(saysB l (anx+1) [91,58] || (decide (d=1) && saysB l (anx+1) [91])):=⟨_,rfl⟩
      have HBD:=Lib.hid hbad
      have HSP1:=Lib.hid ((HSP.out true bad HPR.out hbad).trans (if_neg (by decide)))
      clear hbad HSP HPR
      have W1:IntKind.i64.wrap (anx+1)=anx+1:=IntWalk.i64_in _ (by omega)
      obtain ⟨c0,c1,c2,c3,c4,c5,c6,f2,f4⟩:=HS4.out.rb.cells
      go_upto_region 17 with (fail)
      have HSU:=Lib.hid (HS4.out.move (y:=anx+1) (by omega) hin)
      have HKU:=Lib.hid (HK4.out.set 2 (.int .i64 (anx+1)))
      have HOU:=Lib.hid (own_keptb HO4.out ((Kept.refl b V4).set 2 (.int .i64 (anx+1))) hlt)
      obtain ⟨U,hU⟩:∃ U,U=V4.setCell ⟨b,2,none⟩ (.int .i64 (anx+1)):=⟨_,rfl⟩
      rw [← hU] at HSU HKU HOU ⊢
      clear hU c0 c1 c2 c3 c4 c5 c6 f2 f4 HS4 HK4 HO4
      obtain ⟨c0,c1,c2,c3,c4,c5,c6,f2,f4⟩:=HSU.out.rb.cells
      have C9158:=Lib.hid (fun v (hv:saysB l (anx+1) [91,58]=v)=>HSU.out.rb.says0 (p:=anx+1) (s:=⟨#[91,58]⟩) (v:=v) (by omega) (by decide) ((saysP_b2 l _ 91 58).trans hv))
      have C91:=Lib.hid (fun w' (hw:Rs b n c d fo dp A l (anx+1) w') v (hv:saysB l (anx+1) [91]=v)=>hw.rb.says0 (p:=anx+1) (s:=⟨#[91]⟩) (v:=v) (by omega) (by decide) ((saysP_b1 l _ 91).trans hv))
      go_cut [136] from 116 to 137 (fun y wc=>y=.bool bad∧∃ q,wc=U.drewN q)
      ·cases h1:saysB l (anx+1) [91,58] with
       | true =>
        have CS:=Lib.hid (C9158.out true h1)
        have HB1:=Lib.hid (show bad=true by rw [HBD.out,h1];rfl)
        clear h1
        go_wp2_with (go_at_call 61;(with_reducible refine CS.out.mono ?_);rintro e w8 ⟨rfl,q8,rfl⟩)
        go_meet
        exact ⟨by rw [HB1.out],_,rfl⟩
       | false =>
        have CS:=Lib.hid (C9158.out false h1)
        have HB1:=Lib.hid (show bad=(decide (d=1) && saysB l (anx+1) [91]) by rw [HBD.out,h1];rfl)
        clear h1
        by_cases hd:d=1
        ·have HB2:=Lib.hid (show bad=saysB l (anx+1) [91] by rw [HB1.out,decide_eq_true hd];rfl)
         subst hd
         clear HB1
         have CS2:=Lib.hid (fun w' hw=>C91.out w' hw bad HB2.out.symm)
         go_wp2_with (first
          | (go_at_call 61;(with_reducible refine CS.out.mono ?_);rintro e w8 ⟨rfl,q8,hq8⟩;have HB8:=Lib.hid (show Below U.heap.size U w8 by rw [hq8];exact below_drewN (Below.refl _ _) _);have HQ8:=Lib.hid hq8;clear hq8;have HS8:=Lib.hid (HSU.out.next HB8.out);clear c0 c1 c2 c3 c4 c5 c6 f2 f4;obtain ⟨c0,c1,c2,c3,c4,c5,c6,f2,f4⟩:=HS8.out.rb.cells)
          | (go_at_call 61;(with_reducible refine (CS2.out _ HS8.out).mono ?_);rintro e w7 ⟨rfl,q7,rfl⟩))
         go_meet
         exact ⟨rfl,q8+q7,by rw [HQ8.out,World.drewN_drewN]⟩
        ·have hdb:(d == 1)=false:=beq_eq_false_iff_ne.2 hd
         have HB2:=Lib.hid (show bad=false by rw [HB1.out,decide_eq_false hd];rfl)
         clear hd HB1
         go_wp2_with (first
          | (go_at_call 61;(with_reducible refine CS.out.mono ?_);rintro e w8 ⟨rfl,q8,hq8⟩;have HB8:=Lib.hid (show Below U.heap.size U w8 by rw [hq8];exact below_drewN (Below.refl _ _) _);have HQ8:=Lib.hid hq8;clear hq8;have HS8:=Lib.hid (HSU.out.next HB8.out);clear c0 c1 c2 c3 c4 c5 c6 f2 f4;obtain ⟨c0,c1,c2,c3,c4,c5,c6,f2,f4⟩:=HS8.out.rb.cells))
         go_meet
         exact ⟨by rw [HB2.out],q8,HQ8.out⟩
      obtain ⟨rfl,q5,hwc⟩:=hcut
      obtain ⟨V5,hV5⟩:∃ V5,V5=wc:=⟨_,rfl⟩
      subst hV5
      have HB5:=Lib.hid (show Below U.heap.size U V5 by rw [hwc];exact below_drewN (Below.refl _ _) _)
      clear hwc c0 c1 c2 c3 c4 c5 c6 f2 f4 C9158 C91
      have HS5:=Lib.hid (HSU.out.next HB5.out)
      have HO5:=Lib.hid (own_below HOU.out HB5.out (Nat.le_refl _))
      have HK5:=Lib.hid (HKU.out.trans (Kept.of HB5.out))
      have hz5:=HK5.out.size
      clear HSU HOU HKU HB5 HBD
      cases bad with
      | true =>
       have HRQ:=Lib.hid (show R=.error (1,anx+1) by have:=HE2.out;rw [HSP1.out.trans (if_pos rfl)] at this;exact this.symm)
       clear HE2 HSP1
       go_wp2_with (go_at_call 33;(with_reducible refine (wrong33 HS5.out.rb 1 (anx+1)).mono ?_);rintro e w8 ⟨rfl,hk8,hr8⟩)
       go_ret
       rw [HRQ.out]
       exact ⟨HK5.out.trans hk8,_,0,_,[],rfl,World.ownsRow_nil _ _ _ _,isSet_nil,_,_,hr8⟩
      | false =>
       have HSP2:=Lib.hid (HSP1.out.trans (if_neg (by decide)))
       clear HSP1
       cases hi2:I (anx+1) with
       | error q =>
        have CI:=Lib.hid (show Calls Tryz.prog 94 #[.pointer (some ⟨b,0,none⟩)] V5 (RI b n c d fo dp A l (.error q) V5) by have:=HII.out (anx+1) V5 HS5.out;rwa [hi2] at this)
        have hq0:=HER.out (anx+1) q.1 q.2 (by omega) (by rw [hi2])
        have HRQ:=Lib.hid (show R=.error q by have:=HE2.out;rw [HSP2.out,hi2] at this;exact this.symm)
        have hqb:(q.1 != 0)=true:=by simp [hq0]
        clear hi2 hq0 HE2 HSP2
        go_upto_region 21 with (go_at_call 94;(with_reducible refine CI.out.mono ?_);rintro e w8 ⟨hk8,⟨v8,z8,rfl⟩,hf8⟩)
        have HF8:=Lib.hid hf8
        have HK8:=Lib.hid (HK5.out.trans hk8)
        obtain ⟨a',p',hrb⟩:=HF8.out
        obtain ⟨c0,c1,c2,c3,c4,c5,c6,f2,f4⟩:=hrb.cells
        clear hf8 hk8 hrb
        go_wp2
        go_ret
        rw [HRQ.out]
        exact ⟨HK8.out,_,0,_,[],rfl,World.ownsRow_nil _ _ _ _,isSet_nil,HF8.out⟩
       | ok a2 =>
        have CI:=Lib.hid (show Calls Tryz.prog 94 #[.pointer (some ⟨b,0,none⟩)] V5 (RI b n c d fo dp A l (.ok a2) V5) by have:=HII.out (anx+1) V5 HS5.out;rwa [hi2] at this)
        have hpn2:=HA.out (anx+1) a2 (by omega) hi2
        have hqt:=HPT.out (anx+1) a2 (by omega) hi2
        rw [hi2] at HSP2
        clear hi2
        obtain ⟨qf,qt,qnx⟩:=a2
        simp only at hpn2 hqt
        go_upto_region 21 with (go_at_call 94;(with_reducible refine CI.out.mono ?_);rintro e w8 ⟨hk8,out8,A8,n8,c8,hset8,rfl,hr8,hs8⟩)
        have HS8:=Lib.hid hs8
        have HK8:=Lib.hid (HK5.out.trans hk8)
        have HO8:=Lib.hid (own_keptb HO5.out hk8 hlt)
        have hlo8:=hs8.lo
        have hhi8:=hs8.hi
        have hz8:=HK8.out.size
        clear hs8 hset8 hr8 hk8 HS5 HK5 HO5 CI
        obtain ⟨c0,c1,c2,c3,c4,c5,c6,f2,f4⟩:=HS8.out.rb.cells
        have hbl:=HBL.out
        have hkp:=HKP.out
        have hpp:pairP apt (anx+1) (.ok ⟨qf,qt,qnx⟩)=(if qt < 0 then .error (1,anx+1) else if qt < apt then .error (3,anx+1) else .ok (fun p=>apt≤p∧p≤qt,qnx)):=rfl
        have HSP3:=Lib.hid (HSP2.out.trans hpp)
        clear hpp HSP2
        by_cases hneg:qt < 0
        ·have e1:decide (qt < 0)=true:=decide_eq_true hneg
         have HRQ:=Lib.hid (show R=.error (1,anx+1) by have:=HE2.out;rw [HSP3.out.trans (if_pos hneg)] at this;exact this.symm)
         clear hneg HE2 HSP3
         go_wp2_with (first
          | (go_at_call 33;(with_reducible refine (wrong33 HS8.out.rb 1 (anx+1)).mono ?_);rintro e w7 ⟨rfl,hk7,hr7⟩;have HK7:=Lib.hid (HK8.out.trans hk7);have HR7:=Lib.hid hr7;have HO7:=Lib.hid (own_keptb HO8.out hk7 hlt);clear hk7 hr7 c0 c1 c2 c3 c4 c5 c6 f2 f4;have HOA:=Lib.hid (HO7.out.alloc (.cells #[.int .i64 apt,.int .i64 qt] 67));have HRA:=Lib.hid (Rds.new w7 2 1 #[.int .i64 apt,.int .i64 qt] 67 (rngs [(apt,qt)]) rfl rfl);have HZA:=Lib.hid (show w.heap.size≤(w7.alloc (.cells #[.int .i64 apt,.int .i64 qt] 67)).heap.size by have:=HK7.out.size;simp;omega))
          | (at_builtin;refine app_rngs (.tmp 169) (.tmp 170) (base:=w.heap.size) (xs:=B) (ys:=[(apt,qt)]) (n:=B.length) (m:=1) HOA.out HRA.out (by omega) HZA.out rfl rfl rfl rfl ?_;intro v3 w3 hown3 hg3 hat3))
         have hb3:Below w.heap.size w7 w3:=((Below.refl _ _).alloc HK7.out.size _).grown hg3 HZA.out (fun g hg=>(HOA.out.lt g hg).1)
         go_roundw
         case rel=>exact ⟨k+1,B ++ [(apt,qt)],by first|rfl|go_num,Lib.hid (by rw [List.length_append];exact hown3),Lib.hid (HK7.out.lowR hb3),by omega,by rw [List.length_append];simp;omega,.inr ⟨_,HRQ,by simp,Lib.hid ⟨_,_,HR7.out.below hb3 hlt⟩⟩⟩
         case measure=>simp [intOf];omega
        ·have e1:decide (qt < 0)=false:=decide_eq_false hneg
         have HSP4:=Lib.hid (HSP3.out.trans (if_neg hneg))
         clear HSP3
         by_cases hls:qt < apt
         ·have e2:decide (qt < apt)=true:=decide_eq_true hls
          have HRQ:=Lib.hid (show R=.error (3,anx+1) by have:=HE2.out;rw [HSP4.out.trans (if_pos hls)] at this;exact this.symm)
          clear hls HE2 HSP4
          go_wp2_with (first
           | (go_at_call 33;(with_reducible refine (wrong33 HS8.out.rb 3 (anx+1)).mono ?_);rintro e w7 ⟨rfl,hk7,hr7⟩;have HK7:=Lib.hid (HK8.out.trans hk7);have HR7:=Lib.hid hr7;have HO7:=Lib.hid (own_keptb HO8.out hk7 hlt);clear hk7 hr7 c0 c1 c2 c3 c4 c5 c6 f2 f4;have HOA:=Lib.hid (HO7.out.alloc (.cells #[.int .i64 apt,.int .i64 qt] 67));have HRA:=Lib.hid (Rds.new w7 2 1 #[.int .i64 apt,.int .i64 qt] 67 (rngs [(apt,qt)]) rfl rfl);have HZA:=Lib.hid (show w.heap.size≤(w7.alloc (.cells #[.int .i64 apt,.int .i64 qt] 67)).heap.size by have:=HK7.out.size;simp;omega))
           | (at_builtin;refine app_rngs (.tmp 169) (.tmp 170) (base:=w.heap.size) (xs:=B) (ys:=[(apt,qt)]) (n:=B.length) (m:=1) HOA.out HRA.out (by omega) HZA.out rfl rfl rfl rfl ?_;intro v3 w3 hown3 hg3 hat3))
          have hb3:Below w.heap.size w7 w3:=((Below.refl _ _).alloc HK7.out.size _).grown hg3 HZA.out (fun g hg=>(HOA.out.lt g hg).1)
          go_roundw
          case rel=>exact ⟨k+1,B ++ [(apt,qt)],by first|rfl|go_num,Lib.hid (by rw [List.length_append];exact hown3),Lib.hid (HK7.out.lowR hb3),by omega,by rw [List.length_append];simp;omega,.inr ⟨_,HRQ,by simp,Lib.hid ⟨_,_,HR7.out.below hb3 hlt⟩⟩⟩
          case measure=>simp [intOf];omega
         ·have e2:decide (qt < apt)=false:=decide_eq_false hls
          have HSP5:=Lib.hid (HSP4.out.trans (if_neg hls))
          have HNX:=Lib.hid (show partP d l (spanP d l I) first m (k+1) (fun q=>acc q∨(apt≤q∧q≤qt)) qnx=R by have:=HE2.out;rw [HSP5.out] at this;exact this)
          clear HSP4 HSP5 HE2
          have HOA:=Lib.hid (HO8.out.alloc (.cells #[.int .i64 apt,.int .i64 qt] 67));have HRA:=Lib.hid (Rds.new w8 2 1 #[.int .i64 apt,.int .i64 qt] 67 (rngs [(apt,qt)]) rfl rfl);have HZA:=Lib.hid (show w.heap.size≤(w8.alloc (.cells #[.int .i64 apt,.int .i64 qt] 67)).heap.size by have:=HK8.out.size;simp;omega)
          clear c0 c1 c2 c3 c4 c6 f2 f4
          go_wp2_with (at_builtin;refine app_rngs (.tmp 169) (.tmp 170) (base:=w.heap.size) (xs:=B) (ys:=[(apt,qt)]) (n:=B.length) (m:=1) HOA.out HRA.out (by omega) HZA.out rfl rfl rfl rfl ?_;intro v3 w3 hown3 hg3 hat3)
          have hb3:Below w.heap.size w8 w3:=((Below.refl _ _).alloc HK8.out.size _).grown hg3 HZA.out (fun g hg=>(HOA.out.lt g hg).1)
          go_roundw
          case rel=>exact ⟨k+1,B ++ [(apt,qt)],by first|rfl|go_num,Lib.hid (by rw [List.length_append];exact hown3),Lib.hid (HK8.out.lowR hb3),by omega,by rw [List.length_append];simp;omega,.inl ⟨m - 1,qnx,_,Lib.hid (fun h=>absurd h (by omega)),Lib.hid (by rw [show m - 1+1=m by omega];exact HNX.out),Lib.hid (by have:=HM1.out;omega),Lib.hid (by omega),Lib.hid (HS8.out.below hb3 hlt),Lib.hid (fun x hx=>(List.mem_append.1 hx).elim (HOK.out x) fun h=>by rw [List.mem_singleton.1 h];exact (okR_iff _).2 ⟨hap0,by simp only;omega,hqt⟩),Lib.hid (fun q=>by rw [mem_append,HMEM.out q];simp [mem]),Lib.hid (by rw [List.length_append];simp;omega)⟩⟩
          case measure=>simp [intOf];omega
  ·have hf:=HF.out
   obtain ⟨a',p',hrb⟩:=hf
   obtain ⟨c0,c1,c2,c3,c4,c5,c6,f2,f4⟩:=hrb.cells
   have hqb:(q.1 == 0)=false:=beq_eq_false_iff_ne.2 hq
   clear hrb
   go_wp2
   go_ret
   rw [HRE.out]
   exact ⟨HK1.out,_,0,_,[],rfl,World.ownsRow_nil _ _ _ _,isSet_nil,HF.out⟩
end
end Go.Proofs.YtbiahhojnjchnaaGreat
