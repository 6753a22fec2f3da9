/- Runs of points: walked. -/
import Derived.Test.YtmjlmjlkghpknaaTkB
import Derived.Deep.QuietTactic
import Derived.BigQuiet
set_option linter.unusedVariables false
set_option linter.unusedSimpArgs false
namespace Go.Proofs.Ytmjlmjlkghpknaa
open Go.RowKit
theorem runLen_le (f:Int→Bool) (l:List Int):∀ (m:Nat) (at_:Int),runLen f l at_ m≤m:=by
 intro m
 induction m with
 | zero=>intro at_;simp [runLen]
 | succ m ih=>intro at_;have:=ih (at_+1);unfold runLen;split<;>omega
theorem runLen_yes (f:Int→Bool) (l:List Int):∀ (m:Nat) (at_:Int) (k:Nat),k < runLen f l at_ m→f (ptAt l (at_+k))=true:=by
 intro m
 induction m with
 | zero=>intro at_ k h;simp [runLen] at h
 | succ m ih =>
  intro at_ k h
  unfold runLen at h
  split at h
  ·rename_i hc
   cases k with
   | zero=>simpa using hc
   | succ k =>
    have:=ih (at_+1) k (by omega)
    rw [show at_+((k+1:Nat):Int)=at_+1+k by omega];exact this
  ·omega
theorem runLen_no (f:Int→Bool) (l:List Int):∀ (m:Nat) (at_:Int),runLen f l at_ m < m→f (ptAt l (at_+runLen f l at_ m))=false:=by
 intro m
 induction m with
 | zero=>intro at_ h;omega
 | succ m ih =>
  intro at_ h
  unfold runLen at h ⊢
  split at h
  ·rename_i hc
   rw [if_pos hc]
   have:=ih (at_+1) (by omega)
   rw [show at_+((1+runLen f l (at_+1) m:Nat):Int)=at_+1+runLen f l (at_+1) m by omega];exact this
  ·rename_i hc
   rw [if_neg hc];simpa using hc
/-- a place in a run: it goes on just while the points are such -/
theorem runLen_more {f:Int→Bool} {l:List Int} {m:Nat} {at_:Int} {k:Nat} (hk:k≤runLen f l at_ m) (hm:k < m) (hf:f (ptAt l (at_+k))=true):k+1≤runLen f l at_ m:=by
 rcases Nat.lt_or_ge k (runLen f l at_ m) with h|h
 ·exact h
 ·obtain rfl:k=runLen f l at_ m:=by omega
  have:=runLen_no f l m at_ hm
  rw [this] at hf;cases hf
theorem runLen_end {f:Int→Bool} {l:List Int} {m:Nat} {at_:Int} {k:Nat} (hk:k≤runLen f l at_ m) (hf:k < m→f (ptAt l (at_+k))=false):k=runLen f l at_ m:=by
 rcases Nat.lt_or_ge k (runLen f l at_ m) with h|h
 ·have h1:=runLen_yes f l m at_ k h
  have h2:=runLen_le f l m at_
  rw [hf (by omega)] at h1;cases h1
 ·omega
theorem runLen_in {f:Int→Bool} (h1:f (-1)=false) {l:List Int} {m:Nat} {at_:Int} {k:Nat} (h0:0≤at_) (hk:k < runLen f l at_ m):at_+k < l.length:=by
 have:=runLen_yes f l m at_ k hk
 by_cases hc:0≤at_+(k:Int)∧at_+(k:Int) < l.length
 ·exact hc.2
 ·rw [ptAt_out l hc,h1] at this;cases this
theorem runLen_fit {f:Int→Bool} (h1:f (-1)=false) {l:List Int} {m:Nat} {at_:Int} (h0:0≤at_) (hat:at_≤l.length):at_+runLen f l at_ m≤l.length:=by
 rcases Nat.eq_zero_or_pos (runLen f l at_ m) with h|h
 ·rw [h];simpa using hat
 ·have:=runLen_in h1 h0 (k:=runLen f l at_ m - 1) (l:=l) (m:=m) (by omega)
  omega
theorem runPts_length (l:List Int) (p:Int) (k:Nat):(runPts l p k).length=k:=by simp [runPts]
theorem runPts_get (l:List Int) (p:Int) (k i:Nat) (h:i < (runPts l p k).length):(runPts l p k)[i]=ptAt l (p+i):=by simp [runPts]
/-- a part of a row -/
theorem Rds.part {w:World} {B n:Nat} {A:Addr} {l:List Int} (h:Rds w B 1 (some A) n (ints l)) (hn:0 < n) {a k:Nat} (ha:a+k≤n) {A':Option Addr} (hA:0 < k→A'=some ⟨A.block,A.off+a,none⟩):Rds w B 1 A' k (ints (runPts l a k)):=by
 obtain ⟨b,off,e,hb,hc⟩:=h.2 hn
 cases e
 have hl:=h.ints_len
 refine ⟨by rw [ints_length,runPts_length];omega,fun hk=>⟨b,off+a,hA hk,hb,fun j u hu=>?_⟩⟩
 have hj:j < k:=by
  have:=(List.getElem?_eq_some_iff.1 hu).1
  rw [ints_length,runPts_length] at this;exact this
 rw [ints_get _ j (by rw [runPts_length];exact hj),runPts_get] at hu
 have h2:=ptAt_in l (k:=a+j) (by omega)
 rw [show ((a+j:Nat):Int)=(a:Int)+j by omega] at h2
 rw [h2] at hu
 have:=hc (a+j) _ (ints_get l (a+j) (by omega))
 rw [hu] at this
 rw [Nat.add_assoc];exact this
def placeOf (b:Nat) (w:World):Nat:=(intOf ((w.cell? ⟨b,2,none⟩).getD (.int .i64 0))).toNat
theorem RdAt.place {b n c:Nat} {d at_:Int} {A:Option Addr} {w:World} (h:RdAt b d A n c at_ w):placeOf b w=at_.toNat:=by
 unfold placeOf;rw [h.cells.2.2.1];rfl
/-- what a slice of a row is -/
theorem slice_part {w:World} {B b1 off n c:Nat} {l:List Int} (h:Rds w B 1 (some ⟨b1,off,none⟩) n (ints l)) (hn:0 < n) {a k:Nat} (ha:a+k≤n) (hc:n≤c) :
  ∃ A',Rds w B 1 A' k (ints (runPts l a k))∧∀ wx:World,(Instr.sliceAt 22 (.slice (some ⟨b1,off,none⟩) n c) (some (.int .i64 a)) (some (.int .i64 ((a:Int)+(k:Int)))) none).run Try.prog wx=.ok (.slice A' k (c - a)) wx:=by
 refine ⟨if c=a then some ⟨b1,off,none⟩ else some ⟨b1,off+a,none⟩,h.part hn ha (fun hk=>by rw [if_neg (by omega)]),fun wx=>?_⟩
 have hu:Try.prog.underlying 22=some (.slice (Try.prog.elem 22)):=by kernel_rfl
 rw [run_sliceAt_slice _ _ _ _ _ _ hu,run_slice_lh _ _ _ _ _ hu _ _ _ _ (by omega) (by omega) (by omega)]
 have hs:(sizeOf (Try.prog.elem 22)).run Try.prog wx=.ok 1 wx:=by
  have he:Try.prog.elem 22=3:=by kernel_rfl
  rw [he];simp [go_sem]
 rw [hs]
 simp only [Result.andThen,sliced]
 rw [show ((a:Int)+(k:Int)).toNat - (a:Int).toNat=k by omega,show (a:Int).toNat=a by omega]
 by_cases hca:c=a
 ·rw [if_pos hca,if_pos hca]
 ·rw [if_neg hca,if_neg hca]
  unfold Addr.add
  rcases Nat.eq_zero_or_pos a with rfl|h0
  ·simp
  ·simp [show ¬ a=0 by omega]
set_option maxRecDepth 100000 in
set_option maxHeartbeats 4000000 in
theorem run54 (f:Int→Bool) (g:Nat) (hf:f (-1)=false) (eg:∀ args w,(callFunc g args).run Try.prog w=.ok (.enter g args) w) (hcl:∀ x w,Calls Try.prog g #[.int .i64 x] w fun e w'=>e=.returned (.bool (f x))∧w'=w)
  (b n c m:Nat) (d at_:Int) (A:Option Addr) (l:List Int) (w:World) (hr:RdAt b d A n c at_ w) (ha:Rds w b 1 A n (ints l)) (h0:0≤at_) (h1:at_≤n) (hn:0 < n) (hn2:n≤1000) (hc:n≤c) (hm:m≤20) :
  Calls Try.prog 54 #[.pointer (some ⟨b,0,none⟩),.int .i64 m,.func (.func g) #[] #[]] w fun e w'=>∃ A' c',e=.returned (.slice A' (runLen f l at_ m) c')∧Rds w' b 1 A' (runLen f l at_ m) (ints (runPts l at_ (runLen f l at_ m)))∧RdAt b d A n c (at_+runLen f l at_ m) w'∧Kept b w w':=by
 obtain ⟨a,rfl⟩:=Int.eq_ofNat_of_zero_le h0
 obtain ⟨b1,off,rfl,hb1,-⟩:=ha.2 hn
 have HLN:=Lib.hid ha.ints_len
 have HA:=Lib.hid ha
 have HC:=Lib.hid hcl
 have HR:=Lib.hid hr
 have HF:=Lib.hid hf
 obtain ⟨c0,c1,c2,f2⟩:=hr.cells
 have h1':a≤n:=by omega
 clear hcl ha hr hf h0 h1
 have HK0:=Lib.hid (Kept.refl b w)
 have HLE:=Lib.hid (runLen_le f l m a)
 have HMORE:=Lib.hid (fun k=>runLen_more (f:=f) (l:=l) (m:=m) (at_:=a) (k:=k))
 have HEND:=Lib.hid (fun k=>runLen_end (f:=f) (l:=l) (m:=m) (at_:=a) (k:=k))
 have HFIT:=Lib.hid (runLen_fit HF.out (l:=l) (m:=m) (at_:=a) (by omega) (by rw [HLN.out];omega))
 obtain ⟨K,hK⟩:∃ K,K=runLen f l a m:=⟨_,rfl⟩
 rw [← hK] at HLE HMORE HEND HFIT ⊢
 clear hK
 have HLT:=Lib.hid HR.out.lt
 have HBN:=Lib.hid (show b1≠b by omega)
 have HBN:=Lib.hid (show b1≠b by omega)
 go_enter Try.func54,Try.ntmps54
 go_upto_region 2 with (fail)
 go_loopw [] (fun wr=>∃ k:Nat,k≤K∧Hid (RdAt b d (some ⟨b1,off,none⟩) n c (a+k) wr)∧Hid (Kept b w wr)) (fun wr=>n - placeOf b wr)
 case atStart=>exact ⟨0,by omega,by simpa using HR,HK0⟩
 case round =>
  obtain ⟨k,hk,HR1,HK1⟩:=hrel
  obtain ⟨c0,c1,c2,f2⟩:=HR1.out.cells
  have HPL:=Lib.hid HR1.out.place
  have i3:(0:Int)≤(a:Int)+(k:Int):=by omega
  obtain ⟨A',hA',hsl⟩:=slice_part (HA.out.kept HK1.out (Nat.le_refl _) (Nat.le_of_lt HLT.out)) hn (a:=a) (k:=k) (by have:=HFIT.out;rw [HLN.out] at this;omega) hc
  have HA':=Lib.hid hA'
  clear hA'
  by_cases hlt:a+k < n
  ·have i1:(a:Int)+(k:Int) < (n:Int):=by omega
   have W1:IntKind.i64.wrap ((a:Int)+(k:Int) - (a:Int))=(k:Int):=by rw [IntWalk.i64_in _ (by omega)];omega
   by_cases hkm:k < m
   ·have hP:=ptAt_in l (k:=a+k) (by rw [HLN.out];exact hlt)
    rw [show ((a+k:Nat):Int)=(a:Int)+k by omega] at hP
    obtain ⟨b2,off2,hl2,hA2,-,hx⟩:=(HA.out.kept HK1.out (Nat.le_refl _) (Nat.le_of_lt HLT.out)).int_at hlt
    cases hA2
    obtain ⟨x,hx'⟩:∃ x,x=l[a+k]'hl2:=⟨_,rfl⟩
    rw [← hx'] at hx hP
    have HM:=Lib.hid (fun h:f x=true=>HMORE.out k hk hkm (by rw [hP];exact h))
    have HE:=Lib.hid (fun h:f x=false=>HEND.out k hk (fun _=>by rw [hP];exact h))
    have C:=Lib.hid (HC.out x)
    clear hP hx'
    have i2:(k:Int) < (m:Int):=by omega
    have W2:((a:Int)+(k:Int)).toNat=a+k:=by omega
    by_cases hfx:f x=true
    ·rw [hfx] at C
     have hle:=HM.out hfx
     clear HM HE hsl
     go_wp2_with fail
     go_quiet ((first|(with_reducible exact Calls.quiet_of_same (C.out _))|(with_reducible exact quiet_add_same (C.out _))))
     go_wp2
     have HRN:=HR1.out
     unfold RdAt at HRN
     go_roundw
     case rel =>
      refine ⟨k+1,hle,Lib.hid ?_,Lib.hid ((HK1.out.drewN _).set 2 _)⟩
      rw [show (a:Int)+((k+1:Nat):Int)=(a:Int)+(k:Int)+1 by omega]
      exact (HR1.out.drewN _).move _
     case measure =>
      rw [HPL.out,((HR1.out.drewN _).move _).place];omega
    ·have hfx':f x=false:=by simpa using hfx
     clear hfx
     obtain rfl:=HE.out hfx'
     rw [hfx'] at C
     clear HM HE
     go_wp2_with fail
     go_quiet ((first|(with_reducible exact Calls.quiet_of_same (C.out _))|(with_reducible exact quiet_add_same (C.out _))))
     go_wp2_with fail
     go_quiet (fail)
     go_wp2_with fail
     go_ret
     exact ⟨_,_,rfl,HA'.out,HR1.out,(HK1.out.drewN _).drewN _⟩
   ·have hk2:m≤k:=by omega
    obtain rfl:k=K:=by have:=HLE.out;omega
    have i2:decide (k < m)=false:=by simpa using hkm
    have i4:decide ((k:Int) < (m:Int))=false:=by simpa using hkm
    go_wp2_with fail
    go_quiet (fail)
    go_wp2_with fail
    go_quiet (fail)
    go_wp2_with fail
    go_ret
    exact ⟨_,_,rfl,HA'.out,HR1.out,(HK1.out.drewN _).drewN _⟩
  ·have i1:decide ((a:Int)+(k:Int) < (n:Int))=false:=by simp;omega
   obtain rfl:k=K:=by have:=HFIT.out;rw [HLN.out] at this;omega
   go_wp2_with fail
   go_quiet (fail)
   go_wp2_with fail
   go_quiet (fail)
   go_wp2_with fail
   go_ret
   exact ⟨_,_,rfl,HA'.out,HR1.out,(HK1.out.drewN _).drewN _⟩
end Go.Proofs.Ytmjlmjlkghpknaa
