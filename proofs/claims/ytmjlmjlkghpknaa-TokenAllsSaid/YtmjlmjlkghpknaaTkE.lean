/- A name read; tokens that repeat: walked. -/
import Derived.Test.YtmjlmjlkghpknaaTkD
set_option linter.unusedVariables false
set_option linter.unusedSimpArgs false
namespace Go.Proofs.Ytmjlmjlkghpknaa
open Go.RowKit
theorem isNamP_small {p:Int} (h:isNamP p=true):48≤p∧p≤122:=by
 unfold isNamP isLet isDig at h;simp at h;omega
theorem nameCells_snoc (l:List Int) (p:Int) (h:0≤p∧p≤127):Lib.byteCells (bytesP (l ++ [p]))=Lib.byteCells (bytesP l) ++ [Value.int .u8 p]:=by
 obtain ⟨q,rfl⟩:=Int.eq_ofNat_of_zero_le h.1
 unfold Lib.byteCells bytesP
 simp [UInt8.toNat_ofNat']
 omega
theorem runPts_succ (l:List Int) (p:Int) (k:Nat):runPts l p (k+1)=runPts l p k ++ [ptAt l (p+k)]:=by
 unfold runPts;rw [List.range_succ,List.map_append];rfl
theorem runPts_take (l:List Int) (p:Int) (k j:Nat) (h:j≤k):(runPts l p k).take j=runPts l p j:=by
 apply List.ext_getElem
 ·simp [runPts_length];omega
 ·intro i h1 h2;simp [runPts]
theorem St.under {b n c g:Nat} {d at_:Int} {A:Option Addr} {l:List Int} {w w':World} (h:St b n c d A l at_ w) (hb:Below g w w') (hg:b < g):St b n c d A l at_ w' :=
 ⟨h.rd.below hb hg,h.row.below hb (by omega),h.lo,h.hi,h.pos,h.small,h.cap⟩
theorem fresh_builder {b:Nat} {w2:World} (h:w2.heap[b]?=some (.cells #[.pointer none,.slice none 0 0] 83 (0,0))):Lib.IsBuilderF 83 5 b b (Lib.byteCells (bytesP [])) w2 :=
 .inl ⟨Nat.le_refl _,.slice none 0 0,h,World.ownsRowF_nil _ _ _ _,by simp [Value.ownBlock]⟩
set_option maxRecDepth 100000 in
set_option maxHeartbeats 4000000 in
theorem name57 {b n c:Nat} {d at_:Int} {A:Option Addr} {l:List Int} {w:World} (h:St b n c d A l at_ w) :
  Calls Try.prog 57 #[.pointer (some ⟨b,0,none⟩)] w fun e w'=>e=.returned (.string ⟨(bytesP (runPts l at_ (nameLen l at_))).toArray⟩)∧St b n c d A l (at_+nameLen l at_) w'∧Kept b w w':=by
 have C:=Lib.hid (peek_st h)
 clear h
 unfold nameLen
 obtain ⟨p,hp⟩:∃ p,p=ptAt l at_:=⟨_,rfl⟩
 rw [← hp] at C ⊢
 clear hp
 have D:=Lib.hid (fun w=>(isLetter56 p w).mono (R':=fun e w'=>e=.returned (.bool (isLet p))∧w=w') fun _ _ ⟨e,h⟩=>⟨e,h.symm⟩)
 by_cases hl:isLet p=true∨p=95
 ·rw [if_pos hl]
  have hcase:(isLet p=true)∨(isLet p=false∧p=95):=by
   by_cases h2:isLet p=true
   ·exact .inl h2
   ·exact .inr ⟨by simpa using h2,by rcases hl with h|h;exact absurd h h2;exact h⟩
  clear hl
  obtain ⟨g,hg⟩:∃ g:Nat,g=0:=⟨_,rfl⟩
  clear hg
  have key:∀ w1,St b n c d A l at_ w1→Kept b w w1→Calls Try.prog 54 #[.pointer (some ⟨b,0,none⟩),.int .i64 20,.func (.func 62) #[] #[]] (w1.alloc (.cells #[.pointer none,.slice none 0 0] 83)) fun e w'=>∃ A' c',e=.returned (.slice A' (runLen isNamP l at_ 20) c')∧Rds w' b 1 A' (runLen isNamP l at_ 20) (ints (runPts l at_ (runLen isNamP l at_ 20)))∧St b n c d A l (at_+runLen isNamP l at_ 20) w'∧Kept b (w1.alloc (.cells #[.pointer none,.slice none 0 0] 83)) w':=fun w1 h1 _=>run_st runNam 20 (h1.alloc _) (by omega)
  have KEY:=Lib.hid key
  clear key
  have HY:=Lib.hid (fun k=>runLen_yes isNamP l 20 at_ k)
  have HLE:=runLen_le isNamP l 20 at_
  obtain ⟨K,hK⟩:∃ K,K=runLen isNamP l at_ 20:=⟨_,rfl⟩
  rw [← hK] at KEY HY HLE ⊢
  clear hK
  rcases hcase with hc|⟨hc,rfl⟩<;>rw [hc] at D<;>clear hc
  all_goals
   go_enter Try.func57,Try.ntmps57
   go_wp2_with (first
    | (go_at_call 37;refine C.out.mono ?_;rintro e w1 ⟨rfl,h1,k1⟩;have H1:=Lib.hid h1;have K1:=Lib.hid k1;clear h1 k1)
    | (go_at_call 56;refine (D.out _).mono ?_;rintro e w2 ⟨rfl,rfl⟩))
  all_goals
   refine (KEY.out _ H1.out K1.out).mono ?_
   rintro e w2 ⟨A',c',rfl,hs,h2,k2⟩
   have hlt1:=H1.out.lt
   have hb:w2.heap[w1.heap.size]?=some (.cells #[.pointer none,.slice none 0 0] 83 (0,0)):=by
    rw [k2.block _ (by simp) (by omega)];exact heap_alloc_new w1 _
   have hsz2:=k2.size
   simp at hsz2
   have HB:=Lib.hid (fresh_builder hb)
   have HS:=Lib.hid hs
   have H2:=Lib.hid h2
   have HK12:Hid (∀ k,k < w1.heap.size→k≠b→w2.heap[k]?=w1.heap[k]?):=Lib.hid (fun k hk hkb=>by rw [k2.block k (by simp;omega) hkb,heap_alloc_old w1 _ hk])
   have HKO:Hid (w2.os=w1.os∧w2.tape=w1.tape∧w2.output=w1.output):=Lib.hid ⟨k2.os,k2.tape,k2.output⟩
   clear hs h2 k2 hb KEY
   obtain ⟨g,hg⟩:∃ g,g=w1.heap.size:=⟨_,rfl⟩
   rw [← hg] at HB hsz2
   have HG:=Lib.hid hg
   have hbg:b < g:=by omega
   rw [← hg]
   clear hg hlt1
   go_wp2_with fail
   go_loopw [19] (fun i wr=>∃ j:Nat,j≤K∧i=.int .i64 j∧Hid (Lib.IsBuilderF 83 5 g g (Lib.byteCells (bytesP (runPts l at_ j))) wr)∧Hid (Below g w2 wr)) (fun i _=>K - (intOf i).toNat)
   case atStart=>exact ⟨0,Nat.zero_le _,rfl,HB,Lib.hid (Below.refl _ _)⟩
   case round =>
    obtain ⟨j,hj,rfl,HI,HW⟩:=hrel
    have hsz:=HW.out.size
    by_cases hlt:j < K
    ·have hrow:=(HS.out.keep (w':=wr) fun q hq=>HW.out.cell (by omega)).int_at hlt
     obtain ⟨b1,off1,hl1,hA,hb1,hc1⟩:=hrow
     have hpt:=runPts_get l at_ K j hl1
     have hx:=isNamP_small (HY.out j hlt)
     have HT:=Lib.hid (show Lib.byteCells (bytesP (runPts l at_ (j+1)))=Lib.byteCells (bytesP (runPts l at_ j)) ++ [Value.int .u8 (ptAt l (at_+j))] by rw [runPts_succ,nameCells_snoc _ _ (by omega)])
     rw [hpt] at hc1
     obtain ⟨x,hx'⟩:∃ x,x=ptAt l (at_+j):=⟨_,rfl⟩
     rw [← hx'] at hc1 HT hx
     clear hx' hpt
     have W:=Lib.hid (writeRune63 g g _ x (by omega) (by omega) wr HI.out (by unfold Lib.byteCells bytesP;simp [runPts_length];omega) (by omega))
     subst hA
     have i1:(0:Int)≤(j:Int):=by omega
     have i2:(j:Int) < (K:Int):=by omega
     have i3:IntKind.i32.wrap x=x:=by rw [IntKind.wrap_i32];omega
     go_wp2_with (go_at_call 63;refine W.out.mono ?_;rintro e w3 ⟨rfl,h3,hb3,-⟩;have H3:=Lib.hid h3;have HB3:=Lib.hid (HW.out.trans hb3);clear h3 hb3)
     go_roundw
     case rel=>exact ⟨j+1,by omega,by go_num,Lib.hid (.inr (by rw [HT.out];exact H3.out)),HB3⟩
     case measure=>simp [intOf];omega
    ·obtain rfl:j=K:=by omega
     have S:=Lib.hid (Try.Builder_String_any_k g g _ wr HI.out (by omega))
     go_wp2_with (go_at_call 64;refine S.out.mono ?_;rintro e w3 ⟨rfl,-,hb3,-⟩;have HB3:=Lib.hid (HW.out.trans hb3);clear hb3)
     go_ret
     have hb3:=HB3.out
     exact ⟨rfl,H2.out.under HB3.out hbg,K1.out.trans ⟨hb3.os.trans HKO.out.1,hb3.tape.trans HKO.out.2.1,hb3.output.trans HKO.out.2.2,by have:=hb3.size;rw [← HG.out];omega,fun k hk hkb=>(hb3.block k (by rw [← HG.out] at hk;exact hk)).trans (HK12.out k (by rw [← HG.out];rw [← HG.out] at hk;exact hk) hkb)⟩⟩
 ·rw [if_neg hl]
  have hl1:isLet p=false:=by cases h:isLet p with|true=>exact absurd (.inl h) hl|false=>rfl
  have hl2:(p != 95)=true:=by simp;exact fun h=>hl (.inr h)
  clear hl
  rw [hl1] at D
  clear hl1
  go_enter Try.func57,Try.ntmps57
  go_wp2_with (first
   | (go_at_call 37;refine C.out.mono ?_;rintro e w1 ⟨rfl,h1,k1⟩;have H1:=Lib.hid h1;have K1:=Lib.hid k1;clear h1 k1)
   | (go_at_call 56;refine (D.out _).mono ?_;rintro e w2 ⟨rfl,rfl⟩))
  go_ret
  exact ⟨rfl,by simpa using H1.out,K1.out⟩
end Go.Proofs.Ytmjlmjlkghpknaa
