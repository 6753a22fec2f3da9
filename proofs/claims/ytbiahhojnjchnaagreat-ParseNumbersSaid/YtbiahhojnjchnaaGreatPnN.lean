/-
  The parser's knot, tied.
-/
import Derived.Test.YtbiahhojnjchnaaGreatPnM
set_option linter.unusedVariables false
set_option linter.unusedSimpArgs false
namespace Go.Proofs.YtbiahhojnjchnaaGreat
open Go.RowKit
set_option maxRecDepth 100000 in
set_option maxHeartbeats 4000000 in
theorem open132_deep {b n c:Nat} {d:Int} {A:Option Addr} {l:List Int} {s:PS} {V1 V2:Value} {w:World} {t:Tk} {frm:Int} (h:PsAt b n c d A l s V1 V2 w) (hd20:s.deep=20) :
  Calls Tryz.prog 132 #[.pointer (some ⟨b,0,none⟩),.agg #[.int .i64 t.kind,.int .i64 t.num,.string ⟨t.text.toArray⟩,.bool t.not_,.int .i64 t.least,.int .i64 t.most,.int .i64 t.way,.int .i64 t.fold],.int .i64 frm] w (POut b n c d A l (pm b V1 V2) w (.error (2,frm))):=by
 have hlt:=h.lt
 obtain ⟨W1,hW1⟩:∃ X,X=(w.alloc (.cells #[.int .i64 t.kind,.int .i64 t.num,.string ⟨t.text.toArray⟩,.bool t.not_,.int .i64 t.least,.int .i64 t.most,.int .i64 t.way,.int .i64 t.fold] 108)).alloc (.cells #[.int .i64 0,.slice none 0 0,.slice none 0 0,.int .i64 0,.int .i64 0,.int .i64 0,.int .i64 0,.bool false] 42):=⟨_,rfl⟩
 have hB1:Below w.heap.size w W1:=by rw [hW1];exact ((Below.refl _ _).alloc (Nat.le_refl _) _).alloc (by simp) _
 have HP1:=Lib.hid (h.next hB1)
 have HB1:=Lib.hid hB1
 obtain ⟨p0,p1,p2,p3,p4,p5,p6,p7,pf⟩:=HP1.out.cells
 rw [hd20] at p4
 clear h hB1 hd20
 go_enter Tryz.func132,Tryz.ntmps132
 go_upto_region 1 with (fail)
 rw [← hW1]
 clear hW1
 go_wp2_with (go_at_call 45;(with_reducible refine (fail45 _ _ _).mono ?_);rintro e w6 ⟨rfl,rfl⟩)
 exact ⟨rfl,rfl,HP1.out.bad (Mvd.of_below (M:=pm b V1 V2) (M':=pm b V1 V2) HB1.out fun _ _ h=>h)⟩
section
variable {b n c:Nat} {d:Int} {A:Option Addr} {l:List Int} {canL:(Int→Prop)→List (Int × Int)} {FQ:(Int→Prop)→Int→Prop} {oth:PS→Tk→Int→FR (Tr × PS)}
theorem parK_go (HO:OthC b n c d A l oth) (k:Nat):AtomG d l (GK k) (parK canL FQ oth d l k):=by
 induction k with
 | zero =>
  refine ⟨fun s t nx p hg h0 hn h6 h8 h9 h=>?_,fun s t nx hg hn=>⟨hg.1,hg.2.1,by have:=next_mv hn hg.2.2;have:=hg.2.2;simp only;omega⟩,fun s f hg=>hg⟩
  have hmv:=next_mv hn h0
  rw [parK] at h
  unfold atomS at h
  split at h
  ·cases h;exact ⟨⟨hg.1,hg.2.1,by simp only;omega⟩,Int.le_refl _,by simp only [setT,sizeT_eq,Tr.kids,sizeL];omega⟩
  ·rename_i h1
   split at h
   ·cases h
   ·rename_i h7
    obtain ⟨k1,k2,k3,k4,k5⟩:=HO.go s t nx p h0 hn h1 h6 h7 h8 h9 h
    exact ⟨⟨by rw [k1];exact hg.1,by rw [k2,k3];exact hg.2.1,by omega⟩,k4,k5⟩
 | succ k ih =>
  refine ⟨fun s t nx p hg h0 hn h6 h8 h9 h=>?_,fun s t nx hg hn=>⟨hg.1,hg.2.1,by have:=next_mv hn hg.2.2;have:=hg.2.2;simp only;omega⟩,fun s f hg=>hg⟩
  have hmv:=next_mv hn h0
  rw [parK] at h
  unfold atomS at h
  split at h
  ·cases h;exact ⟨⟨hg.1,hg.2.1,by simp only;omega⟩,Int.le_refl _,by simp only [setT,sizeT_eq,Tr.kids,sizeL];omega⟩
  ·rename_i h1
   split at h
   ·obtain ⟨k1,k2,k3⟩:=openS_ok (fun s p hg h0 h=>pattern_ok ih hg h0 h) (s:={ s with at_:=nx }) ⟨hg.1,hg.2.1,by simp only;omega⟩ (by simp only;omega) h
    simp only at k2 k3
    exact ⟨k1,by omega,by omega⟩
   ·rename_i h7
    obtain ⟨k1,k2,k3,k4,k5⟩:=HO.go s t nx p h0 hn h1 h6 h7 h8 h9 h
    exact ⟨⟨by rw [k1];exact hg.1,by rw [k2,k3];exact hg.2.1,by omega⟩,k4,k5⟩
theorem parK_calls (HT:Hid (TokC d l)) (HO:OthC b n c d A l oth) (HC:Hid (∀ f out,IsSet out f→canL f=out)) (HF:Hid (FoldC FQ)) (k:Nat):AtomC b n c d A l (GK k) (parK canL FQ oth d l k):=by
 induction k with
 | zero =>
  intro s V1 V2 t nx w hg hp hn h6 h8 h9
  have hmv:=next_mv hn hp.lo
  rw [hp.len] at hmv
  have hlo:=hp.lo
  rw [parK]
  unfold atomS
  by_cases h1:t.kind=1
  ·rw [if_pos h1]
   exact atom_point HC (Lib.hid fun _=>HF.out) h1 (HO.point s t nx hp.lo hn h1) ⟨by omega,by omega⟩ hp
  ·rw [if_neg h1]
   by_cases h7:t.kind=7
   ·rw [if_pos h7]
    exact atom_open h7 ⟨by omega,by omega⟩ hp (Lib.hid fun X hX=>open132_deep hX (by have:=hg.1;simpa using this))
   ·rw [if_neg h7]
    exact HO.calls s V1 V2 t nx w hp hn h1 h6 h7 h8 h9
 | succ k ih =>
  intro s V1 V2 t nx w hg hp hn h6 h8 h9
  have hmv:=next_mv hn hp.lo
  rw [hp.len] at hmv
  have hlo:=hp.lo
  rw [parK]
  unfold atomS
  by_cases h1:t.kind=1
  ·rw [if_pos h1]
   exact atom_point HC (Lib.hid fun _=>HF.out) h1 (HO.point s t nx hp.lo hn h1) ⟨by omega,by omega⟩ hp
  ·rw [if_neg h1]
   by_cases h7:t.kind=7
   ·rw [if_pos h7]
    have HG:=parK_go (canL:=canL) (FQ:=FQ) HO k
    have hng:=hg.2.1
    have hgr:=hp.gr
    refine atom_open h7 ⟨by omega,by omega⟩ hp (Lib.hid fun X hX=>open132 (G:=GK k) HT (Lib.hid ⟨fun s U1 U2 W hs hps=>pattern44 HT (Lib.hid ih) (Lib.hid HG) hps hs,fun s p hs hok=>?_⟩) hX (Lib.hid ?_) (by simp only;omega))
    ·have h1:=(pattern_ok HG hs hs.2.2 hok).1.1
     have h2:=hs.1
     omega
    ·refine ⟨by have:=hg.1;simp only;push_cast at this;omega,?_,(show (0:Int)≤nx by omega)⟩
     unfold openIn
     by_cases h11:t.num=11
     ·by_cases htx:t.text=[]
      ·simp [h11,htx];omega
      ·simp [h11,htx];omega
     ·simp [h11];exact hng
   ·rw [if_neg h7]
    exact HO.calls s V1 V2 t nx w hp hn h1 h6 h7 h8 h9
end
end Go.Proofs.YtbiahhojnjchnaaGreat
