/- The reader of patterns, in its block; its least methods: walked. -/
import Derived.Test.YtmjlmjlkghpknaaBase
import Derived.Test.YtmjlmjlkghpknaaTokP
import Derived.WalkLawsBesides
import Derived.Deep.RegionHeld3
import Derived.Laws.ResultCell
set_option linter.unusedVariables false
set_option linter.unusedSimpArgs false
namespace Go.Proofs.Ytmjlmjlkghpknaa
open Go.RowKit
/-- the reader: dialect, points, place -/
def RdAt (b:Nat) (d:Int) (A:Option Addr) (n c:Nat) (at_:Int) (w:World):Prop:=w.heap[b]?=some (.cells #[.int .i64 d,.slice A n c,.int .i64 at_] 54 (0,0))
/-- old blocks stay, but one -/
structure Kept (b:Nat) (w w':World):Prop where
 os:w'.os=w.os
 tape:w'.tape=w.tape
 output:w'.output=w.output
 size:w.heap.size≤w'.heap.size
 block:∀ k,k < w.heap.size→k≠b→w'.heap[k]?=w.heap[k]?
theorem Kept.refl (b:Nat) (w:World):Kept b w w:=⟨rfl,rfl,rfl,Nat.le_refl _,fun _ _ _=>rfl⟩
theorem Kept.trans {b:Nat} {w w1 w2:World} (h:Kept b w w1) (k:Kept b w1 w2):Kept b w w2 :=
 ⟨k.os.trans h.os,k.tape.trans h.tape,k.output.trans h.output,Nat.le_trans h.size k.size,fun i hi hb=>(k.block i (Nat.lt_of_lt_of_le hi h.size) hb).trans (h.block i hi hb)⟩
theorem Kept.of {b:Nat} {w w':World} (h:Below w.heap.size w w'):Kept b w w':=⟨h.os,h.tape,h.output,h.size,fun k hk _=>h.block k hk⟩
theorem Kept.drewN {b:Nat} {w w':World} (h:Kept b w w') (q:Nat):Kept b w (w'.drewN q):=⟨h.os,h.tape,h.output,h.size,h.block⟩
theorem Kept.alloc {b:Nat} {w w':World} (h:Kept b w w') (o:Obj):Kept b w (w'.alloc o):=h.trans (.of ((Below.refl _ _).alloc (Nat.le_refl _) o))
theorem Kept.set {b:Nat} {w w':World} (h:Kept b w w') (j:Nat) (v:Value):Kept b w (w'.setCell ⟨b,j,none⟩ v) :=
 ⟨h.os,h.tape,h.output,by rw [World.setCell];simpa using h.size,fun k hk hb=>by rw [Below.heap_setCell _ ⟨b,j,none⟩ _ k hb];exact h.block k hk hb⟩
/-- a store into a block that is new -/
theorem Kept.setNew {b:Nat} {w w':World} (h:Kept b w w') {p:Addr} (hp:w.heap.size≤p.block) (v:Value):Kept b w (w'.setCell p v) :=
 ⟨h.os,h.tape,h.output,by rw [World.setCell];simpa using h.size,fun k hk hb=>by rw [Below.heap_setCell _ p _ k (fun e=>by omega)];exact h.block k hk hb⟩
theorem Kept.below {b B:Nat} {w0 w w':World} (h0:Below B w0 w) (hb:B≤b) (h:Kept b w w') (hB:B≤w.heap.size):Below B w0 w' :=
 ⟨h.os.trans h0.os,h.tape.trans h0.tape,h.output.trans h0.output,Nat.le_trans h0.size h.size,fun k hk=>(h.block k (by omega) (by omega)).trans (h0.block k hk)⟩
theorem Kept.cell {b:Nat} {w w':World} (h:Kept b w w') {p:Addr} (hp:p.block < w.heap.size) (hb:p.block≠b):w'.cell? p=w.cell? p:=World.cell?_of_block (h.block p.block hp hb)
theorem Kept.frozen {b:Nat} {w w':World} (h:Kept b w w') {p:Addr} (hp:p.block < w.heap.size) (hb:p.block≠b):w'.frozen? p=w.frozen? p:=by
 unfold World.frozen?;rw [h.block p.block hp hb]
theorem Rds.kept {w w':World} {b B size n:Nat} {A:Option Addr} {xs:List Value} (h:Rds w B size A n xs) (hk:Kept b w w') (hB:B≤b) (hs:b≤w.heap.size):Rds w' B size A n xs :=
 h.keep fun p hp=>hk.cell (by omega) (by omega)
section
variable {b n c:Nat} {d at_:Int} {A:Option Addr} {w w':World}
theorem RdAt.lt (h:RdAt b d A n c at_ w):b < w.heap.size:=by
 unfold RdAt at h
 rcases Nat.lt_or_ge b w.heap.size with h'|h'
 ·exact h'
 ·simp [Array.getElem?_eq_none h'] at h
theorem RdAt.cells (h:RdAt b d A n c at_ w):w.cell? ⟨b,0,none⟩=some (.int .i64 d)∧w.cell? ⟨b,1,none⟩=some (.slice A n c)∧w.cell? ⟨b,2,none⟩=some (.int .i64 at_)∧w.frozen? ⟨b,2,none⟩=false:=by
 refine ⟨?_,?_,?_,?_⟩
 ·rw [cell_of_row _ _ _ _ 54 (0,0) h];rfl
 ·rw [cell_of_row _ _ _ _ 54 (0,0) h];rfl
 ·rw [cell_of_row _ _ _ _ 54 (0,0) h];rfl
 ·unfold RdAt at h;unfold World.frozen?;rw [h];rfl
theorem RdAt.below {B:Nat} (h:RdAt b d A n c at_ w) (hb:Below B w w') (hB:b < B):RdAt b d A n c at_ w':=by
 unfold RdAt at *;rw [hb.block b hB];exact h
theorem RdAt.next (h:RdAt b d A n c at_ w) (hb:Below w.heap.size w w'):RdAt b d A n c at_ w':=h.below hb h.lt
theorem RdAt.move (h:RdAt b d A n c at_ w) (x:Int):RdAt b d A n c x (w.setCell ⟨b,2,none⟩ (.int .i64 x)):=by
 unfold RdAt at *;simp [World.setCell,Array.getElem?_modify,h]
theorem RdAt.drewN (h:RdAt b d A n c at_ w) (q:Nat):RdAt b d A n c at_ (w.drewN q):=h
theorem RdAt.setOther (h:RdAt b d A n c at_ w) {p:Addr} (hp:p.block≠b) (v:Value):RdAt b d A n c at_ (w.setCell p v):=by
 unfold RdAt at *;rw [Below.heap_setCell _ p _ b (fun e=>hp e.symm)];exact h
end
/-- what a panic of this package carries -/
def wrongV (e:Int):List PanicEntry:=[{ v:=.iface 50 (.agg #[.int .i64 e]),recovered:=false }]
theorem isDigit55 (p:Int) (w:World):Calls Try.prog 55 #[.int .i64 p] w fun e w'=>e=.returned (.bool (isDig p))∧w'=w:=by
 go_enter Try.func55,Try.ntmps55
 go_wp2
 all_goals (go_ret;refine ⟨ret_bool ?_,rfl⟩;unfold isDig;first|(rw [Bool.eq_iff_iff];simp;omega)|(simp_all;try omega))
theorem isLetter56 (p:Int) (w:World):Calls Try.prog 56 #[.int .i64 p] w fun e w'=>e=.returned (.bool (isLet p))∧w'=w:=by
 go_enter Try.func56,Try.ntmps56
 go_wp2
 all_goals (go_ret;refine ⟨ret_bool ?_,rfl⟩;unfold isLet;first|(rw [Bool.eq_iff_iff];simp;omega)|(simp_all;try omega))
theorem isHex60 (p:Int) (w:World):Calls Try.prog 60 #[.int .i64 p] w fun e w'=>e=.returned (.bool (isHexP p))∧w'=w:=by
 have C:=Lib.hid (isDigit55 p w)
 unfold isDig at C
 by_cases h1:48≤p
 ·by_cases h2:p≤57
  all_goals
   go_enter Try.func60,Try.ntmps60
   go_wp2_with (go_at_call 55;refine C.out.mono ?_;rintro e w' ⟨rfl,rfl⟩)
   all_goals (go_ret;refine ⟨ret_bool ?_,rfl⟩;unfold isHexP isDig;first|(rw [Bool.eq_iff_iff];simp;omega)|(simp_all;try omega))
 ·go_enter Try.func60,Try.ntmps60
  go_wp2_with (go_at_call 55;refine C.out.mono ?_;rintro e w' ⟨rfl,rfl⟩)
  all_goals (go_ret;refine ⟨ret_bool ?_,rfl⟩;unfold isHexP isDig;first|(rw [Bool.eq_iff_iff];simp;omega)|(simp_all;try omega))
theorem fail46 (x:Int) (w:World):Calls Try.prog 46 #[.int .i64 x] w fun e w'=>e=.panicked (wrongV x)∧w'=w:=by
 go_enter Try.func46,Try.ntmps46
 go_wp2
 exact ⟨rfl,rfl,rfl⟩
/-- a token as a value -/
def Tk.agg (t:Tk):Value:=.agg #[.int .i64 t.kind,.int .i64 t.num,.string ⟨t.text.toArray⟩,.bool t.not_,.int .i64 t.least,.int .i64 t.most,.int .i64 t.way,.int .i64 t.fold]
set_option maxRecDepth 100000 in
set_option maxHeartbeats 1000000 in
theorem peek37 (b n c:Nat) (d at_:Int) (A:Option Addr) (l:List Int) (w:World) (hr:RdAt b d A n c at_ w) (ha:Rds w b 1 A n (ints l)) (h0:0≤at_) (hn:n≤1000) :
  Calls Try.prog 37 #[.pointer (some ⟨b,0,none⟩)] w fun e w'=>e=.returned (.int .i64 (ptAt l at_))∧RdAt b d A n c at_ w'∧Kept b w w':=by
 have HR:=Lib.hid hr
 obtain ⟨c0,c1,c2,f2⟩:=hr.cells
 have HLN:=Lib.hid ha.ints_len
 by_cases hlt:at_ < n
 ·obtain ⟨k,rfl⟩:=Int.eq_ofNat_of_zero_le h0
  obtain ⟨b1,off1,hl1,hA,hb1,hc1⟩:=ha.int_at (k:=k) (by omega)
  have HP:=Lib.hid (ptAt_in l hl1)
  obtain ⟨x,hx⟩:∃ x,x=l[k]:=⟨_,rfl⟩
  rw [← hx] at hc1 HP
  clear hx hr ha
  subst hA
  go_enter Try.func37,Try.ntmps37
  go_upto_region 1 with (fail)
  go_quiet (fail)
  go_upto_region 2 with (fail)
  go_quiet (fail)
  go_wp2_with fail
  go_ret
  exact ⟨ret_int HP.out.symm,HR.out,by repeat (first|exact Kept.refl _ _|refine Kept.drewN ?_ _)⟩
 ·have HP:=Lib.hid (ptAt_out l (p:=at_) (by rw [HLN.out];omega))
  clear hr ha
  go_enter Try.func37,Try.ntmps37
  go_upto_region 1 with (fail)
  go_quiet (fail)
  go_wp2_with fail
  go_ret
  exact ⟨ret_int HP.out.symm,HR.out,by repeat (first|exact Kept.refl _ _|refine Kept.drewN ?_ _)⟩
theorem conv_i32 (x:Int) (h:0≤x∧x≤1000):IntKind.i64.wrap x=x:=IntWalk.i64_in _ (by omega)
set_option maxRecDepth 100000 in
set_option maxHeartbeats 1000000 in
theorem may45 (b n c:Nat) (d at_:Int) (A:Option Addr) (l:List Int) (x:Int) (w:World) (hr:RdAt b d A n c at_ w) (ha:Rds w b 1 A n (ints l)) (h0:0≤at_) (h1:at_≤1000) (hn:n≤1000) (hx:0≤x∧x≤1000) :
  Calls Try.prog 45 #[.pointer (some ⟨b,0,none⟩),.int .i32 x] w fun e w'=>e=.returned (.bool (decide (ptAt l at_=x)))∧RdAt b d A n c (if ptAt l at_=x then at_+1 else at_) w'∧Kept b w w':=by
 have C:=Lib.hid (peek37 b n c d at_ A l w hr ha h0 hn)
 clear hr ha
 obtain ⟨y,hy⟩:∃ y,y=ptAt l at_:=⟨_,rfl⟩
 rw [← hy] at C ⊢
 clear hy
 have hw:=conv_i32 x hx
 by_cases hyx:y=x
 ·subst hyx
  rw [if_pos rfl]
  go_enter Try.func45,Try.ntmps45
  go_wp2_with (go_at_call 37;refine C.out.mono ?_;rintro e w1 ⟨rfl,hr1,hk1⟩;have HR1:=Lib.hid hr1;have HK1:=Lib.hid hk1;obtain ⟨c0,c1,c2,f2⟩:=hr1.cells;clear hr1 hk1)
  go_ret
  exact ⟨ret_bool (by simp),HR1.out.move _,HK1.out.set _ _⟩
 ·rw [if_neg hyx]
  have hyb:(y == x)=false:=beq_eq_false_iff_ne.2 hyx
  go_enter Try.func45,Try.ntmps45
  go_wp2_with (go_at_call 37;refine C.out.mono ?_;rintro e w1 ⟨rfl,hr1,hk1⟩;have HR1:=Lib.hid hr1;have HK1:=Lib.hid hk1;clear hr1 hk1)
  go_ret
  exact ⟨ret_bool (by simp [hyx]),HR1.out,HK1.out⟩
set_option maxRecDepth 100000 in
set_option maxHeartbeats 1000000 in
theorem must58 (b n c:Nat) (d at_:Int) (A:Option Addr) (l:List Int) (x:Int) (w:World) (hr:RdAt b d A n c at_ w) (ha:Rds w b 1 A n (ints l)) (h0:0≤at_) (h1:at_≤1000) (hn:n≤1000) (hx:0≤x∧x≤1000) :
  Calls Try.prog 58 #[.pointer (some ⟨b,0,none⟩),.int .i32 x] w fun e w'=>(if ptAt l at_=x then e=.returned (.tuple #[])∧RdAt b d A n c (at_+1) w' else e=.panicked (wrongV 1))∧Kept b w w':=by
 have C:=Lib.hid (may45 b n c d at_ A l x w hr ha h0 h1 hn hx)
 clear hr ha
 obtain ⟨y,hy⟩:∃ y,y=ptAt l at_:=⟨_,rfl⟩
 rw [← hy] at C ⊢
 clear hy
 by_cases hyx:y=x
 ·subst hyx
  rw [if_pos rfl,decide_eq_true rfl] at C
  simp only [if_true]
  go_enter Try.func58,Try.ntmps58
  go_wp2_with (go_at_call 45;refine C.out.mono ?_;rintro e w1 ⟨rfl,hr1,hk1⟩;have HR1:=Lib.hid hr1;have HK1:=Lib.hid hk1;clear hr1 hk1)
  go_end0
  exact ⟨⟨rfl,HR1.out⟩,HK1.out⟩
 ·rw [if_neg hyx,decide_eq_false hyx] at C
  simp only [hyx,if_false]
  go_enter Try.func58,Try.ntmps58
  go_wp2_with (first
   | (go_at_call 45;refine C.out.mono ?_;rintro e w1 ⟨rfl,hr1,hk1⟩;have HK1:=Lib.hid hk1;clear hr1 hk1)
   | (go_at_call 46;refine (fail46 1 _).mono ?_;rintro e w2 ⟨rfl,rfl⟩))
  exact ⟨rfl,rfl,HK1.out⟩
end Go.Proofs.Ytmjlmjlkghpknaa
