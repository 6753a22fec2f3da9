/-
  DERIVED: THE SHELF's CONTRACTS AT THIS DUMP, IN PLAIN WORDS (tools/lay-plain.mjs out of 'TryShelf.lean', which tools/lay-shelf.mjs wrote): THE SAME DECLARATIONS UNDER THE SAME NAMES: 'import', 'namespace', 'open', 'def', 'theorem' AND NOTHING ELSE: no command of the shelf's: FOR A HAND-IN. Each laying: the table of numbers ('.._ren') and one theorem, a field a fact of the dump's own or the kernel's comparison; each contract: ONE APPLICATION. A name, by a Builder: walked.
-/
import Derived.Shelf.Strings.Builder1
import Derived.Shelf.Strings.BuilderF
import Derived.Shelf.Strings.BuilderK
import Derived.Shelf.Strings.BuilderRune
import Derived.Test.YtbiahhojnjchnaaGreatProg
import Derived.Test.YtbiahhojnjchnaaGreatGP
set_option linter.unusedVariables false
set_option linter.unusedSimpArgs false
namespace Go.Proofs
open Go.Shelf
def Tryz.lays169_ren:Go.Shelf.Ren:=⟨fun|169=>225|n=>n,fun|70=>230|9=>9|0=>0|72=>232|37=>147|127=>239|3=>3|5=>5|n=>n,fun|n=>n⟩
theorem Tryz.lays169:Go.Proofs.Lays.n169 Tryz.prog Tryz.lays169_ren:={
 mixed:=by kernel_rfl
 f169:=Tryz.func225.trans (congrArg some (by kernel_rfl))
 t0:=Tryz.underlying0
 a0:=Tryz.isAgg0
 z0:=Tryz.sizeOf0
 v0:=Tryz.zeroValue0
 t3:=Tryz.underlying3
 a3:=Tryz.isAgg3
 z3:=Tryz.sizeOf3
 v3:=Tryz.zeroValue3
 t9:=Tryz.underlying9
 a9:=Tryz.isAgg9
 z9:=Tryz.sizeOf9
 v9:=Tryz.zeroValue9
 t37:=Tryz.underlying147
 a37:=Tryz.isAgg147
 z37:=Tryz.sizeOf147
 v37:=Tryz.zeroValue147
 t70:=Tryz.underlying230
 a70:=Tryz.isAgg230
 z70:=Tryz.sizeOf230
 v70:=Tryz.zeroValue230
 t72:=Tryz.underlying232
 a72:=Tryz.isAgg232
 z72:=Tryz.sizeOf232
 v72:=Tryz.zeroValue232
 t127:=Tryz.underlying239
 a127:=Tryz.isAgg239
 z127:=Tryz.sizeOf239
 v127:=Tryz.zeroValue239 }
theorem Tryz.Builder_Extra_169:Builder.Extra Tryz.prog Tryz.lays169_ren:={
 sizeBuilder:=by kernel_rfl
 liesBuilder:=by kernel_rfl
 t5:=Tryz.underlying5
 a5:=Tryz.isAgg5
 z5:=Tryz.sizeOf5
 v5:=Tryz.zeroValue5
 infoByte:=by kernel_rfl
 cellsByte:=by kernel_rfl
 sizeByte:=by kernel_rfl
 neB5:=by decide }
open Go.RowKit in
/-- (*strings.Builder).String: "String returns the accumulated string.": OF A BUILDER THAT HOLDS AT LEAST ONE BYTE. ✋ THE MODEL FREEZES THOSE BYTES IN THE BUFFER (unsafe.String): a later write INTO them ends the model's run without an answer; a later append BEHIND them goes on. The statement's order of evaluation is drawn: one draw. (LAID: no walk: one application.) -/
theorem Tryz.Builder_String (B b:Nat) (l:List UInt8) (w:World) (h:Lib.IsBuilder 232 5 B b (Lib.byteCells l) w) (h0:l≠[]) :
  Calls Tryz.prog 225 #[.pointer (some ⟨b,0,none⟩)] w fun e w'=>e=.returned (.string ⟨l.toArray⟩)∧Below B w w':=Any.Builder_String Tryz.lays169 Tryz.Builder_Extra_169 B b l w h h0
open Go.RowKit in
/-- (*strings.Builder).String OF A BUILDER THAT HOLDS NO BYTE: the empty string. (Its buffer is nil, or a row of which it has taken nothing yet; where that row has NO capacity the model lays one new block for unsafe.SliceData's 'some address'.) One draw. (LAID: no walk: one application.) -/
theorem Tryz.Builder_String_empty (B b:Nat) (w:World) (h:Lib.IsBuilder 232 5 B b [] w) (hBw:B≤w.heap.size) :
  Calls Tryz.prog 225 #[.pointer (some ⟨b,0,none⟩)] w fun e w'=>e=.returned (.string ⟨#[]⟩)∧Below B w w':=Any.Builder_String_empty Tryz.lays169 Tryz.Builder_Extra_169 B b w h hBw
open Go.RowKit in
/-- (*strings.Builder).String: "String returns the accumulated string.": WHATEVER THE BUILDER HOLDS. (LAID: no walk: one application.) -/
theorem Tryz.Builder_String_any (B b:Nat) (l:List UInt8) (w:World) (h:Lib.IsBuilder 232 5 B b (Lib.byteCells l) w) (hBw:B≤w.heap.size) :
  Calls Tryz.prog 225 #[.pointer (some ⟨b,0,none⟩)] w fun e w'=>e=.returned (.string ⟨l.toArray⟩)∧Below B w w':=Any.Builder_String_any Tryz.lays169 Tryz.Builder_Extra_169 B b l w h hBw
open Go.RowKit in
/-- (*strings.Builder).String: "String returns the accumulated string.": OF A BUILDER THAT HOLDS AT LEAST ONE BYTE. ✋ THE MODEL FREEZES THOSE BYTES IN THE BUFFER (unsafe.String): a later write INTO them ends the model's run without an answer; a later append BEHIND them goes on. The statement's order of evaluation is drawn: one draw. THE FORM '_f': IT SAYS BESIDES THAT THE BUILDER IS A BUILDER STILL ('Lib.IsBuilderF', the same bytes): SO IT CAN BE WRITTEN ON: 'b.WriteString(b.String()[:k])'. (LAID: no walk: one application.) -/
theorem Tryz.Builder_String_f (B b:Nat) (l:List UInt8) (w:World) (h:Lib.IsBuilderF 232 5 B b (Lib.byteCells l) w) (h0:l≠[]) :
  Calls Tryz.prog 225 #[.pointer (some ⟨b,0,none⟩)] w fun e w'=>e=.returned (.string ⟨l.toArray⟩)∧(Lib.IsBuilderF 232 5 B b (Lib.byteCells l) w'∧Below B w w'):=Any.Builder_String_f Tryz.lays169 Tryz.Builder_Extra_169 B b l w h h0
open Go.RowKit in
/-- (*strings.Builder).String OF A BUILDER THAT HOLDS NO BYTE: the empty string; THE FORM '_f': a builder still. (LAID: no walk: one application.) -/
theorem Tryz.Builder_String_empty_f (B b:Nat) (w:World) (h:Lib.IsBuilderF 232 5 B b [] w) (hBw:B≤w.heap.size) :
  Calls Tryz.prog 225 #[.pointer (some ⟨b,0,none⟩)] w fun e w'=>e=.returned (.string ⟨#[]⟩)∧(Lib.IsBuilderF 232 5 B b [] w'∧Below B w w'):=Any.Builder_String_empty_f Tryz.lays169 Tryz.Builder_Extra_169 B b w h hBw
open Go.RowKit in
/-- (*strings.Builder).String: "String returns the accumulated string.": WHATEVER THE BUILDER HOLDS; THE FORM '_f': OF A BUILDER THAT MAY HAVE BEEN READ BEFORE; AND IT IS A BUILDER STILL, holding the same bytes: it can be written on. (LAID: no walk: one application.) -/
theorem Tryz.Builder_String_any_f (B b:Nat) (l:List UInt8) (w:World) (h:Lib.IsBuilderF 232 5 B b (Lib.byteCells l) w) (hBw:B≤w.heap.size) :
  Calls Tryz.prog 225 #[.pointer (some ⟨b,0,none⟩)] w fun e w'=>e=.returned (.string ⟨l.toArray⟩)∧(Lib.IsBuilderF 232 5 B b (Lib.byteCells l) w'∧Below B w w'):=Any.Builder_String_any_f Tryz.lays169 Tryz.Builder_Extra_169 B b l w h hBw
open Go.RowKit in
/-- (*strings.Builder).String: "String returns the accumulated string.": OF A BUILDER THAT HOLDS AT LEAST ONE BYTE. ✋ THE MODEL FREEZES THOSE BYTES IN THE BUFFER (unsafe.String): a later write INTO them ends the model's run without an answer; a later append BEHIND them goes on. The statement's order of evaluation is drawn: one draw. THE FORM '_k': OVER 'Lib.IsBuilderF' (a builder that 'String()' may have read), AND WITH THE FRAME THAT REACHES ABOVE THE BUILDER: 'Lib.OthersKept': every block that is not b and is no row of uint8's stands as it stood: the iterator of a range among them. (LAID: no walk: one application.) -/
theorem Tryz.Builder_String_k (B b:Nat) (l:List UInt8) (w:World) (h:Lib.IsBuilderF 232 5 B b (Lib.byteCells l) w) (h0:l≠[]) :
  Calls Tryz.prog 225 #[.pointer (some ⟨b,0,none⟩)] w fun e w'=>e=.returned (.string ⟨l.toArray⟩)∧(Lib.IsBuilderF 232 5 B b (Lib.byteCells l) w'∧Below B w w'∧Lib.OthersKept 5 (some b) w w'):=Any.Builder_String_k Tryz.lays169 Tryz.Builder_Extra_169 B b l w h h0
open Go.RowKit in
/-- (*strings.Builder).String OF A BUILDER THAT HOLDS NO BYTE: the empty string; THE FORM '_k': OVER 'Lib.IsBuilderF' (a builder that 'String()' may have read), AND WITH THE FRAME THAT REACHES ABOVE THE BUILDER: 'Lib.OthersKept': every block that is not b and is no row of uint8's stands as it stood: the iterator of a range among them. (LAID: no walk: one application.) -/
theorem Tryz.Builder_String_empty_k (B b:Nat) (w:World) (h:Lib.IsBuilderF 232 5 B b [] w) (hBw:B≤w.heap.size) :
  Calls Tryz.prog 225 #[.pointer (some ⟨b,0,none⟩)] w fun e w'=>e=.returned (.string ⟨#[]⟩)∧(Lib.IsBuilderF 232 5 B b [] w'∧Below B w w'∧Lib.OthersKept 5 (some b) w w'):=Any.Builder_String_empty_k Tryz.lays169 Tryz.Builder_Extra_169 B b w h hBw
open Go.RowKit in
/-- (*strings.Builder).String: "String returns the accumulated string.": WHATEVER THE BUILDER HOLDS; THE FORM '_k': OVER 'Lib.IsBuilderF' (a builder that 'String()' may have read), AND WITH THE FRAME THAT REACHES ABOVE THE BUILDER: 'Lib.OthersKept': every block that is not b and is no row of uint8's stands as it stood: the iterator of a range among them. (LAID: no walk: one application.) -/
theorem Tryz.Builder_String_any_k (B b:Nat) (l:List UInt8) (w:World) (h:Lib.IsBuilderF 232 5 B b (Lib.byteCells l) w) (hBw:B≤w.heap.size) :
  Calls Tryz.prog 225 #[.pointer (some ⟨b,0,none⟩)] w fun e w'=>e=.returned (.string ⟨l.toArray⟩)∧(Lib.IsBuilderF 232 5 B b (Lib.byteCells l) w'∧Below B w w'∧Lib.OthersKept 5 (some b) w w'):=Any.Builder_String_any_k Tryz.lays169 Tryz.Builder_Extra_169 B b l w h hBw
end Go.Proofs
namespace Go.Proofs.YtbiahhojnjchnaaGreat
open Go.RowKit
theorem builder_size:(Tryz.prog.info? 232).map (fun i=>(i.size))=some 2:=by kernel_rfl
theorem builder_lies:liesAt Tryz.prog Tryz.prog.depth 232 (2 / Tryz.prog.cellsOf 232) 0 232 1=true:=by kernel_rfl
theorem byteI:(Tryz.prog.info? 5).map (fun i=>(i.zero,i.size,i.bytes))=some (some (.int .u8 0),1,1):=by kernel_rfl
set_option maxHeartbeats 1000000 in
set_option maxRecDepth 100000 in
theorem copyCheck65 (B b:Nat) (bs:List Value) (w:World) (h:Lib.IsBuilderF 232 5 B b bs w) :
  Calls Tryz.prog 227 #[.pointer (some ⟨b,0,none⟩)] w fun e w'=>e=.returned (.tuple #[])∧(Lib.BuilderAtF 232 5 B b (.pointer (some ⟨b,0,none⟩)) bs w'∧Below B w w'∧Lib.OthersKept 5 (some b) w w'):=by
 obtain ⟨j,hj,hjs⟩:=Option.map_eq_some_iff.1 builder_size
 rcases h with h|h
 ·have hsh:=h.shape
  have H:=Lib.hid (show Lib.BuilderAtF 232 5 B b (.pointer (some ⟨b,0,none⟩)) bs (w.setCell ⟨b,0,none⟩ (.pointer (some ⟨b,0,none⟩))) from h.used _)
  have HB:=Lib.hid h.1
  have h0:=h.cell0
  have hfz:=h.frozen0
  clear h
  go_enter Tryz.func227,Tryz.ntmps227
  go_wp2
  rw [Lib.run_to_unsafe w ⟨b,0,none⟩ Tryz.underlying230 Tryz.underlying240 hj (by rw [hjs];decide) hsh (Nat.zero_lt_succ 1)]
  simp only [Result.andThen]
  rw [Oper.upon_value]
  go_wp2
  rw [run_callFunc_extern Tryz.func229 (by kernel_rfl) (by kernel_rfl) (by kernel_rfl) (e:=Extern.AbiNoEscape.same) (by kernel_rfl)]
  rw [Lib.run_noEscape]
  simp only [Result.andThen]
  rw [Oper.upon_value]
  go_wp2
  rw [Lib.run_from_unsafe w ⟨b,0,none⟩ Tryz.underlying240 Tryz.underlying230 hj hsh builder_lies]
  simp only [Result.andThen]
  rw [Oper.upon_value]
  go_wp2
  go_end0
  exact ⟨rfl,H.out,(Below.refl B w).setCell (p:=⟨b,0,none⟩) HB.out _,(Lib.OthersKept.refl _ _ w).setCell ⟨b,0,none⟩ rfl _⟩
 ·have H:=Lib.hid h
  have h0:=h.cell0
  clear h
  go_enter Tryz.func227,Tryz.ntmps227
  go_wp2
  rw [Lib.run_neq_ptr_same w _ Tryz.underlying230 hj]
  go_wp2
  go_end0
  exact ⟨rfl,H.out,Below.refl B _,Lib.OthersKept.refl _ _ _⟩
set_option maxHeartbeats 4000000 in
set_option maxRecDepth 100000 in
theorem appendRune66 (B:Nat) (v:Value) (n:Nat) (xs:List Value) (r:Int) (h0:0≤r) (h1:r≤127) (w:World) (hown:w.ownsRowF B 5 1 v n xs) (hlen:n+4≤140737488355328) (hBw:B≤w.heap.size) :
  Calls Tryz.prog 228 #[v,.int .i32 r] w fun e w'=>∃ v',e=.returned v'∧w'.ownsRowF B 5 1 v' (n+1) (xs ++ [.int .u8 r])∧∃ o,(w.alloc o).grownBy w' v.ownBlock:=by
 obtain ⟨i0,hi,hz0,hz1,hz2⟩:=info_parts byteI
 go_enter Tryz.func228,Tryz.ntmps228
 go_wp2_with (at_builtin;refine wpList_append_ownF _ rfl _ _ 147 rfl B 5 i0 (.int .u8 0) 1 1 Tryz.underlying147 hi hz0 hz1 hz2 rfl (by decide) _ _ _ rfl (hown.alloc _) ⟨w.heap.size,0,none⟩ 1 1 [.int .u8 r] rfl rfl ?c1 ?c2 ?c3 ?c4 ?c5 ?_)
 all_goals first
  | (intro v' w2 hown' hgrow _;go_wp2;go_ret;exact ⟨_,rfl,hown',_,hgrow⟩)
  | (unfold maxLen;omega)
  | omega
  | (simp;omega)
  | rfl
  | (intro u hu;simp at hu;subst hu;rfl)
  | (intro j u hj
     match j,hj with
     | 0,hj=>simp at hj;subst hj;simp [Addr.add]
     | (j+1),hj=>simp at hj)
set_option maxHeartbeats 4000000 in
set_option maxRecDepth 100000 in
theorem writeRune63 (B b:Nat) (bs:List Value) (r:Int) (h0:0≤r) (h1:r≤127) (w:World) (h:Lib.IsBuilderF 232 5 B b bs w) (hlen:bs.length+4≤140737488355328) (hBw:B≤w.heap.size) :
  Calls Tryz.prog 224 #[.pointer (some ⟨b,0,none⟩),.int .i32 r] w fun e w'=>e=.returned (.tuple #[.int .i64 1,.nilIface])∧(Lib.BuilderAtF 232 5 B b (.pointer (some ⟨b,0,none⟩)) (bs ++ [.int .u8 r]) w'∧Below B w w'∧Lib.OthersKept 5 (some b) w w'):=by
 have hbs:(bs.length:Int)≤140737488355328:=by omega
 have C:=Lib.hid (copyCheck65 B b bs w h)
 clear h
 go_enter Tryz.func224,Tryz.ntmps224
 go_wp2_with (go_at_call 227;refine C.out.mono ?_)
 rintro e w1 ⟨rfl,h1',hb1,hk1⟩
 obtain ⟨hB,v,hbk,hown,hne⟩:=h1'
 obtain ⟨ao,cap,rfl⟩:∃ ao cap,v=.slice ao bs.length cap:=by
  rcases hown.2 with ⟨hv,h0⟩|⟨g,cap,cur,fz,hv,_⟩
  ·exact ⟨none,0,by rw [hv,h0]⟩
  ·exact ⟨_,_,hv⟩
 have c0:w1.cell? ⟨b,0,none⟩=some (.pointer (some ⟨b,0,none⟩)):=by rw [Lib.cell_of_heap hbk];rfl
 have c1:w1.cell? ⟨b,1,none⟩=some (.slice ao bs.length cap):=by rw [Lib.cell_of_heap hbk];rfl
 go_wp2_with (go_at_call 228;refine (appendRune66 B _ bs.length bs r h0 h1 _ hown hlen (by have:=hb1.size;omega)).mono ?_)
 rintro e w2 ⟨v',rfl,hown',o,hgrow⟩
 have hlt:b < w1.heap.size:=by
  rcases Nat.lt_or_ge b w1.heap.size with h'|h'
  ·exact h'
  ·simp [Array.getElem?_eq_none h'] at hbk
 have hb2:w2.heap[b]?=some (.cells #[.pointer (some ⟨b,0,none⟩),.slice ao bs.length cap] 232 (0,0)):=by
  rw [hgrow.block b (by simp;omega) (fun e=>hne e.symm),Lib.alloc_old w1 _ b hlt]
  exact hbk
 have d0:w2.cell? ⟨b,0,none⟩=some (.pointer (some ⟨b,0,none⟩)):=by rw [Lib.cell_of_heap hb2];rfl
 have d1:w2.cell? ⟨b,1,none⟩=some (.slice ao bs.length cap):=by rw [Lib.cell_of_heap hb2];rfl
 have f1:w2.frozen? ⟨b,1,none⟩=false:=Lib.frozen_of_heap hb2 1
 obtain ⟨g,cap',rfl⟩:∃ g cap',v'=.slice (some ⟨g,0,none⟩) (bs.length+1) cap':=by
  rcases hown'.2 with ⟨_,h0⟩|⟨g,cap',cur,fz,hv,_⟩
  ·omega
  ·exact ⟨g,cap',hv⟩
 go_wp2
 go_ret2
 refine ⟨?_,?_,?_,((hk1.alloc _).grown hgrow (Lib.ownsRowF_kind (hown.alloc _))).setCell ⟨b,1,none⟩ rfl _⟩
 ·have e:((bs.length:Int)+1 - (bs.length:Int))=1:=by omega
  simp [e]
 ·exact Lib.BuilderAtF.put (T:=232) (e:=5) hB hb2 (bs':=bs ++ [.int .u8 r]) (by simpa using hown') (by decide)
 ·exact ((hb1.alloc (by have:=hb1.size;omega) _).grown hgrow (by have:=hb1.size;simp;omega) (fun k hk=>(hown.lt k hk).1)).setCell (p:=⟨b,1,none⟩) hB _
/-- the reader, whole: its block, its points, its place -/
structure St (b n c:Nat) (d:Int) (A:Option Addr) (l:List Int) (at_:Int) (w:World):Prop where
 rd:RdAtT b d A n c at_ w
 row:Rds w b 1 A n (ints l)
 lo:0≤at_
 hi:at_≤n
 pos:0 < n
 small:n≤1000
 cap:n≤c
section
variable {b n c:Nat} {d at_:Int} {A:Option Addr} {l:List Int} {w w':World}
theorem St.len (h:St b n c d A l at_ w):l.length=n:=h.row.ints_len
theorem St.lt (h:St b n c d A l at_ w):b < w.heap.size:=h.rd.lt
theorem St.next (h:St b n c d A l at_ w) (hb:Below w.heap.size w w'):St b n c d A l at_ w' :=
 ⟨h.rd.next hb,h.row.kept (Kept.of (b:=b) hb) (Nat.le_refl _) (Nat.le_of_lt h.lt),h.lo,h.hi,h.pos,h.small,h.cap⟩
theorem St.moved (h:St b n c d A l at_ w) {x:Int} (hr:RdAtT b d A n c x w') (hk:Kept b w w') (h0:0≤x) (h1:x≤n):St b n c d A l x w' :=
 ⟨hr,h.row.kept hk (Nat.le_refl _) (Nat.le_of_lt h.lt),h0,h1,h.pos,h.small,h.cap⟩
theorem St.alloc (h:St b n c d A l at_ w) (o:Obj):St b n c d A l at_ (w.alloc o):=h.next ((Below.refl _ _).alloc (Nat.le_refl _) o)
theorem St.drewN (h:St b n c d A l at_ w) (q:Nat):St b n c d A l at_ (w.drewN q):=h.moved (h.rd.drewN q) ((Kept.refl _ _).drewN q) h.lo h.hi
theorem St.setOther (h:St b n c d A l at_ w) {p:Addr} (hp:b < p.block) (v:Value):St b n c d A l at_ (w.setCell p v) :=
 ⟨h.rd.setOther (by omega) v,h.row.keep (fun q hq=>by
  rw [World.cell?_of_block (w:=w) (a:=q)]
  exact Below.heap_setCell _ p _ q.block (fun e=>by omega)),h.lo,h.hi,h.pos,h.small,h.cap⟩
theorem St.move (h:St b n c d A l at_ w) {x:Int} (h0:0≤x) (h1:x≤n):St b n c d A l x (w.setCell ⟨b,2,none⟩ (.int .i64 x)) :=
 h.moved (h.rd.move x) ((Kept.refl _ _).set 2 _) h0 h1
theorem St.pt_in (h:St b n c d A l at_ w) (hp:0≤ptAt l at_):at_+1≤n:=by
 by_cases hc:0≤at_∧at_ < l.length
 ·have:=h.len;omega
 ·rw [ptAt_out l hc] at hp;omega
end
/-- stores into other blocks than the reader's, above it -/
theorem Kept.setUp {b:Nat} {w w':World} (h:Kept b w w') {p:Addr} (hp:w.heap.size≤p.block) (v:Value):Kept b w (w'.setCell p v):=h.setNew hp v
theorem kcell {b:Nat} {W w1:World} (h:Kept b W w1):(∀ k o,k < W.heap.size→¬ k=b→w1.cell? ⟨k,o,none⟩=W.cell? ⟨k,o,none⟩)∧(∀ k o,k < W.heap.size→¬ k=b→w1.frozen? ⟨k,o,none⟩=W.frozen? ⟨k,o,none⟩) :=
 ⟨fun k o hk hn=>h.cell (p:=⟨k,o,none⟩) hk hn,fun k o hk hn=>h.frozen (p:=⟨k,o,none⟩) hk hn⟩
section
variable {b n c:Nat} {d at_:Int} {A:Option Addr} {l:List Int} {w:World}
theorem peek_st (h:St b n c d A l at_ w):Calls Tryz.prog 171 #[.pointer (some ⟨b,0,none⟩)] w fun e w'=>e=.returned (.int .i64 (ptAt l at_))∧St b n c d A l at_ w'∧Kept b w w' :=
 (peek37 b n c d at_ A l w h.rd h.row h.lo h.small).mono fun _ _ ⟨e,hr,hk⟩=>⟨e,h.moved hr hk h.lo h.hi,hk⟩
theorem may_yesT (x:Int) (h:St b n c d A l at_ w) (hx:0≤x∧x≤1000) (hp:ptAt l at_=x):Calls Tryz.prog 201 #[.pointer (some ⟨b,0,none⟩),.int .i32 x] w fun e w'=>e=.returned (.bool true)∧St b n c d A l (at_+1) w'∧Kept b w w':=by
 have hi:=h.pt_in (by rw [hp];exact hx.1)
 have h0:=h.lo
 have hs:=h.small
 have C:=may45 b n c d at_ A l x w h.rd h.row h.lo (by have:=h.hi;omega) h.small hx
 rw [if_pos hp,decide_eq_true hp] at C
 exact C.mono fun _ _ ⟨e,hr,hk⟩=>⟨e,h.moved hr hk (by omega) hi,hk⟩
theorem may_noT (x:Int) (h:St b n c d A l at_ w) (hx:0≤x∧x≤1000) (hp:ptAt l at_≠x):Calls Tryz.prog 201 #[.pointer (some ⟨b,0,none⟩),.int .i32 x] w fun e w'=>e=.returned (.bool false)∧St b n c d A l at_ w'∧Kept b w w':=by
 have hs:=h.small
 have C:=may45 b n c d at_ A l x w h.rd h.row h.lo (by have:=h.hi;omega) h.small hx
 rw [if_neg hp,decide_eq_false hp] at C
 exact C.mono fun _ _ ⟨e,hr,hk⟩=>⟨e,h.moved hr hk h.lo h.hi,hk⟩
theorem must_yes (x:Int) (h:St b n c d A l at_ w) (hx:0≤x∧x≤1000) (hp:ptAt l at_=x):Calls Tryz.prog 214 #[.pointer (some ⟨b,0,none⟩),.int .i32 x] w fun e w'=>e=.returned (.tuple #[])∧St b n c d A l (at_+1) w'∧Kept b w w':=by
 have hi:=h.pt_in (by rw [hp];exact hx.1)
 have h0:=h.lo
 have hs:=h.small
 have C:=must58 b n c d at_ A l x w h.rd h.row h.lo (by have:=h.hi;omega) h.small hx
 simp only [if_pos hp] at C
 exact C.mono fun _ _ ⟨⟨e,hr⟩,hk⟩=>⟨e,h.moved hr hk (by omega) hi,hk⟩
theorem must_no (x:Int) (h:St b n c d A l at_ w) (hx:0≤x∧x≤1000) (hp:ptAt l at_≠x):Calls Tryz.prog 214 #[.pointer (some ⟨b,0,none⟩),.int .i32 x] w fun e w'=>e=.panicked (wrongV 1)∧Kept b w w':=by
 have hs:=h.small
 have C:=must58 b n c d at_ A l x w h.rd h.row h.lo (by have:=h.hi;omega) h.small hx
 simp only [if_neg hp] at C
 exact C
end
/-- what is a run by a function of the program -/
structure IsRun (f:Int→Bool) (g:Nat):Prop where
 out:f (-1)=false
 enters:∀ args w,(callFunc g args).run Tryz.prog w=.ok (.enter g args) w
 said:∀ x w,Calls Tryz.prog g #[.int .i64 x] w fun e w'=>e=.returned (.bool (f x))∧w'=w
theorem run_st {f:Int→Bool} {g:Nat} (hf:IsRun f g) (m:Nat) {b n c:Nat} {d at_:Int} {A:Option Addr} {l:List Int} {w:World} (h:St b n c d A l at_ w) (hm:m≤20) :
  Calls Tryz.prog 210 #[.pointer (some ⟨b,0,none⟩),.int .i64 m,.func (.func g) #[] #[]] w fun e w'=>∃ A' c',e=.returned (.slice A' (runLen f l at_ m) c')∧Rds w' b 1 A' (runLen f l at_ m) (ints (runPts l at_ (runLen f l at_ m)))∧St b n c d A l (at_+runLen f l at_ m) w'∧Kept b w w' :=
 (run54 f g hf.out hf.enters hf.said b n c m d at_ A l w h.rd h.row h.lo h.hi h.pos h.small h.cap hm).mono fun _ _ ⟨A',c',e,hs,hr,hk⟩=>⟨A',c',e,hs,h.moved hr hk (by have:=h.lo;omega) (by have:=runLen_fit hf.out (m:=m) h.lo (by rw [h.len];exact h.hi) (l:=l);rw [h.len] at this;exact this),hk⟩
theorem isNam62 (p:Int) (w:World):Calls Tryz.prog 223 #[.int .i64 p] w fun e w'=>e=.returned (.bool (isNamP p))∧w'=w:=by
 have C:=Lib.hid (isLetter56 p w)
 have D:=Lib.hid (isDigit55 p w)
 unfold isLet at C
 unfold isDig at D
 by_cases h1:48≤p∧p≤57∨65≤p∧p≤90∨97≤p∧p≤122∨p=95
 all_goals
  go_enter Tryz.func223,Tryz.ntmps223
  go_wp2_with (first|(go_at_call 212;refine C.out.mono ?_;rintro e w' ⟨rfl,rfl⟩)|(go_at_call 211;refine D.out.mono ?_;rintro e w' ⟨rfl,rfl⟩))
  all_goals (go_ret;refine ⟨ret_bool ?_,rfl⟩;unfold isNamP isLet isDig;first|(rw [Bool.eq_iff_iff];simp;omega)|(simp_all;try omega))
theorem runDig:IsRun isDig 211:=⟨by decide,fun _ _=>by simp [go_sem],fun x w=>isDigit55 x w⟩
theorem runHex:IsRun isHexP 221:=⟨by decide,fun _ _=>by simp [go_sem],fun x w=>isHex60 x w⟩
theorem runNam:IsRun isNamP 223:=⟨by decide,fun _ _=>by simp [go_sem],fun x w=>isNam62 x w⟩
end Go.Proofs.YtbiahhojnjchnaaGreat
