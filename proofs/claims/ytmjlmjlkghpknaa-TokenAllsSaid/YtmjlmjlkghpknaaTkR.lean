/- Tokens stored whole, and handed back: laws. -/
import Derived.Test.YtmjlmjlkghpknaaTkE
import Derived.Laws.Tables
import Derived.Laws.Rows
import Derived.Deep.DeepCutAuto
set_option linter.unusedVariables false
set_option linter.unusedSimpArgs false
namespace Go.Proofs.Ytmjlmjlkghpknaa
open Go.RowKit
theorem setRow_ne (w:World) (g:Nat) (cs:Array Value) (k:Nat) (h:k≠g):(w.setRow g cs).heap[k]?=w.heap[k]?:=by
 unfold World.setRow
 simp only [Array.getElem?_modify]
 rw [if_neg (fun e=>h e.symm)]
theorem Kept.setRow {b:Nat} {w w':World} (h:Kept b w w') {g:Nat} (hg:w.heap.size≤g) (cs:Array Value):Kept b w (w'.setRow g cs) :=
 ⟨h.os,h.tape,h.output,by rw [setRow_size];exact h.size,fun k hk hb=>by rw [setRow_ne _ _ _ _ (by omega)];exact h.block k hk hb⟩
theorem Below.setRow {B:Nat} {w w':World} (h:Below B w w') {g:Nat} (hg:B≤g) (cs:Array Value):Below B w (w'.setRow g cs) :=
 ⟨h.os,h.tape,h.output,by rw [setRow_size];exact h.size,fun k hk=>by rw [setRow_ne _ _ _ _ (by omega)];exact h.block k hk⟩
theorem St.setRow {b n c:Nat} {d at_:Int} {A:Option Addr} {l:List Int} {w:World} (h:St b n c d A l at_ w) {g:Nat} (hg:b < g) (cs:Array Value):St b n c d A l at_ (w.setRow g cs) :=
 h.under (g:=g) (Below.setRow (Below.refl _ _) (Nat.le_refl _) cs) hg
theorem info24:(Try.prog.info? 24).map (·.size)=some 8:=by kernel_rfl
theorem store24 {ops:Array Oper} {rest:List Oper} {o:Oper} {a:Act} {w:World} {Q:Exit→Act→World→Prop} {x y:Operand} {g:Nat} {cells:Array Value} (hgd:o.guard=none) (ho:o.op=.store 24 x y)
  (hx:a.eval x=.pointer (some ⟨g,0,none⟩)) (hy:a.eval y=.agg cells) (hz:w.heap[g]?=some Z24) (hs:cells.size=8) (h1:cells.toList.all (·.oneCell')=true)
  (h:wpList Try.prog ops Q rest (a.put o.dst undef) (w.setRow g cells)):wpList Try.prog ops Q (o :: rest) a w :=
 wpList_store_row hgd 24 x y ho g cells hx hy 24 _ hz (by rw [hs];exact info24) (by rw [hs];rfl) (by rw [← Array.all_toList];exact h1) h
theorem row24 {w:World} {g:Nat} {cs:Array Value} (hz:w.heap[g]?=some Z24):(w.setRow g cs).heap[g]?=some (.cells cs 24 (0,0)):=setRow_heap w g _ cs 24 _ hz
theorem results24 {fn:Func} {p:Tmp} (h:fn.results=#[.cell p 24]) (tmps:Array Value) (w:World) (g:Nat) (cs:Array Value) (hp:tmps.getD p undef=.pointer (some ⟨g,0,none⟩)) (hg:w.heap[g]?=some (.cells cs 24 (0,0))) (hs:cs.size=8) :
  (results fn tmps).run Try.prog w=.ok (.agg cs) w :=
 results_cell_row h tmps w g 24 cs (0,0) _ hp hg Try.underlying24 rfl (by rw [hs];exact info24)
theorem results24t {fn:Func} {p u:Tmp} (h:fn.results=#[.cell p 24,.tmp u]) (tmps:Array Value) (w:World) (g:Nat) (cs:Array Value) (v:Value) (hp:tmps.getD p undef=.pointer (some ⟨g,0,none⟩)) (hu:tmps.getD u undef=v) (hg:w.heap[g]?=some (.cells cs 24 (0,0))) (hs:cs.size=8) :
  (results fn tmps).run Try.prog w=.ok (.tuple #[.agg cs,v]) w:=by
 rw [results_cell_tmp h,hp,hu]
 simp only [asAddr,Sem.run_pure,Result.andThen_ok,run_loadVar_row w g 24 24 cs (0,0) _ hg Try.underlying24 rfl (by rw [hs];exact info24)]
theorem lt_heap {w:World} {g:Nat} {o:Obj} (h:w.heap[g]?=some o):g < w.heap.size:=by
 rcases Nat.lt_or_ge g w.heap.size with h'|h'
 ·exact h'
 ·simp [Array.getElem?_eq_none h'] at h
theorem hz_alloc {w:World} {g:Nat} {o x:Obj} (h:w.heap[g]?=some x):(w.alloc o).heap[g]?=some x:=by rw [heap_alloc_old w o (lt_heap h)];exact h
theorem hz_set {w:World} {g:Nat} {x:Obj} {p:Addr} {v:Value} (h:w.heap[g]?=some x) (hn:g≠p.block):(w.setCell p v).heap[g]?=some x:=by rw [Below.heap_setCell _ _ _ _ hn];exact h
theorem hz_row {w:World} {g k:Nat} {x:Obj} {cs:Array Value} (h:w.heap[g]?=some x) (hn:g≠k):(w.setRow k cs).heap[g]?=some x:=by rw [setRow_ne _ _ _ _ hn];exact h
theorem hz_new {w:World}:(w.alloc (.cells #[.int .i64 0,.int .i64 0,.string ⟨#[]⟩,.bool false,.int .i64 0,.int .i64 0,.int .i64 0,.int .i64 0] 24)).heap[w.heap.size]?=some Z24:=heap_alloc_new w _
end Go.Proofs.Ytmjlmjlkghpknaa
