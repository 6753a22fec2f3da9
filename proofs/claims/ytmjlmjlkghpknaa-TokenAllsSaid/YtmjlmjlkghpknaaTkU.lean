/- The recovery of a token: walked. -/
import Derived.Test.YtmjlmjlkghpknaaTkR
import Derived.Defers
import Derived.Recover
set_option linter.unusedVariables false
set_option linter.unusedSimpArgs false
namespace Go.Proofs.Ytmjlmjlkghpknaa
open Go.RowKit
def wpL (P:Program) (Q:Exit→Act→List Frame→World→Prop):List Oper→Act→List Frame→World→Prop
 | [],a,cs,w=>Q .normal a cs w
 | o :: rest,a,cs,w=>o.guard=none∧match (execOp a.eval o).run P w with
  | .ok .recover w'=>(match recoverD cs with
   | some (v,cs')=>wpL P Q rest (a.put o.dst v) cs' w'
   | none=>wpL P Q rest (a.put o.dst .nilIface) cs w')
  | .ok (.value v) w'=>wpL P Q rest (a.put o.dst v) cs w'
  | .ok .skip w'=>wpL P Q rest (a.put o.dst undef) cs w'
  | _=>False
section
variable {P:Program} {ops:Array Oper} {Q:Exit→Act→List Frame→World→Prop}
theorem wpOpsS_of_L:∀ (os:List Oper) (k:Nat) (a:Act) (cs:List Frame) (w:World),ops.toList.drop k=os→wpL P Q os a cs w→wpOpsS P ops Q (List.range' k os.length) a cs w:=by
 intro os
 induction os with
 | nil=>intro k a cs w _ h;exact h
 | cons o rest ih =>
  intro k a cs w hk h
  have hlt:k < ops.toList.length:=by
   rcases Nat.lt_or_ge k ops.toList.length with h'|h'
   ·exact h'
   ·rw [List.drop_eq_nil_of_le h'] at hk;cases hk
  have ho:ops[k]?=some o:=by
   rw [List.drop_eq_getElem_cons hlt] at hk
   injection hk with h1 h2
   rw [← h1]
   simp at hlt
   simp [hlt]
  have hr:ops.toList.drop (k+1)=rest:=by
   rw [List.drop_eq_getElem_cons hlt] at hk
   injection hk
  rw [List.length_cons,List.range'_succ,wpOpsS,ho]
  obtain ⟨hg,h⟩:=h
  simp only [Region.wanted,hg,if_true]
  split at h
  ·rename_i w' e
   rw [e]
   simp only
   split at h
   ·rename_i v cs' e2
    rw [e2];exact ih _ _ _ _ hr h
   ·rename_i e2
    rw [e2];exact ih _ _ _ _ hr h
  ·rename_i v w' e
   rw [e];exact ih _ _ _ _ hr h
  ·rename_i w' e
   rw [e];exact ih _ _ _ _ hr h
  ·exact h.elim
theorem wpS_regionL {id:Nat} {a:Act} {cs:List Frame} {w:World} (h:wpL P Q ops.toList a cs w):(Code.region id ops false).wpS P Q a cs w:=by
 refine wpS_region ?_
 have:=wpOpsS_of_L (P:=P) (Q:=Q) (ops:=ops) ops.toList 0 a cs w (List.drop_zero ..) h
 rwa [Array.length_toList,← List.range_eq_range'] at this
variable {a:Act} {cs cs':List Frame} {w w':World} {o:Oper} {rest:List Oper} {v:Value}
theorem wpL_recover (hg:o.guard=none) (hr:(execOp a.eval o).run P w=.ok .recover w) (hc:recoverD cs=some (v,cs')) (h:wpL P Q rest (a.put o.dst v) cs' w):wpL P Q (o :: rest) a cs w:=by
 refine ⟨hg,?_⟩;rw [hr];simp only [hc];exact h
theorem wpL_recover_none (hg:o.guard=none) (hr:(execOp a.eval o).run P w=.ok .recover w) (hc:recoverD cs=none) (h:wpL P Q rest (a.put o.dst .nilIface) cs w):wpL P Q (o :: rest) a cs w:=by
 refine ⟨hg,?_⟩;rw [hr];simp only [hc];exact h
theorem wpL_value (hg:o.guard=none) (hr:(execOp a.eval o).run P w=.ok (.value v) w') (h:wpL P Q rest (a.put o.dst v) cs w'):wpL P Q (o :: rest) a cs w:=by
 refine ⟨hg,?_⟩;rw [hr];exact h
theorem wpL_skip (hg:o.guard=none) (hr:(execOp a.eval o).run P w=.ok .skip w') (h:wpL P Q rest (a.put o.dst undef) cs w'):wpL P Q (o :: rest) a cs w:=by
 refine ⟨hg,?_⟩;rw [hr];exact h
end
end Go.Proofs.Ytmjlmjlkghpknaa
namespace Go.Proofs.Ytmjlmjlkghpknaa
open Go.RowKit
theorem row_set' {w:World} {g i:Nat} {cs:Array Value} {T:TypeId} {fr:Nat × Nat} {v:Value} (h:w.heap[g]?=some (.cells cs T fr)):(w.setCell ⟨g,i,none⟩ v).heap[g]?=some (.cells (cs.setIfInBounds i v) T fr):=by
 rw [setCell_eq_setRow w g i cs T fr v h];exact setRow_heap w g cs _ T fr h
theorem assert50 (x:Value) (w:World):(Instr.typeAssert (.iface 50 (.agg #[x])) 20 50 true).run Try.prog w=.ok (.tuple #[.agg #[x],.bool true]) w:=by kernel_rfl
theorem assertNil (w:World):(Instr.typeAssert .nilIface 20 50 true).run Try.prog w=.ok (.tuple #[.agg #[.int .i64 0],.bool false]) w:=by kernel_rfl
set_option maxHeartbeats 4000000 in
set_option maxRecDepth 100000 in
theorem catch26 (t q r:Nat) (x:Int) (older:List PanicEntry) (w:World) (hz:w.heap[t]?=some Z24) (hq:w.heap[q]?=some (.cells #[.int .i64 0] 3 (0,0))) (hr:w.heap[r]?=some (.cells #[.int .i64 0] 25 (0,0))) (h1:t≠q) (h2:t≠r) (h3:q≠r) :
  CallsD Try.prog 26 #[.pointer (some ⟨t,0,none⟩),.pointer (some ⟨q,0,none⟩),.pointer (some ⟨r,0,none⟩)] (.panicking ({ v:=.iface 50 (.agg #[.int .i64 x]),recovered:=false } :: older)) w fun e u' w' =>
   e=.returned (.tuple #[])∧u'=.panicking ({ v:=.iface 50 (.agg #[.int .i64 x]),recovered:=true } :: older)∧w'.heap[t]?=some Z24∧w'.heap[q]?=some (.cells #[.int .i64 0] 3 (0,0))∧w'.heap[r]?=some (.cells #[.int .i64 x] 25 (0,0))∧∀ B,B≤t→B≤q→B≤r→B≤w.heap.size→Below B w w':=by
 refine callsD_of_wpS Try.func26 rfl fun c₀ cs hu=>?_
 apply wpS_seq
 refine wpS_regionL ?_
 simp only [Try.ntmps26]
 refine wpL_recover rfl ?_ ?_ ?_ (v:=.iface 50 (.agg #[.int .i64 x])) (cs':={ c₀ with mode:=.panicking ({ v:=.iface 50 (.agg #[.int .i64 x]),recovered:=true } :: older) } :: cs)
 ·simp [execOp,go_sem]
 ·simp only [recoverD,hu]
 refine wpL_value rfl ?_ ?_ (w':=w) (v:=.tuple #[.agg #[.int .i64 x],.bool true])
 ·simp [execOp,go_sem,Array.replicate,assert50]
 refine wpL_value rfl ?_ ?_ (w':=w) (v:=.tuple #[.agg #[.int .i64 x],.bool true])
 ·simp [execOp,go_sem,Array.replicate]
 refine wpL_value rfl ?_ ?_ (w':=w) (v:=.agg #[.int .i64 x])
 ·simp [execOp,go_sem,Array.replicate]
 refine wpL_value rfl ?_ ?_ (w':=w) (v:=.bool true)
 ·simp [execOp,go_sem,Array.replicate]
 refine wpL_value rfl ?_ ?_ (w':=w.alloc (.cells #[.int .i64 0] 50)) (v:=.pointer (some ⟨w.heap.size,0,none⟩))
 ·simp [execOp,go_sem,Array.replicate]
 refine wpL_skip rfl ?_ ?_ (w':=w.alloc (.cells #[.int .i64 x] 50))
 ·simp [execOp,go_sem,Array.replicate]
 refine wpL_value rfl ?_ ?_ (w':=w.alloc (.cells #[.int .i64 x] 50)) (v:=.bool true)
 ·simp [execOp,go_sem,Array.replicate]
 show Code.wpS _ _ _ _ _ _
 apply wpS_seq
 refine wpS_regionL ?_
 refine wpL_value rfl ?_ ?_ (w':=w.alloc (.cells #[.int .i64 x] 50)) (v:=.bool true)
 ·simp [execOp,go_sem,Array.replicate]
 show Code.wpS _ _ _ _ _ _
 refine wpS_cond (t:=true) (by simp [Act.eval,Act.put,Array.replicate]) ?_
 simp only [if_true]
 refine wpS_of_wp ?_
 have ht:=lt_heap hz
 have hqq:=lt_heap hq
 have hrr:=lt_heap hr
 have z1:=hz_alloc (o:=.cells #[.int .i64 x] 50) hz
 have z2:=hz_alloc (o:=.cells #[.int .i64 x] 50) hq
 have z3:=hz_alloc (o:=.cells #[.int .i64 x] 50) hr
 have n1:¬ w.heap.size=t:=by omega
 have n2:¬ w.heap.size=q:=by omega
 have n3:¬ w.heap.size=r:=by omega
 have HZ1:=Lib.hid z1
 have HZ2:=Lib.hid z2
 have HZ3:=Lib.hid z3
 obtain ⟨zf,za,zb,zc,zd,ze,zg,zh,zi⟩:=z24 z1
 have q0:(w.alloc (.cells #[.int .i64 x] 50)).cell? ⟨q,0,none⟩=some (.int .i64 0):=by rw [cell_of_row _ _ _ _ 3 (0,0) z2];rfl
 have r0:(w.alloc (.cells #[.int .i64 x] 50)).cell? ⟨r,0,none⟩=some (.int .i64 0):=by rw [cell_of_row _ _ _ _ 25 (0,0) z3];rfl
 have x0:(w.alloc (.cells #[.int .i64 x] 50)).cell? ⟨w.heap.size,0,none⟩=some (.int .i64 x):=by rw [cell_of_row _ _ _ _ 50 (0,0) (heap_alloc_new w _)];rfl
 have qf:(w.alloc (.cells #[.int .i64 x] 50)).frozen? ⟨q,0,none⟩=false:=by unfold World.frozen?;rw [z2];rfl
 have rf:(w.alloc (.cells #[.int .i64 x] 50)).frozen? ⟨r,0,none⟩=false:=by unfold World.frozen?;rw [z3];rfl
 obtain ⟨W,hW⟩:∃ W,W=w.alloc (.cells #[.int .i64 x] 50):=⟨_,rfl⟩
 obtain ⟨g,hg⟩:∃ g,g=w.heap.size:=⟨_,rfl⟩
 have HW:Hid (∀ B,B≤g→Below B w (w.alloc (.cells #[.int .i64 x] 50))):=Lib.hid (fun B hB=>(Below.refl _ _).alloc (by rw [← hg];exact hB) _)
 rw [← hW] at HZ1 HZ2 HZ3 HW zf za zb zc zd ze zg zh zi q0 r0 x0 qf rf ⊢
 rw [← hg] at x0 n1 n2 n3 ⊢
 clear hW hg z1 z2 z3 hz hq hr
 simp [Act.put,Array.replicate]
 go_region
 show bodyPostS _ _ _ _ _ _ _ _ _
 have e1:∀ (V:World) (hV:V=((((((((W.setCell ⟨t,0,none⟩ (.int .i64 0)).setCell ⟨t,1,none⟩ (.int .i64 0)).setCell ⟨t,2,none⟩ (.string ⟨#[]⟩)).setCell ⟨t,3,none⟩ (.bool false)).setCell ⟨t,4,none⟩ (.int .i64 0)).setCell ⟨t,5,none⟩ (.int .i64 0)).setCell ⟨t,6,none⟩ (.int .i64 0)).setCell ⟨t,7,none⟩ (.int .i64 0))),V.heap[t]?=some Z24∧V.heap[q]?=some (.cells #[.int .i64 0] 3 (0,0))∧V.heap[r]?=some (.cells #[.int .i64 0] 25 (0,0))∧∀ B,B≤t→B≤g→Below B w V:=by
  rintro V rfl
  refine ⟨?_,?_,?_,?_⟩
  ·exact row_set' (row_set' (row_set' (row_set' (row_set' (row_set' (row_set' (row_set' HZ1.out)))))))
  ·repeat (refine hz_set ?_ (by simpa using h1.symm))
   exact HZ2.out
  ·repeat (refine hz_set ?_ (by simpa using h2.symm))
   exact HZ3.out
  ·intro B hB hg
   repeat (refine Below.setCell ?_ (by simpa using hB) _)
   exact HW.out B hg
 obtain ⟨V,hV⟩:∃ V,V=((((((((W.setCell ⟨t,0,none⟩ (.int .i64 0)).setCell ⟨t,1,none⟩ (.int .i64 0)).setCell ⟨t,2,none⟩ (.string ⟨#[]⟩)).setCell ⟨t,3,none⟩ (.bool false)).setCell ⟨t,4,none⟩ (.int .i64 0)).setCell ⟨t,5,none⟩ (.int .i64 0)).setCell ⟨t,6,none⟩ (.int .i64 0)).setCell ⟨t,7,none⟩ (.int .i64 0)):=⟨_,rfl⟩
 have E:=Lib.hid (e1 V hV)
 rw [← hV]
 clear hV e1 zf za zb zc zd ze zg zh zi q0 r0 x0 qf rf HZ1 HZ2 HZ3
 have hT:((V.setCell ⟨q,0,none⟩ (.int .i64 0)).setCell ⟨r,0,none⟩ (.int .i64 x)).heap[t]?=some Z24:=hz_set (hz_set E.out.1 (by simpa using h1)) (by simpa using h2)
 have hQ:((V.setCell ⟨q,0,none⟩ (.int .i64 0)).setCell ⟨r,0,none⟩ (.int .i64 x)).heap[q]?=some (.cells #[.int .i64 0] 3 (0,0)):=hz_set (row_set' E.out.2.1) (by simpa using h3)
 have hR:((V.setCell ⟨q,0,none⟩ (.int .i64 0)).setCell ⟨r,0,none⟩ (.int .i64 x)).heap[r]?=some (.cells #[.int .i64 x] 25 (0,0)):=row_set' (hz_set E.out.2.2.1 (by simpa using h3.symm))
 have hB:∀ B,B≤t→B≤q→B≤r→B≤g→Below B w ((V.setCell ⟨q,0,none⟩ (.int .i64 0)).setCell ⟨r,0,none⟩ (.int .i64 x)):=fun B b1 b2 b3 b4=>Below.setCell (Below.setCell (E.out.2.2.2 B b1 b4) (by simpa using b2) _) (by simpa using b3) _
 exact ⟨rfl,_,rfl,.tuple #[],by simp [results,Try.results26],rfl,rfl,hT,hQ,hR,fun B b1 b2 b3 b4=>(hB B b1 b2 b3 b4).drew⟩
set_option maxHeartbeats 4000000 in
set_option maxRecDepth 100000 in
/-- a frame that returns: nothing to recover -/
theorem idle26 (p q r:Value) (w:World) :
  CallsD Try.prog 26 #[p,q,r] .returning w fun e u' w'=>e=.returned (.tuple #[])∧u'=.returning∧Below w.heap.size w w':=by
 refine callsD_of_wpS Try.func26 rfl fun c₀ cs hu=>?_
 apply wpS_seq
 refine wpS_regionL ?_
 simp only [Try.ntmps26]
 refine wpL_recover_none rfl ?_ ?_ ?_
 ·simp [execOp,go_sem]
 ·simp only [recoverD,hu]
 refine wpL_value rfl ?_ ?_ (w':=w) (v:=.tuple #[.agg #[.int .i64 0],.bool false])
 ·simp [execOp,go_sem,Array.replicate,assertNil]
 refine wpL_value rfl ?_ ?_ (w':=w) (v:=.tuple #[.agg #[.int .i64 0],.bool false])
 ·simp [execOp,go_sem,Array.replicate]
 refine wpL_value rfl ?_ ?_ (w':=w) (v:=.agg #[.int .i64 0])
 ·simp [execOp,go_sem,Array.replicate]
 refine wpL_value rfl ?_ ?_ (w':=w) (v:=.bool false)
 ·simp [execOp,go_sem,Array.replicate]
 refine wpL_value rfl ?_ ?_ (w':=w.alloc (.cells #[.int .i64 0] 50)) (v:=.pointer (some ⟨w.heap.size,0,none⟩))
 ·simp [execOp,go_sem,Array.replicate]
 refine wpL_skip rfl ?_ ?_ (w':=w.alloc (.cells #[.int .i64 0] 50))
 ·simp [execOp,go_sem,Array.replicate]
 refine wpL_value rfl ?_ ?_ (w':=w.alloc (.cells #[.int .i64 0] 50)) (v:=.bool false)
 ·simp [execOp,go_sem,Array.replicate]
 show Code.wpS _ _ _ _ _ _
 apply wpS_seq
 refine wpS_regionL ?_
 refine wpL_value rfl ?_ ?_ (w':=w.alloc (.cells #[.int .i64 0] 50)) (v:=.bool false)
 ·simp [execOp,go_sem,Array.replicate]
 show Code.wpS _ _ _ _ _ _
 refine wpS_cond (t:=false) (by simp [Act.eval,Act.put,Array.replicate]) ?_
 simp only [Bool.false_eq_true,if_false]
 refine wpS_of_wp (wp_skip ?_)
 show bodyPostS _ _ _ _ _ _ _ _ _
 have hc:c₀ :: cs={ c₀ with mode:=.returning } :: cs:=by cases c₀;simp_all
 exact ⟨rfl,.returning,hc,.tuple #[],by simp [results,Try.results26],rfl,rfl,(Below.refl _ _).alloc (Nat.le_refl _) _⟩
end Go.Proofs.Ytmjlmjlkghpknaa
