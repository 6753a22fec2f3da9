/-
  What is wrong with a pattern as such: walked. The recovery: laws for operations of a deferred function, one by one. The recovery of a token: walked. A token read, or what is wrong with it: walked.
-/
import Derived.Test.YtbiahhojnjchnaaGreatGP
import Derived.Test.YtbiahhojnjchnaaGreatGQ
import Derived.Defers
import Derived.Recover
set_option linter.unusedVariables false
set_option linter.unusedSimpArgs false
namespace Go.Proofs.YtbiahhojnjchnaaGreat
open Go.RowKit
def okPt (p:Int):Bool:=decide (0≤p) && decide (p≤1114111)
theorem bad25 (p:Int) (w:World):Calls Tryz.prog 56 #[.int .i64 p] w fun e w'=>e=.returned (.bool (!okPt p))∧w=w':=by
 go_enter Tryz.func56,Tryz.ntmps56
 go_wp2
 all_goals (go_ret;refine ⟨ret_bool ?_,rfl⟩;unfold okPt;by_cases a:0≤p<;>by_cases b:p≤1114111<;>simp [a,b]<;>omega)
theorem all_ok_snoc (l:List Int) (k:Nat) (h:k < l.length) (h1:(l.take k).all okPt=true) (h2:okPt l[k]=true):(l.take (k+1)).all okPt=true:=by
 rw [List.take_succ_eq_append_getElem h,List.all_append,h1];simp [h2]
theorem all_ok_bad (l:List Int) (k:Nat) (h:k < l.length) (h2:okPt l[k]=false):l.all okPt=false:=by
 rw [List.all_eq_false];exact ⟨l[k],List.getElem_mem h,by simp [h2]⟩
set_option maxHeartbeats 1000000 in
theorem index36 (l:List Int) (A:Option Addr) (n c:Nat) (X:Nat) (w:World) (hn:n≤maxLen) (ha:Rds w X 1 A n (ints l)) :
  Calls Tryz.prog 88 #[.slice A n c,.func (.func 56) #[] #[]] w fun e w'=>(∃ i:Int,e=.returned (.int .i64 i)∧decide (0≤i)=!l.all okPt)∧w=w':=by
 have HLN:=Lib.hid ha.ints_len
 unfold maxLen at hn
 go_enter Tryz.func88,Tryz.ntmps88
 go_wp2_with fail
 go_loop [8] (fun i=>∃ k:Nat,k≤n∧i=.int .i64 k∧Hid ((l.take k).all okPt=true)) (fun i=>n - (intOf i).toNat)
 case atStart=>exact ⟨0,Nat.zero_le _,rfl,Lib.hid rfl⟩
 case round =>
  obtain ⟨k,hk,rfl,HK⟩:=hrel
  by_cases hlt:k < n
  ·obtain ⟨b1,off1,hl1,hA,hb1,hc1⟩:=ha.int_at hlt
   have HS:=Lib.hid (all_ok_snoc l k hl1 HK.out)
   have HB:=Lib.hid (all_ok_bad l k hl1)
   obtain ⟨x,hx⟩:∃ x,x=l[k]:=⟨_,rfl⟩
   rw [← hx] at hc1 HS HB
   clear hx
   subst hA
   have C:=Lib.hid (fun w=>bad25 x w)
   have i1:(0:Int)≤(k:Int):=by omega
   have i2:(k:Int) < (n:Int):=by omega
   cases hok:okPt x
   ·rw [hok] at C
    have HB2:=Lib.hid (HB.out hok)
    clear hok HS HB
    go_wp2_with (go_at_call 56;refine (C.out _).mono ?_;rintro e w' ⟨rfl,rfl⟩)
    go_ret
    exact ⟨⟨k,rfl,by rw [HB2.out];simp⟩,rfl⟩
   ·rw [hok] at C
    have HS2:=Lib.hid (HS.out hok)
    clear hok HS HB
    go_wp2_with (go_at_call 56;refine (C.out _).mono ?_;rintro e w' ⟨rfl,rfl⟩)
    go_round
    case rel=>exact ⟨k+1,by omega,by go_num,HS2⟩
    case measure=>simp [intOf];omega
  ·obtain rfl:k=n:=by omega
   rw [List.take_of_length_le (by rw [HLN.out];exact Nat.le_refl _)] at HK
   go_wp2_with fail
   go_ret
   exact ⟨⟨-1,rfl,by rw [HK.out];rfl⟩,rfl⟩
theorem contains24 (l:List Int) (A:Option Addr) (n c:Nat) (X:Nat) (w:World) (hn:n≤maxLen) (ha:Rds w X 1 A n (ints l)) :
  Calls Tryz.prog 55 #[.slice A n c,.func (.func 56) #[] #[]] w fun e w'=>e=.returned (.bool (!l.all okPt))∧w=w':=by
 go_enter Tryz.func55,Tryz.ntmps55
 go_wp2_with fail
 refine (index36 l A n c X w hn ha).mono ?_
 rintro e w' ⟨⟨i,rfl,hi⟩,rfl⟩
 have HI:=Lib.hid hi
 clear hi
 go_wp2
 go_ret
 exact ⟨ret_bool HI.out,rfl⟩
/-- what is wrong with a pattern as such -/
def rightE (d:Int) (l:List Int):Int:=if d < 1∨3 < d then 7 else if 300 < l.length then 2 else if l.all okPt=true then 0 else 3
set_option maxHeartbeats 1000000 in
theorem right14 (d:Int) (l:List Int) (A:Option Addr) (n c:Nat) (X:Nat) (w:World) (hn:n≤maxLen) (ha:Rds w X 1 A n (ints l)) :
  Calls Tryz.prog 29 #[.int .i64 d,.slice A n c] w fun e w'=>e=.returned (.int .i64 (rightE d l))∧w=w':=by
 have HLN:=Lib.hid ha.ints_len
 have C:=Lib.hid (contains24 l A n c X w hn ha)
 have hm:=hn
 unfold maxLen at hm
 clear ha hn
 unfold rightE
 rw [HLN.out]
 by_cases h1:d < 1
 ·rw [if_pos (.inl h1)]
  go_enter Tryz.func29,Tryz.ntmps29
  go_wp2_with fail
  go_ret
  exact ⟨rfl,rfl⟩
 by_cases h2:3 < d
 ·rw [if_pos (.inr h2)]
  go_enter Tryz.func29,Tryz.ntmps29
  go_wp2_with fail
  go_ret
  exact ⟨rfl,rfl⟩
 rw [if_neg (by omega)]
 by_cases h3:300 < n
 ·rw [if_pos h3]
  have h3i:(300:Int) < (n:Int):=by omega
  go_enter Tryz.func29,Tryz.ntmps29
  go_wp2_with fail
  go_ret
  exact ⟨rfl,rfl⟩
 ·rw [if_neg h3]
  have h3i:¬ (300:Int) < (n:Int):=by omega
  cases hok:l.all okPt
  all_goals
   rw [hok] at C
   clear hok
   go_enter Tryz.func29,Tryz.ntmps29
   go_wp2_with (go_at_call 55;refine C.out.mono ?_;rintro e w' ⟨rfl,rfl⟩)
   go_ret
   exact ⟨rfl,rfl⟩
end Go.Proofs.YtbiahhojnjchnaaGreat
namespace Go.Proofs.YtbiahhojnjchnaaGreat
open Go.RowKit
def wpL (P:Program) (Q:Exit→Act→List Frame→World→Prop):List Oper→Act→List Frame→World→Prop
 | [],a,cs,w=>Q .normal a cs w
 | o :: rest,a,cs,w=>o.guard=none∧match (execOp a.eval o).run P w with
  | .ok .recover w'=>(match recoverD cs with
   | some (v,cs')=>wpL P Q rest (a.put o.dst v) cs' w'
   | none=>wpL P Q rest (a.put o.dst .nilIface) cs w')
  | .ok (.value v) w'=>wpL P Q rest (a.put o.dst v) cs w'
  | .ok .skip w'=>wpL P Q rest (a.put o.dst undef) cs w'
  | _=>False
section
variable {P:Program} {ops:Array Oper} {Q:Exit→Act→List Frame→World→Prop}
theorem wpOpsS_of_L:∀ (os:List Oper) (k:Nat) (a:Act) (cs:List Frame) (w:World),ops.toList.drop k=os→wpL P Q os a cs w→wpOpsS P ops Q (List.range' k os.length) a cs w:=by
 intro os
 induction os with
 | nil=>intro k a cs w _ h;exact h
 | cons o rest ih =>
  intro k a cs w hk h
  have hlt:k < ops.toList.length:=by
   rcases Nat.lt_or_ge k ops.toList.length with h'|h'
   ·exact h'
   ·rw [List.drop_eq_nil_of_le h'] at hk;cases hk
  have ho:ops[k]?=some o:=by
   rw [List.drop_eq_getElem_cons hlt] at hk
   injection hk with h1 h2
   rw [← h1]
   simp at hlt
   simp [hlt]
  have hr:ops.toList.drop (k+1)=rest:=by
   rw [List.drop_eq_getElem_cons hlt] at hk
   injection hk
  rw [List.length_cons,List.range'_succ,wpOpsS,ho]
  obtain ⟨hg,h⟩:=h
  simp only [Region.wanted,hg,if_true]
  split at h
  ·rename_i w' e
   rw [e]
   simp only
   split at h
   ·rename_i v cs' e2
    rw [e2];exact ih _ _ _ _ hr h
   ·rename_i e2
    rw [e2];exact ih _ _ _ _ hr h
  ·rename_i v w' e
   rw [e];exact ih _ _ _ _ hr h
  ·rename_i w' e
   rw [e];exact ih _ _ _ _ hr h
  ·exact h.elim
theorem wpS_regionL {id:Nat} {a:Act} {cs:List Frame} {w:World} (h:wpL P Q ops.toList a cs w):(Code.region id ops false).wpS P Q a cs w:=by
 refine wpS_region ?_
 have:=wpOpsS_of_L (P:=P) (Q:=Q) (ops:=ops) ops.toList 0 a cs w (List.drop_zero ..) h
 rwa [Array.length_toList,← List.range_eq_range'] at this
variable {a:Act} {cs cs':List Frame} {w w':World} {o:Oper} {rest:List Oper} {v:Value}
theorem wpL_recover (hg:o.guard=none) (hr:(execOp a.eval o).run P w=.ok .recover w) (hc:recoverD cs=some (v,cs')) (h:wpL P Q rest (a.put o.dst v) cs' w):wpL P Q (o :: rest) a cs w:=by
 refine ⟨hg,?_⟩;rw [hr];simp only [hc];exact h
theorem wpL_recover_none (hg:o.guard=none) (hr:(execOp a.eval o).run P w=.ok .recover w) (hc:recoverD cs=none) (h:wpL P Q rest (a.put o.dst .nilIface) cs w):wpL P Q (o :: rest) a cs w:=by
 refine ⟨hg,?_⟩;rw [hr];simp only [hc];exact h
theorem wpL_value (hg:o.guard=none) (hr:(execOp a.eval o).run P w=.ok (.value v) w') (h:wpL P Q rest (a.put o.dst v) cs w'):wpL P Q (o :: rest) a cs w:=by
 refine ⟨hg,?_⟩;rw [hr];exact h
theorem wpL_skip (hg:o.guard=none) (hr:(execOp a.eval o).run P w=.ok .skip w') (h:wpL P Q rest (a.put o.dst undef) cs w'):wpL P Q (o :: rest) a cs w:=by
 refine ⟨hg,?_⟩;rw [hr];exact h
end
end Go.Proofs.YtbiahhojnjchnaaGreat
namespace Go.Proofs.YtbiahhojnjchnaaGreat
open Go.RowKit
theorem row_set' {w:World} {g i:Nat} {cs:Array Value} {T:TypeId} {fr:Nat × Nat} {v:Value} (h:w.heap[g]?=some (.cells cs T fr)):(w.setCell ⟨g,i,none⟩ v).heap[g]?=some (.cells (cs.setIfInBounds i v) T fr):=by
 rw [setCell_eq_setRow w g i cs T fr v h];exact setRow_heap w g cs _ T fr h
theorem assert50 (x:Value) (w:World):(Instr.typeAssert (.iface 156 (.agg #[x])) 20 156 true).run Tryz.prog w=.ok (.tuple #[.agg #[x],.bool true]) w:=by kernel_rfl
theorem assertNil (w:World):(Instr.typeAssert .nilIface 20 156 true).run Tryz.prog w=.ok (.tuple #[.agg #[.int .i64 0],.bool false]) w:=by kernel_rfl
set_option maxHeartbeats 4000000 in
set_option maxRecDepth 100000 in
theorem catch26 (t q r:Nat) (x:Int) (older:List PanicEntry) (w:World) (hz:w.heap[t]?=some Z24) (hq:w.heap[q]?=some (.cells #[.int .i64 0] 3 (0,0))) (hr:w.heap[r]?=some (.cells #[.int .i64 0] 24 (0,0))) (h1:t≠q) (h2:t≠r) (h3:q≠r) :
  CallsD Tryz.prog 133 #[.pointer (some ⟨t,0,none⟩),.pointer (some ⟨q,0,none⟩),.pointer (some ⟨r,0,none⟩)] (.panicking ({ v:=.iface 156 (.agg #[.int .i64 x]),recovered:=false } :: older)) w fun e u' w' =>
   e=.returned (.tuple #[])∧u'=.panicking ({ v:=.iface 156 (.agg #[.int .i64 x]),recovered:=true } :: older)∧w'.heap[t]?=some Z24∧w'.heap[q]?=some (.cells #[.int .i64 0] 3 (0,0))∧w'.heap[r]?=some (.cells #[.int .i64 x] 24 (0,0))∧∀ B,B≤t→B≤q→B≤r→B≤w.heap.size→Below B w w':=by
 refine callsD_of_wpS Tryz.func133 rfl fun c₀ cs hu=>?_
 apply wpS_seq
 refine wpS_regionL ?_
 simp only [Tryz.ntmps133]
 refine wpL_recover rfl ?_ ?_ ?_ (v:=.iface 156 (.agg #[.int .i64 x])) (cs':={ c₀ with mode:=.panicking ({ v:=.iface 156 (.agg #[.int .i64 x]),recovered:=true } :: older) } :: cs)
 ·simp [execOp,go_sem]
 ·simp only [recoverD,hu]
 refine wpL_value rfl ?_ ?_ (w':=w) (v:=.tuple #[.agg #[.int .i64 x],.bool true])
 ·simp [execOp,go_sem,Array.replicate,assert50]
 refine wpL_value rfl ?_ ?_ (w':=w) (v:=.tuple #[.agg #[.int .i64 x],.bool true])
 ·simp [execOp,go_sem,Array.replicate]
 refine wpL_value rfl ?_ ?_ (w':=w) (v:=.agg #[.int .i64 x])
 ·simp [execOp,go_sem,Array.replicate]
 refine wpL_value rfl ?_ ?_ (w':=w) (v:=.bool true)
 ·simp [execOp,go_sem,Array.replicate]
 refine wpL_value rfl ?_ ?_ (w':=w.alloc (.cells #[.int .i64 0] 156)) (v:=.pointer (some ⟨w.heap.size,0,none⟩))
 ·simp [execOp,go_sem,Array.replicate]
 refine wpL_skip rfl ?_ ?_ (w':=w.alloc (.cells #[.int .i64 x] 156))
 ·simp [execOp,go_sem,Array.replicate]
 refine wpL_value rfl ?_ ?_ (w':=w.alloc (.cells #[.int .i64 x] 156)) (v:=.bool true)
 ·simp [execOp,go_sem,Array.replicate]
 show Code.wpS _ _ _ _ _ _
 apply wpS_seq
 refine wpS_regionL ?_
 refine wpL_value rfl ?_ ?_ (w':=w.alloc (.cells #[.int .i64 x] 156)) (v:=.bool true)
 ·simp [execOp,go_sem,Array.replicate]
 show Code.wpS _ _ _ _ _ _
 refine wpS_cond (t:=true) (by simp [Act.eval,Act.put,Array.replicate]) ?_
 simp only [if_true]
 refine wpS_of_wp ?_
 have ht:=lt_heap hz
 have hqq:=lt_heap hq
 have hrr:=lt_heap hr
 have z1:=hz_alloc (o:=.cells #[.int .i64 x] 156) hz
 have z2:=hz_alloc (o:=.cells #[.int .i64 x] 156) hq
 have z3:=hz_alloc (o:=.cells #[.int .i64 x] 156) hr
 have n1:¬ w.heap.size=t:=by omega
 have n2:¬ w.heap.size=q:=by omega
 have n3:¬ w.heap.size=r:=by omega
 have HZ1:=Lib.hid z1
 have HZ2:=Lib.hid z2
 have HZ3:=Lib.hid z3
 obtain ⟨zf,za,zb,zc,zd,ze,zg,zh,zi⟩:=z24 z1
 have q0:(w.alloc (.cells #[.int .i64 x] 156)).cell? ⟨q,0,none⟩=some (.int .i64 0):=by rw [cell_of_row _ _ _ _ 3 (0,0) z2];rfl
 have r0:(w.alloc (.cells #[.int .i64 x] 156)).cell? ⟨r,0,none⟩=some (.int .i64 0):=by rw [cell_of_row _ _ _ _ 24 (0,0) z3];rfl
 have x0:(w.alloc (.cells #[.int .i64 x] 156)).cell? ⟨w.heap.size,0,none⟩=some (.int .i64 x):=by rw [cell_of_row _ _ _ _ 156 (0,0) (heap_alloc_new w _)];rfl
 have qf:(w.alloc (.cells #[.int .i64 x] 156)).frozen? ⟨q,0,none⟩=false:=by unfold World.frozen?;rw [z2];rfl
 have rf:(w.alloc (.cells #[.int .i64 x] 156)).frozen? ⟨r,0,none⟩=false:=by unfold World.frozen?;rw [z3];rfl
 obtain ⟨W,hW⟩:∃ W,W=w.alloc (.cells #[.int .i64 x] 156):=⟨_,rfl⟩
 obtain ⟨g,hg⟩:∃ g,g=w.heap.size:=⟨_,rfl⟩
 have HW:Hid (∀ B,B≤g→Below B w (w.alloc (.cells #[.int .i64 x] 156))):=Lib.hid (fun B hB=>(Below.refl _ _).alloc (by rw [← hg];exact hB) _)
 rw [← hW] at HZ1 HZ2 HZ3 HW zf za zb zc zd ze zg zh zi q0 r0 x0 qf rf ⊢
 rw [← hg] at x0 n1 n2 n3 ⊢
 clear hW hg z1 z2 z3 hz hq hr
 simp [Act.put,Array.replicate]
 go_region
 show bodyPostS _ _ _ _ _ _ _ _ _
 have e1:∀ (V:World) (hV:V=((((((((W.setCell ⟨t,0,none⟩ (.int .i64 0)).setCell ⟨t,1,none⟩ (.int .i64 0)).setCell ⟨t,2,none⟩ (.string ⟨#[]⟩)).setCell ⟨t,3,none⟩ (.bool false)).setCell ⟨t,4,none⟩ (.int .i64 0)).setCell ⟨t,5,none⟩ (.int .i64 0)).setCell ⟨t,6,none⟩ (.int .i64 0)).setCell ⟨t,7,none⟩ (.int .i64 0))),V.heap[t]?=some Z24∧V.heap[q]?=some (.cells #[.int .i64 0] 3 (0,0))∧V.heap[r]?=some (.cells #[.int .i64 0] 24 (0,0))∧∀ B,B≤t→B≤g→Below B w V:=by
  rintro V rfl
  refine ⟨?_,?_,?_,?_⟩
  ·exact row_set' (row_set' (row_set' (row_set' (row_set' (row_set' (row_set' (row_set' HZ1.out)))))))
  ·repeat (refine hz_set ?_ (by simpa using h1.symm))
   exact HZ2.out
  ·repeat (refine hz_set ?_ (by simpa using h2.symm))
   exact HZ3.out
  ·intro B hB hg
   repeat (refine Below.setCell ?_ (by simpa using hB) _)
   exact HW.out B hg
 obtain ⟨V,hV⟩:∃ V,V=((((((((W.setCell ⟨t,0,none⟩ (.int .i64 0)).setCell ⟨t,1,none⟩ (.int .i64 0)).setCell ⟨t,2,none⟩ (.string ⟨#[]⟩)).setCell ⟨t,3,none⟩ (.bool false)).setCell ⟨t,4,none⟩ (.int .i64 0)).setCell ⟨t,5,none⟩ (.int .i64 0)).setCell ⟨t,6,none⟩ (.int .i64 0)).setCell ⟨t,7,none⟩ (.int .i64 0)):=⟨_,rfl⟩
 have E:=Lib.hid (e1 V hV)
 rw [← hV]
 clear hV e1 zf za zb zc zd ze zg zh zi q0 r0 x0 qf rf HZ1 HZ2 HZ3
 have hT:((V.setCell ⟨q,0,none⟩ (.int .i64 0)).setCell ⟨r,0,none⟩ (.int .i64 x)).heap[t]?=some Z24:=hz_set (hz_set E.out.1 (by simpa using h1)) (by simpa using h2)
 have hQ:((V.setCell ⟨q,0,none⟩ (.int .i64 0)).setCell ⟨r,0,none⟩ (.int .i64 x)).heap[q]?=some (.cells #[.int .i64 0] 3 (0,0)):=hz_set (row_set' E.out.2.1) (by simpa using h3)
 have hR:((V.setCell ⟨q,0,none⟩ (.int .i64 0)).setCell ⟨r,0,none⟩ (.int .i64 x)).heap[r]?=some (.cells #[.int .i64 x] 24 (0,0)):=row_set' (hz_set E.out.2.2.1 (by simpa using h3.symm))
 have hB:∀ B,B≤t→B≤q→B≤r→B≤g→Below B w ((V.setCell ⟨q,0,none⟩ (.int .i64 0)).setCell ⟨r,0,none⟩ (.int .i64 x)):=fun B b1 b2 b3 b4=>Below.setCell (Below.setCell (E.out.2.2.2 B b1 b4) (by simpa using b2) _) (by simpa using b3) _
 exact ⟨rfl,_,rfl,.tuple #[],by simp [results,Tryz.results133],rfl,rfl,hT,hQ,hR,fun B b1 b2 b3 b4=>(hB B b1 b2 b3 b4).drew⟩
set_option maxHeartbeats 4000000 in
set_option maxRecDepth 100000 in
/-- a frame that returns: nothing to recover -/
theorem idle26 (p q r:Value) (w:World) :
  CallsD Tryz.prog 133 #[p,q,r] .returning w fun e u' w'=>e=.returned (.tuple #[])∧u'=.returning∧Below w.heap.size w w':=by
 refine callsD_of_wpS Tryz.func133 rfl fun c₀ cs hu=>?_
 apply wpS_seq
 refine wpS_regionL ?_
 simp only [Tryz.ntmps133]
 refine wpL_recover_none rfl ?_ ?_ ?_
 ·simp [execOp,go_sem]
 ·simp only [recoverD,hu]
 refine wpL_value rfl ?_ ?_ (w':=w) (v:=.tuple #[.agg #[.int .i64 0],.bool false])
 ·simp [execOp,go_sem,Array.replicate,assertNil]
 refine wpL_value rfl ?_ ?_ (w':=w) (v:=.tuple #[.agg #[.int .i64 0],.bool false])
 ·simp [execOp,go_sem,Array.replicate]
 refine wpL_value rfl ?_ ?_ (w':=w) (v:=.agg #[.int .i64 0])
 ·simp [execOp,go_sem,Array.replicate]
 refine wpL_value rfl ?_ ?_ (w':=w) (v:=.bool false)
 ·simp [execOp,go_sem,Array.replicate]
 refine wpL_value rfl ?_ ?_ (w':=w.alloc (.cells #[.int .i64 0] 156)) (v:=.pointer (some ⟨w.heap.size,0,none⟩))
 ·simp [execOp,go_sem,Array.replicate]
 refine wpL_skip rfl ?_ ?_ (w':=w.alloc (.cells #[.int .i64 0] 156))
 ·simp [execOp,go_sem,Array.replicate]
 refine wpL_value rfl ?_ ?_ (w':=w.alloc (.cells #[.int .i64 0] 156)) (v:=.bool false)
 ·simp [execOp,go_sem,Array.replicate]
 show Code.wpS _ _ _ _ _ _
 apply wpS_seq
 refine wpS_regionL ?_
 refine wpL_value rfl ?_ ?_ (w':=w.alloc (.cells #[.int .i64 0] 156)) (v:=.bool false)
 ·simp [execOp,go_sem,Array.replicate]
 show Code.wpS _ _ _ _ _ _
 refine wpS_cond (t:=false) (by simp [Act.eval,Act.put,Array.replicate]) ?_
 simp only [Bool.false_eq_true,if_false]
 refine wpS_of_wp (wp_skip ?_)
 show bodyPostS _ _ _ _ _ _ _ _ _
 have hc:c₀ :: cs={ c₀ with mode:=.returning } :: cs:=by cases c₀;simp_all
 exact ⟨rfl,.returning,hc,.tuple #[],by simp [results,Tryz.results133],rfl,rfl,(Below.refl _ _).alloc (Nat.le_refl _) _⟩
end Go.Proofs.YtbiahhojnjchnaaGreat
namespace Go.Proofs.YtbiahhojnjchnaaGreat
open Go.RowKit
theorem hz_new' {w:World} {o:Obj} {g:Nat} (h:g=w.heap.size):(w.alloc o).heap[g]?=some o:=by subst h;exact heap_alloc_new w o
theorem tcells' {w:World} {g:Nat} {v0 v1 v2 v3 v4 v5 v6 v7:Value} (h:w.heap[g]?=some (.cells #[v0,v1,v2,v3,v4,v5,v6,v7] 108 (0,0))):(∀ o,w.frozen? ⟨g,o,none⟩=false)∧w.cell? ⟨g,0,none⟩=some v0∧w.cell? ⟨g,1,none⟩=some v1∧w.cell? ⟨g,2,none⟩=some v2∧w.cell? ⟨g,3,none⟩=some v3∧w.cell? ⟨g,4,none⟩=some v4∧w.cell? ⟨g,5,none⟩=some v5∧w.cell? ⟨g,6,none⟩=some v6∧w.cell? ⟨g,7,none⟩=some v7:=by
 refine ⟨fun o=>by unfold World.frozen?;rw [h];rfl,?_,?_,?_,?_,?_,?_,?_,?_⟩<;>(rw [cell_of_row w g _ _ 108 (0,0) h];rfl)
theorem hz_drew {w:World} {g:Nat} {x:Option Obj} (h:w.heap[g]?=x):w.drew.heap[g]?=x:=h
theorem row_set8 {w:World} {g:Nat} {v0 v1 v2 v3 v4 v5 v6 v7:Value} (h:w.heap[g]?=some (.cells #[v0,v1,v2,v3,v4,v5,v6,v7] 108 (0,0))):((((((((w.setCell ⟨g,0,none⟩ v0).setCell ⟨g,1,none⟩ v1).setCell ⟨g,2,none⟩ v2).setCell ⟨g,3,none⟩ v3).setCell ⟨g,4,none⟩ v4).setCell ⟨g,5,none⟩ v5).setCell ⟨g,6,none⟩ v6).setCell ⟨g,7,none⟩ v7).heap[g]?=some (.cells #[v0,v1,v2,v3,v4,v5,v6,v7] 108 (0,0)) :=
 by
 have s0:∀ (w:World) (i:Nat) (v:Value) (cs:Array Value),w.heap[g]?=some (.cells cs 108 (0,0))→cs.setIfInBounds i v=cs→(w.setCell ⟨g,i,none⟩ v).heap[g]?=some (.cells cs 108 (0,0)):=fun w i v cs h e=>by have:=row_set' (i:=i) (v:=v) h;rwa [e] at this
 exact s0 _ 7 _ _ (s0 _ 6 _ _ (s0 _ 5 _ _ (s0 _ 4 _ _ (s0 _ 3 _ _ (s0 _ 2 _ _ (s0 _ 1 _ _ (s0 _ 0 _ _ h (by simp)) (by simp)) (by simp)) (by simp)) (by simp)) (by simp)) (by simp)) (by simp)
theorem hz_set8 {w:World} {g k:Nat} {x:Obj} {v0 v1 v2 v3 v4 v5 v6 v7:Value} (h:w.heap[k]?=some x) (hn:k≠g):((((((((w.setCell ⟨g,0,none⟩ v0).setCell ⟨g,1,none⟩ v1).setCell ⟨g,2,none⟩ v2).setCell ⟨g,3,none⟩ v3).setCell ⟨g,4,none⟩ v4).setCell ⟨g,5,none⟩ v5).setCell ⟨g,6,none⟩ v6).setCell ⟨g,7,none⟩ v7).heap[k]?=some x :=
 hz_set (hz_set (hz_set (hz_set (hz_set (hz_set (hz_set (hz_set h hn) hn) hn) hn) hn) hn) hn) hn
theorem raw_end {W2 w0:World} {g:Nat} (t:Tk) (nx:Int) (h1:W2.heap[g]?=some (.cells #[.int .i64 t.kind,.int .i64 t.num,.string ⟨t.text.toArray⟩,.bool t.not_,.int .i64 t.least,.int .i64 t.most,.int .i64 t.way,.int .i64 t.fold] 108 (0,0))) (h2:W2.heap[g+1]?=some (.cells #[.int .i64 0] 3 (0,0))) (h3:W2.heap[g+1+1]?=some (.cells #[.int .i64 0] 24 (0,0))) (hb:Below g w0 W2) (V:World) (hV:V=((((((((((W2.setCell ⟨g,0,none⟩ (.int .i64 t.kind)).setCell ⟨g,1,none⟩ (.int .i64 t.num)).setCell ⟨g,2,none⟩ (.string ⟨t.text.toArray⟩)).setCell ⟨g,3,none⟩ (.bool t.not_)).setCell ⟨g,4,none⟩ (.int .i64 t.least)).setCell ⟨g,5,none⟩ (.int .i64 t.most)).setCell ⟨g,6,none⟩ (.int .i64 t.way)).setCell ⟨g,7,none⟩ (.int .i64 t.fold)).setCell ⟨g+1,0,none⟩ (.int .i64 nx)).setCell ⟨g+1+1,0,none⟩ (.int .i64 0)).drew) :
  V.heap[g]?=some (.cells #[.int .i64 t.kind,.int .i64 t.num,.string ⟨t.text.toArray⟩,.bool t.not_,.int .i64 t.least,.int .i64 t.most,.int .i64 t.way,.int .i64 t.fold] 108 (0,0))∧V.heap[g+1]?=some (.cells #[.int .i64 nx] 3 (0,0))∧V.heap[g+1+1]?=some (.cells #[.int .i64 0] 24 (0,0))∧Below g w0 V:=by
 subst hV
 refine ⟨hz_drew ?_,hz_drew ?_,hz_drew ?_,Below.drew ?_⟩
 ·exact hz_set (hz_set (row_set8 h1) (by simp)) (by simp;omega)
 ·exact hz_set (row_set' (hz_set8 h2 (by omega))) (by simp)
 ·exact row_set' (hz_set (hz_set8 h3 (by omega)) (by simp))
 ·repeat (refine Below.setCell ?_ (by simp<;>omega) _)
  exact hb
def ROutT:TR→Ending→Prop
 | .ok p,e=>e=.returned (.tuple #[p.1.agg,.int .i64 p.2,.int .i64 0])
 | .error x,e=>e=.returned (.tuple #[({}:Tk).agg,.int .i64 0,.int .i64 x])
set_option maxHeartbeats 4000000 in
set_option maxRecDepth 100000 in
theorem raw15 (d at_:Int) (l:List Int) (hT:∀ (b n c:Nat) (A:Option Addr) (w:World),at_ < n→St b n c d A l at_ w→Calls Tryz.prog 134 #[.pointer (some ⟨b,0,none⟩)] w fun e w'=>TOut b n c d A l (tokenP d l at_) e w'∧Kept b w w')
  (A:Option Addr) (n c:Nat) (w:World) (h0:0≤at_) (h1:at_ < n) (hn:n≤1000) (hc:n≤c) (ha:Rds w w.heap.size 1 A n (ints l)) :
  Calls Tryz.prog 113 #[.int .i64 d,.slice A n c,.int .i64 at_] w fun e w'=>ROutT (tokenP d l at_) e∧Below w.heap.size w w':=by
 have hmf:∀ (fn:Fn) (first cap:Array Value) (w:World),(Instr.makeFunc fn first cap).run Tryz.prog w=.ok (.func fn first cap) w:=fun _ _ _ _=>rfl
 obtain ⟨W,hW⟩:∃ W,W=(((w.alloc (.cells #[.int .i64 0,.int .i64 0,.string ⟨#[]⟩,.bool false,.int .i64 0,.int .i64 0,.int .i64 0,.int .i64 0] 108)).alloc (.cells #[.int .i64 0] 3)).alloc (.cells #[.int .i64 0] 24)).alloc (.cells #[.int .i64 d,.slice A n c,.int .i64 at_] 160):=⟨_,rfl⟩
 have hB:Below w.heap.size w W:=by rw [hW];go_grown
 have hs:W.heap.size=w.heap.size+4:=by rw [hW];simp
 have C:=Lib.hid (hT (w.heap.size+1+1+1) n c A W h1 ⟨by rw [hW];unfold RdAtT;have:=heap_alloc_new (((w.alloc (.cells #[.int .i64 0,.int .i64 0,.string ⟨#[]⟩,.bool false,.int .i64 0,.int .i64 0,.int .i64 0,.int .i64 0] 108)).alloc (.cells #[.int .i64 0] 3)).alloc (.cells #[.int .i64 0] 24)) (.cells #[.int .i64 d,.slice A n c,.int .i64 at_] 160);simpa using this,(ha.below hB (Nat.le_refl _)).more (by omega),h0,by omega,by omega,hn,hc⟩)
 clear ha
 cases hr:tokenP d l at_ with
 | error x =>
  rw [hr] at C
  clear hr
  go_enter_defers Tryz.func113,Tryz.ntmps113
  go_wp2_with fail
  rw [← hW]
  refine C.out.mono ?_
  rintro e w1 ⟨he,hk⟩
  obtain rfl:=(show e=.panicked (wrongV x) from he)
  have z1:w1.heap[w.heap.size]?=some Z24:=(hk.block _ (by omega) (by omega)).trans (by rw [hW];exact hz_alloc (hz_alloc (hz_alloc hz_new)))
  have z2:w1.heap[w.heap.size+1]?=some (.cells #[.int .i64 0] 3 (0,0)):=(hk.block _ (by omega) (by omega)).trans (by rw [hW];exact hz_alloc (hz_alloc (hz_new' (by simp))))
  have z3:w1.heap[w.heap.size+1+1]?=some (.cells #[.int .i64 0] 24 (0,0)):=(hk.block _ (by omega) (by omega)).trans (by rw [hW];exact hz_alloc (hz_new' (by simp)))
  have hks:=hk.size
  have HB1:Hid (Below w.heap.size w w1):=Lib.hid ⟨hk.os.trans hB.os,hk.tape.trans hB.tape,hk.output.trans hB.output,by omega,fun k h=>(hk.block k (by omega) (by omega)).trans (hB.block k h)⟩
  clear he hk C hW hB
  have C26:=Lib.hid (catch26 w.heap.size (w.heap.size+1) (w.heap.size+1+1) x [] w1 z1 z2 z3 (by omega) (by omega) (by omega))
  clear z1 z2 z3
  go_wp2_with fail
  refine leaves_cons (f:=133) (args:=#[.pointer (some ⟨w.heap.size,0,none⟩),.pointer (some ⟨w.heap.size+1,0,none⟩),.pointer (some ⟨w.heap.size+1+1,0,none⟩)]) (by simp) (by simp [go_sem]) ?_
  refine C26.out.mono ?_
  rintro e u' w2 ⟨rfl,rfl,t1,t2,t3,hB⟩
  have HB2:=Lib.hid (HB1.out.trans (hB w.heap.size (Nat.le_refl _) (by omega) (by omega) (by omega)))
  obtain ⟨zf,za,zb,zc,zd,ze,zg,zh,zi⟩:=z24 t1
  have q0:w2.cell? ⟨w.heap.size+1,0,none⟩=some (.int .i64 0):=by rw [cell_of_row _ _ _ _ 3 (0,0) t2];rfl
  have r0:w2.cell? ⟨w.heap.size+1+1,0,none⟩=some (.int .i64 x):=by rw [cell_of_row _ _ _ _ 24 (0,0) t3];rfl
  clear t1 t2 t3 hB C26 hT
  simp [Leaves,settle,results,Tryz.results113,go_sem,za,zb,zc,zd,ze,zg,zh,zi,q0,r0]
  exact ⟨rfl,HB2.out⟩
 | ok p =>
  obtain ⟨t,nx⟩:=p
  have C2:=Lib.hid (tout_ok C.out hr)
  clear hr
  go_enter_defers Tryz.func113,Tryz.ntmps113
  go_wp2_with fail
  rw [← hW]
  refine C2.out.mono ?_
  rintro e w1 ⟨rfl,h1,hk⟩
  have z1:w1.heap[w.heap.size]?=some Z24:=(hk.block _ (by omega) (by omega)).trans (by rw [hW];exact hz_alloc (hz_alloc (hz_alloc hz_new)))
  have z2:w1.heap[w.heap.size+1]?=some (.cells #[.int .i64 0] 3 (0,0)):=(hk.block _ (by omega) (by omega)).trans (by rw [hW];exact hz_alloc (hz_alloc (hz_new' (by simp))))
  have z3:w1.heap[w.heap.size+1+1]?=some (.cells #[.int .i64 0] 24 (0,0)):=(hk.block _ (by omega) (by omega)).trans (by rw [hW];exact hz_alloc (hz_new' (by simp)))
  have hks:=hk.size
  have HB1:Hid (Below w.heap.size w w1):=Lib.hid ⟨hk.os.trans hB.os,hk.tape.trans hB.tape,hk.output.trans hB.output,by omega,fun k h=>(hk.block k (by omega) (by omega)).trans (hB.block k h)⟩
  have HZ1:=Lib.hid z1
  have Hr1:=Lib.hid h1.rd
  have HZ2:=Lib.hid z2
  have HZ3:=Lib.hid z3
  clear hk C C2 hW hB hT z1 z2 z3 h1
  go_upto_region 4 with (first|((with_reducible apply store24 (g:=w.heap.size));rfl;(with_reducible rfl);rfl;rfl;(repeat' (first|(with_reducible first|exact HZ1.out|exact hz_new|refine hz_set ?_ ?_|refine hz_row ?_ ?_|refine hz_alloc ?_)|(with_reducible change (_:Nat)≠_;(try simp)<;>omega)));rfl;rfl))
  have T1:(w1.setRow w.heap.size #[.int .i64 t.kind,.int .i64 t.num,.string ⟨t.text.toArray⟩,.bool t.not_,.int .i64 t.least,.int .i64 t.most,.int .i64 t.way,.int .i64 t.fold]).heap[w.heap.size]?=some (.cells #[.int .i64 t.kind,.int .i64 t.num,.string ⟨t.text.toArray⟩,.bool t.not_,.int .i64 t.least,.int .i64 t.most,.int .i64 t.way,.int .i64 t.fold] 108 (0,0)):=row24 HZ1.out
  have T2:=hz_row (k:=w.heap.size) (cs:=#[.int .i64 t.kind,.int .i64 t.num,.string ⟨t.text.toArray⟩,.bool t.not_,.int .i64 t.least,.int .i64 t.most,.int .i64 t.way,.int .i64 t.fold]) HZ2.out (by omega)
  have T3:=hz_row (k:=w.heap.size) (cs:=#[.int .i64 t.kind,.int .i64 t.num,.string ⟨t.text.toArray⟩,.bool t.not_,.int .i64 t.least,.int .i64 t.most,.int .i64 t.way,.int .i64 t.fold]) HZ3.out (by omega)
  have T4:=hz_row (k:=w.heap.size) (cs:=#[.int .i64 t.kind,.int .i64 t.num,.string ⟨t.text.toArray⟩,.bool t.not_,.int .i64 t.least,.int .i64 t.most,.int .i64 t.way,.int .i64 t.fold]) (show w1.heap[w.heap.size+1+1+1]?=some (.cells #[.int .i64 d,.slice A n c,.int .i64 nx] 160 (0,0)) from Hr1.out) (by omega)
  have HB2:=Lib.hid (Below.setRow HB1.out (Nat.le_refl _) #[.int .i64 t.kind,.int .i64 t.num,.string ⟨t.text.toArray⟩,.bool t.not_,.int .i64 t.least,.int .i64 t.most,.int .i64 t.way,.int .i64 t.fold])
  obtain ⟨W2,hW2⟩:∃ W2,W2=w1.setRow w.heap.size #[.int .i64 t.kind,.int .i64 t.num,.string ⟨t.text.toArray⟩,.bool t.not_,.int .i64 t.least,.int .i64 t.most,.int .i64 t.way,.int .i64 t.fold]:=⟨_,rfl⟩
  rw [← hW2] at T1 T2 T3 T4 HB2 ⊢
  clear hW2 HB1 HZ1 Hr1 HZ2 HZ3 hks
  obtain ⟨zf,za,zb,zc,zd,ze,zg,zh,zi⟩:=tcells' T1
  have q0:W2.cell? ⟨w.heap.size+1,0,none⟩=some (.int .i64 0):=by rw [cell_of_row _ _ _ _ 3 (0,0) T2];rfl
  have r0:W2.cell? ⟨w.heap.size+1+1,0,none⟩=some (.int .i64 0):=by rw [cell_of_row _ _ _ _ 24 (0,0) T3];rfl
  have b2:W2.cell? ⟨w.heap.size+1+1+1,2,none⟩=some (.int .i64 nx):=by rw [cell_of_row _ _ _ _ 160 (0,0) T4];rfl
  have qf:W2.frozen? ⟨w.heap.size+1,0,none⟩=false:=by unfold World.frozen?;rw [T2];rfl
  have rf:W2.frozen? ⟨w.heap.size+1+1,0,none⟩=false:=by unfold World.frozen?;rw [T3];rfl
  have HT1:=Lib.hid T1
  have HT2:=Lib.hid T2
  have HT3:=Lib.hid T3
  clear T1 T2 T3 T4
  have HQ0:=Lib.hid q0
  refine wp_region_noPanic ?_
  go_region
  all_goals (refine NoPanic.normal ?_)
  all_goals go_wp2_with fail
  all_goals
   obtain ⟨V,hV⟩:∃ V,V=((((((((((W2.setCell ⟨w.heap.size,0,none⟩ (.int .i64 t.kind)).setCell ⟨w.heap.size,1,none⟩ (.int .i64 t.num)).setCell ⟨w.heap.size,2,none⟩ (.string ⟨t.text.toArray⟩)).setCell ⟨w.heap.size,3,none⟩ (.bool t.not_)).setCell ⟨w.heap.size,4,none⟩ (.int .i64 t.least)).setCell ⟨w.heap.size,5,none⟩ (.int .i64 t.most)).setCell ⟨w.heap.size,6,none⟩ (.int .i64 t.way)).setCell ⟨w.heap.size,7,none⟩ (.int .i64 t.fold)).setCell ⟨w.heap.size+1,0,none⟩ (.int .i64 nx)).setCell ⟨w.heap.size+1+1,0,none⟩ (.int .i64 0)).drew:=⟨_,rfl⟩
   have E:=Lib.hid (raw_end (g:=w.heap.size) t nx HT1.out HT2.out HT3.out HB2.out V hV)
   rw [← hV]
   clear hV HT1 HT2 HT3 HB2 HQ0 zf za zb zc zd ze zg zh zi q0 r0 b2 qf rf
   refine leaves_cons (f:=133) (args:=#[.pointer (some ⟨w.heap.size,0,none⟩),.pointer (some ⟨w.heap.size+1,0,none⟩),.pointer (some ⟨w.heap.size+1+1,0,none⟩)]) (by simp) (by simp [go_sem]) ?_
   refine (idle26 _ _ _ _).mono ?_
   rintro e u' w3 ⟨rfl,rfl,hb⟩
   have S1:=(hb.block _ (lt_heap E.out.1)).trans E.out.1
   have S2:=(hb.block _ (lt_heap E.out.2.1)).trans E.out.2.1
   have S3:=(hb.block _ (lt_heap E.out.2.2.1)).trans E.out.2.2.1
   have HB3:=Lib.hid (E.out.2.2.2.trans (hb.mono (E.out.2.2.2.size)))
   obtain ⟨zf,za,zb,zc,zd,ze,zg,zh,zi⟩:=tcells' S1
   have q0:w3.cell? ⟨w.heap.size+1,0,none⟩=some (.int .i64 nx):=by rw [cell_of_row _ _ _ _ 3 (0,0) S2];rfl
   have r0:w3.cell? ⟨w.heap.size+1+1,0,none⟩=some (.int .i64 0):=by rw [cell_of_row _ _ _ _ 24 (0,0) S3];rfl
   clear S1 S2 S3 hb E
   simp [Leaves,settle,results,Tryz.results113,go_sem,za,zb,zc,zd,ze,zg,zh,zi,q0,r0]
   exact ⟨rfl,HB3.out⟩
end Go.Proofs.YtbiahhojnjchnaaGreat
