/- Tokens made; numbers of digits; runs of points: walked. -/
import Derived.Test.YtmjlmjlkghpknaaTkA
set_option linter.unusedVariables false
set_option linter.unusedSimpArgs false
namespace Go.Proofs.Ytmjlmjlkghpknaa
open Go.RowKit
theorem results_cell_one {fn:Func} {p:Tmp} {ty:TypeId} (h:fn.results=#[.cell p ty]) (tmps:Array Value) (P:Program) (w:World) :
  (results fn tmps).run P w=((asAddr (tmps.getD p undef)).run P w).andThen fun a w₁=>(loadVar ty a).run P w₁:=by
 simp only [results,h]
 simp [Sem.run_bind,Result.andThen]
def Z24:Obj:=.cells #[.int .i64 0,.int .i64 0,.string ⟨#[]⟩,.bool false,.int .i64 0,.int .i64 0,.int .i64 0,.int .i64 0] 24
/-- a zero token's block -/
theorem z24 {w:World} {g:Nat} (h:w.heap[g]?=some Z24):(∀ o,w.frozen? ⟨g,o,none⟩=false)∧w.cell? ⟨g,0,none⟩=some (.int .i64 0)∧w.cell? ⟨g,1,none⟩=some (.int .i64 0)∧w.cell? ⟨g,2,none⟩=some (.string ⟨#[]⟩)∧w.cell? ⟨g,3,none⟩=some (.bool false)∧w.cell? ⟨g,4,none⟩=some (.int .i64 0)∧w.cell? ⟨g,5,none⟩=some (.int .i64 0)∧w.cell? ⟨g,6,none⟩=some (.int .i64 0)∧w.cell? ⟨g,7,none⟩=some (.int .i64 0):=by
 unfold Z24 at h
 refine ⟨fun o=>by unfold World.frozen?;rw [h];rfl,?_,?_,?_,?_,?_,?_,?_,?_⟩<;>(rw [cell_of_row w g _ _ 24 (0,0) h];rfl)
theorem point41 (p:Int) (w:World):Calls Try.prog 41 #[.int .i64 p] w fun e w'=>e=.returned (pointT p).agg∧Below w.heap.size w w':=by
 go_enter Try.func41,Try.ntmps41
 go_wp2
 (try simp only [Exit.inBlock,Exit.then])
 refine bodyPost_ret (v:=(pointT p).agg) ?_ rfl ⟨rfl,by (repeat' (first|(with_reducible exact Below.refl _ _)|(with_reducible refine Below.setCell ?_ (by simp<;>omega) _)|(with_reducible refine Below.alloc ?_ (by simp<;>omega) _)))⟩
 rw [results_cell_one rfl]
 unfold pointT Tk.agg
 go_simp
theorem look38 (p:Int) (w:World):Calls Try.prog 38 #[.int .i64 p] w fun e w'=>e=.returned (lookT p).agg∧Below w.heap.size w w':=by
 go_enter Try.func38,Try.ntmps38
 go_wp2
 (try simp only [Exit.inBlock,Exit.then])
 refine bodyPost_ret (v:=(lookT p).agg) ?_ rfl ⟨rfl,by (repeat' (first|(with_reducible exact Below.refl _ _)|(with_reducible refine Below.setCell ?_ (by simp<;>omega) _)|(with_reducible refine Below.alloc ?_ (by simp<;>omega) _)))⟩
 rw [results_cell_one rfl]
 unfold lookT Tk.agg
 go_simp
theorem again52 (p:Int) (w:World):Calls Try.prog 52 #[.int .i64 p] w fun e w'=>e=.returned (({ kind:=10,num:=p }:Tk).agg)∧Below w.heap.size w w':=by
 go_enter Try.func52,Try.ntmps52
 go_wp2
 (try simp only [Exit.inBlock,Exit.then])
 refine bodyPost_ret (v:=(({ kind:=10,num:=p }:Tk).agg)) ?_ rfl ⟨rfl,by (repeat' (first|(with_reducible exact Below.refl _ _)|(with_reducible refine Below.setCell ?_ (by simp<;>omega) _)|(with_reducible refine Below.alloc ?_ (by simp<;>omega) _)))⟩
 rw [results_cell_one rfl]
 unfold Tk.agg
 go_simp
theorem decN_snoc (l:List Int) (p:Int):decN (l ++ [p])=10 * decN l+p - 48:=by unfold decN;rw [List.foldl_append];rfl
/-- digits, not many: their number is small -/
theorem decN_small (l:List Int) (hd:∀ p ∈ l,isDig p=true):∀ k,k≤l.length→0≤decN (l.take k)∧decN (l.take k) < 10 ^ k:=by
 intro k
 induction k with
 | zero=>intro _;simp [decN]
 | succ k ih =>
  intro hk
  obtain ⟨h1,h2⟩:=ih (by omega)
  have hp:=hd l[k] (List.getElem_mem (by omega))
  unfold isDig at hp
  simp at hp
  rw [List.take_succ_eq_append_getElem (by omega),decN_snoc,Int.pow_succ]
  omega
set_option maxHeartbeats 1000000 in
theorem decimal53 (l:List Int) (A:Option Addr) (n c:Nat) (w:World) (X:Nat) (hn:n≤3) (hd:∀ p ∈ l,isDig p=true) (ha:Rds w X 1 A n (ints l)) :
  Calls Try.prog 53 #[.slice A n c] w fun e w'=>e=.returned (.int .i64 (decN l))∧w'=w:=by
 have HLN:=Lib.hid ha.ints_len
 have HS:=Lib.hid (decN_small l hd)
 have HD:=Lib.hid hd
 clear hd
 go_enter Try.func53,Try.ntmps53
 go_wp2_with fail
 go_loopw [3,8] (fun v i wr=>∃ k:Nat,k≤n∧i=.int .i64 k∧v=.int .i64 (decN (l.take k))∧w=wr) (fun _ i _=>n - (intOf i).toNat)
 case atStart=>exact ⟨0,Nat.zero_le _,rfl,rfl,rfl⟩
 case round =>
  obtain ⟨k,hk,rfl,rfl,rfl⟩:=hrel
  by_cases hlt:k < n
  ·obtain ⟨b1,off1,hl1,hA,hb1,hc1⟩:=ha.int_at hlt
   have HT:=Lib.hid (show decN (l.take (k+1))=10 * decN (l.take k)+l[k] - 48 by rw [List.take_succ_eq_append_getElem hl1,decN_snoc])
   have hb:=HS.out k (by omega)
   have hb2:(10:Int) ^ k≤1000:=by
    have:k=0∨k=1∨k=2:=by omega
    rcases this with rfl|rfl|rfl<;>decide
   have hx:=HD.out l[k] (List.getElem_mem hl1)
   unfold isDig at hx
   simp at hx
   obtain ⟨x,hx'⟩:∃ x,x=l[k]:=⟨_,rfl⟩
   rw [← hx'] at hc1 HT hx
   obtain ⟨y,hy⟩:∃ y,y=decN (l.take k):=⟨_,rfl⟩
   rw [← hy] at HT hb ⊢
   have hy1:0≤y∧y≤1000:=by omega
   clear hx' hy hb hb2
   subst hA
   have i1:(0:Int)≤(k:Int):=by omega
   have i2:(k:Int) < (n:Int):=by omega
   go_wp2_with fail
   go_roundw
   case rel=>exact ⟨k+1,by omega,by go_num,by rw [HT.out],by first|rfl|trivial⟩
   case measure=>simp [intOf];omega
  ·obtain rfl:k=n:=by omega
   rw [List.take_of_length_le (by rw [HLN.out];exact Nat.le_refl _)]
   go_wp2_with fail
   go_ret
   exact ⟨rfl,rfl⟩
end Go.Proofs.Ytmjlmjlkghpknaa
