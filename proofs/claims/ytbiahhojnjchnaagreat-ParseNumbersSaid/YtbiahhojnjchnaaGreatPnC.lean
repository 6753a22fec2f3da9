/-
  A parser's nodes: stored, made, appended; a node of a set, an empty one: walked.
-/
import Derived.Test.YtbiahhojnjchnaaGreatPnB
set_option linter.unusedVariables false
set_option linter.unusedSimpArgs false
namespace Go.Proofs.YtbiahhojnjchnaaGreat
open Go.RowKit
theorem node_info:(Tryz.prog.info? 42).map (fun i=>(i.zero,i.size,i.bytes))=some (some (.agg #[.int .i64 0,.slice none 0 0,.slice none 0 0,.int .i64 0,.int .i64 0,.int .i64 0,.int .i64 0,.bool false]),8,96):=by kernel_rfl
theorem info42:(Tryz.prog.info? 42).map (·.size)=some 8:=by kernel_rfl
def Z42:Obj:=.cells #[.int .i64 0,.slice none 0 0,.slice none 0 0,.int .i64 0,.int .i64 0,.int .i64 0,.int .i64 0,.bool false] 42
theorem z42_new {w:World}:(w.alloc (.cells #[.int .i64 0,.slice none 0 0,.slice none 0 0,.int .i64 0,.int .i64 0,.int .i64 0,.int .i64 0,.bool false] 42)).heap[w.heap.size]?=some Z42:=heap_alloc_new w _
theorem store42 {ops:Array Oper} {rest:List Oper} {o:Oper} {a:Act} {w:World} {Q:Exit→Act→World→Prop} {x y:Operand} {g:Nat} {cells:Array Value} (hgd:o.guard=none) (ho:o.op=.store 42 x y)
  (hx:a.eval x=.pointer (some ⟨g,0,none⟩)) (hy:a.eval y=.agg cells) (hz:w.heap[g]?=some Z42) (hs:cells.size=8) (h1:cells.toList.all (·.oneCell')=true)
  (h:wpList Tryz.prog ops Q rest (a.put o.dst undef) (w.setRow g cells)):wpList Tryz.prog ops Q (o :: rest) a w :=
 wpList_store_row hgd 42 x y ho g cells hx hy 42 _ hz (by rw [hs];exact info42) (by rw [hs];rfl) (by rw [← Array.all_toList];exact h1) h
theorem row42 {w:World} {g:Nat} {cs:Array Value} (hz:w.heap[g]?=some Z42):(w.setRow g cs).heap[g]?=some (.cells cs 42 (0,0)):=setRow_heap w g _ cs 42 _ hz
theorem results42 {fn:Func} {p:Tmp} (h:fn.results=#[.cell p 42]) (tmps:Array Value) (w:World) (g:Nat) (cs:Array Value) (hp:tmps.getD p undef=.pointer (some ⟨g,0,none⟩)) (hg:w.heap[g]?=some (.cells cs 42 (0,0))) (hs:cs.size=8) :
  (results fn tmps).run Tryz.prog w=.ok (.agg cs) w :=
 results_cell_row h tmps w g 42 cs (0,0) _ hp hg Tryz.underlying42 rfl (by rw [hs];exact info42)
theorem nds_one (l:List ND):∀ u ∈ nds l,u.oneCell'=true:=by
 induction l with
 | nil=>intro u hu;cases hu
 | cons d l ih =>
  intro u hu
  rw [nds,List.mem_append] at hu
  rcases hu with hu|hu
  ·simp only [ND.vals,List.mem_cons,List.not_mem_nil,or_false] at hu
   rcases hu with h|h|h|h|h|h|h|h<;>rw [h]<;>rfl
  ·exact ih u hu
theorem app_nodes {w:World} {ops:Array Oper} {rest:List Oper} {o:Oper} {a:Act} {Q:Exit→Act→World→Prop} (s x:Operand) {base B n m c:Nat} {A:Option Addr} {v:Value} {xs ys:List ND}
  (hown:w.ownsRow base 42 8 v n (nds xs)) (hr:Rds w B 8 A m (nds ys)) (hlen:n+m≤1000000000) (hbase:base≤w.heap.size) (hgd:o.guard=none)
  (ho:o.op=.call { callee:=.builtin .append,args:=#[s,x],argTypes:=#[40,40] }) (hs:a.eval s=v) (hx:a.eval x=.slice A m c)
  (h:∀ v' w',w'.ownsRow base 42 8 v' (n+m) (nds (xs ++ ys))→w.grownBy w' v.ownBlock→(v'.ownBlock=v.ownBlock∨v'.ownBlock=some w.heap.size)→wpList Tryz.prog ops Q rest (a.put o.dst v') w') :
  wpList Tryz.prog ops Q (o :: rest) a w:=by
 obtain ⟨i0,hi0,hz0,hz1,hz2⟩:=info_parts node_info
 refine wpList_append_rds w hgd s x _ ho base 42 i0 _ 8 96 Tryz.underlying40 hi0 hz0 hz1 hz2 rfl (by omega) v n _ hs hown B A m c _ hx hr (nds_one _) (by unfold maxLen;omega) (by omega) hbase ?_
 intro v' w' h1 h2 h3
 exact h v' w' (by rw [nds_append];exact h1) h2 h3
theorem own_nds_len {w:World} {base n:Nat} {e:TypeId} {v:Value} {l:List ND} (h:w.ownsRow base e 8 v n (nds l)):n=l.length:=by have:=h.1;rw [nds_length] at this;omega
/-- a node as one value -/
def ND.agg (d:ND):Value:=.agg #[.int .i64 d.kind,.slice d.sA d.sn d.sc,.slice d.kA d.kn d.kc,.int .i64 d.num,.int .i64 d.least,.int .i64 d.most,.int .i64 d.way,.bool d.fold]
def emptyT:Tr:=.mk 1 [] [] 0 0 0 0 false
def setT (s:List (Int × Int)):Tr:=.mk 2 s [] 0 0 0 0 false
/-- a node that is made: told by what it is, and where it lies -/
def NOutT (M:Nat→Bool) (t:Tr) (e:Ending) (w':World):Prop:=∃ d:ND,e=.returned d.agg∧Nd M w' t d
theorem nd_of {M:Nat→Bool} {w:World} {t:Tr} {d:ND} (ds:List ND) (h:NodeOf (mask M w) w.heap.size t d ds):Nd M w t d:=h.node
theorem nil_rds (w:World) (X size:Nat):Rds w X size none 0 []:=⟨by simp,fun h=>absurd h (by omega)⟩
set_option maxRecDepth 100000 in
theorem empty128 (M:Nat→Bool) (w:World):Calls Tryz.prog 128 #[] w fun e w'=>NOutT M emptyT e w'∧Below w.heap.size w w':=by
 obtain ⟨W,hW⟩:∃ X,X=w.alloc (.cells #[.int .i64 0,.slice none 0 0,.slice none 0 0,.int .i64 0,.int .i64 0,.int .i64 0,.int .i64 0,.bool false] 42):=⟨_,rfl⟩
 have HB:=Lib.hid (show Below w.heap.size w W by rw [hW];exact (Below.refl _ _).alloc (Nat.le_refl _) _)
 have HZ:=Lib.hid (show W.heap[w.heap.size]?=some Z42 by rw [hW];exact z42_new)
 go_enter Tryz.func128,Tryz.ntmps128
 go_upto_region 1 with (fail)
 rw [← hW]
 clear hW
 go_wp2_with ((with_reducible apply store42 (g:=w.heap.size));rfl;(with_reducible rfl);rfl;rfl;(exact HZ.out);rfl;rfl)
 (try simp only [Exit.inBlock,Exit.then])
 refine bodyPost_ret (v:=_) (results42 Tryz.results128 _ _ w.heap.size _ ?_ (row42 HZ.out) ?_) rfl ?_
 ·rfl
 ·rfl
 ·exact ⟨⟨⟨1,none,0,0,none,0,0,0,0,0,0,false⟩,rfl,nd_of [] ⟨rfl,rfl,rfl,rfl,rfl,rfl,nil_rds _ _ _,Nat.le_refl _,Nat.zero_le _,nil_rds _ _ _,Nat.le_refl _,Nat.zero_le _,KidsAt.nil⟩⟩,Below.setRow HB.out (Nat.le_refl _) _⟩
set_option maxRecDepth 100000 in
theorem points130 {M:Nat→Bool} {s:List (Int × Int)} {A:Option Addr} {n c:Nat} {w:World} (hnc:n≤c) (hc:c≤maxLen) (ha:Rds (mask M w) w.heap.size 2 A n (rngs s)) :
  Calls Tryz.prog 130 #[.slice A n c] w fun e w'=>NOutT M (setT s) e w'∧Below w.heap.size w w':=by
 obtain ⟨W,hW⟩:∃ X,X=w.alloc (.cells #[.int .i64 0,.slice none 0 0,.slice none 0 0,.int .i64 0,.int .i64 0,.int .i64 0,.int .i64 0,.bool false] 42):=⟨_,rfl⟩
 have HB:=Lib.hid (show Below w.heap.size w W by rw [hW];exact (Below.refl _ _).alloc (Nat.le_refl _) _)
 have HZ:=Lib.hid (show W.heap[w.heap.size]?=some Z42 by rw [hW];exact z42_new)
 have HA:=Lib.hid ha
 clear ha
 go_enter Tryz.func130,Tryz.ntmps130
 go_upto_region 1 with (fail)
 rw [← hW]
 clear hW
 go_wp2_with ((with_reducible apply store42 (g:=w.heap.size));rfl;(with_reducible rfl);rfl;rfl;(exact HZ.out);rfl;rfl)
 (try simp only [Exit.inBlock,Exit.then])
 refine bodyPost_ret (v:=_) (results42 Tryz.results130 _ _ w.heap.size _ ?_ (row42 HZ.out) ?_) rfl ?_
 ·rfl
 ·rfl
 ·have hb:Below w.heap.size w _:=Below.setRow HB.out (Nat.le_refl _) #[.int .i64 2,.slice A n c,.slice none 0 0,.int .i64 0,.int .i64 0,.int .i64 0,.int .i64 0,.bool false]
  exact ⟨⟨⟨2,A,n,c,none,0,0,0,0,0,0,false⟩,rfl,nd_of [] ⟨rfl,rfl,rfl,rfl,rfl,rfl,HA.out.mv (by decide) (Mvd.below hb),hnc,hc,nil_rds _ _ _,Nat.le_refl _,Nat.zero_le _,KidsAt.nil⟩⟩,hb⟩
end Go.Proofs.YtbiahhojnjchnaaGreat
