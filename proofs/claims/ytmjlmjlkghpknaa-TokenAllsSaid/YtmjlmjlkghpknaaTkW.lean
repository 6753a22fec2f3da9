/- A token read, or what is wrong with it: walked. -/
import Derived.Test.YtmjlmjlkghpknaaTkU
import Derived.Test.YtmjlmjlkghpknaaTkI
set_option linter.unusedVariables false
set_option linter.unusedSimpArgs false
namespace Go.Proofs.Ytmjlmjlkghpknaa
open Go.RowKit
theorem hz_new' {w:World} {o:Obj} {g:Nat} (h:g=w.heap.size):(w.alloc o).heap[g]?=some o:=by subst h;exact heap_alloc_new w o
theorem tcells' {w:World} {g:Nat} {v0 v1 v2 v3 v4 v5 v6 v7:Value} (h:w.heap[g]?=some (.cells #[v0,v1,v2,v3,v4,v5,v6,v7] 24 (0,0))):(∀ o,w.frozen? ⟨g,o,none⟩=false)∧w.cell? ⟨g,0,none⟩=some v0∧w.cell? ⟨g,1,none⟩=some v1∧w.cell? ⟨g,2,none⟩=some v2∧w.cell? ⟨g,3,none⟩=some v3∧w.cell? ⟨g,4,none⟩=some v4∧w.cell? ⟨g,5,none⟩=some v5∧w.cell? ⟨g,6,none⟩=some v6∧w.cell? ⟨g,7,none⟩=some v7:=by
 refine ⟨fun o=>by unfold World.frozen?;rw [h];rfl,?_,?_,?_,?_,?_,?_,?_,?_⟩<;>(rw [cell_of_row w g _ _ 24 (0,0) h];rfl)
theorem hz_drew {w:World} {g:Nat} {x:Option Obj} (h:w.heap[g]?=x):w.drew.heap[g]?=x:=h
theorem row_set8 {w:World} {g:Nat} {v0 v1 v2 v3 v4 v5 v6 v7:Value} (h:w.heap[g]?=some (.cells #[v0,v1,v2,v3,v4,v5,v6,v7] 24 (0,0))):((((((((w.setCell ⟨g,0,none⟩ v0).setCell ⟨g,1,none⟩ v1).setCell ⟨g,2,none⟩ v2).setCell ⟨g,3,none⟩ v3).setCell ⟨g,4,none⟩ v4).setCell ⟨g,5,none⟩ v5).setCell ⟨g,6,none⟩ v6).setCell ⟨g,7,none⟩ v7).heap[g]?=some (.cells #[v0,v1,v2,v3,v4,v5,v6,v7] 24 (0,0)) :=
 by
 have s0:∀ (w:World) (i:Nat) (v:Value) (cs:Array Value),w.heap[g]?=some (.cells cs 24 (0,0))→cs.setIfInBounds i v=cs→(w.setCell ⟨g,i,none⟩ v).heap[g]?=some (.cells cs 24 (0,0)):=fun w i v cs h e=>by have:=row_set' (i:=i) (v:=v) h;rwa [e] at this
 exact s0 _ 7 _ _ (s0 _ 6 _ _ (s0 _ 5 _ _ (s0 _ 4 _ _ (s0 _ 3 _ _ (s0 _ 2 _ _ (s0 _ 1 _ _ (s0 _ 0 _ _ h (by simp)) (by simp)) (by simp)) (by simp)) (by simp)) (by simp)) (by simp)) (by simp)
theorem hz_set8 {w:World} {g k:Nat} {x:Obj} {v0 v1 v2 v3 v4 v5 v6 v7:Value} (h:w.heap[k]?=some x) (hn:k≠g):((((((((w.setCell ⟨g,0,none⟩ v0).setCell ⟨g,1,none⟩ v1).setCell ⟨g,2,none⟩ v2).setCell ⟨g,3,none⟩ v3).setCell ⟨g,4,none⟩ v4).setCell ⟨g,5,none⟩ v5).setCell ⟨g,6,none⟩ v6).setCell ⟨g,7,none⟩ v7).heap[k]?=some x :=
 hz_set (hz_set (hz_set (hz_set (hz_set (hz_set (hz_set (hz_set h hn) hn) hn) hn) hn) hn) hn) hn
theorem raw_end {W2 w0:World} {g:Nat} (t:Tk) (nx:Int) (h1:W2.heap[g]?=some (.cells #[.int .i64 t.kind,.int .i64 t.num,.string ⟨t.text.toArray⟩,.bool t.not_,.int .i64 t.least,.int .i64 t.most,.int .i64 t.way,.int .i64 t.fold] 24 (0,0))) (h2:W2.heap[g+1]?=some (.cells #[.int .i64 0] 3 (0,0))) (h3:W2.heap[g+1+1]?=some (.cells #[.int .i64 0] 25 (0,0))) (hb:Below g w0 W2) (V:World) (hV:V=((((((((((W2.setCell ⟨g,0,none⟩ (.int .i64 t.kind)).setCell ⟨g,1,none⟩ (.int .i64 t.num)).setCell ⟨g,2,none⟩ (.string ⟨t.text.toArray⟩)).setCell ⟨g,3,none⟩ (.bool t.not_)).setCell ⟨g,4,none⟩ (.int .i64 t.least)).setCell ⟨g,5,none⟩ (.int .i64 t.most)).setCell ⟨g,6,none⟩ (.int .i64 t.way)).setCell ⟨g,7,none⟩ (.int .i64 t.fold)).setCell ⟨g+1,0,none⟩ (.int .i64 nx)).setCell ⟨g+1+1,0,none⟩ (.int .i64 0)).drew) :
  V.heap[g]?=some (.cells #[.int .i64 t.kind,.int .i64 t.num,.string ⟨t.text.toArray⟩,.bool t.not_,.int .i64 t.least,.int .i64 t.most,.int .i64 t.way,.int .i64 t.fold] 24 (0,0))∧V.heap[g+1]?=some (.cells #[.int .i64 nx] 3 (0,0))∧V.heap[g+1+1]?=some (.cells #[.int .i64 0] 25 (0,0))∧Below g w0 V:=by
 subst hV
 refine ⟨hz_drew ?_,hz_drew ?_,hz_drew ?_,Below.drew ?_⟩
 ·exact hz_set (hz_set (row_set8 h1) (by simp)) (by simp;omega)
 ·exact hz_set (row_set' (hz_set8 h2 (by omega))) (by simp)
 ·exact row_set' (hz_set (hz_set8 h3 (by omega)) (by simp))
 ·repeat (refine Below.setCell ?_ (by simp<;>omega) _)
  exact hb
def ROut:TR→Ending→Prop
 | .ok p,e=>e=.returned (.tuple #[p.1.agg,.int .i64 p.2,.int .i64 0])
 | .error x,e=>e=.returned (.tuple #[({}:Tk).agg,.int .i64 0,.int .i64 x])
set_option maxHeartbeats 4000000 in
set_option maxRecDepth 100000 in
theorem raw15 (hT:∀ (b n c:Nat) (d at_:Int) (A:Option Addr) (l:List Int) (w:World),(∀ q:Int,ptAt l q≤1114111)→at_ < n→St b n c d A l at_ w→Calls Try.prog 27 #[.pointer (some ⟨b,0,none⟩)] w fun e w'=>TOut b n c d A l (tokenP d l at_) e w'∧Kept b w w')
  (d at_:Int) (l:List Int) (A:Option Addr) (n c:Nat) (w:World) (hpa:∀ q:Int,ptAt l q≤1114111) (h0:0≤at_) (h1:at_ < n) (hn:n≤1000) (hc:n≤c) (ha:Rds w w.heap.size 1 A n (ints l)) :
  Calls Try.prog 15 #[.int .i64 d,.slice A n c,.int .i64 at_] w fun e w'=>ROut (tokenP d l at_) e∧Below w.heap.size w w':=by
 have hmf:∀ (fn:Fn) (first cap:Array Value) (w:World),(Instr.makeFunc fn first cap).run Try.prog w=.ok (.func fn first cap) w:=fun _ _ _ _=>rfl
 obtain ⟨W,hW⟩:∃ W,W=(((w.alloc (.cells #[.int .i64 0,.int .i64 0,.string ⟨#[]⟩,.bool false,.int .i64 0,.int .i64 0,.int .i64 0,.int .i64 0] 24)).alloc (.cells #[.int .i64 0] 3)).alloc (.cells #[.int .i64 0] 25)).alloc (.cells #[.int .i64 d,.slice A n c,.int .i64 at_] 54):=⟨_,rfl⟩
 have hB:Below w.heap.size w W:=by rw [hW];go_grown
 have hs:W.heap.size=w.heap.size+4:=by rw [hW];simp
 have C:=Lib.hid (hT (w.heap.size+1+1+1) n c d at_ A l W hpa h1 ⟨by rw [hW];unfold RdAt;have:=heap_alloc_new (((w.alloc (.cells #[.int .i64 0,.int .i64 0,.string ⟨#[]⟩,.bool false,.int .i64 0,.int .i64 0,.int .i64 0,.int .i64 0] 24)).alloc (.cells #[.int .i64 0] 3)).alloc (.cells #[.int .i64 0] 25)) (.cells #[.int .i64 d,.slice A n c,.int .i64 at_] 54);simpa using this,(ha.below hB (Nat.le_refl _)).more (by omega),h0,by omega,by omega,hn,hc⟩)
 clear hpa ha
 cases hr:tokenP d l at_ with
 | error x =>
  rw [hr] at C
  clear hr
  go_enter_defers Try.func15,Try.ntmps15
  go_wp2_with fail
  rw [← hW]
  refine C.out.mono ?_
  rintro e w1 ⟨he,hk⟩
  obtain rfl:=(show e=.panicked (wrongV x) from he)
  have z1:w1.heap[w.heap.size]?=some Z24:=(hk.block _ (by omega) (by omega)).trans (by rw [hW];exact hz_alloc (hz_alloc (hz_alloc hz_new)))
  have z2:w1.heap[w.heap.size+1]?=some (.cells #[.int .i64 0] 3 (0,0)):=(hk.block _ (by omega) (by omega)).trans (by rw [hW];exact hz_alloc (hz_alloc (hz_new' (by simp))))
  have z3:w1.heap[w.heap.size+1+1]?=some (.cells #[.int .i64 0] 25 (0,0)):=(hk.block _ (by omega) (by omega)).trans (by rw [hW];exact hz_alloc (hz_new' (by simp)))
  have hks:=hk.size
  have HB1:Hid (Below w.heap.size w w1):=Lib.hid ⟨hk.os.trans hB.os,hk.tape.trans hB.tape,hk.output.trans hB.output,by omega,fun k h=>(hk.block k (by omega) (by omega)).trans (hB.block k h)⟩
  clear he hk C hW hB
  have C26:=Lib.hid (catch26 w.heap.size (w.heap.size+1) (w.heap.size+1+1) x [] w1 z1 z2 z3 (by omega) (by omega) (by omega))
  clear z1 z2 z3
  go_wp2_with fail
  refine leaves_cons (f:=26) (args:=#[.pointer (some ⟨w.heap.size,0,none⟩),.pointer (some ⟨w.heap.size+1,0,none⟩),.pointer (some ⟨w.heap.size+1+1,0,none⟩)]) (by simp) (by simp [go_sem]) ?_
  refine C26.out.mono ?_
  rintro e u' w2 ⟨rfl,rfl,t1,t2,t3,hB⟩
  have HB2:=Lib.hid (HB1.out.trans (hB w.heap.size (Nat.le_refl _) (by omega) (by omega) (by omega)))
  obtain ⟨zf,za,zb,zc,zd,ze,zg,zh,zi⟩:=z24 t1
  have q0:w2.cell? ⟨w.heap.size+1,0,none⟩=some (.int .i64 0):=by rw [cell_of_row _ _ _ _ 3 (0,0) t2];rfl
  have r0:w2.cell? ⟨w.heap.size+1+1,0,none⟩=some (.int .i64 x):=by rw [cell_of_row _ _ _ _ 25 (0,0) t3];rfl
  clear t1 t2 t3 hB C26 hT
  simp [Leaves,settle,results,Try.results15,go_sem,za,zb,zc,zd,ze,zg,zh,zi,q0,r0]
  exact ⟨rfl,HB2.out⟩
 | ok p =>
  obtain ⟨t,nx⟩:=p
  have C2:=Lib.hid (tout_ok C.out hr)
  clear hr
  go_enter_defers Try.func15,Try.ntmps15
  go_wp2_with fail
  rw [← hW]
  refine C2.out.mono ?_
  rintro e w1 ⟨rfl,h1,hk⟩
  have z1:w1.heap[w.heap.size]?=some Z24:=(hk.block _ (by omega) (by omega)).trans (by rw [hW];exact hz_alloc (hz_alloc (hz_alloc hz_new)))
  have z2:w1.heap[w.heap.size+1]?=some (.cells #[.int .i64 0] 3 (0,0)):=(hk.block _ (by omega) (by omega)).trans (by rw [hW];exact hz_alloc (hz_alloc (hz_new' (by simp))))
  have z3:w1.heap[w.heap.size+1+1]?=some (.cells #[.int .i64 0] 25 (0,0)):=(hk.block _ (by omega) (by omega)).trans (by rw [hW];exact hz_alloc (hz_new' (by simp)))
  have hks:=hk.size
  have HB1:Hid (Below w.heap.size w w1):=Lib.hid ⟨hk.os.trans hB.os,hk.tape.trans hB.tape,hk.output.trans hB.output,by omega,fun k h=>(hk.block k (by omega) (by omega)).trans (hB.block k h)⟩
  have HZ1:=Lib.hid z1
  have Hr1:=Lib.hid h1.rd
  have HZ2:=Lib.hid z2
  have HZ3:=Lib.hid z3
  clear hk C C2 hW hB hT z1 z2 z3 h1
  go_upto_region 4 with (first|((with_reducible apply store24 (g:=w.heap.size));rfl;(with_reducible rfl);rfl;rfl;(repeat' (first|(with_reducible first|exact HZ1.out|exact hz_new|refine hz_set ?_ ?_|refine hz_row ?_ ?_|refine hz_alloc ?_)|(with_reducible change (_:Nat)≠_;(try simp)<;>omega)));rfl;rfl))
  have T1:(w1.setRow w.heap.size #[.int .i64 t.kind,.int .i64 t.num,.string ⟨t.text.toArray⟩,.bool t.not_,.int .i64 t.least,.int .i64 t.most,.int .i64 t.way,.int .i64 t.fold]).heap[w.heap.size]?=some (.cells #[.int .i64 t.kind,.int .i64 t.num,.string ⟨t.text.toArray⟩,.bool t.not_,.int .i64 t.least,.int .i64 t.most,.int .i64 t.way,.int .i64 t.fold] 24 (0,0)):=row24 HZ1.out
  have T2:=hz_row (k:=w.heap.size) (cs:=#[.int .i64 t.kind,.int .i64 t.num,.string ⟨t.text.toArray⟩,.bool t.not_,.int .i64 t.least,.int .i64 t.most,.int .i64 t.way,.int .i64 t.fold]) HZ2.out (by omega)
  have T3:=hz_row (k:=w.heap.size) (cs:=#[.int .i64 t.kind,.int .i64 t.num,.string ⟨t.text.toArray⟩,.bool t.not_,.int .i64 t.least,.int .i64 t.most,.int .i64 t.way,.int .i64 t.fold]) HZ3.out (by omega)
  have T4:=hz_row (k:=w.heap.size) (cs:=#[.int .i64 t.kind,.int .i64 t.num,.string ⟨t.text.toArray⟩,.bool t.not_,.int .i64 t.least,.int .i64 t.most,.int .i64 t.way,.int .i64 t.fold]) (show w1.heap[w.heap.size+1+1+1]?=some (.cells #[.int .i64 d,.slice A n c,.int .i64 nx] 54 (0,0)) from Hr1.out) (by omega)
  have HB2:=Lib.hid (Below.setRow HB1.out (Nat.le_refl _) #[.int .i64 t.kind,.int .i64 t.num,.string ⟨t.text.toArray⟩,.bool t.not_,.int .i64 t.least,.int .i64 t.most,.int .i64 t.way,.int .i64 t.fold])
  obtain ⟨W2,hW2⟩:∃ W2,W2=w1.setRow w.heap.size #[.int .i64 t.kind,.int .i64 t.num,.string ⟨t.text.toArray⟩,.bool t.not_,.int .i64 t.least,.int .i64 t.most,.int .i64 t.way,.int .i64 t.fold]:=⟨_,rfl⟩
  rw [← hW2] at T1 T2 T3 T4 HB2 ⊢
  clear hW2 HB1 HZ1 Hr1 HZ2 HZ3 hks
  obtain ⟨zf,za,zb,zc,zd,ze,zg,zh,zi⟩:=tcells' T1
  have q0:W2.cell? ⟨w.heap.size+1,0,none⟩=some (.int .i64 0):=by rw [cell_of_row _ _ _ _ 3 (0,0) T2];rfl
  have r0:W2.cell? ⟨w.heap.size+1+1,0,none⟩=some (.int .i64 0):=by rw [cell_of_row _ _ _ _ 25 (0,0) T3];rfl
  have b2:W2.cell? ⟨w.heap.size+1+1+1,2,none⟩=some (.int .i64 nx):=by rw [cell_of_row _ _ _ _ 54 (0,0) T4];rfl
  have qf:W2.frozen? ⟨w.heap.size+1,0,none⟩=false:=by unfold World.frozen?;rw [T2];rfl
  have rf:W2.frozen? ⟨w.heap.size+1+1,0,none⟩=false:=by unfold World.frozen?;rw [T3];rfl
  have HT1:=Lib.hid T1
  have HT2:=Lib.hid T2
  have HT3:=Lib.hid T3
  clear T1 T2 T3 T4
  have HQ0:=Lib.hid q0
  refine wp_region_noPanic ?_
  go_region
  all_goals (refine NoPanic.normal ?_)
  all_goals go_wp2_with fail
  all_goals
   obtain ⟨V,hV⟩:∃ V,V=((((((((((W2.setCell ⟨w.heap.size,0,none⟩ (.int .i64 t.kind)).setCell ⟨w.heap.size,1,none⟩ (.int .i64 t.num)).setCell ⟨w.heap.size,2,none⟩ (.string ⟨t.text.toArray⟩)).setCell ⟨w.heap.size,3,none⟩ (.bool t.not_)).setCell ⟨w.heap.size,4,none⟩ (.int .i64 t.least)).setCell ⟨w.heap.size,5,none⟩ (.int .i64 t.most)).setCell ⟨w.heap.size,6,none⟩ (.int .i64 t.way)).setCell ⟨w.heap.size,7,none⟩ (.int .i64 t.fold)).setCell ⟨w.heap.size+1,0,none⟩ (.int .i64 nx)).setCell ⟨w.heap.size+1+1,0,none⟩ (.int .i64 0)).drew:=⟨_,rfl⟩
   have E:=Lib.hid (raw_end (g:=w.heap.size) t nx HT1.out HT2.out HT3.out HB2.out V hV)
   rw [← hV]
   clear hV HT1 HT2 HT3 HB2 HQ0 zf za zb zc zd ze zg zh zi q0 r0 b2 qf rf
   refine leaves_cons (f:=26) (args:=#[.pointer (some ⟨w.heap.size,0,none⟩),.pointer (some ⟨w.heap.size+1,0,none⟩),.pointer (some ⟨w.heap.size+1+1,0,none⟩)]) (by simp) (by simp [go_sem]) ?_
   refine (idle26 _ _ _ _).mono ?_
   rintro e u' w3 ⟨rfl,rfl,hb⟩
   have S1:=(hb.block _ (lt_heap E.out.1)).trans E.out.1
   have S2:=(hb.block _ (lt_heap E.out.2.1)).trans E.out.2.1
   have S3:=(hb.block _ (lt_heap E.out.2.2.1)).trans E.out.2.2.1
   have HB3:=Lib.hid (E.out.2.2.2.trans (hb.mono (E.out.2.2.2.size)))
   obtain ⟨zf,za,zb,zc,zd,ze,zg,zh,zi⟩:=tcells' S1
   have q0:w3.cell? ⟨w.heap.size+1,0,none⟩=some (.int .i64 nx):=by rw [cell_of_row _ _ _ _ 3 (0,0) S2];rfl
   have r0:w3.cell? ⟨w.heap.size+1+1,0,none⟩=some (.int .i64 0):=by rw [cell_of_row _ _ _ _ 25 (0,0) S3];rfl
   clear S1 S2 S3 hb E
   simp [Leaves,settle,results,Try.results15,go_sem,za,zb,zc,zd,ze,zg,zh,zi,q0,r0]
   exact ⟨rfl,HB3.out⟩
end Go.Proofs.Ytmjlmjlkghpknaa
