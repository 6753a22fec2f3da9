/-
  A parser's nodes: stored, made, appended; a node of a set, an empty one: walked. A row of nodes, made one: walked.
-/
import Derived.Test.YtbiahhojnjchnaaGreatPnB
set_option linter.unusedVariables false
set_option linter.unusedSimpArgs false
namespace Go.Proofs.YtbiahhojnjchnaaGreat
open Go.RowKit
theorem node_info:(Tryz.prog.info? 42).map (fun i=>(i.zero,i.size,i.bytes))=some (some (.agg #[.int .i64 0,.slice none 0 0,.slice none 0 0,.int .i64 0,.int .i64 0,.int .i64 0,.int .i64 0,.bool false]),8,96):=by kernel_rfl
theorem info42:(Tryz.prog.info? 42).map (·.size)=some 8:=by kernel_rfl
def Z42:Obj:=.cells #[.int .i64 0,.slice none 0 0,.slice none 0 0,.int .i64 0,.int .i64 0,.int .i64 0,.int .i64 0,.bool false] 42
theorem z42_new {w:World}:(w.alloc (.cells #[.int .i64 0,.slice none 0 0,.slice none 0 0,.int .i64 0,.int .i64 0,.int .i64 0,.int .i64 0,.bool false] 42)).heap[w.heap.size]?=some Z42:=heap_alloc_new w _
theorem store42 {ops:Array Oper} {rest:List Oper} {o:Oper} {a:Act} {w:World} {Q:Exit→Act→World→Prop} {x y:Operand} {g:Nat} {cells:Array Value} (hgd:o.guard=none) (ho:o.op=.store 42 x y)
  (hx:a.eval x=.pointer (some ⟨g,0,none⟩)) (hy:a.eval y=.agg cells) (hz:w.heap[g]?=some Z42) (hs:cells.size=8) (h1:cells.toList.all (·.oneCell')=true)
  (h:wpList Tryz.prog ops Q rest (a.put o.dst undef) (w.setRow g cells)):wpList Tryz.prog ops Q (o :: rest) a w :=
 wpList_store_row hgd 42 x y ho g cells hx hy 42 _ hz (by rw [hs];exact info42) (by rw [hs];rfl) (by rw [← Array.all_toList];exact h1) h
theorem row42 {w:World} {g:Nat} {cs:Array Value} (hz:w.heap[g]?=some Z42):(w.setRow g cs).heap[g]?=some (.cells cs 42 (0,0)):=setRow_heap w g _ cs 42 _ hz
theorem results42 {fn:Func} {p:Tmp} (h:fn.results=#[.cell p 42]) (tmps:Array Value) (w:World) (g:Nat) (cs:Array Value) (hp:tmps.getD p undef=.pointer (some ⟨g,0,none⟩)) (hg:w.heap[g]?=some (.cells cs 42 (0,0))) (hs:cs.size=8) :
  (results fn tmps).run Tryz.prog w=.ok (.agg cs) w :=
 results_cell_row h tmps w g 42 cs (0,0) _ hp hg Tryz.underlying42 rfl (by rw [hs];exact info42)
theorem nds_one (l:List ND):∀ u ∈ nds l,u.oneCell'=true:=by
 induction l with
 | nil=>intro u hu;cases hu
 | cons d l ih =>
  intro u hu
  rw [nds,List.mem_append] at hu
  rcases hu with hu|hu
  ·simp only [ND.vals,List.mem_cons,List.not_mem_nil,or_false] at hu
   rcases hu with h|h|h|h|h|h|h|h<;>rw [h]<;>rfl
  ·exact ih u hu
theorem app_nodes {w:World} {ops:Array Oper} {rest:List Oper} {o:Oper} {a:Act} {Q:Exit→Act→World→Prop} (s x:Operand) {base B n m c:Nat} {A:Option Addr} {v:Value} {xs ys:List ND}
  (hown:w.ownsRow base 42 8 v n (nds xs)) (hr:Rds w B 8 A m (nds ys)) (hlen:n+m≤1000000000) (hbase:base≤w.heap.size) (hgd:o.guard=none)
  (ho:o.op=.call { callee:=.builtin .append,args:=#[s,x],argTypes:=#[40,40] }) (hs:a.eval s=v) (hx:a.eval x=.slice A m c)
  (h:∀ v' w',w'.ownsRow base 42 8 v' (n+m) (nds (xs ++ ys))→w.grownBy w' v.ownBlock→(v'.ownBlock=v.ownBlock∨v'.ownBlock=some w.heap.size)→wpList Tryz.prog ops Q rest (a.put o.dst v') w') :
  wpList Tryz.prog ops Q (o :: rest) a w:=by
 obtain ⟨i0,hi0,hz0,hz1,hz2⟩:=info_parts node_info
 refine wpList_append_rds w hgd s x _ ho base 42 i0 _ 8 96 Tryz.underlying40 hi0 hz0 hz1 hz2 rfl (by omega) v n _ hs hown B A m c _ hx hr (nds_one _) (by unfold maxLen;omega) (by omega) hbase ?_
 intro v' w' h1 h2 h3
 exact h v' w' (by rw [nds_append];exact h1) h2 h3
theorem own_nds_len {w:World} {base n:Nat} {e:TypeId} {v:Value} {l:List ND} (h:w.ownsRow base e 8 v n (nds l)):n=l.length:=by have:=h.1;rw [nds_length] at this;omega
/-- a node as one value -/
def ND.agg (d:ND):Value:=.agg #[.int .i64 d.kind,.slice d.sA d.sn d.sc,.slice d.kA d.kn d.kc,.int .i64 d.num,.int .i64 d.least,.int .i64 d.most,.int .i64 d.way,.bool d.fold]
def emptyT:Tr:=.mk 1 [] [] 0 0 0 0 false
def setT (s:List (Int × Int)):Tr:=.mk 2 s [] 0 0 0 0 false
/-- a node that is made: told by what it is, and where it lies -/
def NOutT (M:Nat→Bool) (t:Tr) (e:Ending) (w':World):Prop:=∃ d:ND,e=.returned d.agg∧Nd M w' t d
theorem nd_of {M:Nat→Bool} {w:World} {t:Tr} {d:ND} (ds:List ND) (h:NodeOf (mask M w) w.heap.size t d ds):Nd M w t d:=h.node
theorem nil_rds (w:World) (X size:Nat):Rds w X size none 0 []:=⟨by simp,fun h=>absurd h (by omega)⟩
set_option maxRecDepth 100000 in
theorem empty128 (M:Nat→Bool) (w:World):Calls Tryz.prog 128 #[] w fun e w'=>NOutT M emptyT e w'∧Below w.heap.size w w':=by
 obtain ⟨W,hW⟩:∃ X,X=w.alloc (.cells #[.int .i64 0,.slice none 0 0,.slice none 0 0,.int .i64 0,.int .i64 0,.int .i64 0,.int .i64 0,.bool false] 42):=⟨_,rfl⟩
 have HB:=Lib.hid (show Below w.heap.size w W by rw [hW];exact (Below.refl _ _).alloc (Nat.le_refl _) _)
 have HZ:=Lib.hid (show W.heap[w.heap.size]?=some Z42 by rw [hW];exact z42_new)
 go_enter Tryz.func128,Tryz.ntmps128
 go_upto_region 1 with (fail)
 rw [← hW]
 clear hW
 go_wp2_with ((with_reducible apply store42 (g:=w.heap.size));rfl;(with_reducible rfl);rfl;rfl;(exact HZ.out);rfl;rfl)
 (try simp only [Exit.inBlock,Exit.then])
 refine bodyPost_ret (v:=_) (results42 Tryz.results128 _ _ w.heap.size _ ?_ (row42 HZ.out) ?_) rfl ?_
 ·rfl
 ·rfl
 ·exact ⟨⟨⟨1,none,0,0,none,0,0,0,0,0,0,false⟩,rfl,nd_of [] ⟨rfl,rfl,rfl,rfl,rfl,rfl,nil_rds _ _ _,Nat.le_refl _,Nat.zero_le _,nil_rds _ _ _,Nat.le_refl _,Nat.zero_le _,KidsAt.nil⟩⟩,Below.setRow HB.out (Nat.le_refl _) _⟩
set_option maxRecDepth 100000 in
theorem points130 {M:Nat→Bool} {s:List (Int × Int)} {A:Option Addr} {n c:Nat} {w:World} (hnc:n≤c) (hc:c≤maxLen) (ha:Rds (mask M w) w.heap.size 2 A n (rngs s)) :
  Calls Tryz.prog 130 #[.slice A n c] w fun e w'=>NOutT M (setT s) e w'∧Below w.heap.size w w':=by
 obtain ⟨W,hW⟩:∃ X,X=w.alloc (.cells #[.int .i64 0,.slice none 0 0,.slice none 0 0,.int .i64 0,.int .i64 0,.int .i64 0,.int .i64 0,.bool false] 42):=⟨_,rfl⟩
 have HB:=Lib.hid (show Below w.heap.size w W by rw [hW];exact (Below.refl _ _).alloc (Nat.le_refl _) _)
 have HZ:=Lib.hid (show W.heap[w.heap.size]?=some Z42 by rw [hW];exact z42_new)
 have HA:=Lib.hid ha
 clear ha
 go_enter Tryz.func130,Tryz.ntmps130
 go_upto_region 1 with (fail)
 rw [← hW]
 clear hW
 go_wp2_with ((with_reducible apply store42 (g:=w.heap.size));rfl;(with_reducible rfl);rfl;rfl;(exact HZ.out);rfl;rfl)
 (try simp only [Exit.inBlock,Exit.then])
 refine bodyPost_ret (v:=_) (results42 Tryz.results130 _ _ w.heap.size _ ?_ (row42 HZ.out) ?_) rfl ?_
 ·rfl
 ·rfl
 ·have hb:Below w.heap.size w _:=Below.setRow HB.out (Nat.le_refl _) #[.int .i64 2,.slice A n c,.slice none 0 0,.int .i64 0,.int .i64 0,.int .i64 0,.int .i64 0,.bool false]
  exact ⟨⟨⟨2,A,n,c,none,0,0,0,0,0,0,false⟩,rfl,nd_of [] ⟨rfl,rfl,rfl,rfl,rfl,rfl,HA.out.mv (by decide) (Mvd.below hb),hnc,hc,nil_rds _ _ _,Nat.le_refl _,Nat.zero_le _,KidsAt.nil⟩⟩,hb⟩
end Go.Proofs.YtbiahhojnjchnaaGreat
namespace Go.Proofs.YtbiahhojnjchnaaGreat
open Go.RowKit
def flatRow (t:Tr):List Tr:=if t.kind=1 then [] else if t.kind=9 then t.kids else [t]
def flatEi (t:Tr):List Tr:=if t.kind=10 then t.kids else [t]
def rowOf:List Tr→Tr
 | []=>emptyT
 | [t]=>t
 | us=>.mk 9 [] us 0 0 0 0 false
def rowT (ts:List Tr):Tr:=rowOf (ts.flatMap flatRow)
def eiT (ts:List Tr):Tr:=match ts with
 | [t]=>t
 | us=>.mk 10 [] (us.flatMap flatEi) 0 0 0 0 false
theorem flat_snoc (f:Tr→List Tr) (ts:List Tr) (k:Nat) (h:k < ts.length):(ts.take (k+1)).flatMap f=(ts.take k).flatMap f ++ f ts[k]:=by
 rw [List.take_succ_eq_append_getElem h,List.flatMap_append];simp
theorem flat_le (f:Tr→List Tr) (ts:List Tr) (k:Nat):((ts.take k).flatMap f).length≤(ts.flatMap f).length:=by
 conv=>rhs;rw [← List.take_append_drop k ts,List.flatMap_append,List.length_append]
 omega
/-- a kid's own kids, to append -/
theorem Kds.at {M:Nat→Bool} {w:World} {ts:List Tr} {ds:List ND} (h:Kds M w ts ds) (k:Nat) (h1:k < ts.length) (h2:k < ds.length):Nd M w ts[k] ds[k]:=KidsAt.at h k h1 h2
theorem kept_setRow (b:Nat) (w:World) (cs:Array Value):Kept b w (w.setRow b cs):=by
 have h:=Below.setRow (Below.refl b w) (Nat.le_refl b) cs
 exact ⟨h.os,h.tape,h.output,h.size,fun k _ hk=>setRow_ne w b cs k hk⟩
theorem Mvd.any {M':Nat→Bool} {B:Nat} {w w':World} (h:Below B w w'):Mvd (fun _=>true) M' w w':=⟨h.os,h.tape,h.output,h.size,fun _ _ h=>(by cases h),fun _ _ _=>rfl⟩
theorem Kds.len {M:Nat→Bool} {w:World} {ts:List Tr} {ds:List ND} (h:Kds M w ts ds):ts.length=ds.length:=KidsAt.len h
theorem Nd.of {M:Nat→Bool} {w:World} {t:Tr} {d:ND} (h:Nd M w t d):∃ ds,NodeOf (mask M w) w.heap.size t d ds:=NodeAt.of h
theorem nodes_at {w:World} {B n:Nat} {A:Option Addr} {l:List ND} (h:Rds w B 8 A n (nds l)):l.length=n:=by have:=h.1;rw [nds_length] at this;omega
set_option maxRecDepth 100000 in
set_option maxHeartbeats 8000000 in
theorem row111 {M:Nat→Bool} {ts:List Tr} {ds:List ND} {A:Option Addr} {n c:Nat} {w:World} (hM:∀ k,M k=true→k < w.heap.size) (hk:Kds M w ts ds) (hr:Rds w w.heap.size 8 A n (nds ds)) (hn:n≤500000) (hz:(ts.flatMap flatRow).length≤500000) :
  Calls Tryz.prog 111 #[.slice A n c] w fun e w'=>NOutT M (rowT ts) e w'∧Below w.heap.size w w':=by
 obtain ⟨W,hW⟩:∃ X,X=w.alloc (.cells #[.int .i64 0,.slice none 0 0,.slice none 0 0,.int .i64 0,.int .i64 0,.int .i64 0,.int .i64 0,.bool false] 42):=⟨_,rfl⟩
 have HB:=Lib.hid (show Below w.heap.size w W by rw [hW];exact (Below.refl _ _).alloc (Nat.le_refl _) _)
 have HZ:=Lib.hid (show W.heap[w.heap.size]?=some Z42 by rw [hW];exact z42_new)
 have HK:=Lib.hid hk
 have HR:=Lib.hid hr
 have HM:=Lib.hid hM
 have HLN:=Lib.hid (show ts.length=n by rw [hk.len];exact nodes_at hr)
 have HZZ:=Lib.hid hz
 clear hk hr hM hz
 go_enter Tryz.func111,Tryz.ntmps111
 go_upto_region 1 with (fail)
 rw [← hW]
 clear hW
 have hWs:=lt_heap HZ.out
 go_wp2_with fail
 go_loopw [8,3] (fun i v wr=>∃ (k:Nat) (os:List ND),k≤n∧i=.int .i64 k∧Hid (wr.ownsRow W.heap.size 42 8 v os.length (nds os))∧Hid (Kds M w ((ts.take k).flatMap flatRow) os)∧Hid (Below W.heap.size W wr)) (fun i _ _=>n - (intOf i).toNat)
 case atStart=>exact ⟨0,[],Nat.zero_le _,rfl,Lib.hid (World.ownsRow_nil _ _ _ _),Lib.hid (Kds.nil _ _),Lib.hid (Below.refl _ _)⟩
 case round =>
  obtain ⟨k,os,hkn,rfl,HO,HKS,HBR⟩:=hrel
  have hsz:=HBR.out.size
  by_cases hlt:k < n
  ·have hb0:Below w.heap.size w wr:=HB.out.trans (HBR.out.mono HB.out.size)
   obtain ⟨b2,o2,hl,hA,hb2,q0,q1,q2,q3,q4,q5,q6,q7⟩:=(HR.out.below hb0 (Nat.le_refl _)).node_at hlt
   have hlk:k < ts.length:=by have:=HLN.out;omega
   obtain ⟨d,hd⟩:∃ d,d=ds[k]:=⟨_,rfl⟩
   obtain ⟨t,ht⟩:∃ t,t=ts[k]:=⟨_,rfl⟩
   have HND:=Lib.hid (show Nd M w t d by rw [hd,ht];exact HK.out.at k hlk hl)
   have HSN:=Lib.hid (flat_snoc flatRow ts k hlk)
   have HLE:=Lib.hid (flat_le flatRow ts (k+1))
   rw [← ht] at HSN
   rw [← hd] at q0 q1 q2 q3 q4 q5 q6 q7
   subst hA
   have HB0:=Lib.hid hb0
   clear hd ht hb0
   have i1:(k:Int) < (n:Int):=by omega
   have W1:IntKind.i64.wrap ((k:Int)+1)=(k:Int)+1:=IntWalk.i64_in _ (by omega)
   go_upto_region 5 with (fail)
   obtain ⟨X,hX⟩:∃ X,X=wr.alloc (.cells #[.int .i64 d.kind,.slice d.sA d.sn d.sc,.slice d.kA d.kn d.kc,.int .i64 d.num,.int .i64 d.least,.int .i64 d.most,.int .i64 d.way,.bool d.fold] 42):=⟨_,rfl⟩
   have hXZ:X.heap[wr.heap.size]?=some (.cells #[.int .i64 d.kind,.slice d.sA d.sn d.sc,.slice d.kA d.kn d.kc,.int .i64 d.num,.int .i64 d.least,.int .i64 d.most,.int .i64 d.way,.bool d.fold] 42 (0,0)):=by rw [hX];exact heap_alloc_new wr _
   have HBX:=Lib.hid (show Below wr.heap.size wr X by rw [hX];exact (Below.refl _ _).alloc (Nat.le_refl _) _)
   rw [← hX]
   clear hX q0 q1 q2 q3 q4 q5 q6 q7
   obtain ⟨q0,q1,q2,q3,q4,q5,q6,q7⟩:=cells8 hXZ
   have HOX:=Lib.hid (own_below HO.out HBX.out (Nat.le_refl _))
   have HWX:=Lib.hid (HBR.out.trans (HBX.out.mono hsz))
   have hsX:=HWX.out.size
   clear hXZ HO HBX
   obtain ⟨es,HN0⟩:=HND.out.of
   have HN:=Lib.hid HN0
   have HKD:=Lib.hid (HN0.kind)
   have HEK:=Lib.hid (HN0.kids.bare)
   have hkn2:=HN0.knum
   clear HN0
   by_cases h1:d.kind=1
   ·have HF:=Lib.hid (show flatRow t=[] by unfold flatRow;rw [if_pos (HKD.out.symm.trans h1)])
    have e1:(d.kind == 1)=true:=by simpa using h1
    clear h1
    go_wp2_with fail
    go_roundw
    case rel=>exact ⟨k+1,os,by omega,by first|rfl|go_num|(congr 1;omega),HOX,Lib.hid (by rw [HSN.out,HF.out,List.append_nil];exact HKS.out),HWX⟩
    case measure=>simp [intOf];omega
   ·have e1:(d.kind == 1)=false:=by simpa using h1
    have HN1:=Lib.hid h1
    clear h1
    by_cases h9:d.kind=9
    ·have HF:=Lib.hid (show flatRow t=t.kids by unfold flatRow;rw [if_neg (fun x=>HN1.out (HKD.out.trans x)),if_pos (HKD.out.symm.trans h9)])
     have e2:(d.kind == 9)=true:=by simpa using h9
     have HES:=Lib.hid (show Rds X w.heap.size 8 d.kA d.kn (nds es) from HEK.out.below (HB.out.trans (HWX.out.mono HB.out.size)) (Nat.le_refl _))
     have HL:=Lib.hid (show os.length+d.kn≤500000 by
      have h1:=HKS.out.len
      have h2:=HLE.out
      rw [HSN.out,HF.out,List.length_append] at h2
      have h3:=HZZ.out
      omega)
     clear h9 hkn2
     go_upto_region 10 with (at_builtin;refine app_nodes (.tmp 22) (.tmp 24) (base:=W.heap.size) (xs:=os) (ys:=es) (n:=os.length) (m:=d.kn) HOX.out HES.out (by have:=HL.out;omega) hsX rfl rfl rfl rfl ?_;intro v3 w6 hown3 hg3 hat3;have HO6:=Lib.hid hown3;have HB6:=Lib.hid (HWX.out.grown hg3 hsX (fun g hg=>(World.ownsRow.lt HOX.out g hg).1));clear hown3 hg3 hat3)
     go_wp2_with fail
     go_roundw
     case rel=>exact ⟨k+1,os ++ es,by omega,by first|rfl|go_num|(congr 1;omega),Lib.hid (by rw [List.length_append,HN.out.knum.2];exact HO6.out),Lib.hid (by rw [HSN.out,HF.out];exact HKS.out.append HN.out.each),HB6⟩
     case measure=>simp [intOf];omega
    ·have HF:=Lib.hid (show flatRow t=[t] by unfold flatRow;rw [if_neg (fun x=>HN1.out (HKD.out.trans x)),if_neg (fun x=>h9 (HKD.out.trans x))])
     have e2:(d.kind == 9)=false:=by simpa using h9
     have hbY:Below X.heap.size X (X.alloc (.cells #[.int .i64 d.kind,.slice d.sA d.sn d.sc,.slice d.kA d.kn d.kc,.int .i64 d.num,.int .i64 d.least,.int .i64 d.most,.int .i64 d.way,.bool d.fold] 42)):=(Below.refl _ _).alloc (Nat.le_refl _) _
     have HOY:=Lib.hid (own_below HOX.out hbY (Nat.le_refl _))
     have HRY:=Lib.hid (show Rds (X.alloc (.cells #[.int .i64 d.kind,.slice d.sA d.sn d.sc,.slice d.kA d.kn d.kc,.int .i64 d.num,.int .i64 d.least,.int .i64 d.most,.int .i64 d.way,.bool d.fold] 42)) (X.heap.size+1) 8 (some ⟨X.heap.size,0,none⟩) 1 (nds [d]) from Rds.new X 8 1 _ 42 (nds [d]) rfl rfl)
     have HWY:=Lib.hid (HWX.out.trans (hbY.mono hsX))
     have hsY:=HWY.out.size
     have HL:=Lib.hid (show os.length+1≤500000 by
      have h1:=HKS.out.len
      have h2:=HLE.out
      rw [HSN.out,HF.out,List.length_append] at h2
      have h3:=HZZ.out
      simp only [List.length_cons,List.length_nil] at h2
      omega)
     clear h9 hkn2 hbY
     go_upto_region 10 with (at_builtin;refine app_nodes (.tmp 14) (.tmp 16) (base:=W.heap.size) (xs:=os) (ys:=[d]) (n:=os.length) (m:=1) HOY.out HRY.out (by have:=HL.out;omega) hsY rfl rfl rfl rfl ?_;intro v3 w6 hown3 hg3 hat3;have HO6:=Lib.hid hown3;have HB6:=Lib.hid (HWY.out.grown hg3 hsY (fun g hg=>(World.ownsRow.lt HOY.out g hg).1));clear hown3 hg3 hat3)
     go_wp2_with fail
     go_roundw
     case rel=>exact ⟨k+1,os ++ [d],by omega,by first|rfl|go_num|(congr 1;omega),Lib.hid (by rw [List.length_append];exact HO6.out),Lib.hid (by rw [HSN.out,HF.out];exact HKS.out.append (Kds.one HND.out)),HB6⟩
     case measure=>simp [intOf];omega
  ·have hkn3:k=n:=by omega
   subst hkn3
   have i1:¬ (k:Int) < (k:Int):=by omega
   have HAL:=Lib.hid (show Kds M w (ts.flatMap flatRow) os by have:=HKS.out;rwa [List.take_of_length_le (by have:=HLN.out;omega)] at this)
   have HZR:=Lib.hid (row_next HZ.out HBR.out)
   have HBW:=Lib.hid (HB.out.trans (HBR.out.mono HB.out.size))
   obtain ⟨A3,c3,hv3,hc3,hm3⟩:=own_slice HO.out
   subst hv3
   obtain ⟨us,hus⟩:∃ us,us=ts.flatMap flatRow:=⟨_,rfl⟩
   have HRT:=Lib.hid (show rowT ts=rowOf us by rw [hus];rfl)
   rw [← hus] at HAL
   have hlen:=HAL.out.len
   clear hus HKS hlt HZ HB HR HK
   have h3:os=[]∨(∃ x,os=[x])∨2≤os.length:=by
    match os with
    | []=>exact .inl rfl
    | [x]=>exact .inr (.inl ⟨x,rfl⟩)
    | x :: y :: os=>exact .inr (.inr (by simp))
   rcases h3 with rfl|⟨x,rfl⟩|h2
   ·have hE:us=[]:=List.length_eq_zero_iff.1 hlen
    subst hE
    clear hlen
    go_wp2_with (first
     | (go_at_call 128;(with_reducible refine (empty128 (fun _=>true) _).mono ?_);rintro e w7 ⟨⟨d7,he,hn7⟩,hb7⟩;obtain rfl:=(show e=.returned (.agg #[.int .i64 d7.kind,.slice d7.sA d7.sn d7.sc,.slice d7.kA d7.kn d7.kc,.int .i64 d7.num,.int .i64 d7.least,.int .i64 d7.most,.int .i64 d7.way,.bool d7.fold]) from he);have HZ7:=Lib.hid (row_next HZR.out hb7);have HB7:=Lib.hid (HBW.out.trans (hb7.mono HBW.out.size));have HN7:=Lib.hid hn7;clear he hn7 hb7)
     | ((with_reducible apply store42 (g:=w.heap.size));rfl;(with_reducible rfl);rfl;rfl;(exact HZ7.out);rfl;rfl))
    (try simp only [Exit.inBlock,Exit.then])
    refine bodyPost_ret (v:=_) (results42 Tryz.results111 _ _ w.heap.size _ ?_ (row42 HZ7.out) ?_) rfl ?_
    ·rfl
    ·rfl
    ·exact ⟨by rw [HRT.out];exact ⟨d7,rfl,HN7.out.mv (Mvd.any (Below.setRow (Below.refl w.heap.size _) (Nat.le_refl _) _))⟩,Below.setRow HB7.out (Nat.le_refl _) _⟩
   ·obtain ⟨t1,rfl⟩:∃ t1,us=[t1]:=List.length_eq_one_iff.1 hlen
    obtain ⟨b3,o3,hl3,hA3,hb3,q0,q1,q2,q3,q4,q5,q6,q7⟩:=(Rds.of_own HO.out).node_at (k:=0) (Nat.zero_lt_one)
    subst hA3
    simp only [Nat.zero_mul,Nat.add_zero,List.getElem_cons_zero] at q0 q1 q2 q3 q4 q5 q6 q7
    have HN7:=Lib.hid (HAL.out.at 0 (Nat.zero_lt_one) (Nat.zero_lt_one))
    simp only [List.getElem_cons_zero] at HN7
    clear hlen
    go_wp2_with ((with_reducible apply store42 (g:=w.heap.size));rfl;(with_reducible rfl);rfl;rfl;(exact HZR.out);rfl;rfl)
    (try simp only [Exit.inBlock,Exit.then])
    refine bodyPost_ret (v:=_) (results42 Tryz.results111 _ _ w.heap.size _ ?_ (row42 HZR.out) ?_) rfl ?_
    ·rfl
    ·rfl
    ·have hbf:Below w.heap.size w _:=Below.setRow HBW.out (Nat.le_refl _) #[.int .i64 x.kind,.slice x.sA x.sn x.sc,.slice x.kA x.kn x.kc,.int .i64 x.num,.int .i64 x.least,.int .i64 x.most,.int .i64 x.way,.bool x.fold]
     exact ⟨by rw [HRT.out];exact ⟨x,rfl,HN7.out.mv (Mvd.below hbf)⟩,hbf⟩
   ·obtain ⟨m,hmm⟩:∃ m,m=os.length:=⟨_,rfl⟩
    have HMM:=Lib.hid hmm
    rw [← hmm] at h2 HO hc3 ⊢
    have HUS:=Lib.hid (show rowOf us=.mk 9 [] us 0 0 0 0 false by
     match us,hlen with
     | [],h=>simp at h;omega
     | [_],h=>simp at h;omega
     | _ :: _ :: _,_=>rfl)
    have e1:((m:Int) == 0)=false:=beq_eq_false_iff_ne.2 (by omega)
    have e2:((m:Int) == 1)=false:=beq_eq_false_iff_ne.2 (by omega)
    clear hlen hmm
    go_wp2_with ((with_reducible apply store42 (g:=w.heap.size));rfl;(with_reducible rfl);rfl;rfl;(exact HZR.out);rfl;rfl)
    (try simp only [Exit.inBlock,Exit.then])
    refine bodyPost_ret (v:=_) (results42 Tryz.results111 _ _ w.heap.size _ ?_ (row42 HZR.out) ?_) rfl ?_
    ·rfl
    ·rfl
    ·have hbf:Below w.heap.size w _:=Below.setRow HBW.out (Nat.le_refl _) #[.int .i64 9,.slice none 0 0,.slice A3 m c3,.int .i64 0,.int .i64 0,.int .i64 0,.int .i64 0,.bool false]
     have hof:=own_keptb HO.out (kept_setRow w.heap.size wr #[.int .i64 9,.slice none 0 0,.slice A3 m c3,.int .i64 0,.int .i64 0,.int .i64 0,.int .i64 0,.bool false]) hWs
     obtain ⟨A4,c4,hv4,hr4⟩:=Rds.own_cover (M:=M) hof (fun g hg=>by
      cases e:M g
      ·rfl
      ·have h1:=HM.out g e
       have h2:=(World.ownsRow.lt HO.out g hg).1
       omega)
     injection hv4 with e1 e2 e3
     subst e1
     refine ⟨?_,hbf⟩
     rw [HRT.out,HUS.out]
     exact ⟨⟨9,none,0,0,A3,m,c3,0,0,0,0,false⟩,rfl,nd_of os ⟨rfl,rfl,rfl,rfl,rfl,rfl,nil_rds _ _ _,Nat.le_refl _,Nat.zero_le _,hr4,hc3,hm3,HAL.out.mv (Mvd.below hbf)⟩⟩
end Go.Proofs.YtbiahhojnjchnaaGreat
