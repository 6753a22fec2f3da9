/-
  The parser's branches, plain; what is told of its parts; rows written in place.
-/
import Derived.Test.YtbiahhojnjchnaaGreatPnE
set_option linter.unusedVariables false
set_option linter.unusedSimpArgs false
namespace Go.Proofs.YtbiahhojnjchnaaGreat
open Go.RowKit
theorem own_set {w:World} {base n c g i:Nat} {e:TypeId} {size:Nat} {xs:List Value} (h:w.ownsRow base e size (.slice (some ⟨g,0,none⟩) n c) n xs) (u:Value):(w.setCell ⟨g,i,none⟩ u).ownsRow base e size (.slice (some ⟨g,0,none⟩) n c) n (xs.set i u):=by
 refine ⟨by rw [List.length_set];exact h.1,?_⟩
 rcases h.2 with ⟨hv,_⟩|⟨g',cap,cur,hv,hb,hh,hn,hm,hs,ht⟩
 ·cases hv
 ·injection hv with h1 h2 h3
  injection h1 with h1
  injection h1 with h1
  subst h1 h3
  refine .inr ⟨g,c,cur.setIfInBounds i u,rfl,hb,row_set' hh,hn,hm,by rw [Array.size_setIfInBounds];exact hs,?_⟩
  rw [Array.toList_setIfInBounds,List.take_set,ht]
theorem nds_put (i:List ND) (x y:ND):((((((((nds (i ++ [x])).set (i.length * 8) (.int .i64 y.kind)).set (i.length * 8+1) (.slice y.sA y.sn y.sc)).set (i.length * 8+2) (.slice y.kA y.kn y.kc)).set (i.length * 8+3) (.int .i64 y.num)).set (i.length * 8+4) (.int .i64 y.least)).set (i.length * 8+5) (.int .i64 y.most)).set (i.length * 8+6) (.int .i64 y.way)).set (i.length * 8+7) (.bool y.fold)=nds (i ++ [y]):=by
 rw [nds_append,nds_append,← nds_length i]
 generalize nds i=p
 simp [nds,ND.vals,List.set_append]
theorem own_put_last {w:World} {base n c g:Nat} {i:List ND} {x:ND} (y:ND) (h:w.ownsRow base 42 8 (.slice (some ⟨g,0,none⟩) n c) n (nds (i ++ [x]))) :
  ((((((((w.setCell ⟨g,i.length * 8,none⟩ (.int .i64 y.kind)).setCell ⟨g,i.length * 8+1,none⟩ (.slice y.sA y.sn y.sc)).setCell ⟨g,i.length * 8+2,none⟩ (.slice y.kA y.kn y.kc)).setCell ⟨g,i.length * 8+3,none⟩ (.int .i64 y.num)).setCell ⟨g,i.length * 8+4,none⟩ (.int .i64 y.least)).setCell ⟨g,i.length * 8+5,none⟩ (.int .i64 y.most)).setCell ⟨g,i.length * 8+6,none⟩ (.int .i64 y.way)).setCell ⟨g,i.length * 8+7,none⟩ (.bool y.fold)).ownsRow base 42 8 (.slice (some ⟨g,0,none⟩) n c) n (nds (i ++ [y])):=by
 have:=own_set (own_set (own_set (own_set (own_set (own_set (own_set (own_set (i:=i.length * 8) h (.int .i64 y.kind)) (i:=i.length * 8+1) (.slice y.sA y.sn y.sc)) (i:=i.length * 8+2) (.slice y.kA y.kn y.kc)) (i:=i.length * 8+3) (.int .i64 y.num)) (i:=i.length * 8+4) (.int .i64 y.least)) (i:=i.length * 8+5) (.int .i64 y.most)) (i:=i.length * 8+6) (.int .i64 y.way)) (i:=i.length * 8+7) (.bool y.fold)
 rw [nds_put] at this
 exact this
/-- the block of a row -/
def own1 (v:Value) (k:Nat):Bool:=v.ownBlock == some k
theorem own1_iff {v:Value} {k:Nat}:own1 v k=true↔v.ownBlock=some k:=by simp [own1]
/-- what is written above the base is not seen from there -/
theorem Mvd.over {M0 M M' F F':Nat→Bool} {W w w':World} (h:Mvd M0 M W w) (k:Mvd (fun i=>M i || F i) (fun i=>M' i || F' i) w w') (hF:∀ i,i < W.heap.size→F i=false):Mvd M0 M' W w':=by
 refine ⟨k.os.trans h.os,k.tape.trans h.tape,k.output.trans h.output,Nat.le_trans h.size k.size,fun i hi hm=>?_,fun i hi hm=>?_⟩
 ·refine (k.keep i (Nat.lt_of_lt_of_le hi h.size) ?_).trans (h.keep i hi hm)
  cases e:M i
  ·simp [hF i hi]
  ·rw [h.sub i hi e] at hm;cases hm
 ·have:=k.sub i (Nat.lt_of_lt_of_le hi h.size) (by simp [hm])
  simp [hF i hi] at this
  exact h.sub i hi this
/-- seen with fewer hidden -/
theorem Mvd.less {M M':Nat→Bool} (w:World) (h:∀ k,k < w.heap.size→M' k=true→M k=true):Mvd M M' w w:=⟨rfl,rfl,rfl,Nat.le_refl _,fun _ _ _=>rfl,h⟩
/-- given up: the parser's block is a parser's still -/
def PBad (b:Nat) (M:Nat→Bool) (w w':World):Prop:=∃ (M':Nat→Bool) (cs:Array Value),Mvd M M' w w'∧w'.heap[b]?=some (.cells cs 77 (0,0))∧cs.size=8
theorem PBad.of {M M1:Nat→Bool} {b:Nat} {w w1 w2:World} (h:Mvd M M1 w w1) (k:PBad b M1 w1 w2):PBad b M w w2:=by
 obtain ⟨M',cs,h1,h2,h3⟩:=k
 exact ⟨M',cs,h.trans h1,h2,h3⟩
theorem PsAt.bad {b n c:Nat} {d:Int} {A:Option Addr} {l:List Int} {s:PS} {V1 V2:Value} {w:World} {M M':Nat→Bool} {w0:World} (h:PsAt b n c d A l s V1 V2 w) (k:Mvd M M' w0 w):PBad b M w0 w:=⟨M',_,k,h.hp,rfl⟩
/-- a reading of the parser: what is wrong, or a tree made anew and the state behind it -/
def POut (b n c:Nat) (d:Int) (A:Option Addr) (l:List Int) (M:Nat→Bool) (w:World) (r:FR (Tr × PS)) (e:Ending) (w':World):Prop:=match r with
 | .error q=>e=.panicked (faultV q.1 q.2)∧PBad b M w w'
 | .ok p=>∃ (dd:ND) (V1 V2:Value),e=.returned dd.agg∧Nd (fun k=>pm b V1 V2 k || decide (k < w.heap.size)) w' p.1 dd∧PsAt b n c d A l p.2 V1 V2 w'∧Mvd M (pm b V1 V2) w w'
/-- a token that starts something -/
def AtomC (b n c:Nat) (d:Int) (A:Option Addr) (l:List Int) (G:PS→Prop) (atomS:PS→Tk→Int→FR (Tr × PS)):Prop:=∀ (s:PS) (V1 V2:Value) (t:Tk) (nx:Int) (w:World),G s→PsAt b n c d A l s V1 V2 w→nextS d l s=.ok (some (t,nx))→t.kind≠6→t.kind≠8→t.kind≠9 →
 Calls Tryz.prog 112 #[.pointer (some ⟨b,0,none⟩),.agg #[.int .i64 t.kind,.int .i64 t.num,.string ⟨t.text.toArray⟩,.bool t.not_,.int .i64 t.least,.int .i64 t.most,.int .i64 t.way,.int .i64 t.fold],.int .i64 nx] w (POut b n c d A l (pm b V1 V2) w (atomS s t nx))
def repT (x:Tr) (t:Tk):Tr:=.mk 12 [] [x] 0 t.least t.most t.way false
def repL (ts:List Tr) (t:Tk):List Tr:=match ts.getLast? with
 | none=>ts
 | some x=>ts.dropLast ++ [repT x t]
def branchL (atomS:PS→Tk→Int→FR (Tr × PS)) (d:Int) (l:List Int):Nat→PS→List Tr→Bool→Int→FR (Tr × PS)
 | 0,_,_,_,_=>.error (0,0)
 | m+1,s,ts,can,times=>match nextS d l s with
  | .error q=>.error q
  | .ok none=>.ok (rowT ts,s)
  | .ok (some (t,nx)) =>
   if t.kind=9∨t.kind=8 then .ok (rowT ts,s)
   else if t.kind=6 then
    if can=false then .error (1,s.at_)
    else if 4 < times+1 then .error (2,s.at_)
    else branchL atomS d l m { s with at_:=nx } (repL ts t) can (times+1)
   else match atomS s t nx with
    | .error q=>.error q
    | .ok p=>branchL atomS d l m p.2 (ts ++ [p.1]) (decide (t.kind≠11)) 0
def branchS (atomS:PS→Tk→Int→FR (Tr × PS)) (d:Int) (l:List Int) (s:PS):FR (Tr × PS):=branchL atomS d l (((l.length:Int) - s.at_).toNat+1) s [] false 0
theorem repL_snoc (ts:List Tr) (x:Tr) (t:Tk):repL (ts ++ [x]) t=ts ++ [repT x t]:=by simp [repL]
theorem own_keptg {w w':World} {base n size:Nat} {e:TypeId} {v:Value} {xs:List Value} (h:w.ownsRow base e size v n xs) (hk:∀ g,v.ownBlock=some g→w'.heap[g]?=w.heap[g]?):w'.ownsRow base e size v n xs:=by
 refine ⟨h.1,?_⟩
 rcases h.2 with hn|⟨g,cap,cur,rfl,hb,hgg,rest⟩
 ·exact .inl hn
 ·exact .inr ⟨g,cap,cur,rfl,hb,(hk g rfl).trans hgg,rest⟩
theorem pm_lt {b n c:Nat} {d:Int} {A:Option Addr} {l:List Int} {s:PS} {V1 V2:Value} {w:World} (h:PsAt b n c d A l s V1 V2 w) {k:Nat} (hk:pm b V1 V2 k=true):k < w.heap.size:=by
 simp [pm] at hk
 rcases hk with hk|hk|hk
 ·rw [hk];exact h.lt
 ·exact (World.ownsRow.lt h.names k hk).2
 ·exact (World.ownsRow.lt h.ags k hk).2
theorem pm_ge {b n c:Nat} {d:Int} {A:Option Addr} {l:List Int} {s:PS} {V1 V2:Value} {w:World} (h:PsAt b n c d A l s V1 V2 w) {k:Nat} (hk:pm b V1 V2 k=true):b≤k:=by
 simp [pm] at hk
 rcases hk with hk|hk|hk
 ·omega
 ·have:=(World.ownsRow.lt h.names k hk).1;omega
 ·have:=(World.ownsRow.lt h.ags k hk).1;omega
end Go.Proofs.YtbiahhojnjchnaaGreat
