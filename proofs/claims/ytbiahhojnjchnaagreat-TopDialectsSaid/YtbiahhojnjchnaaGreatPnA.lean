/-
  Trees that a walk makes: they lie apart from the blocks that are still written (a mask hides those). Plain.
-/
import Derived.Test.YtbiahhojnjchnaaGreatNode
import Derived.Test.YtbiahhojnjchnaaGreatGU
set_option linter.unusedVariables false
set_option linter.unusedSimpArgs false
namespace Go.Proofs.YtbiahhojnjchnaaGreat
open Go.RowKit
/-- the world with these blocks hidden -/
def mask (M:Nat→Bool) (w:World):World:={ w with heap:=w.heap.mapIdx fun k o=>if M k=true then .cells #[] 0 else o }
theorem mask_cell (M:Nat→Bool) (w:World) (k o:Nat):(mask M w).cell? ⟨k,o,none⟩=if M k=true then none else w.cell? ⟨k,o,none⟩:=by
 unfold mask World.cell?
 simp only [Array.getElem?_mapIdx]
 cases h:w.heap[k]? with
 | none=>simp
 | some x =>
  cases hm:M k<;>simp [hm]
theorem mask_read {M:Nat→Bool} {w:World} {k o:Nat} {u:Value} (h:(mask M w).cell? ⟨k,o,none⟩=some u):M k=false∧w.cell? ⟨k,o,none⟩=some u:=by
 rw [mask_cell] at h
 cases hm:M k
 ·rw [hm] at h;exact ⟨rfl,by simpa using h⟩
 ·rw [hm] at h;simp at h
theorem mask_of {M:Nat→Bool} {w:World} {k o:Nat} {u:Value} (hm:M k=false) (h:w.cell? ⟨k,o,none⟩=some u):(mask M w).cell? ⟨k,o,none⟩=some u:=by
 rw [mask_cell,hm];simpa using h
/-- from w to w': only what M hides is changed, and of the old blocks M' hides no others -/
structure Mvd (M M':Nat→Bool) (w w':World):Prop where
 os:w'.os=w.os
 tape:w'.tape=w.tape
 output:w'.output=w.output
 size:w.heap.size≤w'.heap.size
 keep:∀ k,k < w.heap.size→M k=false→w'.heap[k]?=w.heap[k]?
 sub:∀ k,k < w.heap.size→M' k=true→M k=true
theorem Mvd.refl (M:Nat→Bool) (w:World):Mvd M M w w:=⟨rfl,rfl,rfl,Nat.le_refl _,fun _ _ _=>rfl,fun _ _ h=>h⟩
theorem Mvd.trans {M M1 M2:Nat→Bool} {w w1 w2:World} (h:Mvd M M1 w w1) (k:Mvd M1 M2 w1 w2):Mvd M M2 w w2:=by
 refine ⟨k.os.trans h.os,k.tape.trans h.tape,k.output.trans h.output,Nat.le_trans h.size k.size,fun i hi hm=>?_,fun i hi hm=>?_⟩
 ·refine (k.keep i (Nat.lt_of_lt_of_le hi h.size) ?_).trans (h.keep i hi hm)
  cases e:M1 i
  ·rfl
  ·rw [h.sub i hi e] at hm;cases hm
 ·exact h.sub i hi (k.sub i (Nat.lt_of_lt_of_le hi h.size) hm)
theorem Mvd.of_below {M M':Nat→Bool} {w w':World} (h:Below w.heap.size w w') (hs:∀ k,k < w.heap.size→M' k=true→M k=true):Mvd M M' w w':=⟨h.os,h.tape,h.output,h.size,fun k hk _=>h.block k hk,hs⟩
theorem Mvd.below {M:Nat→Bool} {w w':World} (h:Below w.heap.size w w'):Mvd M M w w':=.of_below h fun _ _ h=>h
theorem Mvd.kept {M:Nat→Bool} {b:Nat} {w w':World} (h:Kept b w w') (hb:M b=true):Mvd M M w w' :=
 ⟨h.os,h.tape,h.output,h.size,fun k hk hm=>h.block k hk (fun e=>by rw [e,hb] at hm;cases hm),fun _ _ h=>h⟩
theorem Mvd.grown {M M':Nat→Bool} {w w':World} {row:Option Nat} (h:w.grownBy w' row) (hr:∀ g,row=some g→M g=true) (hs:∀ k,k < w.heap.size→M' k=true→M k=true):Mvd M M' w w' :=
 ⟨h.os,h.tape,h.output,h.size,fun k hk hm=>h.block k hk (fun e=>by rw [hr k e.symm] at hm;cases hm),hs⟩
theorem Mvd.or {M M':Nat→Bool} {w w':World} (h:Mvd M M' w w') (F:Nat→Bool):Mvd (fun k=>M k || F k) (fun k=>M' k || F k) w w' :=
 ⟨h.os,h.tape,h.output,h.size,fun k hk hm=>h.keep k hk (by simp at hm;exact hm.1),fun k hk hm=>by
  simp at hm ⊢
  rcases hm with hm|hm
  ·exact .inl (h.sub k hk hm)
  ·exact .inr hm⟩
theorem Rds.mv {M M':Nat→Bool} {w w':World} {size n:Nat} {A:Option Addr} {xs:List Value} (hz:0 < size) (h:Rds (mask M w) w.heap.size size A n xs) (k:Mvd M M' w w'):Rds (mask M' w') w'.heap.size size A n xs:=by
 refine ⟨h.1,fun hn=>?_⟩
 obtain ⟨b,off,hA,hb,hc⟩:=h.2 hn
 refine ⟨b,off,hA,Nat.lt_of_lt_of_le hb k.size,fun j u hu=>?_⟩
 obtain ⟨hm,hcell⟩:=mask_read (hc j u hu)
 refine mask_of ?_ ((World.cell?_of_block (a:=⟨b,off+j,none⟩) (k.keep b hb hm)).trans hcell)
 cases e:M' b
 ·rfl
 ·rw [k.sub b hb e] at hm;cases hm
theorem Rds.bare {M:Nat→Bool} {w:World} {B size n:Nat} {A:Option Addr} {xs:List Value} (h:Rds (mask M w) B size A n xs):Rds w B size A n xs :=
 ⟨h.1,fun hn=>by
  obtain ⟨b,off,hA,hb,hc⟩:=h.2 hn
  exact ⟨b,off,hA,hb,fun j u hu=>(mask_read (hc j u hu)).2⟩⟩
/-- what reads below a bound reads in a world where nothing below it is hidden -/
theorem Rds.cover {M:Nat→Bool} {w:World} {B B' size n:Nat} {A:Option Addr} {xs:List Value} (h:Rds w B size A n xs) (hB:B≤B') (hm:∀ k,k < B→M k=false):Rds (mask M w) B' size A n xs :=
 ⟨h.1,fun hn=>by
  obtain ⟨b,off,hA,hb,hc⟩:=h.2 hn
  exact ⟨b,off,hA,Nat.lt_of_lt_of_le hb hB,fun j u hu=>mask_of (hm b hb) (hc j u hu)⟩⟩
/-- a row of the call's own, if it is not hidden -/
theorem Rds.own_cover {M:Nat→Bool} {w:World} {base size n:Nat} {e:TypeId} {v:Value} {xs:List Value} (h:w.ownsRow base e size v n xs) (hm:∀ g,v.ownBlock=some g→M g=false):∃ A c,v=.slice A n c∧Rds (mask M w) w.heap.size size A n xs:=by
 obtain ⟨A,c,rfl,-,-⟩:=own_slice h
 refine ⟨A,c,rfl,h.1,fun hn=>?_⟩
 obtain ⟨b,off,hA,hb,hc⟩:=(Rds.of_own h).2 hn
 subst hA
 exact ⟨b,off,rfl,hb,fun j u hu=>mask_of (hm b rfl) (hc j u hu)⟩
/-- a tree in memory, apart from what M hides -/
def Nd (M:Nat→Bool) (w:World) (t:Tr) (d:ND):Prop:=NodeAt (mask M w) w.heap.size t d
def Kds (M:Nat→Bool) (w:World) (ts:List Tr) (ds:List ND):Prop:=KidsAt (mask M w) w.heap.size ts ds
theorem Nd.mv {M M':Nat→Bool} {w w':World} {t:Tr} {d:ND} (h:Nd M w t d) (k:Mvd M M' w w'):Nd M' w' t d:=by
 unfold Nd at *
 refine tree_ind (P:=fun t=>∀ d,NodeAt (mask M w) w.heap.size t d→NodeAt (mask M' w') w'.heap.size t d) (fun t ih d h=>?_) t d h
 obtain ⟨ds,h⟩:=h.of
 exact NodeOf.node (ds:=ds) ⟨h.kind,h.num,h.least,h.most,h.way,h.fold,h.set.mv (by decide) k,h.sc1,h.sc2,h.kids.mv (by decide) k,h.kc1,h.kc2,KidsAt.of h.each.len fun j h1 h2=>ih _ (List.getElem_mem h1) _ (h.each.at j h1 h2)⟩
theorem Kds.mv {M M':Nat→Bool} {w w':World} {ts:List Tr} {ds:List ND} (h:Kds M w ts ds) (k:Mvd M M' w w'):Kds M' w' ts ds :=
 KidsAt.of (KidsAt.len h) fun j h1 h2=>Nd.mv (KidsAt.at h j h1 h2) k
theorem Nd.bare {M:Nat→Bool} {w:World} {t:Tr} {d:ND} (h:Nd M w t d):NodeAt w w.heap.size t d:=NodeAt.map (fun h=>h.bare) t d h
theorem Kds.nil (M:Nat→Bool) (w:World):Kds M w [] []:=KidsAt.nil
theorem Kds.append {M:Nat→Bool} {w:World} {ts us:List Tr} {ds es:List ND} (h:Kds M w ts ds) (k:Kds M w us es):Kds M w (ts ++ us) (ds ++ es):=by
 refine KidsAt.of (by rw [List.length_append,List.length_append,KidsAt.len h,KidsAt.len k]) fun j h1 h2=>?_
 have hl:=KidsAt.len h
 by_cases hj:j < ts.length
 ·rw [List.getElem_append_left hj,List.getElem_append_left (by omega)]
  exact KidsAt.at h j hj (by omega)
 ·rw [List.getElem_append_right (by omega),List.getElem_append_right (by omega)]
  simp only [hl]
  exact KidsAt.at k _ (by simp at h1;omega) (by simp at h2;omega)
theorem Kds.one {M:Nat→Bool} {w:World} {t:Tr} {d:ND} (h:Nd M w t d):Kds M w [t] [d]:=KidsAt.cons h KidsAt.nil
end Go.Proofs.YtbiahhojnjchnaaGreat
