/-
  Trees of a pattern, plain: their nodes, how deep they are, and the two ways to count them (up to a bound). No condition.
-/
set_option linter.unusedVariables false
set_option linter.unusedSimpArgs false
namespace Go.Proofs.YtbiahhojnjchnaaGreat
/-- A node: its kind, its set, its kids, number, least, most, way, fold. -/
inductive Tr where
 | mk (kind:Int) (set:List (Int × Int)) (kids:List Tr) (num least most way:Int) (fold:Bool)
namespace Tr
def kind:Tr→Int|mk k _ _ _ _ _ _ _=>k
def set:Tr→List (Int × Int)|mk _ s _ _ _ _ _ _=>s
def kids:Tr→List Tr|mk _ _ l _ _ _ _ _=>l
def num:Tr→Int|mk _ _ _ n _ _ _ _=>n
def least:Tr→Int|mk _ _ _ _ n _ _ _=>n
def most:Tr→Int|mk _ _ _ _ _ n _ _=>n
def way:Tr→Int|mk _ _ _ _ _ _ n _=>n
def fold:Tr→Bool|mk _ _ _ _ _ _ _ b=>b
end Tr
mutual
/-- how many nodes -/
def sizeT:Tr→Nat
 | .mk _ _ ks _ _ _ _ _=>1+sizeL ks
def sizeL:List Tr→Nat
 | []=>0
 | t :: ts=>sizeT t+sizeL ts
end
mutual
/-- how deep: 0 without kids -/
def highT:Tr→Nat
 | .mk _ _ ks _ _ _ _ _=>highL ks
def highL:List Tr→Nat
 | []=>0
 | t :: ts=>max (highT t+1) (highL ts)
end
theorem sizeT_eq (t:Tr):sizeT t=1+sizeL t.kids:=by cases t;rfl
theorem highT_eq (t:Tr):highT t=highL t.kids:=by cases t;rfl
theorem sizeT_pos (t:Tr):1≤sizeT t:=by rw [sizeT_eq];omega
theorem sizeL_append (a b:List Tr):sizeL (a ++ b)=sizeL a+sizeL b:=by
 induction a with
 | nil=>simp [sizeL]
 | cons t a ih=>simp only [List.cons_append,sizeL,ih];omega
theorem sizeL_len (a:List Tr):a.length≤sizeL a:=by
 induction a with
 | nil=>simp
 | cons t a ih=>have:=sizeT_pos t;simp only [List.length_cons,sizeL];omega
theorem sizeL_mem {t:Tr} {a:List Tr} (h:t ∈ a):sizeT t≤sizeL a:=by
 induction a with
 | nil=>cases h
 | cons u a ih =>
  simp only [sizeL]
  rcases List.mem_cons.1 h with e|e
  ·subst e;omega
  ·have:=ih e;omega
theorem sizeT_kid {t k:Tr} (h:k ∈ t.kids):sizeT k < sizeT t:=by
 have:=sizeL_mem h
 rw [sizeT_eq t];omega
theorem highL_le (a:List Tr) (n:Nat):highL a≤n↔∀ t ∈ a,highT t+1≤n:=by
 induction a with
 | nil=>simp [highL]
 | cons u a ih =>
  simp only [highL,List.mem_cons,forall_eq_or_imp,← ih]
  omega
/-- By induction over a tree: whatever holds of a tree if it holds of its kids. -/
theorem tree_ind {P:Tr→Prop} (h:∀ t,(∀ k ∈ t.kids,P k)→P t) (t:Tr):P t:=by
 have:∀ n t,sizeT t≤n→P t:=by
  intro n
  induction n with
  | zero=>intro t ht;have:=sizeT_pos t;omega
  | succ n ih=>intro t ht;exact h t fun k hk=>ih k (by have:=sizeT_kid hk;omega)
 exact this _ t (Nat.le_refl _)
/-! ### the program's way: many -/
mutual
def manyT:Tr→Int→Int→Int
 | .mk _ _ ks _ _ _ _ _,left,deep=>if deep > 200 then left+1 else manyL ks left deep 1
def manyL:List Tr→Int→Int→Int→Int
 | [],_,_,out=>out
 | k :: ks,left,deep,out=>if out > left then out else manyL ks left deep (out+manyT k (left - out) (deep+1))
end
theorem manyT_eq (t:Tr) (left deep:Int):manyT t left deep=if deep > 200 then left+1 else manyL t.kids left deep 1:=by cases t;rw [manyT];rfl
/-- A tree is fine if it has at most so many nodes, and is at most so deep. -/
def Fine (t:Tr) (left deep:Int):Prop:=(sizeT t:Int)≤left∧deep+(highT t:Int)≤200
/-- many counts right up to its bound; beyond that it answers more than the bound, but no more than one above it (nor than one). -/
theorem manyT_law (t:Tr):∀ left deep:Int,(Fine t left deep→manyT t left deep=(sizeT t:Int))∧(¬ Fine t left deep→left < manyT t left deep)∧(0≤left→1≤manyT t left deep∧manyT t left deep≤left+1):=by
 refine tree_ind (P:=fun t=>∀ left deep:Int,(Fine t left deep→manyT t left deep=(sizeT t:Int))∧(¬ Fine t left deep→left < manyT t left deep)∧(0≤left→1≤manyT t left deep∧manyT t left deep≤left+1)) ?_ t
 intro t ih left deep
 have hL:∀ (ks:List Tr),(∀ k ∈ ks,k ∈ t.kids)→∀ out:Int,1≤out →
   ((out+(sizeL ks:Int)≤left∧deep+(highL ks:Int)≤200→manyL ks left deep out=out+(sizeL ks:Int)) ∧
    (¬ (out+(sizeL ks:Int)≤left∧(∀ k ∈ ks,deep+1+(highT k:Int)≤200))→left < manyL ks left deep out) ∧
    (0≤left→out≤left+1→1≤manyL ks left deep out∧manyL ks left deep out≤left+1)):=by
  intro ks
  induction ks with
  | nil =>
   intro _ out ho
   simp only [sizeL,highL,manyL]
   refine ⟨fun h=>by omega,fun h=>?_,fun _ h=>⟨ho,h⟩⟩
   rcases Int.lt_or_le left out with h2|h2
   ·exact h2
   ·exact absurd ⟨by omega,by simp⟩ h
  | cons k ks ih2 =>
   intro hm out ho
   have hk:=ih k (hm k (by simp)) (left - out) (deep+1)
   have hks:=ih2 (fun x hx=>hm x (by simp [hx]))
   have hp:=sizeT_pos k
   simp only [sizeL,highL,manyL]
   by_cases h1:out > left
   ·rw [if_pos h1]
    refine ⟨fun h=>?_,fun h=>h1,fun h0 h=>⟨ho,h⟩⟩
    exfalso;omega
   ·rw [if_neg h1]
    have hb:=hk.2.2 (by omega)
    have hn:=hks (out+manyT k (left - out) (deep+1)) (by omega)
    refine ⟨fun h=>?_,fun h=>?_,fun h0 h=>hn.2.2 h0 (by omega)⟩
    ·have hf:Fine k (left - out) (deep+1):=⟨by omega,by omega⟩
     have e:=hk.1 hf
     have:=hn.1 ⟨by omega,by omega⟩
     rw [this,e];omega
    ·by_cases hf:Fine k (left - out) (deep+1)
     ·have e:=hk.1 hf
      refine hn.2.1 fun hh=>h ⟨by omega,?_⟩
      intro x hx
      rcases List.mem_cons.1 hx with e2|e2
      ·subst e2;exact hf.2
      ·exact hh.2 x e2
     ·have e:=hk.2.1 hf
      exact hn.2.1 fun hh=>by omega
 rw [manyT_eq]
 have hs:=sizeT_eq t
 have hh:=highT_eq t
 by_cases hd:deep > 200
 ·rw [if_pos hd]
  refine ⟨fun h=>?_,fun _=>by omega,fun h0=>by omega⟩
  have:=h.2;omega
 ·rw [if_neg hd]
  have h:=hL t.kids (fun _ hk=>hk) 1 (Int.le_refl _)
  refine ⟨fun hf=>?_,fun hf=>h.2.1 fun hh2=>hf ⟨by omega,?_⟩,fun h0=>h.2.2 h0 (by omega)⟩
  ·have:=h.1 ⟨by have:=hf.1;omega,by have:=hf.2;omega⟩
   rw [this];omega
  ·have h3:highL t.kids≤(200 - deep).toNat:=(highL_le _ _).2 fun k hk=>by have:=hh2.2 k hk;omega
   omega
/-! ### the reference's way: TooGreat -/
/-- what stands on the stack: trees, and how deep each stands; the last one is the next -/
def sizeS (l:List (Tr × Int)):Nat:=sizeL (l.map (·.1))
def deepS (l:List (Tr × Int)):Prop:=∃ x ∈ l,x.2+(highT x.1:Int) > 200
structure TgSt (T:Tr) (many:Int) (l:List (Tr × Int)):Prop where
 size:many+(sizeS l:Int)=(sizeT T:Int)
 deep:deepS l↔(highT T:Int) > 200
 room:many+(l.length:Int)≤1000
 pos:0≤many
/-- too many nodes, or too deep -/
def tooG (T:Tr):Bool:=decide (1000 < sizeT T) || decide (200 < highT T)
theorem TgSt.start (T:Tr):TgSt T 0 [(T,0)]:=⟨by simp [sizeS,sizeL],by simp [deepS],by simp,Int.le_refl _⟩
theorem sizeS_snoc (l:List (Tr × Int)) (x:Tr × Int):sizeS (l ++ [x])=sizeS l+sizeT x.1:=by
 simp [sizeS,sizeL_append,sizeL]
theorem sizeS_append (l r:List (Tr × Int)):sizeS (l ++ r)=sizeS l+sizeS r:=by simp [sizeS,sizeL_append]
theorem TgSt.full {T:Tr} {many:Int} {l:List (Tr × Int)} {x:Tr} {d:Int} (h:TgSt T many (l ++ [(x,d)])) (hk:many+1+(l.length:Int)+(x.kids.length:Int) > 1000):tooG T=true:=by
 have h1:=h.size
 rw [sizeS_snoc] at h1
 have h2:l.length≤sizeS l:=by have:=sizeL_len (l.map (·.1));simpa [sizeS] using this
 have h3:=sizeL_len x.kids
 have h4:=sizeT_eq x
 simp only [tooG,Bool.or_eq_true,decide_eq_true_eq]
 left
 simp only at h1
 omega
theorem TgSt.low {T:Tr} {many:Int} {l:List (Tr × Int)} {x:Tr} {d:Int} (h:TgSt T many (l ++ [(x,d)])) (hd:d > 200):tooG T=true:=by
 have:=h.deep.1 ⟨(x,d),by simp,by simp only;omega⟩
 simp only [tooG,Bool.or_eq_true,decide_eq_true_eq]
 right;omega
theorem TgSt.next {T:Tr} {many:Int} {l:List (Tr × Int)} {x:Tr} {d:Int} (h:TgSt T many (l ++ [(x,d)])) (hk:many+1+(l.length:Int)+(x.kids.length:Int)≤1000) (hd:d≤200) :
  TgSt T (many+1) (l ++ x.kids.map fun k=>(k,d+1)):=by
 have h1:=h.size
 rw [sizeS_snoc] at h1
 have h4:=sizeT_eq x
 have h5:sizeS (x.kids.map fun k=>(k,d+1))=sizeL x.kids:=by simp [sizeS,List.map_map,Function.comp_def]
 refine ⟨by rw [sizeS_append,h5];simp only at h1;omega,?_,by rw [List.length_append,List.length_map];omega,by have:=h.pos;omega⟩
 rw [← h.deep]
 constructor
 ·rintro ⟨y,hy,hy2⟩
  rcases List.mem_append.1 hy with e|e
  ·exact ⟨y,by simp [e],hy2⟩
  ·obtain ⟨k,hk,rfl⟩:=List.mem_map.1 e
   refine ⟨(x,d),by simp,?_⟩
   have h6:=(highL_le x.kids (highL x.kids)).1 (Nat.le_refl _) k hk
   rw [← highT_eq] at h6
   simp only at hy2 ⊢
   omega
 ·rintro ⟨y,hy,hy2⟩
  rcases List.mem_append.1 hy with e|e
  ·exact ⟨y,by simp [e],hy2⟩
  ·rw [List.mem_singleton] at e
   subst e
   simp only at hy2
   have h6:¬ highL x.kids≤(200 - d).toNat:=by rw [← highT_eq];omega
   rw [highL_le] at h6
   have h7:=Classical.not_forall.1 h6
   obtain ⟨k,hk⟩:=h7
   have h8:=Classical.not_imp.1 hk
   exact ⟨(k,d+1),List.mem_append_right _ (List.mem_map.2 ⟨k,h8.1,rfl⟩),by simp only;have:=h8.2;omega⟩
theorem TgSt.done {T:Tr} {many:Int} (h:TgSt T many []):tooG T=false∧many=(sizeT T:Int):=by
 have h1:=h.size
 have h2:=h.room
 simp [sizeS,sizeL] at h1 h2
 have h3:¬ (highT T:Int) > 200:=fun e=>by obtain ⟨x,hx,_⟩:=h.deep.2 e;cases hx
 refine ⟨?_,h1⟩
 simp only [tooG,Bool.or_eq_false_iff,decide_eq_false_iff_not]
 omega
theorem fineT_iff (T:Tr):Fine T 1000 0↔tooG T=false:=by
 simp only [Fine,tooG,Bool.or_eq_false_iff,decide_eq_false_iff_not]
 omega
end Go.Proofs.YtbiahhojnjchnaaGreat
