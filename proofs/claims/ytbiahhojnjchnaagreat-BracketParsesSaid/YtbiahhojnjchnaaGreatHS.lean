/-
  OrbitOf of the reference: walked. append onto a slice that is full: plain laws.
-/
import Derived.Test.YtbiahhojnjchnaaGreatFoldH
set_option linter.unusedVariables false
set_option linter.unusedSimpArgs false
namespace Go.Proofs.YtbiahhojnjchnaaGreat
open Go.RowKit
def lenOf:Value→Nat
 | .slice _ n _=>n
 | _=>0
def bitOf:Value→Nat
 | .bool true=>1
 | _=>0
/-- of the first k of the list whatever the reference calls beside them is in -/
def F2 (out:List Int) (k:Nat):Prop:=∀ x ∈ out.take k,∀ q ∈ fwd x,q ∈ out
def F4 (out:List Int) (k:Nat):Prop:=∀ x ∈ out.take k,∀ q ∈ near x,x ∈ fwd q→q ∈ out
theorem F2.snoc {out:List Int} {i:Nat} (h:F2 out i) (hi:i≤out.length) (q:Int):F2 (out ++ [q]) i:=fun x hx r hr=>by
 rw [List.take_append_of_le_length hi] at hx
 exact List.mem_append_left _ (h x hx r hr)
theorem F4.snoc {out:List Int} {i:Nat} (h:F4 out i) (hi:i≤out.length) (q:Int):F4 (out ++ [q]) i:=fun x hx r hr hf=>by
 rw [List.take_append_of_le_length hi] at hx
 exact List.mem_append_left _ (h x hx r hr hf)
theorem F2.succ {out:List Int} {i:Nat} (h:F2 out i) (hi:i < out.length) (hb:∀ q ∈ fwd out[i],q ∈ out):F2 out (i+1):=fun x hx r hr=>by
 rw [take_snoc' out i hi] at hx
 rcases List.mem_append.1 hx with hx|hx
 ·exact h x hx r hr
 ·rw [List.mem_singleton.1 hx] at hr;exact hb r hr
theorem F4.succ {out:List Int} {i:Nat} (h:F4 out i) (hi:i < out.length) (hb:∀ q ∈ near out[i],out[i] ∈ fwd q→q ∈ out):F4 out (i+1):=fun x hx r hr hf=>by
 rw [take_snoc' out i hi] at hx
 rcases List.mem_append.1 hx with hx|hx
 ·exact h x hx r hr hf
 ·rw [List.mem_singleton.1 hx] at hr hf;exact hb r hr hf
theorem F24.done {out:List Int} (h2:∀ x ∈ out,∀ q ∈ fwd x,q ∈ out) (h4:F4 out out.length):∀ x ∈ out,∀ q ∈ besP x,q ∈ out:=fun x hx q hq=>by
 rcases bes_fwd hq with h|⟨h,k⟩
 ·exact h2 x hx q h
 ·exact h4 x (by rw [List.take_length];exact hx) q h k
/-- loop 3: of the first j beside x all are in -/
def In3 (p:Int) (i j:Nat) (x:Int) (out:List Int):Prop:=OrbSt p out∧F2 out i∧(∃ h:i < out.length,out[i]=x)∧∀ q ∈ (fwd x).take j,q ∈ out
theorem In3.skip {p x q:Int} {i j:Nat} {out:List Int} (h:In3 p i j x out) (hj:j < (fwd x).length) (hq:(fwd x)[j]=q) (hm:hasI out q=true):In3 p i (j+1) x out :=
 ⟨h.1,h.2.1,h.2.2.1,fun r hr=>by
  rw [take_snoc' _ j hj] at hr
  rcases List.mem_append.1 hr with hr|hr
  ·exact h.2.2.2 r hr
  ·rw [List.mem_singleton.1 hr,hq];exact (hasI_iff out q).1 hm⟩
theorem In3.more {p x q:Int} {i j:Nat} {out:List Int} (h0:0≤p) (h1:p≤1114111) (h:In3 p i j x out) (hj:j < (fwd x).length) (hq:(fwd x)[j]=q) (hm:hasI out q=false):In3 p i (j+1) x (out ++ [q]):=by
 obtain ⟨hi,hxi⟩:=h.2.2.1
 have hqo:q ∈ orb p:=orb_closed h0 h1 (x:=x) (h.1.sub x (by rw [← hxi];exact List.getElem_mem hi)) (fwd_bes (by rw [← hq];exact List.getElem_mem hj))
 refine ⟨h.1.snoc hqo hm,h.2.1.snoc (by omega) q,⟨by simp;omega,by rw [List.getElem_append_left hi];exact hxi⟩,fun r hr=>?_⟩
 rw [take_snoc' _ j hj] at hr
 rcases List.mem_append.1 hr with hr|hr
 ·exact List.mem_append_left _ (h.2.2.2 r hr)
 ·rw [List.mem_singleton.1 hr,hq];exact List.mem_append_right _ (by simp)
theorem In3.done {p x:Int} {i j:Nat} {out:List Int} (h:In3 p i j x out) (hj:(fwd x).length≤j):OrbSt p out∧F2 out (i+1):=by
 obtain ⟨hi,hxi⟩:=h.2.2.1
 refine ⟨h.1,h.2.1.succ hi fun q hq=>h.2.2.2 q ?_⟩
 rw [List.take_of_length_le hj,← hxi];exact hq
/-- loop 5 -/
def In5 (p:Int) (i j:Nat) (x:Int) (out:List Int):Prop:=OrbSt p out∧F4 out i∧(∃ h:i < out.length,out[i]=x)∧∀ q ∈ (near x).take j,x ∈ fwd q→q ∈ out
theorem In5.skip {p x q:Int} {i j:Nat} {out:List Int} (h:In5 p i j x out) (hj:j < (near x).length) (hq:(near x)[j]=q) (hm:x ∈ fwd q→q ∈ out):In5 p i (j+1) x out :=
 ⟨h.1,h.2.1,h.2.2.1,fun r hr hf=>by
  rw [take_snoc' _ j hj] at hr
  rcases List.mem_append.1 hr with hr|hr
  ·exact h.2.2.2 r hr hf
  ·rw [List.mem_singleton.1 hr,hq] at hf ⊢;exact hm hf⟩
theorem In5.more {p x q:Int} {i j:Nat} {out:List Int} (h0:0≤p) (h1:p≤1114111) (h:In5 p i j x out) (hj:j < (near x).length) (hq:(near x)[j]=q) (hx:x ∈ fwd q) (hm:hasI out q=false):In5 p i (j+1) x (out ++ [q]):=by
 obtain ⟨hi,hxi⟩:=h.2.2.1
 have hqo:q ∈ orb p:=orb_closed h0 h1 (x:=x) (h.1.sub x (by rw [← hxi];exact List.getElem_mem hi)) (besP_sym (fwd_bes hx))
 refine ⟨h.1.snoc hqo hm,h.2.1.snoc (by omega) q,⟨by simp;omega,by rw [List.getElem_append_left hi];exact hxi⟩,fun r hr hf=>?_⟩
 rw [take_snoc' _ j hj] at hr
 rcases List.mem_append.1 hr with hr|hr
 ·exact List.mem_append_left _ (h.2.2.2 r hr hf)
 ·rw [List.mem_singleton.1 hr,hq];exact List.mem_append_right _ (by simp)
theorem In5.done {p x:Int} {i j:Nat} {out:List Int} (h:In5 p i j x out) (hj:(near x).length≤j):OrbSt p out∧F4 out (i+1):=by
 obtain ⟨hi,hxi⟩:=h.2.2.1
 refine ⟨h.1,h.2.1.succ hi fun q hq hf=>h.2.2.2 q ?_ ?_⟩
 ·rw [List.take_of_length_le hj,← hxi];exact hq
 ·rw [← hxi];exact hf
/-- a number that was not in, taken in, is one more -/
def Grew (ch:Bool) (t0 t:Nat):Prop:=t0≤t∧(ch=true→t0 < t)
end Go.Proofs.YtbiahhojnjchnaaGreat
namespace Go.Proofs.YtbiahhojnjchnaaGreat
open Go.RowKit
theorem run_append_zero {P:Program} (w:World) (t ty e:TypeId) (i:TypeInfo) (ht:P.underlying t=some (.slice e)) (hi:P.info? e=some i) (A A':Option Addr) (n cap c:Nat) (hnc:n≤cap) :
  (Builtin.append_ #[t,t] ty #[.slice A n cap,.slice A' 0 c]).run P w=.ok (.slice A n cap) w:=by
 cases A' with
 | none=>cases A<;>simp [Builtin.append_,run_underlying ht,sizeOf,typeInfo,hi,Builtin.lenOf,Builtin.firstCells,hnc,storeCells]
 | some a=>cases A<;>simp [Builtin.append_,run_underlying ht,sizeOf,typeInfo,hi,Builtin.lenOf,Builtin.firstCells,hnc,storeCells,loadCells,loadCellsFrom]
set_option maxRecDepth 100000 in
theorem step_full_ints {w:World} {ops:Array Oper} {o:Oper} {a:Act} {K:Act→World→Prop} {Q:Exit→Act→World→Prop} {E:Prop} (s x:Operand) {B B' n m c:Nat} {ad:Addr} {A':Option Addr} {xs ys:List Int}
  (hs:Rds w B 1 (some ad) n (ints xs)) (hr:Rds w B' 1 A' m (ints ys)) (hB:B≤w.heap.size) (hlen:n+m≤1000000000) (hgd:o.guard=none)
  (ho:o.op=.call { callee:=.builtin .append,args:=#[s,x],argTypes:=#[22,22] }) (hs1:a.eval s=.slice (some ad) n n) (hx:a.eval x=.slice A' m c)
  (h:∀ A2 c2 w',n+m≤c2→c2≤maxLen→Rds w' w'.heap.size 1 A2 (n+m) (ints (xs ++ ys))→w.grownBy w' none→(∀ y,A2=some y→y=ad∨(w.heap.size≤y.block∧y.block < w'.heap.size))→K (a.put o.dst (.slice A2 (n+m) c2)) w') :
  if Region.wanted o (yielded ops a.tmps)=true then Oper.wp Tryz.prog o a w K Q else E:=by
 obtain ⟨i0,hi0,hz0,hz1,hz2⟩:=info_parts int_info
 rcases Nat.eq_zero_or_pos m with h0|h0
 ·subst h0
  have hys:ys=[]:=List.eq_nil_of_length_eq_zero hr.ints_len
  subst hys
  have hw:Region.wanted o (yielded ops a.tmps)=true:=by simp [Region.wanted,hgd]
  rw [if_pos hw]
  have hrun:=run_append_zero (P:=Tryz.prog) w 22 o.type 3 i0 Tryz.underlying22 hi0 (some ad) A' n n c (Nat.le_refl _)
  unfold Oper.wp
  simp [execOp,ho,resolve,invoke,builtin,hs1,hx,hrun,Result.andThen]
  refine h (some ad) n w (by omega) (by unfold maxLen;omega) (by simpa using hs.more hB) (World.grownBy.refl w _) (fun y hy=>.inl ?_)
  injection hy with hy;exact hy.symm
 ·obtain ⟨b2,o2,rfl,_,c2⟩:=hr.2 h0
  have addr:∀ (x:Addr) (j:Nat),x.spot=none→x.add j=⟨x.block,x.off+j,none⟩:=fun x j hx=>by
   obtain ⟨b,off,sp⟩:=x
   simp at hx;subst hx
   by_cases hj:j=0
   ·subst hj;simp [Addr.add]
   ·simp [Addr.add,hj]
  refine step_append_grows hgd s x _ ho 3 i0 _ 1 8 Tryz.underlying22 hi0 hz0 hz1 hz2 rfl (by omega) (some ad) n n (ints xs) hs1 (fun e=>absurd e (Option.some_ne_none _)) hs.1 (fun b e j u hu=>?_)
   ⟨b2,o2,none⟩ m c (ints ys) hx hr.1 (fun j u hu=>by rw [addr _ _ rfl];exact c2 j u hu) (ints_one _) (by omega) (by unfold maxLen;omega) (by omega) ?_
  ·injection e with e
   subst e
   have hjn:0 < n:=by
    rcases Nat.eq_zero_or_pos n with k|k
    ·have:=hs.ints_len;rw [k] at this;have:=List.eq_nil_of_length_eq_zero this;subst this;simp [ints] at hu
    ·exact k
   obtain ⟨b1,o1,e1,_,c1⟩:=hs.2 hjn
   injection e1 with e1
   subst e1
   rw [addr _ _ rfl];exact c1 j u hu
  ·intro v' w' h1 h2
   obtain ⟨A2,cc,rfl,q1,q2⟩:=own_slice h1
   refine h A2 cc w' q1 q2 (by rw [ints_append];exact Rds.of_own h1) h2 (fun y hy=>.inr ?_)
   subst hy
   exact h1.lt _ rfl
end Go.Proofs.YtbiahhojnjchnaaGreat
