/-
  A pattern that came in, opened (its names; the tree as it may be).
-/
import Derived.Test.YtbiahhojnjchnaaGreatPnS
import Derived.SizedLaws
import Derived.Test.YtbiahhojnjchnaaGreatRows
set_option linter.unusedVariables false
set_option linter.unusedSimpArgs false
namespace Go.Proofs.YtbiahhojnjchnaaGreat
open Go.RowKit
def patVals (d:ND) (gr:Int) (nA:Option Addr) (nn nc:Nat):List Value:=ND.vals d ++ [.int .i64 gr,.slice nA nn nc]
theorem patV_eq (d:ND) (gr:Int) (nA:Option Addr) (nn nc:Nat):patV d gr nA nn nc=.agg (patVals d gr nA nn nc).toArray:=rfl
section
open Go.ChangeShapes Go.WideShapes Go.Deep
variable {H:Type} {enc:TypeId × Value→H} {P:Program} {W:World} {base:Nat} {held:Bool}
theorem arg_slice_w {t e:TypeId} {size:Nat} {α:Type} {vals:α→List Value} {Q:DataW H→α→Prop} {fuel:Nat} {cs:List Value} {x:DataW H × List MemPlace} (ht:P.underlying t=some (.slice e)) (hc:P.cellsOf e=size) (hsz:0 < size)
  (hv:∀ u,(vals u).length=size)
  (hel:∀ n cs' y,n < fuel→DataW.trod enc P W base (fun _=>true) held n e cs'=some y→∃ u,cs'=vals u∧Q y.1 u)
  (h:DataW.trod enc P W base (fun _=>true) held fuel t cs=some x) :
  ∃ (A:Option Addr) (n c:Nat) (l:List α),cs=[.slice A n c]∧n≤c∧c≤maxLen∧Rds W W.heap.size size A n (l.flatMap vals)∧l.length=n ∧
   ∀ u ∈ l,∃ es sp,x.1=.slice es sp∧es.length=n∧∃ y ∈ es,Q y u:=by
 rcases DataW.trod_slice ht h with ⟨rfl,_⟩|⟨a,len,cap,elems,rest,n,rfl,rfl,rfl,hb,hl,hm,hlen,hi,_,_⟩
 ·exact ⟨none,0,0,[],rfl,Nat.le_refl _,Nat.zero_le _,Rds.nil_ _ _ _ _,rfl,by simp⟩
 ·have hone:∀ i,i < len→∃ u,(∃ y ∈ elems.map (·.1),Q y u)∧∀ j v,(vals u)[j]?=some v→W.cell? (a.add (i * size+j))=some v:=by
   intro i hil
   have h1:=hi i hil
   have h2:elems[i]?=some (elems[i]'(by omega)):=List.getElem?_eq_getElem _
   rw [h2] at h1
   obtain ⟨cs',hcc,htt⟩:=Option.bind_eq_some_iff.1 h1
   obtain ⟨u,hu,hq⟩:=hel n cs' _ (Nat.lt_succ_self n) htt
   subst hu
   rw [hc] at hcc
   obtain ⟨_,hcl,hat⟩:=World.cells?_some hcc
   refine ⟨u,⟨_,List.mem_map.2 ⟨_,List.getElem_mem (by omega),rfl⟩,hq⟩,fun j v hj=>?_⟩
   have hjs:j < size:=by
    rcases Nat.lt_or_ge j size with h|h
    ·exact h
    ·rw [List.getElem?_eq_none (by rw [hv];exact h)] at hj;cases hj
   have:=hat j hjs
   rw [Go.Deep.add_add] at this
   rw [this,hj]
  have hex:∀ k,k≤len→∃ l:List α,l.length=k∧(∀ u ∈ l,∃ y ∈ elems.map (·.1),Q y u)∧∀ j v,(l.flatMap vals)[j]?=some v→W.cell? (a.add j)=some v:=by
   intro k
   induction k with
   | zero=>intro _;exact ⟨[],rfl,by simp,by simp⟩
   | succ k ih =>
    intro hk
    obtain ⟨l,hl1,hl2,hl3⟩:=ih (by omega)
    obtain ⟨u,hq,hu⟩:=hone k (by omega)
    refine ⟨l ++ [u],by simp [hl1],fun y hy=>?_,fun j v hj=>?_⟩
    ·rcases List.mem_append.1 hy with hy|hy
     ·exact hl2 y hy
     ·rw [List.mem_singleton.1 hy];exact hq
    ·have hfl:(l.flatMap vals).length=k * size:=by
      rw [← hl1]
      clear hl1 hl2 hl3 hj
      induction l with
      | nil=>simp
      | cons y l ih=>rw [List.flatMap_cons,List.length_append,ih,hv,List.length_cons,Nat.succ_mul];omega
     rw [List.flatMap_append] at hj
     by_cases hj2:j < (l.flatMap vals).length
     ·rw [List.getElem?_append_left hj2] at hj;exact hl3 j v hj
     ·rw [List.getElem?_append_right (by omega)] at hj
      have:=hu (j - (l.flatMap vals).length) v (by simpa using hj)
      rw [hfl] at this hj2
      rwa [show k * size+(j - k * size)=j by omega] at this
  obtain ⟨l,hl1,hl2,hl3⟩:=hex len (Nat.le_refl _)
  have hfl:(l.flatMap vals).length=len * size:=by
   rw [← hl1]
   clear hl1 hl2 hl3
   induction l with
   | nil=>simp
   | cons y l ih=>rw [List.flatMap_cons,List.length_append,ih,hv,List.length_cons,Nat.succ_mul];omega
  refine ⟨_,len,cap,l,rfl,hl,hm,⟨hfl,fun hn=>?_⟩,hl1,fun u hu=>⟨_,_,rfl,by rw [List.length_map];exact hlen,hl2 u hu⟩⟩
  have h0:∃ v,(l.flatMap vals)[0]?=some v:=⟨_,List.getElem?_eq_getElem (by rw [hfl];exact Nat.mul_pos hn hsz)⟩
  obtain ⟨v,hv0⟩:=h0
  have c0:=hl3 0 v hv0
  obtain ⟨b,off,spot⟩:=a
  obtain rfl:spot=none:=addr_flat c0
  refine ⟨b,off,rfl,World.block_lt_of_cell? W _ (by rw [addr_add] at c0;exact c0),fun j u hu=>?_⟩
  have:=hl3 j u hu
  rwa [addr_add] at this
/-- the fields of a struct of one-cell fields, opened, with the data that they are -/
theorem arg_fields_w {t:TypeId} {fs:Array Field} {fuel:Nat} {cs:List Value} {x:DataW H × List MemPlace} (ht:P.underlying t=some (.struct fs)) (hone:oneCellFields P fs=true) (hc:P.cellsOf t=fs.size)
  (h:DataW.trod enc P W base (fun _=>true) held fuel t cs=some x) :
  cs.length=fs.size∧∃ n parts,n < fuel∧x.1=.agg parts∧∀ (i:Nat) (f:Field),fs[i]?=some f→∃ v y,cs[i]?=some v∧DataW.trod enc P W base (fun _=>true) held n f.type [v]=some y∧parts[i]?=some y.1:=by
 obtain ⟨xs,n,rfl,rfl,hlen,hxs,hff⟩:=DataW.trod_struct ht h
 rw [hc] at hlen
 refine ⟨hlen,n,_,Nat.lt_succ_self n,rfl,fun i f hf=>?_⟩
 have hi:i < fs.size:=(Array.getElem?_eq_some_iff.1 hf).1
 obtain ⟨o,k⟩:=hone_of hone i f hf
 have:=hff i f hf
 rw [o,k] at this
 have h1:cs[i]?=some (cs[i]'(by omega)):=List.getElem?_eq_getElem _
 have h2:(cs.drop i).take 1=[cs[i]'(by omega)]:=by
  rw [List.drop_eq_getElem_cons (by omega)];rfl
 rw [h2] at this
 refine ⟨_,xs[i]'(by omega),h1,?_,?_⟩
 ·rw [this]
  exact List.getElem?_eq_getElem _
 ·rw [List.getElem?_map,List.getElem?_eq_getElem (by omega:i < xs.length)];rfl
theorem slice_val {t e:TypeId} {fuel:Nat} {v:Value} {x:DataW H × List MemPlace} (ht:P.underlying t=some (.slice e)) (h:DataW.trod enc P W base (fun _=>true) held fuel t [v]=some x):∃ A n c,v=.slice A n c:=by
 rcases DataW.trod_slice ht h with ⟨h1,_⟩|⟨a,len,cap,elems,rest,n,_,h1,_⟩
 ·exact ⟨_,_,_,by simpa using h1⟩
 ·exact ⟨_,_,_,by simpa using h1⟩
end
section
open Go.ChangeShapes Go.WideShapes Go.Deep
variable {H:Type} {enc:TypeId × Value→H} {W:World} {base:Nat} {held:Bool}
theorem arg_name {fuel:Nat} {cs:List Value} {x:DataW H × List MemPlace} (h:DataW.trod enc Tryz.prog W base (fun _=>true) held fuel 55 cs=some x):∃ u:ByteArray × Int,cs=nmVals u:=by
 obtain ⟨hl,n,parts,hn,hx,hf⟩:=arg_fields_w Tryz.underlying55 (by kernel_rfl) (by kernel_rfl) h
 obtain ⟨v0,y0,a0,t0,p0⟩:=hf 0 _ rfl
 obtain ⟨v1,y1,a1,t1,_⟩:=hf 1 _ rfl
 obtain ⟨s,b0,g0,hs⟩:=DataW.trod_string Tryz.underlying9 t0
 obtain ⟨z,b1,_,hz⟩:=DataW.trod_int Tryz.underlying3 t1
 simp at b0 b1
 subst b0 b1
 refine ⟨(s,z),?_⟩
 match cs,hl with
 | [c0,c1],_ =>
  simp at a0 a1
  subst a0 a1
  rfl
theorem arg_nd {fuel:Nat} {cs:List Value} {x:DataW H × List MemPlace} (h:DataW.trod enc Tryz.prog W base (fun _=>true) held fuel 42 cs=some x):∃ d:ND,cs=ND.vals d:=by
 obtain ⟨hl,n,parts,hn,hx,hf⟩:=arg_fields_w Tryz.underlying42 (by kernel_rfl) (by kernel_rfl) h
 obtain ⟨v0,y0,a0,t0,_⟩:=hf 0 _ rfl
 obtain ⟨v1,y1,a1,t1,_⟩:=hf 1 _ rfl
 obtain ⟨v2,y2,a2,t2,_⟩:=hf 2 _ rfl
 obtain ⟨v3,y3,a3,t3,_⟩:=hf 3 _ rfl
 obtain ⟨v4,y4,a4,t4,_⟩:=hf 4 _ rfl
 obtain ⟨v5,y5,a5,t5,_⟩:=hf 5 _ rfl
 obtain ⟨v6,y6,a6,t6,_⟩:=hf 6 _ rfl
 obtain ⟨v7,y7,a7,t7,_⟩:=hf 7 _ rfl
 obtain ⟨z0,b0,_,_⟩:=DataW.trod_int Tryz.underlying3 t0
 obtain ⟨sA,sn,sc,b1⟩:=slice_val Tryz.underlying23 t1
 obtain ⟨kA,kn,kc,b2⟩:=slice_val Tryz.underlying40 t2
 obtain ⟨z3,b3,_,_⟩:=DataW.trod_int Tryz.underlying3 t3
 obtain ⟨z4,b4,_,_⟩:=DataW.trod_int Tryz.underlying3 t4
 obtain ⟨z5,b5,_,_⟩:=DataW.trod_int Tryz.underlying3 t5
 obtain ⟨z6,b6,_,_⟩:=DataW.trod_int Tryz.underlying3 t6
 obtain ⟨z7,b7,_⟩:=DataW.trod_bool Tryz.underlying4 t7
 simp at b0 b3 b4 b5 b6 b7
 subst b0 b1 b2 b3 b4 b5 b6 b7
 refine ⟨⟨z0,sA,sn,sc,kA,kn,kc,z3,z4,z5,z6,z7⟩,?_⟩
 match cs,hl with
 | [c0,c1,c2,c3,c4,c5,c6,c7],_ =>
  simp at a0 a1 a2 a3 a4 a5 a6 a7
  subst a0 a1 a2 a3 a4 a5 a6 a7
  rfl
theorem nms_flat (l:List (ByteArray × Int)):l.flatMap nmVals=nms l:=rfl
set_option maxRecDepth 10000 in
theorem arg_pnames {fuel:Nat} {cs:List Value} {x:DataW H × List MemPlace} (h:DataW.trod enc Tryz.prog W base (fun _=>true) held fuel 45 cs=some x) :
  ∃ (d:ND) (gr:Int) (nA:Option Addr) (nn nc:Nat) (ns:List (ByteArray × Int)),cs=patVals d gr nA nn nc∧Rds W W.heap.size 2 nA nn (nms ns)∧nn≤maxLen:=by
 obtain ⟨xs,n,rfl,rfl,hlen,hxs,hff⟩:=DataW.trod_struct Tryz.underlying45 h
 rw [show Tryz.prog.cellsOf 45=10 by kernel_rfl] at hlen
 have f0:DataW.trod enc Tryz.prog W base (fun _=>true) held n 42 ((cs.drop 0).take (Tryz.prog.cellsOf 42))=xs[0]?:=hff 0 _ rfl
 have f1:DataW.trod enc Tryz.prog W base (fun _=>true) held n 3 ((cs.drop 8).take (Tryz.prog.cellsOf 3))=xs[1]?:=hff 1 _ rfl
 have f2:DataW.trod enc Tryz.prog W base (fun _=>true) held n 43 ((cs.drop 9).take (Tryz.prog.cellsOf 43))=xs[2]?:=hff 2 _ rfl
 rw [show Tryz.prog.cellsOf 42=8 by kernel_rfl] at f0
 rw [show Tryz.prog.cellsOf 3=1 by kernel_rfl] at f1
 rw [show Tryz.prog.cellsOf 43=1 by kernel_rfl] at f2
 match xs,hxs with
 | [x0,x1,x2],_ =>
  simp only [List.getElem?_cons_zero,List.getElem?_cons_succ] at f0 f1 f2
  obtain ⟨d,e0⟩:=arg_nd f0
  obtain ⟨gr,e1,_,hgr⟩:=DataW.trod_int Tryz.underlying3 f1
  obtain ⟨nA,nn,nc,ns,e2,hnc,hcm,hr,hnl,hq⟩:=arg_slice_w (α:=ByteArray × Int) (vals:=nmVals) (Q:=fun _ _=>True) (size:=2) Tryz.underlying43 (by kernel_rfl) (by decide) (fun _=>rfl) (fun m cs' y _ hy=>by
   obtain ⟨u,h1⟩:=arg_name hy
   exact ⟨u,h1,trivial⟩) f2
  refine ⟨d,gr,nA,nn,nc,ns,?_,by rw [nms_flat] at hr;exact hr,Nat.le_trans hnc hcm⟩
  unfold patVals
  rw [← e0]
  simp only [List.drop_zero] at e1 e2 ⊢
  have h3:cs=cs.take 8 ++ ((cs.drop 8).take 1 ++ (cs.drop 9).take 1):=by
   match cs,hlen with
   | [c0,c1,c2,c3,c4,c5,c6,c7,c8,c9],_=>rfl
  rw [e1,e2] at h3
  exact h3
end
end Go.Proofs.YtbiahhojnjchnaaGreat
