/-
  Trees in memory: a node is a row of eight values, its kids a slice of such rows. Read; kept; opened from what came in.
-/
import Derived.Test.YtbiahhojnjchnaaGreatBase
import Derived.Test.YtbiahhojnjchnaaGreatTree
set_option linter.unusedVariables false
set_option linter.unusedSimpArgs false
namespace Go.Proofs.YtbiahhojnjchnaaGreat
open Go.RowKit
/-- a node's values -/
structure ND where
 kind:Int
 sA:Option Addr
 sn:Nat
 sc:Nat
 kA:Option Addr
 kn:Nat
 kc:Nat
 num:Int
 least:Int
 most:Int
 way:Int
 fold:Bool
def ND.vals (d:ND):List Value:=[.int .i64 d.kind,.slice d.sA d.sn d.sc,.slice d.kA d.kn d.kc,.int .i64 d.num,.int .i64 d.least,.int .i64 d.most,.int .i64 d.way,.bool d.fold]
def nds:List ND→List Value
 | []=>[]
 | d :: l=>d.vals ++ nds l
theorem nds_length (l:List ND):(nds l).length=l.length * 8:=by
 induction l with
 | nil=>rfl
 | cons d l ih=>rw [nds,List.length_append,ih,List.length_cons];show 8+_=_;omega
theorem nds_append (a b:List ND):nds (a ++ b)=nds a ++ nds b:=by
 induction a with
 | nil=>rfl
 | cons d a ih=>rw [List.cons_append,nds,nds,ih,List.append_assoc]
theorem nds_get (l:List ND) (k:Nat) (h:k < l.length) (j:Nat) (hj:j < 8):(nds l)[k * 8+j]?=l[k].vals[j]?:=by
 induction l generalizing k with
 | nil=>simp at h
 | cons d l ih =>
  cases k with
  | zero=>rw [nds,List.getElem?_append_left (by show 0 * 8+j < 8;omega)];simp
  | succ k =>
   rw [nds,List.getElem?_append_right (by show 8≤_;omega),show (k+1) * 8+j - d.vals.length=k * 8+j by show (k+1) * 8+j - 8=_;omega]
   exact ih k (by simpa using h)
mutual
/-- 'The values d are the tree t, in this world, below block B.' -/
inductive NodeAt (w:World) (B:Nat):Tr→ND→Prop
 | mk {s:List (Int × Int)} {ks:List Tr} {ds:List ND} {d:ND}:Rds w B 2 d.sA d.sn (rngs s)→d.sn≤d.sc→d.sc≤maxLen→Rds w B 8 d.kA d.kn (nds ds)→d.kn≤d.kc→d.kc≤maxLen→KidsAt w B ks ds →
   NodeAt w B (.mk d.kind s ks d.num d.least d.most d.way d.fold) d
inductive KidsAt (w:World) (B:Nat):List Tr→List ND→Prop
 | nil:KidsAt w B [] []
 | cons {t:Tr} {d:ND} {ts:List Tr} {ds:List ND}:NodeAt w B t d→KidsAt w B ts ds→KidsAt w B (t :: ts) (d :: ds)
end
theorem KidsAt.len {w:World} {B:Nat}:∀ {ts:List Tr} {ds:List ND},KidsAt w B ts ds→ts.length=ds.length
 | _,_,.nil=>rfl
 | _,_,.cons _ h=>by simp [KidsAt.len h]
theorem KidsAt.at {w:World} {B:Nat}:∀ {ts:List Tr} {ds:List ND},KidsAt w B ts ds→∀ k (h:k < ts.length) (h':k < ds.length),NodeAt w B ts[k] ds[k]
 | _,_,.nil,k,h,_=>by simp at h
 | _,_,.cons h0 hs,0,_,_=>h0
 | _,_,.cons h0 hs,k+1,h,h'=>hs.at k (by simpa using h) (by simpa using h')
theorem KidsAt.of {w:World} {B:Nat}:∀ {ts:List Tr} {ds:List ND},ts.length=ds.length→(∀ k (h:k < ts.length) (h':k < ds.length),NodeAt w B ts[k] ds[k])→KidsAt w B ts ds
 | [],[],_,_=>.nil
 | t :: ts,d :: ds,hl,h=>.cons (h 0 (by simp) (by simp)) (KidsAt.of (by simpa using hl) fun k h1 h2=>h (k+1) (by simpa using h1) (by simpa using h2))
 | [],_ :: _,hl,_=>by simp at hl
 | _ :: _,[],hl,_=>by simp at hl
/-- what a node's values say -/
structure NodeOf (w:World) (B:Nat) (t:Tr) (d:ND) (ds:List ND):Prop where
 kind:d.kind=t.kind
 num:d.num=t.num
 least:d.least=t.least
 most:d.most=t.most
 way:d.way=t.way
 fold:d.fold=t.fold
 set:Rds w B 2 d.sA d.sn (rngs t.set)
 sc1:d.sn≤d.sc
 sc2:d.sc≤maxLen
 kids:Rds w B 8 d.kA d.kn (nds ds)
 kc1:d.kn≤d.kc
 kc2:d.kc≤maxLen
 each:KidsAt w B t.kids ds
theorem NodeAt.of {w:World} {B:Nat} {t:Tr} {d:ND} (h:NodeAt w B t d):∃ ds,NodeOf w B t d ds:=by
 cases h with
 | @mk s ks ds d h1 h2 h3 h4 h5 h6 h7=>exact ⟨ds,⟨rfl,rfl,rfl,rfl,rfl,rfl,h1,h2,h3,h4,h5,h6,h7⟩⟩
theorem NodeOf.node {w:World} {B:Nat} {t:Tr} {d:ND} {ds:List ND} (h:NodeOf w B t d ds):NodeAt w B t d:=by
 obtain ⟨h1,h2,h3,h4,h5,h6,h7,h8,h9,h10,h11,h12,h13⟩:=h
 cases t
 simp only [Tr.kind,Tr.num,Tr.least,Tr.most,Tr.way,Tr.fold,Tr.set,Tr.kids] at *
 subst h1 h2 h3 h4 h5 h6
 exact .mk h7 h8 h9 h10 h11 h12 h13
theorem NodeOf.knum {w:World} {B:Nat} {t:Tr} {d:ND} {ds:List ND} (h:NodeOf w B t d ds):t.kids.length=d.kn∧ds.length=d.kn:=by
 have h1:=h.kids.1
 rw [nds_length] at h1
 have h2:=h.each.len
 omega
theorem NodeOf.snum {w:World} {B:Nat} {t:Tr} {d:ND} {ds:List ND} (h:NodeOf w B t d ds):t.set.length=d.sn:=h.set.rngs_len
/-- A tree stays, wherever what it reads stays. -/
theorem NodeAt.map {w w':World} {B B':Nat} (f:∀ {size n:Nat} {A:Option Addr} {xs:List Value},Rds w B size A n xs→Rds w' B' size A n xs) (t:Tr):∀ d,NodeAt w B t d→NodeAt w' B' t d:=by
 refine tree_ind (P:=fun t=>∀ d,NodeAt w B t d→NodeAt w' B' t d) (fun t ih d h=>?_) t
 obtain ⟨ds,h⟩:=h.of
 refine (NodeOf.node (ds:=ds) ⟨h.kind,h.num,h.least,h.most,h.way,h.fold,f h.set,h.sc1,h.sc2,f h.kids,h.kc1,h.kc2,KidsAt.of h.each.len fun k h1 h2=>?_⟩)
 exact ih _ (List.getElem_mem h1) _ (h.each.at k h1 h2)
theorem NodeAt.next {w w':World} {t:Tr} {d:ND} (h:NodeAt w w.heap.size t d) (hb:Below w.heap.size w w'):NodeAt w' w'.heap.size t d :=
 NodeAt.map (fun h=>(h.below hb (Nat.le_refl _)).more hb.size) t d h
/-- a kid, as a loop reads it -/
theorem Rds.node_at {w:World} {B n:Nat} {A:Option Addr} {l:List ND} (h:Rds w B 8 A n (nds l)) {k:Nat} (hk:k < n) :
  ∃ b off,∃ hl:k < l.length,A=some ⟨b,off,none⟩∧b < B∧w.cell? ⟨b,off+k * 8,none⟩=some (.int .i64 l[k].kind)∧w.cell? ⟨b,off+k * 8+1,none⟩=some (.slice l[k].sA l[k].sn l[k].sc) ∧
   w.cell? ⟨b,off+k * 8+2,none⟩=some (.slice l[k].kA l[k].kn l[k].kc)∧w.cell? ⟨b,off+k * 8+3,none⟩=some (.int .i64 l[k].num)∧w.cell? ⟨b,off+k * 8+4,none⟩=some (.int .i64 l[k].least) ∧
   w.cell? ⟨b,off+k * 8+5,none⟩=some (.int .i64 l[k].most)∧w.cell? ⟨b,off+k * 8+6,none⟩=some (.int .i64 l[k].way)∧w.cell? ⟨b,off+k * 8+7,none⟩=some (.bool l[k].fold):=by
 obtain ⟨b,off,e,hb,hc⟩:=h.2 (by omega)
 have hl:k < l.length:=by have:=h.1;rw [nds_length] at this;omega
 have g:=fun j hj u (hu:l[k].vals[j]?=some u)=>hc (k * 8+j) u ((nds_get l k hl j hj).trans hu)
 exact ⟨b,off,hl,e,hb,g 0 (by decide) _ rfl,g 1 (by decide) _ rfl,g 2 (by decide) _ rfl,g 3 (by decide) _ rfl,g 4 (by decide) _ rfl,g 5 (by decide) _ rfl,g 6 (by decide) _ rfl,g 7 (by decide) _ rfl⟩
/-! ### a tree that came in, opened -/
section
open Go.ChangeShapes Go.WideShapes Go.Deep
variable {H:Type} {enc:TypeId × Value→H} {P:Program} {W:World} {base:Nat} {held:Bool}
theorem arg_slice {t e:TypeId} {size:Nat} {α:Type} {vals:α→List Value} {Q:α→Prop} {fuel:Nat} {cs:List Value} {x:DataW H × List MemPlace} (ht:P.underlying t=some (.slice e)) (hc:P.cellsOf e=size) (hsz:0 < size)
  (hv:∀ u,(vals u).length=size)
  (hel:∀ n cs' y,n < fuel→DataW.trod enc P W base (fun _=>true) held n e cs'=some y→∃ u,cs'=vals u∧Q u)
  (h:DataW.trod enc P W base (fun _=>true) held fuel t cs=some x) :
  ∃ (A:Option Addr) (n c:Nat) (l:List α),cs=[.slice A n c]∧n≤c∧c≤maxLen∧Rds W W.heap.size size A n (l.flatMap vals)∧l.length=n∧∀ u ∈ l,Q u:=by
 rcases DataW.trod_slice ht h with ⟨rfl,_⟩|⟨a,len,cap,elems,rest,n,rfl,rfl,_,hb,hl,hm,hlen,hi,_,_⟩
 ·exact ⟨none,0,0,[],rfl,Nat.le_refl _,Nat.zero_le _,Rds.nil_ _ _ _ _,rfl,by simp⟩
 ·have hone:∀ i,i < len→∃ u,Q u∧∀ j v,(vals u)[j]?=some v→W.cell? (a.add (i * size+j))=some v:=by
   intro i hil
   have h1:=hi i hil
   have h2:elems[i]?=some (elems[i]'(by omega)):=List.getElem?_eq_getElem _
   rw [h2] at h1
   obtain ⟨cs',hcc,htt⟩:=Option.bind_eq_some_iff.1 h1
   obtain ⟨u,hu,hq⟩:=hel n cs' _ (Nat.lt_succ_self n) htt
   subst hu
   rw [hc] at hcc
   obtain ⟨_,hcl,hat⟩:=World.cells?_some hcc
   refine ⟨u,hq,fun j v hj=>?_⟩
   have hjs:j < size:=by
    rcases Nat.lt_or_ge j size with h|h
    ·exact h
    ·rw [List.getElem?_eq_none (by rw [hv];exact h)] at hj;cases hj
   have:=hat j hjs
   rw [Go.Deep.add_add] at this
   rw [this,hj]
  have hex:∀ k,k≤len→∃ l:List α,l.length=k∧(∀ u ∈ l,Q u)∧∀ j v,(l.flatMap vals)[j]?=some v→W.cell? (a.add j)=some v:=by
   intro k
   induction k with
   | zero=>intro _;exact ⟨[],rfl,by simp,by simp⟩
   | succ k ih =>
    intro hk
    obtain ⟨l,hl1,hl2,hl3⟩:=ih (by omega)
    obtain ⟨u,hq,hu⟩:=hone k (by omega)
    refine ⟨l ++ [u],by simp [hl1],fun y hy=>?_,fun j v hj=>?_⟩
    ·rcases List.mem_append.1 hy with hy|hy
     ·exact hl2 y hy
     ·rw [List.mem_singleton.1 hy];exact hq
    ·have hfl:(l.flatMap vals).length=k * size:=by
      rw [← hl1]
      clear hl1 hl2 hl3 hj
      induction l with
      | nil=>simp
      | cons y l ih=>rw [List.flatMap_cons,List.length_append,ih,hv,List.length_cons,Nat.succ_mul];omega
     rw [List.flatMap_append] at hj
     by_cases hj2:j < (l.flatMap vals).length
     ·rw [List.getElem?_append_left hj2] at hj;exact hl3 j v hj
     ·rw [List.getElem?_append_right (by omega)] at hj
      have:=hu (j - (l.flatMap vals).length) v (by simpa using hj)
      rw [hfl] at this hj2
      rwa [show k * size+(j - k * size)=j by omega] at this
  obtain ⟨l,hl1,hl2,hl3⟩:=hex len (Nat.le_refl _)
  have hfl:(l.flatMap vals).length=len * size:=by
   rw [← hl1]
   clear hl1 hl2 hl3
   induction l with
   | nil=>simp
   | cons y l ih=>rw [List.flatMap_cons,List.length_append,ih,hv,List.length_cons,Nat.succ_mul];omega
  refine ⟨_,len,cap,l,rfl,hl,hm,⟨hfl,fun hn=>?_⟩,hl1,hl2⟩
  have h0:∃ v,(l.flatMap vals)[0]?=some v:=⟨_,List.getElem?_eq_getElem (by rw [hfl];exact Nat.mul_pos hn hsz)⟩
  obtain ⟨v,hv0⟩:=h0
  have c0:=hl3 0 v hv0
  obtain ⟨b,off,spot⟩:=a
  obtain rfl:spot=none:=addr_flat c0
  refine ⟨b,off,rfl,World.block_lt_of_cell? W _ (by rw [addr_add] at c0;exact c0),fun j u hu=>?_⟩
  have:=hl3 j u hu
  rwa [addr_add] at this
theorem nds_flat (l:List ND):l.flatMap ND.vals=nds l:=by
 induction l with
 | nil=>rfl
 | cons d l ih=>rw [List.flatMap_cons,ih];rfl
theorem rngsN_flat (l:List (Int × Int)):(l.flatMap fun r=>[Value.int .i64 r.1,Value.int .i64 r.2])=rngs l:=by
 induction l with
 | nil=>rfl
 | cons d l ih=>rw [List.flatMap_cons,ih];rfl
/-- the fields of a struct of one-cell fields, opened -/
theorem arg_fields {t:TypeId} {fs:Array Field} {fuel:Nat} {cs:List Value} {x:DataW H × List MemPlace} (ht:P.underlying t=some (.struct fs)) (hone:oneCellFields P fs=true) (hc:P.cellsOf t=fs.size)
  (h:DataW.trod enc P W base (fun _=>true) held fuel t cs=some x) :
  cs.length=fs.size∧∃ n,n < fuel∧∀ (i:Nat) (f:Field),fs[i]?=some f→∃ v y,cs[i]?=some v∧DataW.trod enc P W base (fun _=>true) held n f.type [v]=some y:=by
 obtain ⟨xs,n,rfl,_,hlen,hxs,hff⟩:=DataW.trod_struct ht h
 rw [hc] at hlen
 refine ⟨hlen,n,Nat.lt_succ_self n,fun i f hf=>?_⟩
 have hi:i < fs.size:=(Array.getElem?_eq_some_iff.1 hf).1
 obtain ⟨o,k⟩:=hone_of hone i f hf
 have:=hff i f hf
 rw [o,k] at this
 have h1:cs[i]?=some (cs[i]'(by omega)):=List.getElem?_eq_getElem _
 have h2:(cs.drop i).take 1=[cs[i]'(by omega)]:=by
  rw [List.drop_eq_getElem_cons (by omega)];rfl
 rw [h2] at this
 refine ⟨_,xs[i]'(by omega),h1,?_⟩
 rw [this]
 exact List.getElem?_eq_getElem _
theorem arg_rngs_cells {t e:TypeId} {f0 f1:Field} {fuel:Nat} {cs:List Value} {x:DataW H × List MemPlace} (ht:P.underlying t=some (.slice e)) (he:P.underlying e=some (.struct #[f0,f1]))
  (h0:P.underlying f0.type=some (.int .i64)) (h1:P.underlying f1.type=some (.int .i64)) (hone:oneCellFields P #[f0,f1]=true) (hc:P.cellsOf e=2)
  (h:DataW.trod enc P W base (fun _=>true) held fuel t cs=some x) :
  ∃ (A:Option Addr) (n c:Nat) (l:List (Int × Int)),cs=[.slice A n c]∧n≤c∧c≤maxLen∧Rds W W.heap.size 2 A n (rngs l):=by
 obtain ⟨A,n,c,l,g1,g2,g3,g4,_,_⟩:=arg_slice (α:=Int × Int) (vals:=fun r=>[.int .i64 r.1,.int .i64 r.2]) (Q:=fun _=>True) ht hc (by decide) (fun _=>rfl) (fun n cs' y _ hy=>by
  obtain ⟨hl,m,_,hf⟩:=arg_fields he hone hc hy
  obtain ⟨v0,y0,e0,t0⟩:=hf 0 f0 rfl
  obtain ⟨v1,y1,e1,t1⟩:=hf 1 f1 rfl
  obtain ⟨z0,k0,_,_⟩:=DataW.trod_int h0 t0
  obtain ⟨z1,k1,_,_⟩:=DataW.trod_int h1 t1
  simp at k0 k1
  subst k0 k1
  match cs',hl with
  | [c0,c1],_ =>
   simp at e0 e1
   subst e0 e1
   exact ⟨(z0,z1),rfl,trivial⟩) h
 rw [rngsN_flat] at g4
 exact ⟨A,n,c,l,g1,g2,g3,g4⟩
theorem arg_node {T S E:TypeId} {K:TypeId} {f0 f1 f2 f3 f4 f5 f6 f7 e0 e1:Field} (hT:P.underlying T=some (.struct #[f0,f1,f2,f3,f4,f5,f6,f7])) (hone:oneCellFields P #[f0,f1,f2,f3,f4,f5,f6,f7]=true) (hc:P.cellsOf T=8)
  (h0:P.underlying f0.type=some (.int .i64)) (h1:P.underlying f1.type=some (.slice E)) (hE:P.underlying E=some (.struct #[e0,e1])) (k0:P.underlying e0.type=some (.int .i64)) (k1:P.underlying e1.type=some (.int .i64)) (honeE:oneCellFields P #[e0,e1]=true) (hcE:P.cellsOf E=2)
  (h2:P.underlying f2.type=some (.slice T)) (h3:P.underlying f3.type=some (.int .i64)) (h4:P.underlying f4.type=some (.int .i64)) (h5:P.underlying f5.type=some (.int .i64)) (h6:P.underlying f6.type=some (.int .i64)) (h7:P.underlying f7.type=some .bool) :
  ∀ (fuel:Nat) (cs:List Value) (x:DataW H × List MemPlace),DataW.trod enc P W base (fun _=>true) held fuel T cs=some x→∃ (d:ND) (t:Tr),cs=d.vals∧NodeAt W W.heap.size t d:=by
 intro fuel
 induction fuel using Nat.strongRecOn with
 | _ fuel ih =>
  intro cs x h
  obtain ⟨hl,n,hn,hf⟩:=arg_fields hT hone hc h
  obtain ⟨v0,y0,a0,t0⟩:=hf 0 f0 rfl
  obtain ⟨v1,y1,a1,t1⟩:=hf 1 f1 rfl
  obtain ⟨v2,y2,a2,t2⟩:=hf 2 f2 rfl
  obtain ⟨v3,y3,a3,t3⟩:=hf 3 f3 rfl
  obtain ⟨v4,y4,a4,t4⟩:=hf 4 f4 rfl
  obtain ⟨v5,y5,a5,t5⟩:=hf 5 f5 rfl
  obtain ⟨v6,y6,a6,t6⟩:=hf 6 f6 rfl
  obtain ⟨v7,y7,a7,t7⟩:=hf 7 f7 rfl
  obtain ⟨z0,b0,_,_⟩:=DataW.trod_int h0 t0
  obtain ⟨z3,b3,_,_⟩:=DataW.trod_int h3 t3
  obtain ⟨z4,b4,_,_⟩:=DataW.trod_int h4 t4
  obtain ⟨z5,b5,_,_⟩:=DataW.trod_int h5 t5
  obtain ⟨z6,b6,_,_⟩:=DataW.trod_int h6 t6
  obtain ⟨z7,b7,_⟩:=DataW.trod_bool h7 t7
  obtain ⟨sA,sn,sc,s,b1,g1,g2,g3⟩:=arg_rngs_cells h1 hE k0 k1 honeE hcE t1
  obtain ⟨kA,kn,kc,ds,b2,g4,g5,g6,_,g7⟩:=arg_slice (α:=ND) (vals:=ND.vals) (Q:=fun d=>∃ t,NodeAt W W.heap.size t d) h2 hc (by decide) (fun _=>rfl) (fun m cs' y hm hy=>by
   obtain ⟨d,t,e,hd⟩:=ih m (by omega) cs' y hy
   exact ⟨d,e,t,hd⟩) t2
  simp at b0 b1 b2 b3 b4 b5 b6 b7
  subst b0 b1 b2 b3 b4 b5 b6 b7
  rw [nds_flat] at g6
  have hks:∀ l:List ND,(∀ u ∈ l,∃ t,NodeAt W W.heap.size t u)→∃ ks,KidsAt W W.heap.size ks l:=by
   intro l
   induction l with
   | nil=>intro _;exact ⟨[],.nil⟩
   | cons u l ih2 =>
    intro hu
    obtain ⟨t,ht⟩:=hu u (by simp)
    obtain ⟨ks,hks⟩:=ih2 fun x hx=>hu x (by simp [hx])
    exact ⟨t :: ks,.cons ht hks⟩
  obtain ⟨ks,hks⟩:=hks ds g7
  refine ⟨⟨z0,sA,sn,sc,kA,kn,kc,z3,z4,z5,z6,z7⟩,_,?_,.mk g3 g1 g2 g6 g4 g5 hks⟩
  match cs,hl with
  | [c0,c1,c2,c3,c4,c5,c6,c7],_ =>
   simp at a0 a1 a2 a3 a4 a5 a6 a7
   subst a0 a1 a2 a3 a4 a5 a6 a7
   rfl
end
end Go.Proofs.YtbiahhojnjchnaaGreat
