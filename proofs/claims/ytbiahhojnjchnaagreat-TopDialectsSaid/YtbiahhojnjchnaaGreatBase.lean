/-
  Words for memory that all walks of this seat share: a slice that reads as a list of cells, numbers or ranges; appends; the last step of a law that makes memory and leaves the old one as it was.
-/
import Derived.Test.YtbiahhojnjchnaaGreatRows
import Derived.WalkKit
import Derived.WalkSpells
import Derived.WalkLawsBesides
import Derived.Below
import Derived.Laws.OwnMore
import Derived.Laws.Rows
import Derived.Laws.BitsAllLaws
import Derived.Laws.BitsLemmas
import Derived.Laws.ResultCell
import Derived.Deep.AppendLies
import Derived.Deep.Draws
import Derived.Deep.Slices
import Derived.Deep.Fields
import Derived.Deep.QuietTactic
import Derived.Deep.RegionWith
import Derived.Deep.RegionHeld3
import Derived.Deep.RegionLaw
import Derived.Deep.LoopGhost
import Derived.Deep.DeepMust
import Derived.Deep.DeepFit
import Derived.Deep.DeepCutAuto
import Derived.BigQuiet
import Derived.Maps.AppendAt
import Derived.RegionTactic
import Derived.OwnWalk
import Derived.Deep.RegionLawGrows
import Derived.Laws.StructEq
import Derived.ProofKit
import Derived.OpenShut
import Derived.ShutString
import Derived.ChangeOld
import Derived.ChangeSame
import Derived.Lib.Hide
import Derived.Handy
set_option linter.unusedVariables false
set_option linter.unusedSimpArgs false
namespace Go.Proofs.YtbiahhojnjchnaaGreat
open Go.RowKit
/-! ### slices that read as lists -/
/-- The slice '.slice A n c' holds the cells xs ('size' cells an element), in a block below B. -/
def Rds (w:World) (B size:Nat) (A:Option Addr) (n:Nat) (xs:List Value):Prop :=
 xs.length=n * size∧(0 < n→∃ b off,A=some ⟨b,off,none⟩∧b < B∧∀ j u,xs[j]?=some u→w.cell? ⟨b,off+j,none⟩=some u)
def ints (l:List Int):List Value:=l.map (Value.int .i64)
def rngs:List (Int × Int)→List Value
 | []=>[]
 | r :: l=>.int .i64 r.1 :: .int .i64 r.2 :: rngs l
theorem ints_length (l:List Int):(ints l).length=l.length:=by simp [ints]
theorem rngs_length (l:List (Int × Int)):(rngs l).length=l.length * 2:=by
 induction l with
 | nil=>rfl
 | cons r l ih=>simp [rngs,ih];omega
theorem ints_append (a b:List Int):ints (a ++ b)=ints a ++ ints b:=by simp [ints]
theorem rngs_append (a b:List (Int × Int)):rngs (a ++ b)=rngs a ++ rngs b:=by
 induction a with
 | nil=>rfl
 | cons r a ih=>simp [rngs,ih]
theorem ints_get (l:List Int) (k:Nat) (h:k < l.length):(ints l)[k]?=some (.int .i64 l[k]):=by simp [ints,h]
theorem rngs_get (l:List (Int × Int)) (k:Nat) (h:k < l.length):(rngs l)[k * 2]?=some (.int .i64 l[k].1)∧(rngs l)[k * 2+1]?=some (.int .i64 l[k].2):=by
 induction l generalizing k with
 | nil=>simp at h
 | cons r l ih =>
  cases k with
  | zero=>simp [rngs]
  | succ k =>
   have:=ih k (by simpa using h)
   rw [show (k+1) * 2=k * 2+1+1 from by omega]
   simpa [rngs] using this
theorem ints_one (l:List Int):∀ u ∈ ints l,u.oneCell'=true:=by intro u hu;simp [ints] at hu;obtain ⟨x,_,rfl⟩:=hu;rfl
theorem rngs_one (l:List (Int × Int)):∀ u ∈ rngs l,u.oneCell'=true:=by
 induction l with
 | nil=>intro u hu;simp [rngs] at hu
 | cons r l ih =>
  intro u hu
  simp only [rngs,List.mem_cons] at hu
  rcases hu with rfl|rfl|hu
  ·rfl
  ·rfl
  ·exact ih u hu
section
variable {w w':World} {B B' size n:Nat} {A:Option Addr} {xs:List Value}
theorem Rds.nil_ (w:World) (B size:Nat) (A:Option Addr):Rds w B size A 0 []:=⟨by simp,fun h=>absurd h (by omega)⟩
theorem Rds.keep (h:Rds w B size A n xs) (hk:∀ p:Addr,p.block < B→w'.cell? p=w.cell? p):Rds w' B size A n xs :=
 ⟨h.1,fun hn=>by
  obtain ⟨b,off,e,hb,hc⟩:=h.2 hn
  exact ⟨b,off,e,hb,fun j u hu=>(hk _ hb).trans (hc j u hu)⟩⟩
theorem Rds.more (h:Rds w B size A n xs) (hB:B≤B'):Rds w B' size A n xs :=
 ⟨h.1,fun hn=>by
  obtain ⟨b,off,e,hb,hc⟩:=h.2 hn
  exact ⟨b,off,e,by omega,hc⟩⟩
theorem Rds.below (h:Rds w B size A n xs) {C:Nat} (hb:Below C w w') (hC:B≤C):Rds w' B size A n xs:=h.keep fun _ hp=>hb.cell (by omega)
theorem Rds.drew (h:Rds w B size A n xs):Rds w.drew B size A n xs:=h
theorem Rds.drewN (h:Rds w B size A n xs) (k:Nat):Rds (w.drewN k) B size A n xs:=h
theorem Rds.alloc (h:Rds w B size A n xs) (hB:B≤w.heap.size) (o:Obj):Rds (w.alloc o) B size A n xs:=h.keep fun p hp=>World.cell?_alloc_lt w o p (by omega)
theorem Rds.setCell (h:Rds w B size A n xs) {p:Addr} (hB:B≤p.block) (u:Value):Rds (w.setCell p u) B size A n xs :=
 h.keep fun q hq=>World.cell?_setCell_other w p q u (fun e=>by subst e;omega)
theorem Rds.grown (h:Rds w B size A n xs) {row:Option Nat} (hg:w.grownBy w' row) (hB:B≤w.heap.size) (hr:∀ g,row=some g→B≤g):Rds w' B size A n xs :=
 h.keep fun p hp=>World.cell?_of_block (hg.block p.block (by omega) (fun e=>by have:=hr _ e.symm;omega))
theorem Rds.cells (h:Rds w B size A n xs) (hn:0 < n):∃ b off,A=some ⟨b,off,none⟩∧b < B∧∀ j u,xs[j]?=some u→w.cell? ⟨b,off+j,none⟩=some u:=h.2 hn
theorem Rds.int_at {l:List Int} (h:Rds w B 1 A n (ints l)) {k:Nat} (hk:k < n) :
  ∃ b off,∃ hl:k < l.length,A=some ⟨b,off,none⟩∧b < B∧w.cell? ⟨b,off+k,none⟩=some (.int .i64 l[k]):=by
 obtain ⟨b,off,e,hb,hc⟩:=h.2 (by omega)
 have hl:k < l.length:=by have:=h.1;rw [ints_length] at this;omega
 exact ⟨b,off,hl,e,hb,hc k _ (ints_get l k hl)⟩
theorem Rds.rng_at {l:List (Int × Int)} (h:Rds w B 2 A n (rngs l)) {k:Nat} (hk:k < n) :
  ∃ b off,∃ hl:k < l.length,A=some ⟨b,off,none⟩∧b < B∧w.cell? ⟨b,off+k * 2,none⟩=some (.int .i64 l[k].1)∧w.cell? ⟨b,off+k * 2+1,none⟩=some (.int .i64 l[k].2):=by
 obtain ⟨b,off,e,hb,hc⟩:=h.2 (by omega)
 have hl:k < l.length:=by have:=h.1;rw [rngs_length] at this;omega
 obtain ⟨g1,g2⟩:=rngs_get l k hl
 exact ⟨b,off,hl,e,hb,hc _ _ g1,by have:=hc _ _ g2;rwa [show off+(k * 2+1)=off+k * 2+1 from by omega] at this⟩
theorem Rds.ints_len {l:List Int} (h:Rds w B 1 A n (ints l)):l.length=n:=by have:=h.1;rw [ints_length] at this;omega
theorem Rds.rngs_len {l:List (Int × Int)} (h:Rds w B 2 A n (rngs l)):l.length=n:=by have:=h.1;rw [rngs_length] at this;omega
/-- A row of the call's own reads. -/
theorem Rds.of_own {base:Nat} {e:TypeId} {c:Nat} (h:w.ownsRow base e size (.slice A n c) n xs):Rds w w.heap.size size A n xs:=by
 refine ⟨h.1,fun hn=>?_⟩
 obtain ⟨g,cap,hv,_,hlt⟩:=h.form hn
 have hA:A=some ⟨g,0,none⟩:=by injection hv
 subst hA
 refine ⟨g,0,rfl,hlt,fun j u hu=>?_⟩
 have:=h.cells (g:=g) rfl j u hu
 by_cases hj:j=0
 ·subst hj;simpa [Addr.add] using this
 ·simpa [Addr.add,hj] using this
end
/-- A block that was just laid reads. -/
theorem Rds.new (w:World) (size n:Nat) (cs:Array Value) (e:TypeId) (xs:List Value) (hcs:cs.toList=xs) (hn:xs.length=n * size):Rds (w.alloc (.cells cs e)) (w.heap.size+1) size (some ⟨w.heap.size,0,none⟩) n xs:=by
 subst hcs
 refine ⟨hn,fun _=>⟨w.heap.size,0,rfl,by omega,fun j u hu=>?_⟩⟩
 rw [Nat.zero_add,cell_of_row _ _ _ cs e (0,0) (heap_alloc_new w _)]
 simpa using hu
/-- A cut reads as the rest of the list. -/
theorem Rds.cut {w:World} {B size n:Nat} {A:Option Addr} {xs:List Value} (h:Rds w B size A n xs) {k cap:Nat} (hk:k≤n) (hc:n≤cap) :
  Rds w B size (if cap=k then A else A.map (·.add (k * size))) (n - k) (xs.drop (k * size)):=by
 refine ⟨by rw [List.length_drop,h.1,Nat.sub_mul],fun hn=>?_⟩
 obtain ⟨b,off,rfl,hb,hcell⟩:=h.2 (by omega)
 rw [if_neg (by omega)]
 refine ⟨b,off+k * size,?_,hb,fun j u hu=>?_⟩
 ·by_cases hz:k * size=0
  ·rw [hz];simp [Addr.add]
  ·simp [Addr.add,hz]
 ·rw [Nat.add_assoc]
  exact hcell _ u (by rw [← hu,List.getElem?_drop])
/-- The first ones of a row read, too. -/
theorem Rds.first {w:World} {B size n:Nat} {A:Option Addr} {xs:List Value} (h:Rds w B size A n xs) {k:Nat} (hk:k≤n):Rds w B size A k (xs.take (k * size)):=by
 refine ⟨?_,fun hn=>?_⟩
 ·rw [List.length_take,h.1];exact Nat.min_eq_left (Nat.mul_le_mul_right _ hk)
 ·obtain ⟨b,off,rfl,hb,hcell⟩:=h.2 (by omega)
  exact ⟨b,off,rfl,hb,fun j u hu=>hcell j u (by
   rw [List.getElem?_take] at hu
   split at hu
   ·exact hu
   ·cases hu)⟩
/-- What 'ownsRow' says of the value's form. -/
theorem own_slice {w:World} {base:Nat} {e:TypeId} {size n:Nat} {v:Value} {xs:List Value} (h:w.ownsRow base e size v n xs):∃ A c,v=.slice A n c∧n≤c∧c≤maxLen:=by
 rcases h.2 with ⟨rfl,rfl⟩|⟨g,cap,cur,rfl,_,_,h1,h2,_⟩
 ·exact ⟨none,0,rfl,Nat.le_refl _,Nat.zero_le _⟩
 ·exact ⟨_,cap,rfl,h1,h2⟩
theorem own_mono {w:World} {base base':Nat} {e:TypeId} {size n:Nat} {v:Value} {xs:List Value} (h:w.ownsRow base e size v n xs) (hb:base'≤base):w.ownsRow base' e size v n xs:=by
 refine ⟨h.1,?_⟩
 rcases h.2 with h2|⟨g,cap,cur,hv,hg,r⟩
 ·exact .inl h2
 ·exact .inr ⟨g,cap,cur,hv,by omega,r⟩
/-- A row of the call's own outlives whatever leaves the blocks below C as they were. -/
theorem own_below {w w':World} {base C:Nat} {e:TypeId} {size n:Nat} {v:Value} {xs:List Value} (h:w.ownsRow base e size v n xs) (hb:Below C w w') (hC:w.heap.size≤C):w'.ownsRow base e size v n xs:=by
 refine ⟨h.1,?_⟩
 rcases h.2 with h2|⟨g,cap,cur,hv,hg,hh,r⟩
 ·exact .inl h2
 ·refine .inr ⟨g,cap,cur,hv,hg,?_,r⟩
  have hlt:g < w.heap.size:=by
   rcases Nat.lt_or_ge g w.heap.size with h|h
   ·exact h
   ·rw [Array.getElem?_eq_none h] at hh;cases hh
  rw [hb.block g (by omega)]
  exact hh
theorem bcell {B:Nat} {W w1:World} (hb:Below B W w1):(∀ b o,b < B→w1.cell? ⟨b,o,none⟩=W.cell? ⟨b,o,none⟩)∧(∀ b o,b < B→w1.frozen? ⟨b,o,none⟩=W.frozen? ⟨b,o,none⟩) :=
 ⟨fun b o h=>hb.cell (p:=⟨b,o,none⟩) h,fun b o h=>hb.frozen (p:=⟨b,o,none⟩) h⟩
theorem below_drewN {B:Nat} {a w:World} (h:Below B a w) (n:Nat):Below B a (w.drewN n):=⟨h.os,h.tape,h.output,h.size,h.block⟩
theorem ret_int {k:IntKind} {a b:Int} (h:a=b):Ending.returned (.int k a)=.returned (.int k b):=by rw [h]
theorem ret_bool {a b:Bool} (h:a=b):Ending.returned (.bool a)=.returned (.bool b):=by rw [h]
theorem grown_own {B:Nat} {a w w':World} {v:Value} {base n:Nat} {e:TypeId} {size:Nat} {xs:List Value} (h:Below B a w) (hown:w.ownsRow base e size v n xs) (hg:w.grownBy w' v.ownBlock) (hB:B≤base) (hb:base≤w.heap.size):Below B a w' :=
 h.grown hg (by omega) (fun k hk=>by have:=hown.lt k hk;omega)
/-! ### append onto a row of the call's own, whatever the source -/
section
variable {P:Program} (w:World)
theorem run_append_nilsrc (base:Nat) (t ty e:TypeId) (i:TypeInfo) (size:Nat) (ht:P.underlying t=some (.slice e)) (hi:P.info? e=some i)
  (v:Value) (n:Nat) (xs:List Value) (hown:w.ownsRow base e size v n xs) (c:Nat):(Builtin.append_ #[t,t] ty #[v,.slice none 0 c]).run P w=.ok v w:=by
 rcases hown.2 with ⟨rfl,rfl⟩|⟨g,cap,cur,rfl,_,_,hnc,_⟩
 ·simp [Builtin.append_,run_underlying ht,sizeOf,typeInfo,hi,Builtin.lenOf,Builtin.firstCells]
 ·simp [Builtin.append_,run_underlying ht,sizeOf,typeInfo,hi,Builtin.lenOf,Builtin.firstCells,hnc,storeCells]
theorem run_append_rds (base:Nat) (t ty e:TypeId) (i:TypeInfo) (z:Value) (size bytes:Nat) (ht:P.underlying t=some (.slice e)) (hi:P.info? e=some i) (hz:i.zero=some z)
  (hsize:i.size=size) (hby:i.bytes=bytes) (hzs:z.cells.size=size) (hsz:0 < size)
  (v:Value) (n:Nat) (xs:List Value) (hown:w.ownsRow base e size v n xs)
  (B:Nat) (A:Option Addr) (m c:Nat) (news:List Value) (hr:Rds w B size A m news) (h1:∀ u ∈ news,u.oneCell'=true)
  (h63:n+m≤maxLen) (hbytes:(n+m) * bytes≤140737488355328) (hbase:base≤w.heap.size) :
  ∃ v' w',(Builtin.append_ #[t,t] ty #[v,.slice A m c]).run P w=.ok v' w'∧w'.ownsRow base e size v' (n+m) (xs ++ news)∧w.grownBy w' v.ownBlock ∧
   (v'.ownBlock=v.ownBlock∨v'.ownBlock=some w.heap.size):=by
 rcases A with _|ad
 ·have hm:m=0:=by
   rcases Nat.eq_zero_or_pos m with h0|h0
   ·exact h0
   ·obtain ⟨_,_,h,_⟩:=hr.2 h0
    cases h
  subst hm
  have hn:news=[]:=List.eq_nil_of_length_eq_zero (by simpa using hr.1)
  subst hn
  exact ⟨v,w,run_append_nilsrc w base t ty e i size ht hi v n xs hown c,by simpa using hown,World.grownBy.refl w _,.inl rfl⟩
 ·have hcells:∀ j u,news[j]?=some u→w.cell? (ad.add j)=some u:=by
   intro j u hu
   rcases Nat.eq_zero_or_pos m with h0|h0
   ·subst h0
    have hn:news=[]:=List.eq_nil_of_length_eq_zero (by simpa using hr.1)
    subst hn
    simp at hu
   ·obtain ⟨b,off,h,_,hc⟩:=hr.2 h0
    injection h with h
    subst h
    have:=hc j u hu
    by_cases hj:j=0
    ·subst hj;simpa [Addr.add] using this
    ·simpa [Addr.add,hj] using this
  obtain ⟨v',w',hrun,h2,h3,_,h5⟩:=run_append_own_at (P:=P) w base t ty e i z size bytes ht hi hz hsize hby hzs hsz v n xs hown ad m c news hr.1 hcells h1 h63 hbytes hbase
  exact ⟨v',w',hrun,h2,h3,h5⟩
theorem wp_append_rds {o:Oper} {a:Act} {K:Act→World→Prop} {Q:Exit→Act→World→Prop} (s x:Operand) (t:TypeId)
  (ho:o.op=.call { callee:=.builtin .append,args:=#[s,x],argTypes:=#[t,t] })
  (base:Nat) (e:TypeId) (i:TypeInfo) (z:Value) (size bytes:Nat) (ht:P.underlying t=some (.slice e)) (hi:P.info? e=some i) (hz:i.zero=some z)
  (hsize:i.size=size) (hby:i.bytes=bytes) (hzs:z.cells.size=size) (hsz:0 < size)
  (v:Value) (n:Nat) (xs:List Value) (hs:a.eval s=v) (hown:w.ownsRow base e size v n xs)
  (B:Nat) (A:Option Addr) (m c:Nat) (news:List Value) (hx:a.eval x=.slice A m c) (hr:Rds w B size A m news) (h1:∀ u ∈ news,u.oneCell'=true)
  (h63:n+m≤maxLen) (hbytes:(n+m) * bytes≤140737488355328) (hbase:base≤w.heap.size)
  (h:∀ v' w',w'.ownsRow base e size v' (n+m) (xs ++ news)→w.grownBy w' v.ownBlock→(v'.ownBlock=v.ownBlock∨v'.ownBlock=some w.heap.size)→K (a.put o.dst v') w'):o.wp P a w K Q:=by
 obtain ⟨v',w',hrun,h2,h3,h4⟩:=run_append_rds (P:=P) w base t o.type e i z size bytes ht hi hz hsize hby hzs hsz v n xs hown B A m c news hr h1 h63 hbytes hbase
 unfold Oper.wp execOp
 simp only [ho,resolve,invoke,builtin,Sem.run_bind,Sem.run_pure,Result.andThen_ok,List.map_toArray,List.map_cons,List.map_nil,hs,hx,hrun]
 exact h v' w' h2 h3 h4
theorem wpList_append_rds {ops:Array Oper} {rest:List Oper} {o:Oper} {a:Act} {Q:Exit→Act→World→Prop} (hgd:o.guard=none) (s x:Operand) (t:TypeId)
  (ho:o.op=.call { callee:=.builtin .append,args:=#[s,x],argTypes:=#[t,t] })
  (base:Nat) (e:TypeId) (i:TypeInfo) (z:Value) (size bytes:Nat) (ht:P.underlying t=some (.slice e)) (hi:P.info? e=some i) (hz:i.zero=some z)
  (hsize:i.size=size) (hby:i.bytes=bytes) (hzs:z.cells.size=size) (hsz:0 < size)
  (v:Value) (n:Nat) (xs:List Value) (hs:a.eval s=v) (hown:w.ownsRow base e size v n xs)
  (B:Nat) (A:Option Addr) (m c:Nat) (news:List Value) (hx:a.eval x=.slice A m c) (hr:Rds w B size A m news) (h1:∀ u ∈ news,u.oneCell'=true)
  (h63:n+m≤maxLen) (hbytes:(n+m) * bytes≤140737488355328) (hbase:base≤w.heap.size)
  (h:∀ v' w',w'.ownsRow base e size v' (n+m) (xs ++ news)→w.grownBy w' v.ownBlock→(v'.ownBlock=v.ownBlock∨v'.ownBlock=some w.heap.size)→wpList P ops Q rest (a.put o.dst v') w'):wpList P ops Q (o :: rest) a w :=
 wpList_plain hgd fun _ hK=>wp_append_rds w s x t ho base e i z size bytes ht hi hz hsize hby hzs hsz v n xs hs hown B A m c news hx hr h1 h63 hbytes hbase fun v' w' h2 h3 h4=>hK _ _ (h v' w' h2 h3 h4)
theorem step_append_rds {ops:Array Oper} {o:Oper} {a:Act} {K:Act→World→Prop} {Q:Exit→Act→World→Prop} {E:Prop} (hgd:o.guard=none) (s x:Operand) (t:TypeId)
  (ho:o.op=.call { callee:=.builtin .append,args:=#[s,x],argTypes:=#[t,t] })
  (base:Nat) (e:TypeId) (i:TypeInfo) (z:Value) (size bytes:Nat) (ht:P.underlying t=some (.slice e)) (hi:P.info? e=some i) (hz:i.zero=some z)
  (hsize:i.size=size) (hby:i.bytes=bytes) (hzs:z.cells.size=size) (hsz:0 < size)
  (v:Value) (n:Nat) (xs:List Value) (hs:a.eval s=v) (hown:w.ownsRow base e size v n xs)
  (B:Nat) (A:Option Addr) (m c:Nat) (news:List Value) (hx:a.eval x=.slice A m c) (hr:Rds w B size A m news) (h1:∀ u ∈ news,u.oneCell'=true)
  (h63:n+m≤maxLen) (hbytes:(n+m) * bytes≤140737488355328) (hbase:base≤w.heap.size)
  (h:∀ v' w',w'.ownsRow base e size v' (n+m) (xs ++ news)→w.grownBy w' v.ownBlock→(v'.ownBlock=v.ownBlock∨v'.ownBlock=some w.heap.size)→K (a.put o.dst v') w') :
  if Region.wanted o (yielded ops a.tmps)=true then Oper.wp P o a w K Q else E:=by
 have hw:Region.wanted o (yielded ops a.tmps)=true:=by simp [Region.wanted,hgd]
 rw [if_pos hw]
 exact wp_append_rds w s x t ho base e i z size bytes ht hi hz hsize hby hzs hsz v n xs hs hown B A m c news hx hr h1 h63 hbytes hbase h
end
/-! ### this seat's element types: int, and ranges -/
theorem int_info:(Tryz.prog.info? 3).map (fun i=>(i.zero,i.size,i.bytes))=some (some (.int .i64 0),1,8):=by kernel_rfl
theorem app_ints {w:World} {ops:Array Oper} {rest:List Oper} {o:Oper} {a:Act} {Q:Exit→Act→World→Prop} (s x:Operand) {base B n m c:Nat} {A:Option Addr} {v:Value} {xs ys:List Int}
  (hown:w.ownsRow base 3 1 v n (ints xs)) (hr:Rds w B 1 A m (ints ys)) (hlen:n+m≤1000000000) (hbase:base≤w.heap.size) (hgd:o.guard=none)
  (ho:o.op=.call { callee:=.builtin .append,args:=#[s,x],argTypes:=#[22,22] }) (hs:a.eval s=v) (hx:a.eval x=.slice A m c)
  (h:∀ v' w',w'.ownsRow base 3 1 v' (n+m) (ints (xs ++ ys))→w.grownBy w' v.ownBlock→(v'.ownBlock=v.ownBlock∨v'.ownBlock=some w.heap.size)→wpList Tryz.prog ops Q rest (a.put o.dst v') w') :
  wpList Tryz.prog ops Q (o :: rest) a w:=by
 obtain ⟨i0,hi0,hz0,hz1,hz2⟩:=info_parts int_info
 refine wpList_append_rds w hgd s x _ ho base 3 i0 _ 1 8 Tryz.underlying22 hi0 hz0 hz1 hz2 rfl (by omega) v n _ hs hown B A m c _ hx hr (ints_one _) (by unfold maxLen;omega) (by omega) hbase ?_
 intro v' w' h1 h2 h3
 exact h v' w' (by rw [ints_append];exact h1) h2 h3
theorem step_app_ints {w:World} {ops:Array Oper} {o:Oper} {a:Act} {K:Act→World→Prop} {Q:Exit→Act→World→Prop} {E:Prop} (s x:Operand) {base B n m c:Nat} {A:Option Addr} {v:Value} {xs ys:List Int}
  (hown:w.ownsRow base 3 1 v n (ints xs)) (hr:Rds w B 1 A m (ints ys)) (hlen:n+m≤1000000000) (hbase:base≤w.heap.size) (hgd:o.guard=none)
  (ho:o.op=.call { callee:=.builtin .append,args:=#[s,x],argTypes:=#[22,22] }) (hs:a.eval s=v) (hx:a.eval x=.slice A m c)
  (h:∀ v' w',w'.ownsRow base 3 1 v' (n+m) (ints (xs ++ ys))→w.grownBy w' v.ownBlock→(v'.ownBlock=v.ownBlock∨v'.ownBlock=some w.heap.size)→K (a.put o.dst v') w') :
  if Region.wanted o (yielded ops a.tmps)=true then Oper.wp Tryz.prog o a w K Q else E:=by
 obtain ⟨i0,hi0,hz0,hz1,hz2⟩:=info_parts int_info
 refine step_append_rds w hgd s x _ ho base 3 i0 _ 1 8 Tryz.underlying22 hi0 hz0 hz1 hz2 rfl (by omega) v n _ hs hown B A m c _ hx hr (ints_one _) (by unfold maxLen;omega) (by omega) hbase ?_
 intro v' w' h1 h2 h3
 exact h v' w' (by rw [ints_append];exact h1) h2 h3
theorem step_grow_ints {w:World} {ops:Array Oper} {o:Oper} {a:Act} {K:Act→World→Prop} {Q:Exit→Act→World→Prop} {E:Prop} (s x:Operand) {B B' n m c cap:Nat} {A A':Option Addr} {xs ys:List Int}
  (hs:Rds w B 1 A n (ints xs)) (hr:Rds w B' 1 A' m (ints ys)) (hn:0 < n) (hm:0 < m) (hcap:cap < n+m) (hlen:n+m≤1000000000) (hgd:o.guard=none)
  (ho:o.op=.call { callee:=.builtin .append,args:=#[s,x],argTypes:=#[22,22] }) (hs1:a.eval s=.slice A n cap) (hx:a.eval x=.slice A' m c)
  (h:∀ v' w',w'.ownsRow w.heap.size 3 1 v' (n+m) (ints (xs ++ ys))→w.grownBy w' none→K (a.put o.dst v') w') :
  if Region.wanted o (yielded ops a.tmps)=true then Oper.wp Tryz.prog o a w K Q else E:=by
 obtain ⟨i0,hi0,hz0,hz1,hz2⟩:=info_parts int_info
 obtain ⟨b1,o1,rfl,_,c1⟩:=hs.2 hn
 obtain ⟨b2,o2,rfl,_,c2⟩:=hr.2 hm
 have addr:∀ (b off j:Nat),(⟨b,off,none⟩:Addr).add j=⟨b,off+j,none⟩:=fun b off j=>by
  by_cases hj:j=0
  ·subst hj;simp [Addr.add]
  ·simp [Addr.add,hj]
 refine step_append_grows hgd s x _ ho 3 i0 _ 1 8 Tryz.underlying22 hi0 hz0 hz1 hz2 rfl (by omega) (some ⟨b1,o1,none⟩) n cap (ints xs) hs1 (fun e=>absurd e (Option.some_ne_none _)) hs.1 (fun b e j u hu=>by rw [← Option.some.inj e,addr];exact c1 j u hu)
  ⟨b2,o2,none⟩ m c (ints ys) hx hr.1 (fun j u hu=>by rw [addr];exact c2 j u hu) (ints_one _) hcap (by unfold maxLen;omega) (by omega) ?_
 intro v' w' h1 h2
 exact h v' w' (by rw [ints_append];exact h1) h2
/-- A new row of numbers. -/
theorem own_new (w:World) (base:Nat) (e:TypeId) (size n:Nat) (cs:Array Value) (hb:base≤w.heap.size) (hn:cs.size=n * size) (hm:n≤maxLen) :
  (w.alloc (.cells cs e)).ownsRow base e size (.slice (some ⟨w.heap.size,0,none⟩) n n) n cs.toList :=
 ⟨hn,.inr ⟨w.heap.size,n,cs,rfl,hb,heap_alloc_new w _,Nat.le_refl _,hm,hn,by rw [← hn,← Array.length_toList,List.take_length]⟩⟩
/-- 'It hands back a new row of the numbers l.' -/
def OwnInts (w:World) (l:List Int) (e:Ending) (w':World):Prop :=
 ∃ A n c,e=.returned (.slice A n c)∧w'.ownsRow w.heap.size 3 1 (.slice A n c) n (ints l)∧Below w.heap.size w w'
theorem ownInts_new {w w1 w2:World} {l:List Int} {cs:Array Value} {g n:Nat} {e:Ending} (he:e=.returned (.slice (some ⟨g,0,none⟩) n n)) (hw:w2=w1.alloc (.cells cs 3)) (hg:g=w1.heap.size)
  (hcs:cs.toList=ints l) (hb:Below w.heap.size w w1) (hnl:l.length=n) (hl:Nat.ble n 1000=true):OwnInts w l e w2:=by
 subst he hw hg hnl
 have hl:=Nat.le_of_ble_eq_true hl
 have hn:cs.size=l.length:=by rw [← Array.length_toList,hcs,ints_length]
 refine ⟨_,_,_,rfl,?_,hb.alloc hb.size _⟩
 rw [← hcs]
 exact own_new w1 _ 3 1 _ cs hb.size (by omega) (by unfold maxLen;omega)
/-- One kept, appended to. -/
theorem ownInts_of {w w':World} {l:List Int} {n:Nat} {v:Value} {e:Ending} (he:e=.returned v) (h:w'.ownsRow w.heap.size 3 1 v n (ints l)) (hb:Below w.heap.size w w'):OwnInts w l e w':=by
 obtain ⟨A,c,rfl,_⟩:=own_slice h
 exact ⟨A,n,c,he,h,hb⟩
/-! bytes -/
def byts (l:List Int):List Value:=l.map (Value.int .u8)
theorem byts_length (l:List Int):(byts l).length=l.length:=by simp [byts]
theorem byts_append (a b:List Int):byts (a ++ b)=byts a ++ byts b:=by simp [byts]
theorem byts_one (l:List Int):∀ u ∈ byts l,u.oneCell'=true:=by intro u hu;simp [byts] at hu;obtain ⟨x,_,rfl⟩:=hu;rfl
theorem byte_info:(Tryz.prog.info? 5).map (fun i=>(i.zero,i.size,i.bytes))=some (some (.int .u8 0),1,1):=by kernel_rfl
theorem app_bytes {w:World} {ops:Array Oper} {rest:List Oper} {o:Oper} {a:Act} {Q:Exit→Act→World→Prop} (s x:Operand) {base B n m c:Nat} {A:Option Addr} {v:Value} {xs ys:List Int}
  (hown:w.ownsRow base 5 1 v n (byts xs)) (hr:Rds w B 1 A m (byts ys)) (hlen:n+m≤1000000000) (hbase:base≤w.heap.size) (hgd:o.guard=none)
  (ho:o.op=.call { callee:=.builtin .append,args:=#[s,x],argTypes:=#[147,147] }) (hs:a.eval s=v) (hx:a.eval x=.slice A m c)
  (h:∀ v' w',w'.ownsRow base 5 1 v' (n+m) (byts (xs ++ ys))→w.grownBy w' v.ownBlock→(v'.ownBlock=v.ownBlock∨v'.ownBlock=some w.heap.size)→wpList Tryz.prog ops Q rest (a.put o.dst v') w') :
  wpList Tryz.prog ops Q (o :: rest) a w:=by
 obtain ⟨i0,hi0,hz0,hz1,hz2⟩:=info_parts byte_info
 refine wpList_append_rds w hgd s x _ ho base 5 i0 _ 1 1 Tryz.underlying147 hi0 hz0 hz1 hz2 rfl (by omega) v n _ hs hown B A m c _ hx hr (byts_one _) (by unfold maxLen;omega) (by omega) hbase ?_
 intro v' w' h1 h2 h3
 exact h v' w' (by rw [byts_append];exact h1) h2 h3
theorem step_app_bytes {w:World} {ops:Array Oper} {o:Oper} {a:Act} {K:Act→World→Prop} {Q:Exit→Act→World→Prop} {E:Prop} (s x:Operand) {base B n m c:Nat} {A:Option Addr} {v:Value} {xs ys:List Int}
  (hown:w.ownsRow base 5 1 v n (byts xs)) (hr:Rds w B 1 A m (byts ys)) (hlen:n+m≤1000000000) (hbase:base≤w.heap.size) (hgd:o.guard=none)
  (ho:o.op=.call { callee:=.builtin .append,args:=#[s,x],argTypes:=#[147,147] }) (hs:a.eval s=v) (hx:a.eval x=.slice A m c)
  (h:∀ v' w',w'.ownsRow base 5 1 v' (n+m) (byts (xs ++ ys))→w.grownBy w' v.ownBlock→(v'.ownBlock=v.ownBlock∨v'.ownBlock=some w.heap.size)→K (a.put o.dst v') w') :
  if Region.wanted o (yielded ops a.tmps)=true then Oper.wp Tryz.prog o a w K Q else E:=by
 obtain ⟨i0,hi0,hz0,hz1,hz2⟩:=info_parts byte_info
 refine step_append_rds w hgd s x _ ho base 5 i0 _ 1 1 Tryz.underlying147 hi0 hz0 hz1 hz2 rfl (by omega) v n _ hs hown B A m c _ hx hr (byts_one _) (by unfold maxLen;omega) (by omega) hbase ?_
 intro v' w' h1 h2 h3
 exact h v' w' (by rw [byts_append];exact h1) h2 h3
def OwnBytes (w:World) (l:List Int) (e:Ending) (w':World):Prop :=
 ∃ A n c,e=.returned (.slice A n c)∧w'.ownsRow w.heap.size 5 1 (.slice A n c) n (byts l)∧Below w.heap.size w w'
theorem ownBytes_new {w w1 w2:World} {l:List Int} {cs:Array Value} {g n:Nat} {e:Ending} (he:e=.returned (.slice (some ⟨g,0,none⟩) n n)) (hw:w2=w1.alloc (.cells cs 5)) (hg:g=w1.heap.size)
  (hcs:cs.toList=byts l) (hb:Below w.heap.size w w1) (hnl:l.length=n) (hl:Nat.ble n 1000=true):OwnBytes w l e w2:=by
 subst he hw hg hnl
 have hl:=Nat.le_of_ble_eq_true hl
 have hn:cs.size=l.length:=by rw [← Array.length_toList,hcs,byts_length]
 refine ⟨_,_,_,rfl,?_,hb.alloc hb.size _⟩
 rw [← hcs]
 exact own_new w1 _ 5 1 _ cs hb.size (by omega) (by unfold maxLen;omega)
theorem ownBytes_of {w w':World} {l:List Int} {n:Nat} {v:Value} {e:Ending} (he:e=.returned v) (h:w'.ownsRow w.heap.size 5 1 v n (byts l)) (hb:Below w.heap.size w w'):OwnBytes w l e w':=by
 obtain ⟨A,c,rfl,_⟩:=own_slice h
 exact ⟨A,n,c,he,h,hb⟩
theorem own_byts_len {w:World} {base n:Nat} {e:TypeId} {v:Value} {l:List Int} (h:w.ownsRow base e 1 v n (byts l)):n=l.length:=by have:=h.1;rw [byts_length] at this;omega
theorem own_ints_len {w:World} {base n:Nat} {e:TypeId} {v:Value} {l:List Int} (h:w.ownsRow base e 1 v n (ints l)):n=l.length:=by have:=h.1;rw [ints_length] at this;omega
/-! ranges -/
theorem rng_info:(Tryz.prog.info? 67).map (fun i=>(i.zero,i.size,i.bytes))=some (some (.agg #[.int .i64 0,.int .i64 0]),2,16):=by kernel_rfl
theorem app_rngs {w:World} {ops:Array Oper} {rest:List Oper} {o:Oper} {a:Act} {Q:Exit→Act→World→Prop} (s x:Operand) {base B n m c:Nat} {A:Option Addr} {v:Value} {xs ys:List (Int × Int)}
  (hown:w.ownsRow base 67 2 v n (rngs xs)) (hr:Rds w B 2 A m (rngs ys)) (hlen:n+m≤1000000000) (hbase:base≤w.heap.size) (hgd:o.guard=none)
  (ho:o.op=.call { callee:=.builtin .append,args:=#[s,x],argTypes:=#[23,23] }) (hs:a.eval s=v) (hx:a.eval x=.slice A m c)
  (h:∀ v' w',w'.ownsRow base 67 2 v' (n+m) (rngs (xs ++ ys))→w.grownBy w' v.ownBlock→(v'.ownBlock=v.ownBlock∨v'.ownBlock=some w.heap.size)→wpList Tryz.prog ops Q rest (a.put o.dst v') w') :
  wpList Tryz.prog ops Q (o :: rest) a w:=by
 obtain ⟨i0,hi0,hz0,hz1,hz2⟩:=info_parts rng_info
 refine wpList_append_rds w hgd s x _ ho base 67 i0 _ 2 16 Tryz.underlying23 hi0 hz0 hz1 hz2 rfl (by omega) v n _ hs hown B A m c _ hx hr (rngs_one _) (by unfold maxLen;omega) (by omega) hbase ?_
 intro v' w' h1 h2 h3
 exact h v' w' (by rw [rngs_append];exact h1) h2 h3
theorem step_app_rngs {w:World} {ops:Array Oper} {o:Oper} {a:Act} {K:Act→World→Prop} {Q:Exit→Act→World→Prop} {E:Prop} (s x:Operand) {base B n m c:Nat} {A:Option Addr} {v:Value} {xs ys:List (Int × Int)}
  (hown:w.ownsRow base 67 2 v n (rngs xs)) (hr:Rds w B 2 A m (rngs ys)) (hlen:n+m≤1000000000) (hbase:base≤w.heap.size) (hgd:o.guard=none)
  (ho:o.op=.call { callee:=.builtin .append,args:=#[s,x],argTypes:=#[23,23] }) (hs:a.eval s=v) (hx:a.eval x=.slice A m c)
  (h:∀ v' w',w'.ownsRow base 67 2 v' (n+m) (rngs (xs ++ ys))→w.grownBy w' v.ownBlock→(v'.ownBlock=v.ownBlock∨v'.ownBlock=some w.heap.size)→K (a.put o.dst v') w') :
  if Region.wanted o (yielded ops a.tmps)=true then Oper.wp Tryz.prog o a w K Q else E:=by
 obtain ⟨i0,hi0,hz0,hz1,hz2⟩:=info_parts rng_info
 refine step_append_rds w hgd s x _ ho base 67 i0 _ 2 16 Tryz.underlying23 hi0 hz0 hz1 hz2 rfl (by omega) v n _ hs hown B A m c _ hx hr (rngs_one _) (by unfold maxLen;omega) (by omega) hbase ?_
 intro v' w' h1 h2 h3
 exact h v' w' (by rw [rngs_append];exact h1) h2 h3
def OwnRngs (w:World) (l:List (Int × Int)) (e:Ending) (w':World):Prop :=
 ∃ A n c,e=.returned (.slice A n c)∧w'.ownsRow w.heap.size 67 2 (.slice A n c) n (rngs l)∧Below w.heap.size w w'
theorem ownRngs_of {w w':World} {l:List (Int × Int)} {n:Nat} {v:Value} {e:Ending} (he:e=.returned v) (h:w'.ownsRow w.heap.size 67 2 v n (rngs l)) (hb:Below w.heap.size w w'):OwnRngs w l e w':=by
 obtain ⟨A,c,rfl,_⟩:=own_slice h
 exact ⟨A,n,c,he,h,hb⟩
theorem own_rngs_len {w:World} {base n:Nat} {e:TypeId} {v:Value} {l:List (Int × Int)} (h:w.ownsRow base e 2 v n (rngs l)):n=l.length:=by have:=h.1;rw [rngs_length] at this;omega
theorem rngs_set1 (i:List (Int × Int)) (s:Int × Int) (t:Int):(rngs (i ++ [s])).set (i.length * 2+1) (.int .i64 t)=rngs (i ++ [(s.1,t)]):=by
 rw [rngs_append,rngs_append,List.set_append_right _ _ (by rw [rngs_length];omega),rngs_length]
 rw [show i.length * 2+1 - i.length * 2=1 from by omega]
 rfl
/-- The cells of the last range of a row of the call's own. -/
theorem own_last {w:World} {base n c:Nat} {e:TypeId} {A:Option Addr} {i:List (Int × Int)} {s:Int × Int} (h:w.ownsRow base e 2 (.slice A n c) n (rngs (i ++ [s]))) :
  ∃ g,A=some ⟨g,0,none⟩∧base≤g∧g < w.heap.size∧n=i.length+1∧n≤c∧w.cell? ⟨g,i.length * 2,none⟩=some (.int .i64 s.1)∧w.cell? ⟨g,i.length * 2+1,none⟩=some (.int .i64 s.2) ∧
   w.frozen? ⟨g,i.length * 2+1,none⟩=false ∧
   ∀ t:Int,(w.setCell ⟨g,i.length * 2+1,none⟩ (.int .i64 t)).ownsRow base e 2 (.slice A n c) n (rngs (i ++ [(s.1,t)])):=by
 have hl:=own_rngs_len h
 simp at hl
 subst hl
 rcases h.2 with ⟨_,h0⟩|⟨g,cap,cur,hv,hg,hh,hnc,_,hcs,htk⟩
 ·omega
 ·injection hv with h1 h2 h3
  subst h1 h3
  have hlt:g < w.heap.size:=by
   rcases Nat.lt_or_ge g w.heap.size with k|k
   ·exact k
   ·rw [Array.getElem?_eq_none k] at hh;cases hh
  obtain ⟨r1,r2⟩:=rngs_get (i ++ [s]) i.length (by simp)
  have hs:(i ++ [s])[i.length]'(by simp)=s:=by simp
  rw [hs] at r1 r2
  have hc:∀ j u,(rngs (i ++ [s]))[j]?=some u→w.cell? ⟨g,j,none⟩=some u:=by
   intro j u hu
   have:=h.cells (g:=g) rfl j u hu
   by_cases hj:j=0
   ·subst hj;simpa [Addr.add] using this
   ·simpa [Addr.add,hj] using this
  refine ⟨g,rfl,hg,hlt,rfl,hnc,hc _ _ r1,hc _ _ r2,by simp [World.frozen?,hh],fun t=>?_⟩
  have:=(World.ownsRow.stored h (i.length * 2+1) (.int .i64 t)).1
  rw [rngs_set1] at this
  exact this
/-! ### arguments, opened -/
section
open Go.ChangeShapes Go.WideShapes Go.Deep
variable {H:Type} {enc:TypeId × Value→H} {P:Program} {W:World} {base:Nat} {spare:Nat→Bool} {held:Bool}
theorem addr_flat {w:World} {x:Addr} {v:Value} (h:w.cell? (x.add 0)=some v):x.spot=none:=by
 have e:x.add 0=x:=by simp [Addr.add]
 rw [e] at h
 exact World.cell?_spot h
theorem addr_add (b off j:Nat):(⟨b,off,none⟩:Addr).add j=⟨b,off+j,none⟩:=by
 by_cases hj:j=0
 ·subst hj;simp [Addr.add]
 ·simp [Addr.add,hj]
theorem arg_ints {t e:TypeId} {a:Option Addr} {len cap:Nat} {d:DataW H} {p:List MemPlace} (ht:P.underlying t=some (.slice e)) (he:P.underlying e=some (.int .i64)) (hc:P.cellsOf e=1)
  (h:DataW.Trod enc P W base (fun _=>true) held t (.slice a len cap) d p) :
  ∃ l:List Int,Rds W W.heap.size 1 a len (ints l)∧len≤cap∧cap≤maxLen∧(∀ x ∈ l,-9223372036854775808≤x∧x≤9223372036854775807):=by
 obtain ⟨fuel,hf⟩:=h
 rcases open_ints ht he hc hf with ⟨hcs,_⟩|⟨x,l,c,zs,hcs,_,hl,hm,hz,_,hcell,hwz⟩
 ·simp [Value.cells] at hcs
  obtain ⟨rfl,rfl,rfl⟩:=hcs
  exact ⟨[],Rds.nil_ _ _ _ _,Nat.le_refl _,Nat.zero_le _,by simp⟩
 ·simp [Value.cells] at hcs
  obtain ⟨rfl,rfl,rfl⟩:=hcs
  simp only [if_true] at hz
  refine ⟨zs.take len,⟨by rw [ints_length,List.length_take];omega,fun hn=>?_⟩,hl,hm,fun y hy=>by simpa [Lit.wf,IntKind.min,IntKind.max,IntKind.signed,IntKind.bits] using hwz y (List.mem_of_mem_take hy)⟩
  have h0:=hcell 0 (by omega)
  obtain ⟨b,off,spot⟩:=x
  obtain rfl:spot=none:=addr_flat h0
  refine ⟨b,off,rfl,World.block_lt_of_cell? W _ (by rw [addr_add] at h0;exact h0),fun j u hu=>?_⟩
  have hj:j < (zs.take len).length:=by
   rcases Nat.lt_or_ge j (zs.take len).length with h|h
   ·exact h
   ·rw [List.getElem?_eq_none (by rw [ints_length];exact h)] at hu;cases hu
  rw [ints_get _ j hj] at hu
  injection hu with hu
  subst hu
  have hj':j < zs.length:=by rw [List.length_take] at hj;omega
  have:=hcell j hj'
  rw [addr_add] at this
  rw [this]
  simp [List.getElem_take,hj']
theorem arg_rngs {t e:TypeId} {f0 f1:Field} {a:Option Addr} {len cap:Nat} {d:DataW H} {p:List MemPlace} (ht:P.underlying t=some (.slice e)) (he:P.underlying e=some (.struct #[f0,f1]))
  (h0:P.underlying f0.type=some (.int .i64)) (h1:P.underlying f1.type=some (.int .i64)) (hone:oneCellFields P #[f0,f1]=true) (hc:P.cellsOf e=2)
  (h:DataW.Trod enc P W base (fun _=>true) held t (.slice a len cap) d p) :
  ∃ l:List (Int × Int),Rds W W.heap.size 2 a len (rngs l)∧len≤cap∧cap≤maxLen∧(∀ x ∈ l,(-9223372036854775808≤x.1∧x.1≤9223372036854775807)∧(-9223372036854775808≤x.2∧x.2≤9223372036854775807)):=by
 obtain ⟨fuel,hf⟩:=h
 rcases open_slice ht hf with ⟨hcs,_⟩|⟨x,l,c,m,n,D,Pl,hcs,_,hl,hm,hmm,_,hi⟩
 ·simp [Value.cells] at hcs
  obtain ⟨rfl,rfl,rfl⟩:=hcs
  exact ⟨[],Rds.nil_ _ _ _ _,Nat.le_refl _,Nat.zero_le _,by simp⟩
 ·simp [Value.cells] at hcs
  obtain ⟨rfl,rfl,rfl⟩:=hcs
  simp only [if_true] at hmm
  have hel:∀ i,i < len→∃ x1 x2:Int,W.cell? (x.add (i * 2))=some (.int .i64 x1)∧W.cell? (x.add (i * 2+1))=some (.int .i64 x2)∧(-9223372036854775808≤x1∧x1≤9223372036854775807)∧(-9223372036854775808≤x2∧x2≤9223372036854775807):=by
   intro i hil
   obtain ⟨cs',hcc,htt⟩:=hi i (by omega)
   rw [hc] at hcc
   obtain ⟨ys,n',hn',hy,hlen,hyl,hff⟩:=DataW.trod_struct he htt
   obtain ⟨_,hcl,hat⟩:=World.cells?_some hcc
   obtain ⟨o0,k0⟩:=hone_of hone 0 f0 rfl
   obtain ⟨o1,k1⟩:=hone_of hone 1 f1 rfl
   match cs',hcl with
   | [c0,c1],_ =>
    have t0:=hff 0 f0 rfl
    have t1:=hff 1 f1 rfl
    rw [o0,k0] at t0
    rw [o1,k1] at t1
    simp only [List.drop_zero,List.take_succ_cons,List.take_zero,List.drop_succ_cons] at t0 t1
    have hys0:ys[0]?=some (ys[0]'(by simp at hyl;omega)):=List.getElem?_eq_getElem _
    have hys1:ys[1]?=some (ys[1]'(by simp at hyl;omega)):=List.getElem?_eq_getElem _
    obtain ⟨z0,e0,_,w0⟩:=DataW.trod_int h0 (t0.trans hys0)
    obtain ⟨z1,e1,_,w1⟩:=DataW.trod_int h1 (t1.trans hys1)
    simp at e0 e1
    subst e0 e1
    have a0:=hat 0 (by omega)
    have a1:=hat 1 (by omega)
    rw [Go.Deep.add_add] at a0 a1
    simp only [Nat.add_zero,List.getElem?_cons_zero,List.getElem?_cons_succ] at a0 a1
    exact ⟨z0,z1,a0,a1,by simpa [Lit.wf,IntKind.min,IntKind.max,IntKind.signed,IntKind.bits] using w0,by simpa [Lit.wf,IntKind.min,IntKind.max,IntKind.signed,IntKind.bits] using w1⟩
  have hex:∀ k,k≤len→∃ l:List (Int × Int),l.length=k∧(∀ i (hik:i < l.length),W.cell? (x.add (i * 2))=some (.int .i64 l[i].1)∧W.cell? (x.add (i * 2+1))=some (.int .i64 l[i].2))∧∀ y ∈ l,(-9223372036854775808≤y.1∧y.1≤9223372036854775807)∧(-9223372036854775808≤y.2∧y.2≤9223372036854775807):=by
   intro k
   induction k with
   | zero=>intro _;exact ⟨[],rfl,by simp,by simp⟩
   | succ k ih =>
    intro hk
    obtain ⟨l,hl1,hl2,hl3⟩:=ih (by omega)
    obtain ⟨x1,x2,g1,g2,g3,g4⟩:=hel k (by omega)
    refine ⟨l ++ [(x1,x2)],by simp [hl1],fun i hik=>?_,fun y hy=>?_⟩
    ·by_cases hik2:i < l.length
     ·rw [List.getElem_append_left hik2];exact hl2 i hik2
     ·have:i=l.length:=by simp at hik;omega
      subst this
      simp only [List.getElem_concat_length]
      rw [hl1]
      exact ⟨g1,g2⟩
    ·rcases List.mem_append.1 hy with hy|hy
     ·exact hl3 y hy
     ·rw [List.mem_singleton.1 hy];exact ⟨g3,g4⟩
  obtain ⟨l,hl1,hl2,hl3⟩:=hex len (Nat.le_refl _)
  refine ⟨l,⟨by rw [rngs_length,hl1],fun hn=>?_⟩,hl,hm,hl3⟩
  have h00:=(hl2 0 (by omega)).1
  rw [Nat.zero_mul] at h00
  obtain ⟨b,off,spot⟩:=x
  obtain rfl:spot=none:=addr_flat h00
  refine ⟨b,off,rfl,World.block_lt_of_cell? W _ (by rw [addr_add] at h00;exact h00),fun j u hu=>?_⟩
  have hj:j < l.length * 2:=by
   rcases Nat.lt_or_ge j (l.length * 2) with h|h
   ·exact h
   ·rw [List.getElem?_eq_none (by rw [rngs_length];exact h)] at hu;cases hu
  obtain ⟨q1,q2⟩:=rngs_get l (j / 2) (by omega)
  obtain ⟨z1,z2⟩:=hl2 (j / 2) (by omega)
  rw [addr_add] at z1 z2
  rcases Nat.mod_two_eq_zero_or_one j with hm2|hm2
  ·have e:j / 2 * 2=j:=by omega
   rw [e] at q1 z1
   rw [q1] at hu
   injection hu with hu
   subst hu
   exact z1
  ·have e:j / 2 * 2+1=j:=by omega
   rw [e] at q2 z2
   rw [q2] at hu
   injection hu with hu
   subst hu
   exact z2
end
end Go.Proofs.YtbiahhojnjchnaaGreat
