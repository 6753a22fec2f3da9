/-
  HasInt and SameInts of the reference, slices.Index and Contains at ints: walked. table and beside of the program: walked. beside of the program: walked.
-/
import Derived.Test.YtbiahhojnjchnaaGreatGI
set_option linter.unusedVariables false
set_option linter.unusedSimpArgs false
namespace Go.Proofs.YtbiahhojnjchnaaGreat
open Go.RowKit
def hasI (l:List Int) (x:Int):Bool:=l.any fun y=>y == x
theorem hasI_iff (l:List Int) (x:Int):hasI l x=true↔x ∈ l:=by simp [hasI]
theorem hasI_at {l:List Int} {x:Int} (k:Nat) (h:k < l.length) (hx:l[k]=x):hasI l x=true:=by
 rw [hasI_iff,← hx];exact List.getElem_mem h
theorem hasI_snoc (l:List Int) (y x:Int):hasI (l ++ [y]) x=(hasI l x || y == x):=by simp [hasI]
theorem hasI_all {l:List Int} {x:Int} (h:hasI (l.take l.length) x=false):hasI l x=false:=by rwa [List.take_length] at h
set_option maxHeartbeats 1000000 in
theorem hasInt64 (l:List Int) (x:Int) (A:Option Addr) (n c:Nat) (w:World) (hn:n≤maxLen) (ha:Rds w w.heap.size 1 A n (ints l)) :
  Calls Tryz.prog 18 #[.slice A n c,.int .i64 x] w fun e w'=>e=.returned (.bool (hasI l x))∧w=w':=by
 have HL:=Lib.hid ha.ints_len
 unfold maxLen at hn
 go_enter Tryz.func18,Tryz.ntmps18
 go_wp2_with fail
 go_loop [5] (fun i=>∃ k:Nat,k≤n∧i=.int .i64 k∧hasI (l.take k) x=false) (fun i=>n - (intOf i).toNat)
 case atStart=>exact ⟨0,Nat.zero_le _,rfl,rfl⟩
 case round =>
  obtain ⟨k,hk,rfl,hall⟩:=hrel
  have HALL:=Lib.hid hall
  clear hall
  by_cases hlt:k < n
  ·obtain ⟨b1,off1,hl1,hA,hb1,hc1⟩:=ha.int_at hlt
   subst hA
   have HT:=Lib.hid (take_snoc' l k hl1)
   have HM:=Lib.hid (hasI_at (x:=x) k hl1)
   obtain ⟨y,hy⟩:∃ r,r=l[k]:=⟨_,rfl⟩
   rw [← hy] at hc1 HT HM
   clear hy
   by_cases hxy:y=x
   ·subst hxy
    go_wp2
    go_ret
    exact ⟨ret_bool (HM.out (by trivial)).symm,rfl⟩
   ·have hb:(y == x)=false:=beq_eq_false_iff_ne.2 hxy
    have HB:=Lib.hid hb
    clear hxy
    go_wp2
    go_round
    case rel=>exact ⟨k+1,by omega,by go_num,by rw [HT.out,hasI_snoc,HALL.out,HB.out];rfl⟩
    case measure=>simp [intOf];omega
  ·obtain rfl:k=n:=by omega
   go_wp2
   go_ret
   exact ⟨ret_bool (hasI_all (by rw [HL.out];exact HALL.out)).symm,rfl⟩
def sameI (a b:List Int):Bool:=decide (a=b)
theorem sameI_len {a b:List Int} (h:a.length≠b.length):sameI a b=false:=by simp [sameI];intro e;exact h (by rw [e])
theorem sameI_at {a b:List Int} (k:Nat) (h1:k < a.length) (h2:k < b.length) (h:a[k]≠b[k]):sameI a b=false:=by
 simp [sameI];intro e;subst e;exact h rfl
theorem sameI_all {a b:List Int} (hl:a.length=b.length) (h:a.take a.length=b.take a.length):sameI a b=true:=by
 have:a=b:=by rw [List.take_length,hl,List.take_length] at h;exact h
 simp [sameI,this]
set_option maxHeartbeats 1000000 in
theorem index158 (l:List Int) (x:Int) (A:Option Addr) (n c:Nat) (w:World) (hn:n≤maxLen) (ha:Rds w w.heap.size 1 A n (ints l)) :
  Calls Tryz.prog 167 #[.slice A n c,.int .i64 x] w fun e w'=>(∃ i:Int,e=.returned (.int .i64 i)∧decide (0≤i)=hasI l x)∧w=w':=by
 have HL:=Lib.hid ha.ints_len
 unfold maxLen at hn
 go_enter Tryz.func167,Tryz.ntmps167
 go_wp2_with fail
 go_loop [8] (fun i=>∃ k:Nat,k≤n∧i=.int .i64 k∧hasI (l.take k) x=false) (fun i=>n - (intOf i).toNat)
 case atStart=>exact ⟨0,Nat.zero_le _,rfl,rfl⟩
 case round =>
  obtain ⟨k,hk,rfl,hall⟩:=hrel
  have HALL:=Lib.hid hall
  clear hall
  by_cases hlt:k < n
  ·obtain ⟨b1,off1,hl1,hA,hb1,hc1⟩:=ha.int_at hlt
   subst hA
   have HT:=Lib.hid (take_snoc' l k hl1)
   have HM:=Lib.hid (hasI_at (x:=x) k hl1)
   obtain ⟨y,hy⟩:∃ r,r=l[k]:=⟨_,rfl⟩
   rw [← hy] at hc1 HT HM
   clear hy
   by_cases hxy:y=x
   ·subst hxy
    go_wp2
    go_ret
    exact ⟨⟨k,rfl,by rw [HM.out (by trivial)];simp⟩,rfl⟩
   ·have hb:(x == y)=false:=beq_eq_false_iff_ne.2 (fun e=>hxy e.symm)
    have HB:=Lib.hid (show (y == x)=false from beq_eq_false_iff_ne.2 hxy)
    clear hxy
    go_wp2
    go_round
    case rel=>exact ⟨k+1,by omega,by go_num,by rw [HT.out,hasI_snoc,HALL.out,HB.out];rfl⟩
    case measure=>simp [intOf];omega
  ·obtain rfl:k=n:=by omega
   go_wp2
   go_ret
   refine ⟨⟨-1,rfl,?_⟩,rfl⟩
   rw [hasI_all (by rw [HL.out];exact HALL.out)];rfl
set_option maxHeartbeats 1000000 in
theorem contains138 (l:List Int) (x:Int) (A:Option Addr) (n c:Nat) (w:World) (hn:n≤maxLen) (ha:Rds w w.heap.size 1 A n (ints l)) :
  Calls Tryz.prog 127 #[.slice A n c,.int .i64 x] w fun e w'=>e=.returned (.bool (hasI l x))∧w=w':=by
 go_enter Tryz.func127,Tryz.ntmps127
 go_wp2_with fail
 refine (index158 l x A n c w hn ha).mono ?_
 rintro e w' ⟨⟨i,rfl,hi⟩,rfl⟩
 have HI:=Lib.hid hi
 clear hi
 go_wp2
 go_ret
 exact ⟨ret_bool HI.out,rfl⟩
set_option maxHeartbeats 400000 in
theorem isPoint107 (p:Int) (b:Bool) (w:World) (h:(decide (0≤p) && decide (p≤1114111))=b):Calls Tryz.prog 109 #[.int .i64 p] w fun e w'=>e=.returned (.bool b)∧w=w':=by
 subst h
 go_enter Tryz.func109,Tryz.ntmps109
 go_wp2
 all_goals (go_ret;refine ⟨ret_bool ?_,rfl⟩;simp_all;try omega)
end Go.Proofs.YtbiahhojnjchnaaGreat
namespace Go.Proofs.YtbiahhojnjchnaaGreat
open Go.RowKit
structure Pr where
 f:Int
 t:Int
 b:Int
 s:Int
deriving DecidableEq
def prs:List Pr→List Value
 | []=>[]
 | r :: l=>.int .i64 r.f :: .int .i64 r.t :: .int .i64 r.b :: .int .i64 r.s :: prs l
theorem prs_length (l:List Pr):(prs l).length=l.length * 4:=by
 induction l with
 | nil=>rfl
 | cons r l ih=>simp [prs,ih];omega
theorem prs_get (l:List Pr) (k:Nat) (h:k < l.length):(prs l)[k * 4]?=some (.int .i64 l[k].f)∧(prs l)[k * 4+1]?=some (.int .i64 l[k].t)∧(prs l)[k * 4+2]?=some (.int .i64 l[k].b)∧(prs l)[k * 4+3]?=some (.int .i64 l[k].s):=by
 induction l generalizing k with
 | nil=>simp at h
 | cons r l ih =>
  cases k with
  | zero=>simp [prs]
  | succ k =>
   have:=ih k (by simpa using h)
   rw [show (k+1) * 4=k * 4+1+1+1+1 from by omega]
   simpa [prs] using this
theorem Rds.pr_at {w:World} {B n:Nat} {A:Option Addr} {l:List Pr} (h:Rds w B 4 A n (prs l)) {k:Nat} (hk:k < n) :
  ∃ b off,∃ hl:k < l.length,A=some ⟨b,off,none⟩∧b < B∧w.cell? ⟨b,off+k * 4,none⟩=some (.int .i64 l[k].f)∧w.cell? ⟨b,off+k * 4+1,none⟩=some (.int .i64 l[k].t)∧w.cell? ⟨b,off+k * 4+2,none⟩=some (.int .i64 l[k].b)∧w.cell? ⟨b,off+k * 4+3,none⟩=some (.int .i64 l[k].s):=by
 obtain ⟨b,off,e,hb,hc⟩:=h.2 (by omega)
 have hl:k < l.length:=by have:=h.1;rw [prs_length] at this;omega
 obtain ⟨g1,g2,g3,g4⟩:=prs_get l k hl
 exact ⟨b,off,hl,e,hb,hc _ _ g1,hc _ _ g2,hc _ _ g3,hc _ _ g4⟩
def tbl:List Pr:=[⟨65,90,32,1⟩,⟨192,214,32,1⟩,⟨216,222,32,1⟩,⟨256,302,1,2⟩,⟨913,929,32,1⟩,⟨931,939,32,1⟩,⟨1024,1039,80,1⟩,⟨1040,1071,32,1⟩,⟨962,962,1,1⟩,⟨181,181,775,1⟩,⟨107,107,8383,1⟩,⟨229,229,8262,1⟩,⟨223,223,7615,1⟩]
set_option maxRecDepth 100000 in
set_option maxHeartbeats 1000000 in
theorem table157 (w:World):Calls Tryz.prog 106 #[] w fun e w'=>∃ g,e=.returned (.slice (some ⟨g,0,none⟩) 13 13)∧Rds w' w'.heap.size 4 (some ⟨g,0,none⟩) 13 (prs tbl)∧Below w.heap.size w w':=by
 have R:=Lib.hid (Rds.new w 4 13 (prs tbl).toArray 138 (prs tbl) (by simp) rfl)
 go_enter Tryz.func106,Tryz.ntmps106
 go_wp2
 go_ret
 refine ⟨w.heap.size,rfl,?_,by go_grown⟩
 exact R.out.more (by simp)
def hit (r:Pr) (p:Int):Bool:=decide (r.f≤p) && decide (p≤r.t) && ((p - r.f) % r.s == 0)
def bes1 (r:Pr) (p:Int):List Int:=(if hit r p then [p+r.b] else []) ++ (if hit r (p - r.b) then [p - r.b] else [])
def besP (p:Int):List Int:=tbl.flatMap fun r=>bes1 r p
def okPr (r:Pr):Bool:=decide (0≤r.f) && decide (r.f≤10000) && decide (0≤r.t) && decide (r.t≤10000) && decide (0≤r.b) && decide (r.b≤10000) && (r.s == 1 || r.s == 2)
theorem tbl_ok:∀ r ∈ tbl,okPr r=true:=by decide
theorem bes1_len (r:Pr) (p:Int):(bes1 r p).length≤2:=by
 unfold bes1;rw [List.length_append];split<;>split<;>simp
theorem flat_take2 {α β:Type} (f:α→List β) (l:List α) (k:Nat) (h:k < l.length):(l.take (k+1)).flatMap f=(l.take k).flatMap f ++ f l[k]:=by
 rw [take_snoc' l k h,List.flatMap_append];simp
end Go.Proofs.YtbiahhojnjchnaaGreat
namespace Go.Proofs.YtbiahhojnjchnaaGreat
open Go.RowKit
theorem Rds.grown_ne {w w':World} {B size n g off:Nat} {xs:List Value} {row:Option Nat} (h:Rds w B size (some ⟨g,off,none⟩) n xs) (hg:w.grownBy w' row) (hne:some g≠row):Rds w' B size (some ⟨g,off,none⟩) n xs :=
 ⟨h.1,fun hn=>by
  obtain ⟨b,o,e,hb,hc⟩:=h.2 hn
  injection e with e
  injection e with e1 e2
  subst e1 e2
  exact ⟨_,_,rfl,hb,fun j u hu=>hg.cell (hc j u hu) hne⟩⟩
/-- a pair of the table, read out of a box -/
def Box4 (w:World) (b:Nat) (f u s t:Int):Prop :=
 w.cell? ⟨b,0,none⟩=some (.int .i64 f)∧w.cell? ⟨b,1,none⟩=some (.int .i64 u)∧w.cell? ⟨b,2,none⟩=some (.int .i64 s)∧w.cell? ⟨b,3,none⟩=some (.int .i64 t)
theorem Box4.grown {w w':World} {b:Nat} {f u s t:Int} {row:Option Nat} (h:Box4 w b f u s t) (hg:w.grownBy w' row) (hne:some b≠row):Box4 w' b f u s t :=
 ⟨hg.cell h.1 hne,hg.cell h.2.1 hne,hg.cell h.2.2.1 hne,hg.cell h.2.2.2 hne⟩
theorem Box4.alloc {w:World} {b:Nat} {f u s t:Int} (h:Box4 w b f u s t) (hb:b < w.heap.size) (o:Obj):Box4 (w.alloc o) b f u s t:=by
 unfold Box4
 rw [World.cell?_alloc_lt _ _ _ hb,World.cell?_alloc_lt _ _ _ hb,World.cell?_alloc_lt _ _ _ hb,World.cell?_alloc_lt _ _ _ hb];exact h
theorem Box4.new (w:World) (f u s t:Int) (T:TypeId):Box4 (w.alloc (.cells #[.int .i64 f,.int .i64 u,.int .i64 s,.int .i64 t] T)) w.heap.size f u s t:=by
 unfold Box4
 rw [cell_of_row _ _ _ _ T (0,0) (heap_alloc_new w _),cell_of_row _ _ _ _ T (0,0) (heap_alloc_new w _),cell_of_row _ _ _ _ T (0,0) (heap_alloc_new w _),cell_of_row _ _ _ _ T (0,0) (heap_alloc_new w _)]
 exact ⟨rfl,rfl,rfl,rfl⟩
/-- where the loop of beside stands: numbers so far, apart from the table -/
def BsRow (w wr:World) (v:Value) (t:Nat) (l:List Int) (g:Nat):Prop :=
 wr.ownsRow w.heap.size 3 1 v t (ints l)∧Below w.heap.size w wr∧Rds wr wr.heap.size 4 (some ⟨g,0,none⟩) 13 (prs tbl)∧g < wr.heap.size∧some g≠v.ownBlock
/-- one number more: what the append leaves -/
theorem BsRow.more {w W w3:World} {v v3:Value} {t g:Nat} {l:List Int} {x:Int} {cs:Obj} (h:BsRow w W v t l g) (ho:w3.ownsRow w.heap.size 3 1 v3 (t+1) (ints (l ++ [x]))) (hg:(W.alloc cs).grownBy w3 v.ownBlock)
  (ha:v3.ownBlock=v.ownBlock∨v3.ownBlock=some (W.heap.size+1)):BsRow w w3 v3 (t+1) (l ++ [x]) g:=by
 obtain ⟨h1,h2,h3,h4,h5⟩:=h
 have hs:=hg.size
 simp at hs
 refine ⟨ho,(h2.alloc h2.size _).grown hg (by simp;have:=h2.size;omega) (fun k hk=>(h1.lt k hk).1),(((h3.alloc (Nat.le_refl _) cs).grown_ne hg h5).more (by omega)),by omega,?_⟩
 rcases ha with e|e
 ·rw [e];exact h5
 ·rw [e];intro e';injection e' with e';omega
theorem BsRow.alloc {w W:World} {v:Value} {t g:Nat} {l:List Int} (h:BsRow w W v t l g) (o:Obj):BsRow w (W.alloc o) v t l g:=by
 obtain ⟨h1,h2,h3,h4,h5⟩:=h
 exact ⟨h1.alloc o,h2.alloc h2.size o,h3.next ((Below.refl _ _).alloc (Nat.le_refl _) o),by simp;omega,h5⟩
set_option maxRecDepth 100000 in
set_option maxHeartbeats 4000000 in
theorem beside137 (p:Int) (w:World) (hp:-20000≤p∧p≤2000000):Calls Tryz.prog 126 #[.int .i64 p] w (OwnInts w (besP p)):=by
 obtain ⟨p0,p1⟩:=hp
 go_enter Tryz.func126,Tryz.ntmps126
 go_wp2_with fail
 refine (table157 w).mono ?_
 rintro e w1 ⟨g,rfl,hr,hb⟩
 have hg1:g < w1.heap.size:=by
  obtain ⟨b1,_,_,h,hb,_⟩:=hr.pr_at (k:=0) (by decide)
  injection h with h
  injection h with h1 h2
  omega
 have RT:=Lib.hid hr
 clear hr
 go_wp2_with fail
 go_loopw [3,9] (fun v i wr=>∃ k t:Nat,k≤13∧i=.int .i64 k∧t≤k * 2∧BsRow w wr v t ((tbl.take k).flatMap fun r=>bes1 r p) g) (fun _ i _=>13 - (intOf i).toNat)
 case atStart=>exact ⟨0,0,Nat.zero_le _,rfl,by omega,World.ownsRow_nil _ _ _ _,hb,RT.out,hg1,by simp [Value.ownBlock]⟩
 case round =>
  obtain ⟨k,t,hk,rfl,ht,hown⟩:=hrel
  have HB0:=Lib.hid hown
  obtain ⟨Av,cv,rfl,hmc,hcv⟩:=own_slice hown.1
  unfold maxLen at hcv
  by_cases hlt:k < 13
  ·obtain ⟨b1,off1,hl1,hA,hb1,hc1,hc2,hc3,hc4⟩:=hown.2.2.1.pr_at hlt
   injection hA with hA
   injection hA with e1 e2
   subst e1 e2
   clear hown
   have HT:=Lib.hid (flat_take2 (fun r=>bes1 r p) tbl k hl1)
   have hok:=tbl_ok tbl[k] (List.getElem_mem hl1)
   obtain ⟨r,hr⟩:∃ r,r=tbl[k]:=⟨_,rfl⟩
   rw [← hr] at hc1 hc2 hc3 hc4 HT hok
   clear hr
   obtain ⟨f,u,b,s⟩:=r
   simp only [okPr,Bool.and_eq_true,decide_eq_true_eq] at hok
   obtain ⟨⟨⟨⟨⟨⟨f0,f1⟩,u0⟩,u1⟩,b0⟩,bb⟩,hs⟩:=hok
   have hs2:1≤s∧s≤2:=by simp at hs;omega
   obtain ⟨s1,s2⟩:=hs2
   clear hs
   simp only [Nat.zero_add] at hc1 hc2 hc3 hc4
   have i1:(0:Int)≤(k:Int):=by omega
   have i2:(k:Int) < 13:=by omega
   have n1:=World.new_ne wr
   have HLT:=Lib.hid (fun q (hq:(Value.slice Av t cv).ownBlock=some q)=>(HB0.out.1.lt q hq).2)
   go_upto_region 5 with (fail)
   go_cut [32] from 13 to 33 (fun z wc=>z=.bool (hit ⟨f,u,b,s⟩ p)∧wc=wr.alloc (.cells #[.int .i64 f,.int .i64 u,.int .i64 b,.int .i64 s] 138))
   case first =>
    go_wp2_with fail
    all_goals (go_meet;refine ⟨congrArg Value.bool ?_,rfl⟩;simp [hit]<;>(try simp [*])<;>(try omega))
   case rest =>
    obtain ⟨rfl,rfl⟩:=hcut
    have HB1:=Lib.hid (HB0.out.alloc (.cells #[.int .i64 f,.int .i64 u,.int .i64 b,.int .i64 s] 138))
    obtain ⟨x1,x2,x3,x4⟩:=Box4.new wr f u b s 138
    have hz1:(wr.alloc (.cells #[.int .i64 f,.int .i64 u,.int .i64 b,.int .i64 s] 138)).heap.size=wr.heap.size+1:=by simp
    generalize hW:wr.alloc (.cells #[.int .i64 f,.int .i64 u,.int .i64 b,.int .i64 s] 138)=W at *
    have HZ:=Lib.hid hz1
    have hzz:wr.heap.size < W.heap.size:=by omega
    have hz2:=HB1.out.2.1.size
    clear hW hc1 hc2 hc3 hc4 n1 hz1
    go_upto_if 32 with (fail)
    go_cut [3] from 13 to 40 (fun z wc=>∃ A3 n3 c3,z=.slice A3 n3 c3∧n3≤t+1∧BsRow w wc (.slice A3 n3 c3) n3 (((tbl.take k).flatMap fun r=>bes1 r p) ++ if hit ⟨f,u,b,s⟩ p then [p+b] else []) g∧Box4 wc wr.heap.size f u b s∧wr.heap.size < wc.heap.size∧some wr.heap.size≠(Value.slice A3 n3 c3).ownBlock)
    case first =>
     cases hh:hit ⟨f,u,b,s⟩ p
     ·have HH:=Lib.hid hh
      clear hh
      go_wp2_with fail
      go_meet
      exact ⟨Av,t,cv,rfl,by omega,by rw [HH.out];simpa using HB1.out,⟨x1,x2,x3,x4⟩,hzz,fun e=>by have:=HLT.out _ e.symm;omega⟩
     ·have HH:=Lib.hid hh
      have R:=Lib.hid (Rds.new W 1 1 #[.int .i64 (p+b)] 3 (ints [p+b]) rfl rfl)
      have n2:=World.new_ne W
      clear hh
      go_wp2_with (at_builtin;refine app_ints (.tmp 33) (.tmp 38) (base:=w.heap.size) (HB1.out.1.alloc _) R.out (by omega) (by simp;omega) rfl rfl rfl rfl ?_;intro v3 w3 hown3 hg3 hat3)
      go_meet
      obtain ⟨A3,c3,rfl,hmc3,hcv3⟩:=own_slice hown3
      have hs3:=hg3.size
      simp at hs3 hat3
      refine ⟨A3,_,c3,rfl,Nat.le_refl _,?_,(Box4.alloc ⟨x1,x2,x3,x4⟩ hzz _).grown hg3 (fun e=>by have:=HLT.out _ e.symm;omega),by omega,?_⟩
      ·rw [HH.out,if_pos rfl];exact HB1.out.more (by simpa using hown3) hg3 (by simpa using hat3)
      ·intro e
       rcases hat3 with h|h
       ·rw [h] at e;have:=HLT.out _ e.symm;omega
       ·rw [h] at e;injection e with e;omega
    case rest =>
     obtain ⟨A3,n3,c3,rfl,hn3,hB3,hX,hzx,hne⟩:=hcut
     obtain ⟨x1,x2,x3,x4⟩:=hX
     have HB3:=Lib.hid hB3
     have hzc:=HB3.out.2.1.size
     have HNE:=Lib.hid hne
     obtain ⟨_,_,hv3,q1,q2⟩:=own_slice HB3.out.1
     injection hv3 with e1 e2 e3
     subst e1 e3
     clear e2 hB3 hne
     unfold maxLen at q2
     rename_i wc
     go_upto_region 8 with (fail)
     go_cut [63] from 44 to 64 (fun z w'=>z=.bool (hit ⟨f,u,b,s⟩ (p - b))∧w'=wc)
     case first =>
      go_wp2_with fail
      all_goals (go_meet;refine ⟨congrArg Value.bool ?_,rfl⟩;simp [hit]<;>(try simp [*])<;>(try omega))
     case rest =>
      obtain ⟨rfl,rfl⟩:=hcut
      have HU:=Lib.hid (show bes1 ⟨f,u,b,s⟩ p=(if hit ⟨f,u,b,s⟩ p then [p+b] else []) ++ (if hit ⟨f,u,b,s⟩ (p - b) then [p - b] else []) from rfl)
      have HTT:=Lib.hid (show (tbl.take (k+1)).flatMap (fun r=>bes1 r p)=(((tbl.take k).flatMap fun r=>bes1 r p) ++ if hit ⟨f,u,b,s⟩ p then [p+b] else []) ++ (if hit ⟨f,u,b,s⟩ (p - b) then [p - b] else []) by rw [HT.out,HU.out,List.append_assoc])
      generalize hl:(((tbl.take k).flatMap fun r=>bes1 r p) ++ if hit ⟨f,u,b,s⟩ p then [p+b] else [])=acc at *
      clear hl
      cases hh:hit ⟨f,u,b,s⟩ (p - b)
      ·have HH:=Lib.hid hh
       clear hh
       go_wp2_with fail
       go_roundw
       case rel=>exact ⟨k+1,n3,by omega,by go_num,by omega,by rw [HTT.out,HH.out];simpa using HB3.out⟩
       case measure=>simp [intOf];omega
      ·have HH:=Lib.hid hh
       have R:=Lib.hid (Rds.new wc 1 1 #[.int .i64 (p - b)] 3 (ints [p - b]) rfl rfl)
       have n2:=World.new_ne wc
       clear hh
       go_wp2_with (at_builtin;refine app_ints (.tmp 64) (.tmp 66) (base:=w.heap.size) (HB3.out.1.alloc _) R.out (by omega) (by simp;omega) rfl rfl rfl rfl ?_;intro v3 w3 hown3 hg3 hat3)
       simp at hat3
       go_roundw
       case rel=>exact ⟨k+1,n3+1,by omega,by go_num,by omega,by rw [HTT.out,HH.out,if_pos rfl];exact HB3.out.more (by simpa using hown3) hg3 hat3⟩
       case measure=>simp [intOf];omega
  ·obtain rfl:k=13:=by omega
   have HL:=Lib.hid (show tbl.take 13=tbl from rfl)
   go_wp2
   go_ret
   have h1:=HB0.out.1
   rw [HL.out] at h1
   exact ownInts_of rfl h1 HB0.out.2.1
end Go.Proofs.YtbiahhojnjchnaaGreat
