/-
  The reader of patterns, in its block; its least methods: walked. Tokens made; numbers of digits; runs of points: walked. Runs of points: walked.
-/
import Derived.Test.YtbiahhojnjchnaaGreatGU
import Derived.Test.YtbiahhojnjchnaaGreatBase
import Derived.Test.YtbiahhojnjchnaaGreatHE
import Derived.WalkLawsBesides
import Derived.Deep.RegionHeld3
import Derived.Laws.ResultCell
import Derived.Deep.QuietTactic
import Derived.BigQuiet
set_option linter.unusedVariables false
set_option linter.unusedSimpArgs false
namespace Go.Proofs.YtbiahhojnjchnaaGreat
open Go.RowKit
/-- the reader: dialect, points, place -/
def RdAtT (b:Nat) (d:Int) (A:Option Addr) (n c:Nat) (at_:Int) (w:World):Prop:=w.heap[b]?=some (.cells #[.int .i64 d,.slice A n c,.int .i64 at_] 160 (0,0))
section
variable {b n c:Nat} {d at_:Int} {A:Option Addr} {w w':World}
theorem RdAtT.lt (h:RdAtT b d A n c at_ w):b < w.heap.size:=by
 unfold RdAtT at h
 rcases Nat.lt_or_ge b w.heap.size with h'|h'
 ·exact h'
 ·simp [Array.getElem?_eq_none h'] at h
theorem RdAtT.cells (h:RdAtT b d A n c at_ w):w.cell? ⟨b,0,none⟩=some (.int .i64 d)∧w.cell? ⟨b,1,none⟩=some (.slice A n c)∧w.cell? ⟨b,2,none⟩=some (.int .i64 at_)∧w.frozen? ⟨b,2,none⟩=false:=by
 refine ⟨?_,?_,?_,?_⟩
 ·rw [cell_of_row _ _ _ _ 160 (0,0) h];rfl
 ·rw [cell_of_row _ _ _ _ 160 (0,0) h];rfl
 ·rw [cell_of_row _ _ _ _ 160 (0,0) h];rfl
 ·unfold RdAtT at h;unfold World.frozen?;rw [h];rfl
theorem RdAtT.below {B:Nat} (h:RdAtT b d A n c at_ w) (hb:Below B w w') (hB:b < B):RdAtT b d A n c at_ w':=by
 unfold RdAtT at *;rw [hb.block b hB];exact h
theorem RdAtT.next (h:RdAtT b d A n c at_ w) (hb:Below w.heap.size w w'):RdAtT b d A n c at_ w':=h.below hb h.lt
theorem RdAtT.move (h:RdAtT b d A n c at_ w) (x:Int):RdAtT b d A n c x (w.setCell ⟨b,2,none⟩ (.int .i64 x)):=by
 unfold RdAtT at *;simp [World.setCell,Array.getElem?_modify,h]
theorem RdAtT.drewN (h:RdAtT b d A n c at_ w) (q:Nat):RdAtT b d A n c at_ (w.drewN q):=h
theorem RdAtT.setOther (h:RdAtT b d A n c at_ w) {p:Addr} (hp:p.block≠b) (v:Value):RdAtT b d A n c at_ (w.setCell p v):=by
 unfold RdAtT at *;rw [Below.heap_setCell _ p _ b (fun e=>hp e.symm)];exact h
end
/-- what a panic of this package carries -/
def wrongV (e:Int):List PanicEntry:=[{ v:=.iface 156 (.agg #[.int .i64 e]),recovered:=false }]
theorem isDigit55 (p:Int) (w:World):Calls Tryz.prog 211 #[.int .i64 p] w fun e w'=>e=.returned (.bool (isDig p))∧w'=w:=by
 go_enter Tryz.func211,Tryz.ntmps211
 go_wp2
 all_goals (go_ret;refine ⟨ret_bool ?_,rfl⟩;unfold isDig;first|(rw [Bool.eq_iff_iff];simp;omega)|(simp_all;try omega))
theorem isLetter56 (p:Int) (w:World):Calls Tryz.prog 212 #[.int .i64 p] w fun e w'=>e=.returned (.bool (isLet p))∧w'=w:=by
 go_enter Tryz.func212,Tryz.ntmps212
 go_wp2
 all_goals (go_ret;refine ⟨ret_bool ?_,rfl⟩;unfold isLet;first|(rw [Bool.eq_iff_iff];simp;omega)|(simp_all;try omega))
theorem isHex60 (p:Int) (w:World):Calls Tryz.prog 221 #[.int .i64 p] w fun e w'=>e=.returned (.bool (isHexP p))∧w'=w:=by
 have C:=Lib.hid (isDigit55 p w)
 unfold isDig at C
 by_cases h1:48≤p
 ·by_cases h2:p≤57
  all_goals
   go_enter Tryz.func221,Tryz.ntmps221
   go_wp2_with (go_at_call 211;refine C.out.mono ?_;rintro e w' ⟨rfl,rfl⟩)
   all_goals (go_ret;refine ⟨ret_bool ?_,rfl⟩;unfold isHexP isDig;first|(rw [Bool.eq_iff_iff];simp;omega)|(simp_all;try omega))
 ·go_enter Tryz.func221,Tryz.ntmps221
  go_wp2_with (go_at_call 211;refine C.out.mono ?_;rintro e w' ⟨rfl,rfl⟩)
  all_goals (go_ret;refine ⟨ret_bool ?_,rfl⟩;unfold isHexP isDig;first|(rw [Bool.eq_iff_iff];simp;omega)|(simp_all;try omega))
theorem fail46 (x:Int) (w:World):Calls Tryz.prog 202 #[.int .i64 x] w fun e w'=>e=.panicked (wrongV x)∧w'=w:=by
 go_enter Tryz.func202,Tryz.ntmps202
 go_wp2
 exact ⟨rfl,rfl,rfl⟩
/-- a token as a value -/
def Tk.agg (t:Tk):Value:=.agg #[.int .i64 t.kind,.int .i64 t.num,.string ⟨t.text.toArray⟩,.bool t.not_,.int .i64 t.least,.int .i64 t.most,.int .i64 t.way,.int .i64 t.fold]
set_option maxRecDepth 100000 in
set_option maxHeartbeats 1000000 in
theorem peek37 (b n c:Nat) (d at_:Int) (A:Option Addr) (l:List Int) (w:World) (hr:RdAtT b d A n c at_ w) (ha:Rds w b 1 A n (ints l)) (h0:0≤at_) (hn:n≤1000) :
  Calls Tryz.prog 171 #[.pointer (some ⟨b,0,none⟩)] w fun e w'=>e=.returned (.int .i64 (ptAt l at_))∧RdAtT b d A n c at_ w'∧Kept b w w':=by
 have HR:=Lib.hid hr
 obtain ⟨c0,c1,c2,f2⟩:=hr.cells
 have HLN:=Lib.hid ha.ints_len
 by_cases hlt:at_ < n
 ·obtain ⟨k,rfl⟩:=Int.eq_ofNat_of_zero_le h0
  obtain ⟨b1,off1,hl1,hA,hb1,hc1⟩:=ha.int_at (k:=k) (by omega)
  have HP:=Lib.hid (ptAt_in l hl1)
  obtain ⟨x,hx⟩:∃ x,x=l[k]:=⟨_,rfl⟩
  rw [← hx] at hc1 HP
  clear hx hr ha
  subst hA
  go_enter Tryz.func171,Tryz.ntmps171
  go_upto_region 1 with (fail)
  go_quiet (fail)
  go_upto_region 2 with (fail)
  go_quiet (fail)
  go_wp2_with fail
  go_ret
  exact ⟨ret_int HP.out.symm,HR.out,by repeat (first|exact Kept.refl _ _|refine Kept.drewN ?_ _)⟩
 ·have HP:=Lib.hid (ptAt_out l (p:=at_) (by rw [HLN.out];omega))
  clear hr ha
  go_enter Tryz.func171,Tryz.ntmps171
  go_upto_region 1 with (fail)
  go_quiet (fail)
  go_wp2_with fail
  go_ret
  exact ⟨ret_int HP.out.symm,HR.out,by repeat (first|exact Kept.refl _ _|refine Kept.drewN ?_ _)⟩
set_option maxRecDepth 100000 in
set_option maxHeartbeats 1000000 in
theorem may45 (b n c:Nat) (d at_:Int) (A:Option Addr) (l:List Int) (x:Int) (w:World) (hr:RdAtT b d A n c at_ w) (ha:Rds w b 1 A n (ints l)) (h0:0≤at_) (h1:at_≤1000) (hn:n≤1000) (hx:0≤x∧x≤1000) :
  Calls Tryz.prog 201 #[.pointer (some ⟨b,0,none⟩),.int .i32 x] w fun e w'=>e=.returned (.bool (decide (ptAt l at_=x)))∧RdAtT b d A n c (if ptAt l at_=x then at_+1 else at_) w'∧Kept b w w':=by
 have C:=Lib.hid (peek37 b n c d at_ A l w hr ha h0 hn)
 clear hr ha
 obtain ⟨y,hy⟩:∃ y,y=ptAt l at_:=⟨_,rfl⟩
 rw [← hy] at C ⊢
 clear hy
 have hw:=conv_i32 x hx
 by_cases hyx:y=x
 ·subst hyx
  rw [if_pos rfl]
  go_enter Tryz.func201,Tryz.ntmps201
  go_wp2_with (go_at_call 171;refine C.out.mono ?_;rintro e w1 ⟨rfl,hr1,hk1⟩;have HR1:=Lib.hid hr1;have HK1:=Lib.hid hk1;obtain ⟨c0,c1,c2,f2⟩:=hr1.cells;clear hr1 hk1)
  go_ret
  exact ⟨ret_bool (by simp),HR1.out.move _,HK1.out.set _ _⟩
 ·rw [if_neg hyx]
  have hyb:(y == x)=false:=beq_eq_false_iff_ne.2 hyx
  go_enter Tryz.func201,Tryz.ntmps201
  go_wp2_with (go_at_call 171;refine C.out.mono ?_;rintro e w1 ⟨rfl,hr1,hk1⟩;have HR1:=Lib.hid hr1;have HK1:=Lib.hid hk1;clear hr1 hk1)
  go_ret
  exact ⟨ret_bool (by simp [hyx]),HR1.out,HK1.out⟩
set_option maxRecDepth 100000 in
set_option maxHeartbeats 1000000 in
theorem must58 (b n c:Nat) (d at_:Int) (A:Option Addr) (l:List Int) (x:Int) (w:World) (hr:RdAtT b d A n c at_ w) (ha:Rds w b 1 A n (ints l)) (h0:0≤at_) (h1:at_≤1000) (hn:n≤1000) (hx:0≤x∧x≤1000) :
  Calls Tryz.prog 214 #[.pointer (some ⟨b,0,none⟩),.int .i32 x] w fun e w'=>(if ptAt l at_=x then e=.returned (.tuple #[])∧RdAtT b d A n c (at_+1) w' else e=.panicked (wrongV 1))∧Kept b w w':=by
 have C:=Lib.hid (may45 b n c d at_ A l x w hr ha h0 h1 hn hx)
 clear hr ha
 obtain ⟨y,hy⟩:∃ y,y=ptAt l at_:=⟨_,rfl⟩
 rw [← hy] at C ⊢
 clear hy
 by_cases hyx:y=x
 ·subst hyx
  rw [if_pos rfl,decide_eq_true rfl] at C
  simp only [if_true]
  go_enter Tryz.func214,Tryz.ntmps214
  go_wp2_with (go_at_call 201;refine C.out.mono ?_;rintro e w1 ⟨rfl,hr1,hk1⟩;have HR1:=Lib.hid hr1;have HK1:=Lib.hid hk1;clear hr1 hk1)
  go_end0
  exact ⟨⟨rfl,HR1.out⟩,HK1.out⟩
 ·rw [if_neg hyx,decide_eq_false hyx] at C
  simp only [hyx,if_false]
  go_enter Tryz.func214,Tryz.ntmps214
  go_wp2_with (first
   | (go_at_call 201;refine C.out.mono ?_;rintro e w1 ⟨rfl,hr1,hk1⟩;have HK1:=Lib.hid hk1;clear hr1 hk1)
   | (go_at_call 202;refine (fail46 1 _).mono ?_;rintro e w2 ⟨rfl,rfl⟩))
  exact ⟨rfl,rfl,HK1.out⟩
end Go.Proofs.YtbiahhojnjchnaaGreat
namespace Go.Proofs.YtbiahhojnjchnaaGreat
open Go.RowKit
theorem results_cell_oneT {fn:Func} {p:Tmp} {ty:TypeId} (h:fn.results=#[.cell p ty]) (tmps:Array Value) (P:Program) (w:World) :
  (results fn tmps).run P w=((asAddr (tmps.getD p undef)).run P w).andThen fun a w₁=>(loadVar ty a).run P w₁:=by
 simp only [results,h]
 simp [Sem.run_bind,Result.andThen]
def Z24:Obj:=.cells #[.int .i64 0,.int .i64 0,.string ⟨#[]⟩,.bool false,.int .i64 0,.int .i64 0,.int .i64 0,.int .i64 0] 108
/-- a zero token's block -/
theorem z24 {w:World} {g:Nat} (h:w.heap[g]?=some Z24):(∀ o,w.frozen? ⟨g,o,none⟩=false)∧w.cell? ⟨g,0,none⟩=some (.int .i64 0)∧w.cell? ⟨g,1,none⟩=some (.int .i64 0)∧w.cell? ⟨g,2,none⟩=some (.string ⟨#[]⟩)∧w.cell? ⟨g,3,none⟩=some (.bool false)∧w.cell? ⟨g,4,none⟩=some (.int .i64 0)∧w.cell? ⟨g,5,none⟩=some (.int .i64 0)∧w.cell? ⟨g,6,none⟩=some (.int .i64 0)∧w.cell? ⟨g,7,none⟩=some (.int .i64 0):=by
 unfold Z24 at h
 refine ⟨fun o=>by unfold World.frozen?;rw [h];rfl,?_,?_,?_,?_,?_,?_,?_,?_⟩<;>(rw [cell_of_row w g _ _ 108 (0,0) h];rfl)
theorem point41 (p:Int) (w:World):Calls Tryz.prog 175 #[.int .i64 p] w fun e w'=>e=.returned (pointT p).agg∧Below w.heap.size w w':=by
 go_enter Tryz.func175,Tryz.ntmps175
 go_wp2
 (try simp only [Exit.inBlock,Exit.then])
 refine bodyPost_ret (v:=(pointT p).agg) ?_ rfl ⟨rfl,by (repeat' (first|(with_reducible exact Below.refl _ _)|(with_reducible refine Below.setCell ?_ (by simp<;>omega) _)|(with_reducible refine Below.alloc ?_ (by simp<;>omega) _)))⟩
 rw [results_cell_oneT rfl]
 unfold pointT Tk.agg
 go_simp
theorem look38 (p:Int) (w:World):Calls Tryz.prog 172 #[.int .i64 p] w fun e w'=>e=.returned (lookT p).agg∧Below w.heap.size w w':=by
 go_enter Tryz.func172,Tryz.ntmps172
 go_wp2
 (try simp only [Exit.inBlock,Exit.then])
 refine bodyPost_ret (v:=(lookT p).agg) ?_ rfl ⟨rfl,by (repeat' (first|(with_reducible exact Below.refl _ _)|(with_reducible refine Below.setCell ?_ (by simp<;>omega) _)|(with_reducible refine Below.alloc ?_ (by simp<;>omega) _)))⟩
 rw [results_cell_oneT rfl]
 unfold lookT Tk.agg
 go_simp
theorem again52 (p:Int) (w:World):Calls Tryz.prog 208 #[.int .i64 p] w fun e w'=>e=.returned (({ kind:=10,num:=p }:Tk).agg)∧Below w.heap.size w w':=by
 go_enter Tryz.func208,Tryz.ntmps208
 go_wp2
 (try simp only [Exit.inBlock,Exit.then])
 refine bodyPost_ret (v:=(({ kind:=10,num:=p }:Tk).agg)) ?_ rfl ⟨rfl,by (repeat' (first|(with_reducible exact Below.refl _ _)|(with_reducible refine Below.setCell ?_ (by simp<;>omega) _)|(with_reducible refine Below.alloc ?_ (by simp<;>omega) _)))⟩
 rw [results_cell_oneT rfl]
 unfold Tk.agg
 go_simp
theorem decN_snoc (l:List Int) (p:Int):decN (l ++ [p])=10 * decN l+p - 48:=by unfold decN;rw [List.foldl_append];rfl
/-- digits, not many: their number is small -/
theorem decN_small (l:List Int) (hd:∀ p ∈ l,isDig p=true):∀ k,k≤l.length→0≤decN (l.take k)∧decN (l.take k) < 10 ^ k:=by
 intro k
 induction k with
 | zero=>intro _;simp [decN]
 | succ k ih =>
  intro hk
  obtain ⟨h1,h2⟩:=ih (by omega)
  have hp:=hd l[k] (List.getElem_mem (by omega))
  unfold isDig at hp
  simp at hp
  rw [List.take_succ_eq_append_getElem (by omega),decN_snoc,Int.pow_succ]
  omega
set_option maxHeartbeats 1000000 in
theorem decimal53 (l:List Int) (A:Option Addr) (n c:Nat) (w:World) (X:Nat) (hn:n≤3) (hd:∀ p ∈ l,isDig p=true) (ha:Rds w X 1 A n (ints l)) :
  Calls Tryz.prog 209 #[.slice A n c] w fun e w'=>e=.returned (.int .i64 (decN l))∧w'=w:=by
 have HLN:=Lib.hid ha.ints_len
 have HS:=Lib.hid (decN_small l hd)
 have HD:=Lib.hid hd
 clear hd
 go_enter Tryz.func209,Tryz.ntmps209
 go_wp2_with fail
 go_loopw [3,8] (fun v i wr=>∃ k:Nat,k≤n∧i=.int .i64 k∧v=.int .i64 (decN (l.take k))∧w=wr) (fun _ i _=>n - (intOf i).toNat)
 case atStart=>exact ⟨0,Nat.zero_le _,rfl,rfl,rfl⟩
 case round =>
  obtain ⟨k,hk,rfl,rfl,rfl⟩:=hrel
  by_cases hlt:k < n
  ·obtain ⟨b1,off1,hl1,hA,hb1,hc1⟩:=ha.int_at hlt
   have HT:=Lib.hid (show decN (l.take (k+1))=10 * decN (l.take k)+l[k] - 48 by rw [List.take_succ_eq_append_getElem hl1,decN_snoc])
   have hb:=HS.out k (by omega)
   have hb2:(10:Int) ^ k≤1000:=by
    have:k=0∨k=1∨k=2:=by omega
    rcases this with rfl|rfl|rfl<;>decide
   have hx:=HD.out l[k] (List.getElem_mem hl1)
   unfold isDig at hx
   simp at hx
   obtain ⟨x,hx'⟩:∃ x,x=l[k]:=⟨_,rfl⟩
   rw [← hx'] at hc1 HT hx
   obtain ⟨y,hy⟩:∃ y,y=decN (l.take k):=⟨_,rfl⟩
   rw [← hy] at HT hb ⊢
   have hy1:0≤y∧y≤1000:=by omega
   clear hx' hy hb hb2
   subst hA
   have i1:(0:Int)≤(k:Int):=by omega
   have i2:(k:Int) < (n:Int):=by omega
   go_wp2_with fail
   go_roundw
   case rel=>exact ⟨k+1,by omega,by go_num,by rw [HT.out],by first|rfl|trivial⟩
   case measure=>simp [intOf];omega
  ·obtain rfl:k=n:=by omega
   rw [List.take_of_length_le (by rw [HLN.out];exact Nat.le_refl _)]
   go_wp2_with fail
   go_ret
   exact ⟨rfl,rfl⟩
end Go.Proofs.YtbiahhojnjchnaaGreat
namespace Go.Proofs.YtbiahhojnjchnaaGreat
open Go.RowKit
theorem runLen_le (f:Int→Bool) (l:List Int):∀ (m:Nat) (at_:Int),runLen f l at_ m≤m:=by
 intro m
 induction m with
 | zero=>intro at_;simp [runLen]
 | succ m ih=>intro at_;have:=ih (at_+1);unfold runLen;split<;>omega
theorem runLen_yes (f:Int→Bool) (l:List Int):∀ (m:Nat) (at_:Int) (k:Nat),k < runLen f l at_ m→f (ptAt l (at_+k))=true:=by
 intro m
 induction m with
 | zero=>intro at_ k h;simp [runLen] at h
 | succ m ih =>
  intro at_ k h
  unfold runLen at h
  split at h
  ·rename_i hc
   cases k with
   | zero=>simpa using hc
   | succ k =>
    have:=ih (at_+1) k (by omega)
    rw [show at_+((k+1:Nat):Int)=at_+1+k by omega];exact this
  ·omega
theorem runLen_no (f:Int→Bool) (l:List Int):∀ (m:Nat) (at_:Int),runLen f l at_ m < m→f (ptAt l (at_+runLen f l at_ m))=false:=by
 intro m
 induction m with
 | zero=>intro at_ h;omega
 | succ m ih =>
  intro at_ h
  unfold runLen at h ⊢
  split at h
  ·rename_i hc
   rw [if_pos hc]
   have:=ih (at_+1) (by omega)
   rw [show at_+((1+runLen f l (at_+1) m:Nat):Int)=at_+1+runLen f l (at_+1) m by omega];exact this
  ·rename_i hc
   rw [if_neg hc];simpa using hc
/-- a place in a run: it goes on just while the points are such -/
theorem runLen_more {f:Int→Bool} {l:List Int} {m:Nat} {at_:Int} {k:Nat} (hk:k≤runLen f l at_ m) (hm:k < m) (hf:f (ptAt l (at_+k))=true):k+1≤runLen f l at_ m:=by
 rcases Nat.lt_or_ge k (runLen f l at_ m) with h|h
 ·exact h
 ·obtain rfl:k=runLen f l at_ m:=by omega
  have:=runLen_no f l m at_ hm
  rw [this] at hf;cases hf
theorem runLen_end {f:Int→Bool} {l:List Int} {m:Nat} {at_:Int} {k:Nat} (hk:k≤runLen f l at_ m) (hf:k < m→f (ptAt l (at_+k))=false):k=runLen f l at_ m:=by
 rcases Nat.lt_or_ge k (runLen f l at_ m) with h|h
 ·have h1:=runLen_yes f l m at_ k h
  have h2:=runLen_le f l m at_
  rw [hf (by omega)] at h1;cases h1
 ·omega
theorem runLen_in {f:Int→Bool} (h1:f (-1)=false) {l:List Int} {m:Nat} {at_:Int} {k:Nat} (h0:0≤at_) (hk:k < runLen f l at_ m):at_+k < l.length:=by
 have:=runLen_yes f l m at_ k hk
 by_cases hc:0≤at_+(k:Int)∧at_+(k:Int) < l.length
 ·exact hc.2
 ·rw [ptAt_out l hc,h1] at this;cases this
theorem runLen_fit {f:Int→Bool} (h1:f (-1)=false) {l:List Int} {m:Nat} {at_:Int} (h0:0≤at_) (hat:at_≤l.length):at_+runLen f l at_ m≤l.length:=by
 rcases Nat.eq_zero_or_pos (runLen f l at_ m) with h|h
 ·rw [h];simpa using hat
 ·have:=runLen_in h1 h0 (k:=runLen f l at_ m - 1) (l:=l) (m:=m) (by omega)
  omega
theorem runPts_length (l:List Int) (p:Int) (k:Nat):(runPts l p k).length=k:=by simp [runPts]
theorem runPts_get (l:List Int) (p:Int) (k i:Nat) (h:i < (runPts l p k).length):(runPts l p k)[i]=ptAt l (p+i):=by simp [runPts]
/-- a part of a row -/
theorem Rds.part {w:World} {B n:Nat} {A:Addr} {l:List Int} (h:Rds w B 1 (some A) n (ints l)) (hn:0 < n) {a k:Nat} (ha:a+k≤n) {A':Option Addr} (hA:0 < k→A'=some ⟨A.block,A.off+a,none⟩):Rds w B 1 A' k (ints (runPts l a k)):=by
 obtain ⟨b,off,e,hb,hc⟩:=h.2 hn
 cases e
 have hl:=h.ints_len
 refine ⟨by rw [ints_length,runPts_length];omega,fun hk=>⟨b,off+a,hA hk,hb,fun j u hu=>?_⟩⟩
 have hj:j < k:=by
  have:=(List.getElem?_eq_some_iff.1 hu).1
  rw [ints_length,runPts_length] at this;exact this
 rw [ints_get _ j (by rw [runPts_length];exact hj),runPts_get] at hu
 have h2:=ptAt_in l (k:=a+j) (by omega)
 rw [show ((a+j:Nat):Int)=(a:Int)+j by omega] at h2
 rw [h2] at hu
 have:=hc (a+j) _ (ints_get l (a+j) (by omega))
 rw [hu] at this
 rw [Nat.add_assoc];exact this
def placeOf (b:Nat) (w:World):Nat:=(intOf ((w.cell? ⟨b,2,none⟩).getD (.int .i64 0))).toNat
theorem RdAtT.place {b n c:Nat} {d at_:Int} {A:Option Addr} {w:World} (h:RdAtT b d A n c at_ w):placeOf b w=at_.toNat:=by
 unfold placeOf;rw [h.cells.2.2.1];rfl
/-- what a slice of a row is -/
theorem slice_part {w:World} {B b1 off n c:Nat} {l:List Int} (h:Rds w B 1 (some ⟨b1,off,none⟩) n (ints l)) (hn:0 < n) {a k:Nat} (ha:a+k≤n) (hc:n≤c) :
  ∃ A',Rds w B 1 A' k (ints (runPts l a k))∧∀ wx:World,(Instr.sliceAt 22 (.slice (some ⟨b1,off,none⟩) n c) (some (.int .i64 a)) (some (.int .i64 ((a:Int)+(k:Int)))) none).run Tryz.prog wx=.ok (.slice A' k (c - a)) wx:=by
 refine ⟨if c=a then some ⟨b1,off,none⟩ else some ⟨b1,off+a,none⟩,h.part hn ha (fun hk=>by rw [if_neg (by omega)]),fun wx=>?_⟩
 have hu:Tryz.prog.underlying 22=some (.slice (Tryz.prog.elem 22)):=by kernel_rfl
 rw [run_sliceAt_slice _ _ _ _ _ _ hu,run_slice_lh _ _ _ _ _ hu _ _ _ _ (by omega) (by omega) (by omega)]
 have hs:(sizeOf (Tryz.prog.elem 22)).run Tryz.prog wx=.ok 1 wx:=by
  have he:Tryz.prog.elem 22=3:=by kernel_rfl
  rw [he];simp [go_sem]
 rw [hs]
 simp only [Result.andThen,sliced]
 rw [show ((a:Int)+(k:Int)).toNat - (a:Int).toNat=k by omega,show (a:Int).toNat=a by omega]
 by_cases hca:c=a
 ·rw [if_pos hca,if_pos hca]
 ·rw [if_neg hca,if_neg hca]
  unfold Addr.add
  rcases Nat.eq_zero_or_pos a with rfl|h0
  ·simp
  ·simp [show ¬ a=0 by omega]
set_option maxRecDepth 100000 in
set_option maxHeartbeats 4000000 in
theorem run54 (f:Int→Bool) (g:Nat) (hf:f (-1)=false) (eg:∀ args w,(callFunc g args).run Tryz.prog w=.ok (.enter g args) w) (hcl:∀ x w,Calls Tryz.prog g #[.int .i64 x] w fun e w'=>e=.returned (.bool (f x))∧w'=w)
  (b n c m:Nat) (d at_:Int) (A:Option Addr) (l:List Int) (w:World) (hr:RdAtT b d A n c at_ w) (ha:Rds w b 1 A n (ints l)) (h0:0≤at_) (h1:at_≤n) (hn:0 < n) (hn2:n≤1000) (hc:n≤c) (hm:m≤20) :
  Calls Tryz.prog 210 #[.pointer (some ⟨b,0,none⟩),.int .i64 m,.func (.func g) #[] #[]] w fun e w'=>∃ A' c',e=.returned (.slice A' (runLen f l at_ m) c')∧Rds w' b 1 A' (runLen f l at_ m) (ints (runPts l at_ (runLen f l at_ m)))∧RdAtT b d A n c (at_+runLen f l at_ m) w'∧Kept b w w':=by
 obtain ⟨a,rfl⟩:=Int.eq_ofNat_of_zero_le h0
 obtain ⟨b1,off,rfl,hb1,-⟩:=ha.2 hn
 have HLN:=Lib.hid ha.ints_len
 have HA:=Lib.hid ha
 have HC:=Lib.hid hcl
 have HR:=Lib.hid hr
 have HF:=Lib.hid hf
 obtain ⟨c0,c1,c2,f2⟩:=hr.cells
 have h1':a≤n:=by omega
 clear hcl ha hr hf h0 h1
 have HK0:=Lib.hid (Kept.refl b w)
 have HLE:=Lib.hid (runLen_le f l m a)
 have HMORE:=Lib.hid (fun k=>runLen_more (f:=f) (l:=l) (m:=m) (at_:=a) (k:=k))
 have HEND:=Lib.hid (fun k=>runLen_end (f:=f) (l:=l) (m:=m) (at_:=a) (k:=k))
 have HFIT:=Lib.hid (runLen_fit HF.out (l:=l) (m:=m) (at_:=a) (by omega) (by rw [HLN.out];omega))
 obtain ⟨K,hK⟩:∃ K,K=runLen f l a m:=⟨_,rfl⟩
 rw [← hK] at HLE HMORE HEND HFIT ⊢
 clear hK
 have HLT:=Lib.hid HR.out.lt
 have HBN:=Lib.hid (show b1≠b by omega)
 have HBN:=Lib.hid (show b1≠b by omega)
 go_enter Tryz.func210,Tryz.ntmps210
 go_upto_region 2 with (fail)
 go_loopw [] (fun wr=>∃ k:Nat,k≤K∧Hid (RdAtT b d (some ⟨b1,off,none⟩) n c (a+k) wr)∧Hid (Kept b w wr)) (fun wr=>n - placeOf b wr)
 case atStart=>exact ⟨0,by omega,by simpa using HR,HK0⟩
 case round =>
  obtain ⟨k,hk,HR1,HK1⟩:=hrel
  obtain ⟨c0,c1,c2,f2⟩:=HR1.out.cells
  have HPL:=Lib.hid HR1.out.place
  have i3:(0:Int)≤(a:Int)+(k:Int):=by omega
  obtain ⟨A',hA',hsl⟩:=slice_part (HA.out.kept HK1.out (Nat.le_refl _) (Nat.le_of_lt HLT.out)) hn (a:=a) (k:=k) (by have:=HFIT.out;rw [HLN.out] at this;omega) hc
  have HA':=Lib.hid hA'
  clear hA'
  by_cases hlt:a+k < n
  ·have i1:(a:Int)+(k:Int) < (n:Int):=by omega
   have W1:IntKind.i64.wrap ((a:Int)+(k:Int) - (a:Int))=(k:Int):=by rw [IntWalk.i64_in _ (by omega)];omega
   by_cases hkm:k < m
   ·have hP:=ptAt_in l (k:=a+k) (by rw [HLN.out];exact hlt)
    rw [show ((a+k:Nat):Int)=(a:Int)+k by omega] at hP
    obtain ⟨b2,off2,hl2,hA2,-,hx⟩:=(HA.out.kept HK1.out (Nat.le_refl _) (Nat.le_of_lt HLT.out)).int_at hlt
    cases hA2
    obtain ⟨x,hx'⟩:∃ x,x=l[a+k]'hl2:=⟨_,rfl⟩
    rw [← hx'] at hx hP
    have HM:=Lib.hid (fun h:f x=true=>HMORE.out k hk hkm (by rw [hP];exact h))
    have HE:=Lib.hid (fun h:f x=false=>HEND.out k hk (fun _=>by rw [hP];exact h))
    have C:=Lib.hid (HC.out x)
    clear hP hx'
    have i2:(k:Int) < (m:Int):=by omega
    have W2:((a:Int)+(k:Int)).toNat=a+k:=by omega
    by_cases hfx:f x=true
    ·rw [hfx] at C
     have hle:=HM.out hfx
     clear HM HE hsl
     go_wp2_with fail
     go_quiet ((first|(with_reducible exact Calls.quiet_of_same (C.out _))|(with_reducible exact quiet_add_same (C.out _))))
     go_wp2
     have HRN:=HR1.out
     unfold RdAtT at HRN
     go_roundw
     case rel =>
      refine ⟨k+1,hle,Lib.hid ?_,Lib.hid ((HK1.out.drewN _).set 2 _)⟩
      rw [show (a:Int)+((k+1:Nat):Int)=(a:Int)+(k:Int)+1 by omega]
      exact (HR1.out.drewN _).move _
     case measure =>
      rw [HPL.out,((HR1.out.drewN _).move _).place];omega
    ·have hfx':f x=false:=by simpa using hfx
     clear hfx
     obtain rfl:=HE.out hfx'
     rw [hfx'] at C
     clear HM HE
     go_wp2_with fail
     go_quiet ((first|(with_reducible exact Calls.quiet_of_same (C.out _))|(with_reducible exact quiet_add_same (C.out _))))
     go_wp2_with fail
     go_quiet (fail)
     go_wp2_with fail
     go_ret
     exact ⟨_,_,rfl,HA'.out,HR1.out,(HK1.out.drewN _).drewN _⟩
   ·have hk2:m≤k:=by omega
    obtain rfl:k=K:=by have:=HLE.out;omega
    have i2:decide (k < m)=false:=by simpa using hkm
    have i4:decide ((k:Int) < (m:Int))=false:=by simpa using hkm
    go_wp2_with fail
    go_quiet (fail)
    go_wp2_with fail
    go_quiet (fail)
    go_wp2_with fail
    go_ret
    exact ⟨_,_,rfl,HA'.out,HR1.out,(HK1.out.drewN _).drewN _⟩
  ·have i1:decide ((a:Int)+(k:Int) < (n:Int))=false:=by simp;omega
   obtain rfl:k=K:=by have:=HFIT.out;rw [HLN.out] at this;omega
   go_wp2_with fail
   go_quiet (fail)
   go_wp2_with fail
   go_quiet (fail)
   go_wp2_with fail
   go_ret
   exact ⟨_,_,rfl,HA'.out,HR1.out,(HK1.out.drewN _).drewN _⟩
end Go.Proofs.YtbiahhojnjchnaaGreat
