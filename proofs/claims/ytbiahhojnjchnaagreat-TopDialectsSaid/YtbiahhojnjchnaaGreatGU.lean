/-
  The reader of bracket expressions, in its block; whether signs stand here: walked. Bracket expressions in plain Lean: items, spans, parts. (YtbiahhojnjchnaaGreat is the seat's name.) An item of a bracket expression, a letter: walked.
-/
import Derived.Test.YtbiahhojnjchnaaGreatBase
import Derived.Test.YtbiahhojnjchnaaGreatHD
import Derived.Test.YtbiahhojnjchnaaGreatHE
import Derived.WalkLawsBesides
import Derived.Deep.RegionHeld3
import Derived.Laws.ResultCell
import Derived.Deep.QuietTactic
import Derived.BigQuiet
set_option linter.unusedVariables false
set_option linter.unusedSimpArgs false
namespace Go.Proofs.YtbiahhojnjchnaaGreat
open Go.RowKit
/-- do these signs stand here? -/
def saysB (l:List Int) (at_:Int):List Int→Bool
 | []=>true
 | x :: xs=>decide (ptAt l at_=x) && saysB l (at_+1) xs
theorem saysB_append (l:List Int):∀ (a b:List Int) (at_:Int),saysB l at_ (a ++ b)=(saysB l at_ a && saysB l (at_+a.length) b):=by
 intro a
 induction a with
 | nil=>intro b at_;simp [saysB]
 | cons x xs ih =>
  intro b at_
  rw [List.cons_append,saysB,ih,saysB,Bool.and_assoc]
  congr 2
  congr 1
  simp;omega
theorem saysB_snoc {l cs:List Int} {at_:Int} {k:Nat} (hk:k < cs.length) (h:saysB l at_ (cs.take k)=true):saysB l at_ (cs.take (k+1))=decide (ptAt l (at_+k)=cs[k]):=by
 rw [List.take_succ_eq_append_getElem hk,saysB_append,h]
 simp [saysB,Nat.min_eq_left (Nat.le_of_lt hk)]
theorem saysB_cut {l cs:List Int} {at_:Int} (k:Nat) (h:saysB l at_ (cs.take k)=false):saysB l at_ cs=false:=by
 rw [← List.take_append_drop k cs,saysB_append,h];rfl
def runes (l:List Int):List Value:=l.map (Value.int .i32)
theorem runes_length (l:List Int):(runes l).length=l.length:=by simp [runes]
theorem Rds.rune_at {w:World} {B n:Nat} {A:Option Addr} {l:List Int} (h:Rds w B 1 A n (runes l)) {k:Nat} (hk:k < n) :
  ∃ b off,∃ h:k < l.length,A=some ⟨b,off,none⟩∧b < B∧w.cell? ⟨b,off+k,none⟩=some (.int .i32 l[k]):=by
 obtain ⟨b,off,e,hb,hc⟩:=h.2 (by omega)
 have hl:k < l.length:=by have:=h.1;rw [runes_length] at this;omega
 exact ⟨b,off,hl,e,hb,hc k _ (by simp [runes,hl])⟩
theorem Rds.runes_len {w:World} {B n:Nat} {A:Option Addr} {l:List Int} (h:Rds w B 1 A n (runes l)):l.length=n:=by have:=h.1;rw [runes_length] at this;omega
/-- the reader: dialect, points, place, folded, how deep -/
def RdAt (b:Nat) (d:Int) (A:Option Addr) (n c:Nat) (at_:Int) (fo:Bool) (dp:Int) (w:World):Prop:=w.heap[b]?=some (.cells #[.int .i64 d,.slice A n c,.int .i64 at_,.bool fo,.int .i64 dp] 96 (0,0))
theorem RdAt.cells {b n c:Nat} {d at_ dp:Int} {fo:Bool} {A:Option Addr} {w:World} (h:RdAt b d A n c at_ fo dp w):w.cell? ⟨b,0,none⟩=some (.int .i64 d)∧w.cell? ⟨b,1,none⟩=some (.slice A n c)∧w.cell? ⟨b,2,none⟩=some (.int .i64 at_)∧w.cell? ⟨b,3,none⟩=some (.bool fo)∧w.frozen? ⟨b,2,none⟩=false:=by
 refine ⟨?_,?_,?_,?_,?_⟩
 ·rw [cell_of_row _ _ _ _ 96 (0,0) h];rfl
 ·rw [cell_of_row _ _ _ _ 96 (0,0) h];rfl
 ·rw [cell_of_row _ _ _ _ 96 (0,0) h];rfl
 ·rw [cell_of_row _ _ _ _ 96 (0,0) h];rfl
 ·unfold RdAt at h;unfold World.frozen?;rw [h];rfl
theorem conv_i32 (x:Int) (h:0≤x∧x≤1000):IntKind.i64.wrap x=x:=IntWalk.i64_in _ (by omega)
set_option maxRecDepth 100000 in
set_option maxHeartbeats 4000000 in
theorem is30 (b n c m cc:Nat) (d at_ dp:Int) (fo:Bool) (A S:Option Addr) (l cs:List Int) (w:World) (hr:RdAt b d A n c at_ fo dp w) (ha:Rds w b 1 A n (ints l)) (h0:0≤at_) (h1:at_≤1000) (hn:n≤1000) (hs:Rds w w.heap.size 1 S m (runes cs)) (hcs:∀ x ∈ cs,0≤x∧x≤1000) (hm:m≤10) :
  Calls Tryz.prog 116 #[.pointer (some ⟨b,0,none⟩),.slice S m cc] w fun e w'=>e=.returned (.bool (saysB l at_ cs))∧∃ q,w'=w.drewN q:=by
 obtain ⟨c0,c1,c2,c3,f2⟩:=hr.cells
 have HLN:=Lib.hid ha.ints_len
 have HLC:=Lib.hid hs.runes_len
 have HCS:=Lib.hid hcs
 have HA:=Lib.hid ha
 have HS:=Lib.hid hs
 obtain ⟨a,rfl⟩:=Int.eq_ofNat_of_zero_le h0
 clear hr hcs ha hs c0 c3 f2
 go_enter Tryz.func116,Tryz.ntmps116
 go_wp2_with fail
 go_loopw [9] (fun i wr=>∃ k:Nat,k≤m∧i=.int .i64 k∧Hid (saysB l a (cs.take k)=true)∧∃ q,wr=w.drewN q) (fun i _=>m - (intOf i).toNat)
 case atStart=>exact ⟨0,Nat.zero_le _,rfl,Lib.hid (by simp [saysB]),0,rfl⟩
 case round =>
  obtain ⟨k,hk,rfl,HK,q,rfl⟩:=hrel
  by_cases hlt:k < m
  ·obtain ⟨b2,off2,hl2,hS,hb2,hx⟩:=HS.out.rune_at hlt
   have HX:=Lib.hid (HCS.out cs[k] (List.getElem_mem hl2))
   have HN:=Lib.hid (saysB_snoc hl2 HK.out)
   obtain ⟨x,hxe⟩:∃ x,x=cs[k]:=⟨_,rfl⟩
   rw [← hxe] at hx HX HN
   clear hxe
   subst hS
   have i1:(0:Int)≤(k:Int):=by omega
   have i2:(k:Int) < (m:Int):=by omega
   have W1:IntKind.i64.wrap ((a:Int)+(k:Int))=(a:Int)+(k:Int):=IntWalk.i64_in _ (by omega)
   have W2:IntKind.i64.wrap x=x:=conv_i32 x HX.out
   by_cases hin:a+k < n
   ·obtain ⟨b1,off1,hl1,hA,hb1,hc1⟩:=HA.out.int_at hin
    have HP:=Lib.hid (ptAt_in l hl1)
    obtain ⟨y,hy⟩:∃ y,y=l[a+k]:=⟨_,rfl⟩
    rw [← hy] at hc1 HP
    clear hy
    subst hA
    have e1:(decide ((n:Int)≤(a:Int)+(k:Int)))=false:=decide_eq_false (by omega)
    have i3:(0:Int)≤(a:Int)+(k:Int):=by omega
    have i4:(a:Int)+(k:Int) < (n:Int):=by omega
    have i5:((a:Int)+(k:Int)).toNat=a+k:=by omega
    by_cases hxy:y=x
    ·have e2:(y != x)=false:=by simpa using hxy
     have HT:Hid (saysB l a (cs.take (k+1))=true):=Lib.hid (HN.out.trans (decide_eq_true (by rw [show ((a:Int)+(k:Int))=((a+k:Nat):Int) by omega,HP.out];exact hxy)))
     clear hxy
     go_upto_region 4 with (fail)
     go_quiet (fail)
     go_wp2
     go_roundw
     case rel=>first|exact ⟨k+1,by omega,by go_num,HT,_,World.drewN_drewN _ _ _⟩|exact ⟨k+1,by omega,by go_num,HT,_,rfl⟩
     case measure=>simp [intOf];omega
    ·have e2:(y != x)=true:=by simpa using hxy
     have HT:Hid (saysB l a cs=false):=Lib.hid (saysB_cut (k+1) (HN.out.trans (decide_eq_false (by rw [show ((a:Int)+(k:Int))=((a+k:Nat):Int) by omega,HP.out];exact hxy))))
     clear hxy
     go_upto_region 4 with (fail)
     go_quiet (fail)
     go_wp2
     go_ret
     first|exact ⟨ret_bool HT.out.symm,_,rfl⟩|exact ⟨ret_bool HT.out.symm,_,World.drewN_drewN _ _ _⟩
   ·have e1:(decide ((n:Int)≤(a:Int)+(k:Int)))=true:=decide_eq_true (by omega)
    have HT:Hid (saysB l a cs=false):=Lib.hid (saysB_cut (k+1) (HN.out.trans (decide_eq_false (by rw [ptAt_out l (by rw [HLN.out];omega)];have:=HX.out;omega))))
    go_upto_region 4 with (fail)
    go_quiet (fail)
    go_wp2
    go_ret
    first|exact ⟨ret_bool HT.out.symm,_,rfl⟩|exact ⟨ret_bool HT.out.symm,_,World.drewN_drewN _ _ _⟩
  ·obtain rfl:k=m:=by omega
   have HT:=Lib.hid (show saysB l a cs=true by have:=HK.out;rwa [List.take_of_length_le (by rw [HLC.out];exact Nat.le_refl _)] at this)
   go_wp2_with fail
   go_ret
   first|exact ⟨ret_bool HT.out.symm,_,rfl⟩|exact ⟨ret_bool HT.out.symm,_,World.drewN_drewN _ _ _⟩
theorem lt_heap {w:World} {g:Nat} {o:Obj} (h:w.heap[g]?=some o):g < w.heap.size:=by
 rcases Nat.lt_or_ge g w.heap.size with h'|h'
 ·exact h'
 ·simp [Array.getElem?_eq_none h'] at h
theorem hz_alloc {w:World} {g:Nat} {o x:Obj} (h:w.heap[g]?=some x):(w.alloc o).heap[g]?=some x:=by rw [heap_alloc_old w o (lt_heap h)];exact h
theorem hz_set {w:World} {g:Nat} {x:Obj} {p:Addr} {v:Value} (h:w.heap[g]?=some x) (hn:g≠p.block):(w.setCell p v).heap[g]?=some x:=by rw [Below.heap_setCell _ _ _ _ hn];exact h
theorem put1 {w:World} {g:Nat} {cs ds:Array Value} {t:TypeId} {i:Nat} {v:Value} (h:w.heap[g]?=some (.cells cs t (0,0))) (hd:cs.setIfInBounds i v=ds):(w.setCell ⟨g,i,none⟩ v).heap[g]?=some (.cells ds t (0,0)):=by
 rw [← hd];exact heap_setCell_same _ _ i _ _ _ h
theorem row_next {W W':World} {g:Nat} {x:Obj} (h:W.heap[g]?=some x) (hb:Below W.heap.size W W'):W'.heap[g]?=some x:=(hb.block g (lt_heap h)).trans h
theorem frozen_row {w:World} {g o:Nat} {cs:Array Value} {t:TypeId} (h:w.heap[g]?=some (.cells cs t (0,0))):w.frozen? ⟨g,o,none⟩=false:=by unfold World.frozen?;rw [h];rfl
/-- old blocks stay, but one -/
structure Kept (b:Nat) (w w':World):Prop where
 os:w'.os=w.os
 tape:w'.tape=w.tape
 output:w'.output=w.output
 size:w.heap.size≤w'.heap.size
 block:∀ k,k < w.heap.size→k≠b→w'.heap[k]?=w.heap[k]?
theorem Kept.refl (b:Nat) (w:World):Kept b w w:=⟨rfl,rfl,rfl,Nat.le_refl _,fun _ _ _=>rfl⟩
theorem Kept.trans {b:Nat} {w w1 w2:World} (h:Kept b w w1) (k:Kept b w1 w2):Kept b w w2 :=
 ⟨k.os.trans h.os,k.tape.trans h.tape,k.output.trans h.output,Nat.le_trans h.size k.size,fun i hi hb=>(k.block i (Nat.lt_of_lt_of_le hi h.size) hb).trans (h.block i hi hb)⟩
theorem Kept.of {b:Nat} {w w':World} (h:Below w.heap.size w w'):Kept b w w':=⟨h.os,h.tape,h.output,h.size,fun k hk _=>h.block k hk⟩
theorem Kept.drewN {b:Nat} {w w':World} (h:Kept b w w') (q:Nat):Kept b w (w'.drewN q):=⟨h.os,h.tape,h.output,h.size,h.block⟩
theorem Kept.alloc {b:Nat} {w w':World} (h:Kept b w w') (o:Obj):Kept b w (w'.alloc o):=h.trans (.of ((Below.refl _ _).alloc (Nat.le_refl _) o))
theorem Kept.set {b:Nat} {w w':World} (h:Kept b w w') (j:Nat) (v:Value):Kept b w (w'.setCell ⟨b,j,none⟩ v) :=
 ⟨h.os,h.tape,h.output,by rw [World.setCell];simpa using h.size,fun k hk hb=>by rw [Below.heap_setCell _ ⟨b,j,none⟩ _ k hb];exact h.block k hk hb⟩
/-- a store into a block that is new -/
theorem Kept.setNew {b:Nat} {w w':World} (h:Kept b w w') {p:Addr} (hp:w.heap.size≤p.block) (v:Value):Kept b w (w'.setCell p v) :=
 ⟨h.os,h.tape,h.output,by rw [World.setCell];simpa using h.size,fun k hk hb=>by rw [Below.heap_setCell _ p _ k (fun e=>by omega)];exact h.block k hk hb⟩
theorem Kept.below {b B:Nat} {w0 w w':World} (h0:Below B w0 w) (hb:B≤b) (h:Kept b w w') (hB:B≤w.heap.size):Below B w0 w' :=
 ⟨h.os.trans h0.os,h.tape.trans h0.tape,h.output.trans h0.output,Nat.le_trans h0.size h.size,fun k hk=>(h.block k (by omega) (by omega)).trans (h0.block k hk)⟩
theorem Kept.cell {b:Nat} {w w':World} (h:Kept b w w') {p:Addr} (hp:p.block < w.heap.size) (hb:p.block≠b):w'.cell? p=w.cell? p:=World.cell?_of_block (h.block p.block hp hb)
theorem Kept.frozen {b:Nat} {w w':World} (h:Kept b w w') {p:Addr} (hp:p.block < w.heap.size) (hb:p.block≠b):w'.frozen? p=w.frozen? p:=by
 unfold World.frozen?;rw [h.block p.block hp hb]
theorem Rds.kept {w w':World} {b B size n:Nat} {A:Option Addr} {xs:List Value} (h:Rds w B size A n xs) (hk:Kept b w w') (hB:B≤b) (hs:b≤w.heap.size):Rds w' B size A n xs :=
 h.keep fun p hp=>hk.cell (by omega) (by omega)
/-- the reader, whole -/
structure BSt (b n c:Nat) (d:Int) (fo:Bool) (dp:Int) (A:Option Addr) (l:List Int) (at_:Int) (w:World):Prop where
 rd:RdAt b d A n c at_ fo dp w
 row:Rds w b 1 A n (ints l)
 lo:0≤at_
 hi:at_≤n
 small:n≤300
 cap:n≤c
section
variable {b n c:Nat} {d dp at_:Int} {fo:Bool} {A:Option Addr} {l:List Int} {w w':World}
theorem BSt.len (h:BSt b n c d fo dp A l at_ w):l.length=n:=h.row.ints_len
theorem BSt.lt (h:BSt b n c d fo dp A l at_ w):b < w.heap.size:=by
 have:=h.rd
 unfold RdAt at this
 rcases Nat.lt_or_ge b w.heap.size with h'|h'
 ·exact h'
 ·simp [Array.getElem?_eq_none h'] at this
theorem BSt.next (h:BSt b n c d fo dp A l at_ w) (hb:Below w.heap.size w w'):BSt b n c d fo dp A l at_ w' :=
 ⟨by have:=h.rd;unfold RdAt at *;rw [hb.block b h.lt];exact this,h.row.below hb (Nat.le_of_lt h.lt),h.lo,h.hi,h.small,h.cap⟩
theorem BSt.moved (h:BSt b n c d fo dp A l at_ w) (x:Int) (h0:0≤x) (h1:x≤n):BSt b n c d fo dp A l x (w.setCell ⟨b,2,none⟩ (.int .i64 x)) :=
 ⟨put1 (i:=2) h.rd rfl,h.row.setCell (Nat.le_refl _) _,h0,h1,h.small,h.cap⟩
theorem BSt.is_ (h:BSt b n c d fo dp A l at_ w) {m cc:Nat} {S:Option Addr} {cs:List Int} (v:Bool) (hv:saysB l at_ cs=v) (hs:Rds w w.heap.size 1 S m (runes cs)) (hcs:∀ x ∈ cs,0≤x∧x≤1000) (hm:m≤10) :
  Calls Tryz.prog 116 #[.pointer (some ⟨b,0,none⟩),.slice S m cc] w fun e w'=>e=.returned (.bool v)∧∃ q,w'=w.drewN q:=by
 have:=is30 b n c m cc d at_ dp fo A S l cs w h.rd h.row h.lo (by have:=h.hi;have:=h.small;omega) (by have:=h.small;omega) hs hcs hm
 rwa [hv] at this
end
/-- a row of signs, new -/
theorem runes_new (w:World) (cs:List Int) (vs:Array Value) (m:Nat) (hv:vs.toList=runes cs) (hm:cs.length=m):Rds (w.alloc (.cells vs 21)) (w.alloc (.cells vs 21)).heap.size 1 (some ⟨w.heap.size,0,none⟩) m (runes cs):=by
 have:=Rds.new w 1 m vs 21 (runes cs) hv (by rw [runes_length];omega)
 simpa using this
/-- these signs do not stand here -/
theorem may_no {b n c m cc:Nat} {d dp at_:Int} {fo:Bool} {A S:Option Addr} {l cs:List Int} {w:World} (h:BSt b n c d fo dp A l at_ w) (hv:saysB l at_ cs=false) (hs:Rds w w.heap.size 1 S m (runes cs)) (hcs:∀ x ∈ cs,0≤x∧x≤1000) (hm:m≤10) :
  Calls Tryz.prog 89 #[.pointer (some ⟨b,0,none⟩),.slice S m cc] w fun e w'=>e=.returned (.bool false)∧∃ q,w'=w.drewN q:=by
 have C:=Lib.hid (h.is_ (cc:=cc) false hv hs hcs hm)
 clear h hs hcs hv
 go_enter Tryz.func89,Tryz.ntmps89
 go_wp2_with (go_at_call 116;refine C.out.mono ?_;rintro e w1 ⟨rfl,q,rfl⟩)
 go_ret
 exact ⟨rfl,q,rfl⟩
/-- these signs stand here, and are passed by -/
theorem may_yes {b n c m cc:Nat} {d dp at_:Int} {fo:Bool} {A S:Option Addr} {l cs:List Int} {w:World} (h:BSt b n c d fo dp A l at_ w) (hv:saysB l at_ cs=true) (hs:Rds w w.heap.size 1 S m (runes cs)) (hcs:∀ x ∈ cs,0≤x∧x≤1000) (hm:m≤10) (hend:at_+m≤n) :
  Calls Tryz.prog 89 #[.pointer (some ⟨b,0,none⟩),.slice S m cc] w fun e w'=>e=.returned (.bool true)∧BSt b n c d fo dp A l (at_+m) w'∧Kept b w w':=by
 have C:=Lib.hid (h.is_ (cc:=cc) true hv hs hcs hm)
 have HS:=Lib.hid h
 obtain ⟨c0,c1,c2,c3,f2⟩:=h.rd.cells
 have hlo:=h.lo
 have hsm:=h.small
 have W1:IntKind.i64.wrap (at_+(m:Int))=at_+(m:Int):=IntWalk.i64_in _ (by omega)
 clear h hs hcs hv
 go_enter Tryz.func89,Tryz.ntmps89
 go_wp2_with (go_at_call 116;refine C.out.mono ?_;rintro e w1 ⟨rfl,q,rfl⟩)
 go_ret
 have hb:Below w.heap.size w (w.drewN q):=below_drewN (Below.refl _ _) _
 exact ⟨rfl,(HS.out.next hb).moved _ (by omega) (by omega),(Kept.of hb).set 2 _⟩
theorem own_keptb {w w':World} {base b:Nat} {e:TypeId} {size n:Nat} {v:Value} {xs:List Value} (h:w.ownsRow base e size v n xs) (hk:Kept b w w') (hb:b < base):w'.ownsRow base e size v n xs:=by
 refine ⟨h.1,?_⟩
 rcases h.2 with h2|⟨g,cap,cur,hv,hg,hh,r⟩
 ·exact .inl h2
 ·refine .inr ⟨g,cap,cur,hv,hg,?_,r⟩
  have hlt:g < w.heap.size:=by
   rcases Nat.lt_or_ge g w.heap.size with h|h
   ·exact h
   ·rw [Array.getElem?_eq_none h] at hh;cases hh
  rw [hk.block g hlt (by omega)]
  exact hh
theorem pt_hi {l:List Int} {n:Nat} {p:Int} (hl:l.length=n) (h:0≤ptAt l p):0≤p∧p+1≤n:=by
 by_cases hc:0≤p∧p < l.length
 ·omega
 ·rw [ptAt_out l hc] at h;omega
theorem put2_cell {w:World} {g:Nat} {p:Addr} {a0 a1:Value} (h:p.block≠g):((w.setCell ⟨g,0,none⟩ a0).setCell ⟨g,1,none⟩ a1).cell? p=w.cell? p:=by
 have e:∀ (x:World) (i:Nat) (v:Value),(x.setCell ⟨g,i,none⟩ v).cell? p=x.cell? p:=fun x i v=>World.cell?_of_block (Below.heap_setCell x ⟨g,i,none⟩ v p.block h)
 rw [e,e]
end Go.Proofs.YtbiahhojnjchnaaGreat
namespace Go.Proofs.YtbiahhojnjchnaaGreat
/-- what is wrong, and where; or what is told -/
abbrev BR (α:Type):=Except (Int × Int) α
/-- a set, told by what it has, and the place behind it -/
abbrev SP:=(Int→Prop) × Int
/-- an item: its set, its point (-1: none), the place behind it -/
structure Itm where
 f:Int→Prop
 pt:Int
 nx:Int
def isLow (p:Int):Bool:=decide (97≤p) && decide (p≤122)
/-- a class, turned over if asked -/
def clsF (L:List (Int × Int)) (nt:Bool) (p:Int):Prop:=if nt=true then 0≤p∧p≤1114111∧¬ mem L p else mem L p
section
variable (d:Int) (l:List Int)
def pairP (pt at_:Int):BR Itm→BR SP
 | .error e=>.error e
 | .ok b=>if b.pt < 0 then .error (1,at_) else if b.pt < pt then .error (3,at_) else .ok (fun p=>pt≤p∧p≤b.pt,b.nx)
def spanP (I:Int→BR Itm) (at_:Int):BR SP :=
 match I at_ with
 | .error e=>.error e
 | .ok a =>
  if saysB l a.nx [45]=false∨saysB l a.nx [45,93]=true∨a.pt < 0 then .ok (a.f,a.nx)
  else if (l.length:Int)≤a.nx+1 then .error (1,a.nx+1)
  else if saysB l (a.nx+1) [91,58]=true∨(d=1∧ptAt l (a.nx+1)=91) then .error (1,a.nx+1)
  else pairP a.pt (a.nx+1) (I (a.nx+1))
def partP (S:Int→BR SP) (first:Bool):Nat→Nat→(Int→Prop)→Int→BR SP
 | 0,_,_,at_=>.error (0,at_)
 | m+1,n,acc,at_ =>
  if (0 < n∨first=false)∧ptAt l at_=93 then (if n=0 then .error (1,at_) else .ok (acc,at_))
  else if d=1∧saysB l at_ [38,38]=true then (if n=0 then .error (1,at_) else .ok (acc,at_))
  else match S at_ with
   | .error e=>.error e
   | .ok r=>partP S first m (n+1) (fun p=>acc p∨r.1 p) r.2
end
end Go.Proofs.YtbiahhojnjchnaaGreat
namespace Go.Proofs.YtbiahhojnjchnaaGreat
open Go.RowKit
theorem results_cell_one {fn:Func} {p:Tmp} {ty:TypeId} (h:fn.results=#[.cell p ty]) (tmps:Array Value) (P:Program) (w:World) :
  (results fn tmps).run P w=((asAddr (tmps.getD p undef)).run P w).andThen fun a w₁=>(loadVar ty a).run P w₁:=by
 simp only [results,h]
 simp [Sem.run_bind,Result.andThen]
set_option maxRecDepth 100000 in
set_option maxHeartbeats 4000000 in
theorem named_no {b n c:Nat} {d dp at_:Int} {fo:Bool} {A:Option Addr} {l:List Int} {w:World} (h:BSt b n c d fo dp A l at_ w) (hv:ptAt l at_≠91) :
  Calls Tryz.prog 184 #[.pointer (some ⟨b,0,none⟩)] w fun e w'=>e=.returned (.tuple #[.agg #[.slice none 0 0,.int .i64 0],.bool false])∧Below w.heap.size w w':=by
 have hB0:Below w.heap.size w (w.alloc (.cells #[.slice none 0 0,.int .i64 0] 167)):=(Below.refl _ _).alloc (Nat.le_refl _) _
 have h1:=h.next (hB0.alloc (by simp) (.cells #[.int .i32 91,.int .i32 58] 21))
 have C:=may_no (cc:=2) h1 (cs:=[91,58]) (by simp [saysB,hv]) (runes_new _ [91,58] #[.int .i32 91,.int .i32 58] 2 rfl rfl) (by simp) (by decide)
 rw [show (w.alloc (.cells #[.slice none 0 0,.int .i64 0] 167)).heap.size=w.heap.size+1 from by simp] at C
 have C:=Lib.hid C
 obtain ⟨c0,c1,c2,c3,f2⟩:=(h.next hB0).rd.cells
 have hl:=h.lt
 clear h h1 hv c0 c1 c3 f2
 go_enter Tryz.func184,Tryz.ntmps184
 go_upto_region 3 with (first
  | (go_at_call 89;(with_reducible refine C.out.mono ?_);rintro e w1 ⟨rfl,q,rfl⟩))
 repeat (first|go_values|go_skip|go_guarded|go_step|go_upon|(simp only []))
 (try simp only [Exit.inBlock,Exit.then])
 refine bodyPost_ret (v:=.tuple #[.agg #[.slice none 0 0,.int .i64 0],.bool false]) ?_ rfl ?_
 ·rw [results_cell_tmp rfl]
  go_simp
 ·refine ⟨rfl,?_⟩
  (repeat' (first|(with_reducible exact Below.refl _ _)|(with_reducible refine Below.setCell ?_ (by simp<;>omega) _)|(with_reducible refine Below.alloc ?_ (by simp<;>omega) _)|with_reducible refine below_drewN ?_ _))
theorem rds_at {w:World} {g B n size:Nat} {cs:Array Value} {t:TypeId} {xs:List Value} (h:w.heap[g]?=some (.cells cs t (0,0))) (hx:cs.toList=xs) (hn:xs.length=n * size) (hB:g < B):Rds w B size (some ⟨g,0,none⟩) n xs:=by
 refine ⟨hn,fun _=>⟨g,0,rfl,hB,fun j u hj=>?_⟩⟩
 rw [Nat.zero_add,cell_of_row _ _ _ _ _ _ h]
 rw [← hx] at hj
 simpa using hj
set_option maxRecDepth 100000 in
set_option maxHeartbeats 4000000 in
theorem single52 (p:Int) (w:World):Calls Tryz.prog 186 #[.int .i64 p] w fun e w'=>e=.returned (.agg #[.slice (some ⟨w.heap.size+1,0,none⟩) 1 1,.int .i64 p])∧w'.heap[w.heap.size+1]?=some (.cells #[.int .i64 p,.int .i64 p] 67 (0,0))∧Below w.heap.size w w':=by
 go_enter Tryz.func186,Tryz.ntmps186
 repeat (first|go_values|go_skip|go_guarded|go_step|go_upon|(simp only []))
 (try simp only [Exit.inBlock,Exit.then])
 refine bodyPost_ret (v:=.agg #[.slice (some ⟨w.heap.size+1,0,none⟩) 1 1,.int .i64 p]) ?_ rfl ?_
 ·rw [results_cell_one rfl]
  go_simp
 ·refine ⟨rfl,?_,?_⟩
  ·have:=heap_alloc_new (w.alloc (.cells #[.slice (some ⟨w.heap.size+1,0,none⟩) 1 1,.int .i64 p] 167)) (.cells #[.int .i64 p,.int .i64 p] 67);simpa using this
  ·(repeat' (first|(with_reducible exact Below.refl _ _)|(with_reducible refine Below.setCell ?_ (by simp<;>omega) _)|(with_reducible refine Below.alloc ?_ (by simp<;>omega) _)|with_reducible refine below_drewN ?_ _))
end Go.Proofs.YtbiahhojnjchnaaGreat
