/-
  An item of a bracket expression that is a point as it stands: walked, in any dialect. An item of a bracket expression where the pattern ends: walked.
-/
import Derived.Test.YtbiahhojnjchnaaGreatGW
set_option linter.unusedVariables false
set_option linter.unusedSimpArgs false
namespace Go.Proofs.YtbiahhojnjchnaaGreat
open Go.RowKit
theorem BSt.other {b n c:Nat} {d dp at_:Int} {fo:Bool} {A:Option Addr} {l:List Int} {w:World} (h:BSt b n c d fo dp A l at_ w) {g:Nat} (hg:b < g) (i:Nat) (v:Value):BSt b n c d fo dp A l at_ (w.setCell ⟨g,i,none⟩ v) :=
 ⟨hz_set h.rd (show b≠g by omega),h.row.setCell (show b≤g by omega) _,h.lo,h.hi,h.small,h.cap⟩
set_option maxRecDepth 100000 in
set_option maxHeartbeats 4000000 in
theorem named_none {b n c:Nat} {d dp at_:Int} {fo:Bool} {A:Option Addr} {l:List Int} {w:World} (h:BSt b n c d fo dp A l at_ w) (hv:saysB l at_ [91,58]=false) :
  Calls Tryz.prog 184 #[.pointer (some ⟨b,0,none⟩)] w fun e w'=>e=.returned (.tuple #[.agg #[.slice none 0 0,.int .i64 0],.bool false])∧Below w.heap.size w w':=by
 have hB0:Below w.heap.size w (w.alloc (.cells #[.slice none 0 0,.int .i64 0] 167)):=(Below.refl _ _).alloc (Nat.le_refl _) _
 have h1:=h.next (hB0.alloc (by simp) (.cells #[.int .i32 91,.int .i32 58] 21))
 have C:=may_no (cc:=2) h1 (cs:=[91,58]) hv (runes_new _ [91,58] #[.int .i32 91,.int .i32 58] 2 rfl rfl) (by simp) (by decide)
 rw [show (w.alloc (.cells #[.slice none 0 0,.int .i64 0] 167)).heap.size=w.heap.size+1 from by simp] at C
 have C:=Lib.hid C
 obtain ⟨c0,c1,c2,c3,f2⟩:=(h.next hB0).rd.cells
 have hl:=h.lt
 clear h h1 hv c0 c1 c3 f2
 go_enter Tryz.func184,Tryz.ntmps184
 go_upto_region 3 with (first
  | (go_at_call 89;(with_reducible refine C.out.mono ?_);rintro e w1 ⟨rfl,q,rfl⟩))
 repeat (first|go_values|go_skip|go_guarded|go_step|go_upon|(simp only []))
 (try simp only [Exit.inBlock,Exit.then])
 refine bodyPost_ret (v:=.tuple #[.agg #[.slice none 0 0,.int .i64 0],.bool false]) ?_ rfl ?_
 ·rw [results_cell_tmp rfl]
  go_simp
 ·refine ⟨rfl,?_⟩
  (repeat' (first|(with_reducible exact Below.refl _ _)|(with_reducible refine Below.setCell ?_ (by simp<;>omega) _)|(with_reducible refine Below.alloc ?_ (by simp<;>omega) _)|with_reducible refine below_drewN ?_ _))
set_option maxRecDepth 100000 in
set_option maxHeartbeats 8000000 in
theorem one_plain {b n c:Nat} {d dp at_:Int} {fo:Bool} {A:Option Addr} {l:List Int} {w:World} (h:BSt b n c d fo dp A l at_ w) (p:Int) (hp:ptAt l at_=p) (h48:0≤p) (hnc:saysB l at_ [91,58]=false) (h91:d=1→p≠91) (h92:d=1→p≠92) :
  Calls Tryz.prog 143 #[.pointer (some ⟨b,0,none⟩)] w fun e w'=>∃ g,e=.returned (.agg #[.slice (some ⟨g,0,none⟩) 1 1,.int .i64 p])∧w'.heap[g]?=some (.cells #[.int .i64 p,.int .i64 p] 67 (0,0))∧w.heap.size≤g∧BSt b n c d fo dp A l (at_+1) w'∧Kept b w w':=by
 have HLN:=Lib.hid h.len
 have hat:=pt_hi HLN.out (show 0≤ptAt l at_ by omega)
 obtain ⟨hat0,hat1⟩:=hat
 have hsm:=h.small
 have hlt:=h.lt
 have hB0:Below w.heap.size w (w.alloc (.cells #[.slice none 0 0,.int .i64 0] 167)):=(Below.refl _ _).alloc (Nat.le_refl _) _
 have HS0:=Lib.hid (h.next hB0)
 have CN:=Lib.hid (named_none HS0.out hnc)
 obtain ⟨W0,hW0⟩:∃ X,X=w.alloc (.cells #[.slice none 0 0,.int .i64 0] 167):=⟨_,rfl⟩
 have hs0:W0.heap.size=w.heap.size+1:=by rw [hW0];simp
 have HZ0:=Lib.hid (show W0.heap[w.heap.size]?=some (.cells #[.slice none 0 0,.int .i64 0] 167 (0,0)) by rw [hW0];exact heap_alloc_new w _)
 rw [← hW0] at HS0 CN hB0
 have HB0:=Lib.hid hB0
 have HPT:=Lib.hid hp
 have N9:=Lib.hid (show d=1→saysB l at_ [91]=false∧saysB l at_ [92]=false from fun e=>⟨by simp [saysB,hp,h91 e],by simp [saysB,hp,h92 e]⟩)
 clear h91 h92 hnc
 have N1:(⟨b,1,none⟩:Addr).block≠w.heap.size:=by show b≠w.heap.size;omega
 clear hp hB0 h
 go_enter Tryz.func143,Tryz.ntmps143
 go_upto_region 1 with (fail)
 rw [← hW0]
 clear hW0
 go_upto_region 4 with (first
  | (go_at_call 184;(with_reducible refine CN.out.mono ?_);rintro e w1 ⟨rfl,hb⟩))
 obtain ⟨W2,hW2⟩:∃ X,X=w1.alloc (.cells #[.slice none 0 0,.int .i64 0] 167):=⟨_,rfl⟩
 have hb2:Below W0.heap.size W0 W2:=by rw [hW2];exact hb.alloc hb.size _
 have HS2:=Lib.hid (HS0.out.next hb2)
 have HZ2:=Lib.hid (row_next HZ0.out hb2)
 have HB2:=Lib.hid (HB0.out.trans (hb2.mono (by omega)))
 rw [← hW2]
 clear hW2 hb hb2 CN HS0 HZ0 HB0 hs0
 obtain ⟨c0,c1,c2,c3,f2⟩:=HS2.out.rd.cells
 have e1:(decide ((n:Int)≤at_))=false:=decide_eq_false (by omega)
 go_quiet (fail)
 go_upto_region 7 with (fail)
 obtain ⟨W3,hW3⟩:∃ X,X=W2.drewN nq:=⟨_,rfl⟩
 have hb3:Below W2.heap.size W2 W3:=by rw [hW3];exact below_drewN (Below.refl _ _) _
 have HS3:=Lib.hid (HS2.out.next hb3)
 have HZ3:=Lib.hid (row_next HZ2.out hb3)
 have HB3:=Lib.hid (HB2.out.trans (hb3.mono HB2.out.size))
 rw [← hW3]
 clear hW3 hb3 HS2 HZ2 HB2 c0 c1 c2 c3 f2 e1
 by_cases hd:d=1
 ·subst hd
  have N91:=Lib.hid (N9.out rfl).1
  have N92:=Lib.hid (N9.out rfl).2
  clear N9
  go_upto_region 21 with (first
   | (go_at_call 116;(with_reducible refine (BSt.is_ (cc:=1) (m:=1) (cs:=[91]) (HS3.out.next ((Below.refl _ _).alloc (Nat.le_refl _) _)) false N91.out (runes_new W3 [91] #[.int .i32 91] 1 rfl rfl) (by simp) (by decide)).mono ?_);rintro e w4 ⟨rfl,q4,hq4⟩;have hb4:Below W3.heap.size W3 w4:=(by rw [hq4];exact below_drewN ((Below.refl _ _).alloc (Nat.le_refl _) _) _);have HS4:=Lib.hid (HS3.out.next hb4);have HZ4:=Lib.hid (row_next HZ3.out hb4);have HB4:=Lib.hid (HB3.out.trans (hb4.mono HB3.out.size));clear hq4 hb4)
   | (go_at_call 116;(with_reducible refine (BSt.is_ (cc:=1) (m:=1) (cs:=[92]) (HS4.out.next ((Below.refl _ _).alloc (Nat.le_refl _) _)) false N92.out (runes_new w4 [92] #[.int .i32 92] 1 rfl rfl) (by simp) (by decide)).mono ?_);rintro e w5 ⟨rfl,q5,hq5⟩;have hb5:Below w4.heap.size w4 w5:=(by rw [hq5];exact below_drewN ((Below.refl _ _).alloc (Nat.le_refl _) _) _);have HS5:=Lib.hid (HS4.out.next hb5);have HZ5:=Lib.hid (row_next HZ4.out hb5);have HB5:=Lib.hid (HB4.out.trans (hb5.mono HB4.out.size));clear hq5 hb5))
  obtain ⟨c0,c1,c2,c3,f2⟩:=HS5.out.rd.cells
  have W1:IntKind.i64.wrap (at_+1)=at_+1:=IntWalk.i64_in _ (by omega)
  go_upto_region 22 with (fail)
  obtain ⟨W6,hW6⟩:∃ X,X=w5.setCell ⟨b,2,none⟩ (.int .i64 (at_+1)):=⟨_,rfl⟩
  have HS6:=Lib.hid (show BSt b n c 1 fo dp A l (at_+1) W6 by rw [hW6];exact HS5.out.moved _ (by omega) (by omega))
  have HZ6:=Lib.hid (show W6.heap[w.heap.size]?=some (.cells #[.slice none 0 0,.int .i64 0] 167 (0,0)) by rw [hW6];exact hz_set HZ5.out (show w.heap.size≠b by omega))
  have HK6:=Lib.hid (show Kept b w W6 by rw [hW6];exact (Kept.of HB5.out).set 2 _)
  rw [← hW6]
  clear hW6 c0 c1 c2 c3 f2 W1 HS5 HZ5 HB5
  obtain ⟨c0,c1,c2,c3,f2⟩:=HS6.out.rd.cells
  obtain ⟨a,ha⟩:=Int.eq_ofNat_of_zero_le hat0
  obtain ⟨b1,off1,hl1,hA,hb1,hc1⟩:=HS6.out.row.int_at (k:=a) (by omega)
  have hx:l[a]=p:=by rw [← HPT.out,ha];exact (ptAt_in l hl1).symm
  rw [hx] at hc1
  have W1:IntKind.i64.wrap (at_+1 - 1)=at_:=by rw [show at_+1 - 1=at_ by omega];exact IntWalk.i64_in _ (by omega)
  have W2:IntKind.i64.wrap at_=at_:=IntWalk.i64_in _ (by omega)
  have i1:at_.toNat=a:=by omega
  have N2:(⟨b1,off1+a,none⟩:Addr).block≠w.heap.size:=by show b1≠w.heap.size;omega
  have hat2:at_ < n:=by omega
  have HAA:=Lib.hid ha
  clear ha hx
  subst hA
  have d1:(World.drew W6).cell? ⟨b,1,none⟩=some (.slice (some ⟨b1,off1,none⟩) n c):=c1
  have d2:(World.drew W6).cell? ⟨b,2,none⟩=some (.int .i64 (at_+1)):=c2
  have d3:(World.drew W6).cell? ⟨b1,off1+a,none⟩=some (.int .i64 p):=hc1
  have lt6:=HS6.out.lt
  have lz6:=lt_heap HZ6.out
  go_region_held3 (fun w'=>w'.cell? ⟨b,1,none⟩=some (.slice (some ⟨b1,off1,none⟩) n c)∧w'.cell? ⟨b,2,none⟩=some (.int .i64 (at_+1))∧w'.cell? ⟨b1,off1+a,none⟩=some (.int .i64 p))
   (first
    | with_reducible exact ⟨d1,d2,d3⟩
    | with_reducible exact ⟨k1,k2,k3⟩
    | with_reducible exact ⟨(put2_cell N1).trans k1,(put2_cell N1).trans k2,(put2_cell N2).trans k3⟩)
   (first
    | (go_at_call 186;(with_reducible refine (single52 p _).mono ?_);rintro e w7 ⟨rfl,hg,hb⟩;have HB7:=Lib.hid hb;have HG:=Lib.hid hg;have HZ7:=Lib.hid (row_next (show (World.drew W6).heap[w.heap.size]?=_ from HZ6.out) hb);have k1:=(hb.cell (p:=⟨b,1,none⟩) (show b < W6.heap.size from lt6)).trans d1;have k2:=(hb.cell (p:=⟨b,2,none⟩) (show b < W6.heap.size from lt6)).trans d2;have k3:=(hb.cell (p:=⟨b1,off1+a,none⟩) (show b1 < W6.heap.size by omega)).trans d3;have z0:=cell_of_row _ _ 0 _ _ _ HZ7.out;have z1:=cell_of_row _ _ 1 _ _ _ HZ7.out;have g0:=frozen_row (o:=0) HZ7.out;have g1:=frozen_row (o:=1) HZ7.out;clear hg hb))
  have HS7:=Lib.hid ((((HS6.out.next (Below.drew (Below.refl _ _))).next HB7.out).other hlt 0 (.slice (some ⟨W6.heap.size+1,0,none⟩) 1 1)).other hlt 1 (.int .i64 p))
  have HK7:=Lib.hid (((HK6.out.trans (Kept.of (Below.drew (Below.refl _ _)))).trans (Kept.of HB7.out)).setNew (p:=⟨w.heap.size,0,none⟩) (Nat.le_refl _) (.slice (some ⟨W6.heap.size+1,0,none⟩) 1 1) |>.setNew (p:=⟨w.heap.size,1,none⟩) (Nat.le_refl _) (.int .i64 p))
  have HG7:=Lib.hid (hz_set (p:=⟨w.heap.size,1,none⟩) (v:=.int .i64 p) (hz_set (p:=⟨w.heap.size,0,none⟩) (v:=.slice (some ⟨W6.heap.size+1,0,none⟩) 1 1) (show w7.heap[W6.heap.size+1]?=_ from HG.out) (show W6.heap.size+1≠w.heap.size by omega)) (show W6.heap.size+1≠w.heap.size by omega))
  repeat (first|go_values|go_skip|go_guarded|go_step|go_upon|(simp only []))
  (try simp only [Exit.inBlock,Exit.then])
  refine bodyPost_ret (v:=.agg #[.slice (some ⟨W6.heap.size+1,0,none⟩) 1 1,.int .i64 p]) ?_ rfl ?_
  ·rw [results_cell_one rfl]
   go_simp
  ·exact ⟨_,rfl,HG7.out,by have:=HK6.out.size;omega,HS7.out,HK7.out⟩
 ·have hdb:(d == 1)=false:=by simpa using hd
  have HS5:=HS3
  have HZ5:=HZ3
  have HB5:=HB3
  go_upto_region 21 with (fail)
  obtain ⟨c0,c1,c2,c3,f2⟩:=HS5.out.rd.cells
  have W1:IntKind.i64.wrap (at_+1)=at_+1:=IntWalk.i64_in _ (by omega)
  go_upto_region 22 with (fail)
  obtain ⟨W6,hW6⟩:∃ X,X=W3.setCell ⟨b,2,none⟩ (.int .i64 (at_+1)):=⟨_,rfl⟩
  have HS6:=Lib.hid (show BSt b n c d fo dp A l (at_+1) W6 by rw [hW6];exact HS5.out.moved _ (by omega) (by omega))
  have HZ6:=Lib.hid (show W6.heap[w.heap.size]?=some (.cells #[.slice none 0 0,.int .i64 0] 167 (0,0)) by rw [hW6];exact hz_set HZ5.out (show w.heap.size≠b by omega))
  have HK6:=Lib.hid (show Kept b w W6 by rw [hW6];exact (Kept.of HB5.out).set 2 _)
  rw [← hW6]
  clear hW6 c0 c1 c2 c3 f2 W1 HS5 HZ5 HB5
  obtain ⟨c0,c1,c2,c3,f2⟩:=HS6.out.rd.cells
  obtain ⟨a,ha⟩:=Int.eq_ofNat_of_zero_le hat0
  obtain ⟨b1,off1,hl1,hA,hb1,hc1⟩:=HS6.out.row.int_at (k:=a) (by omega)
  have hx:l[a]=p:=by rw [← HPT.out,ha];exact (ptAt_in l hl1).symm
  rw [hx] at hc1
  have W1:IntKind.i64.wrap (at_+1 - 1)=at_:=by rw [show at_+1 - 1=at_ by omega];exact IntWalk.i64_in _ (by omega)
  have W2:IntKind.i64.wrap at_=at_:=IntWalk.i64_in _ (by omega)
  have i1:at_.toNat=a:=by omega
  have N2:(⟨b1,off1+a,none⟩:Addr).block≠w.heap.size:=by show b1≠w.heap.size;omega
  have hat2:at_ < n:=by omega
  have HAA:=Lib.hid ha
  clear ha hx
  subst hA
  have d1:(World.drew W6).cell? ⟨b,1,none⟩=some (.slice (some ⟨b1,off1,none⟩) n c):=c1
  have d2:(World.drew W6).cell? ⟨b,2,none⟩=some (.int .i64 (at_+1)):=c2
  have d3:(World.drew W6).cell? ⟨b1,off1+a,none⟩=some (.int .i64 p):=hc1
  have lt6:=HS6.out.lt
  have lz6:=lt_heap HZ6.out
  go_region_held3 (fun w'=>w'.cell? ⟨b,1,none⟩=some (.slice (some ⟨b1,off1,none⟩) n c)∧w'.cell? ⟨b,2,none⟩=some (.int .i64 (at_+1))∧w'.cell? ⟨b1,off1+a,none⟩=some (.int .i64 p))
   (first
    | with_reducible exact ⟨d1,d2,d3⟩
    | with_reducible exact ⟨k1,k2,k3⟩
    | with_reducible exact ⟨(put2_cell N1).trans k1,(put2_cell N1).trans k2,(put2_cell N2).trans k3⟩)
   (first
    | (go_at_call 186;(with_reducible refine (single52 p _).mono ?_);rintro e w7 ⟨rfl,hg,hb⟩;have HB7:=Lib.hid hb;have HG:=Lib.hid hg;have HZ7:=Lib.hid (row_next (show (World.drew W6).heap[w.heap.size]?=_ from HZ6.out) hb);have k1:=(hb.cell (p:=⟨b,1,none⟩) (show b < W6.heap.size from lt6)).trans d1;have k2:=(hb.cell (p:=⟨b,2,none⟩) (show b < W6.heap.size from lt6)).trans d2;have k3:=(hb.cell (p:=⟨b1,off1+a,none⟩) (show b1 < W6.heap.size by omega)).trans d3;have z0:=cell_of_row _ _ 0 _ _ _ HZ7.out;have z1:=cell_of_row _ _ 1 _ _ _ HZ7.out;have g0:=frozen_row (o:=0) HZ7.out;have g1:=frozen_row (o:=1) HZ7.out;clear hg hb))
  have HS7:=Lib.hid ((((HS6.out.next (Below.drew (Below.refl _ _))).next HB7.out).other hlt 0 (.slice (some ⟨W6.heap.size+1,0,none⟩) 1 1)).other hlt 1 (.int .i64 p))
  have HK7:=Lib.hid (((HK6.out.trans (Kept.of (Below.drew (Below.refl _ _)))).trans (Kept.of HB7.out)).setNew (p:=⟨w.heap.size,0,none⟩) (Nat.le_refl _) (.slice (some ⟨W6.heap.size+1,0,none⟩) 1 1) |>.setNew (p:=⟨w.heap.size,1,none⟩) (Nat.le_refl _) (.int .i64 p))
  have HG7:=Lib.hid (hz_set (p:=⟨w.heap.size,1,none⟩) (v:=.int .i64 p) (hz_set (p:=⟨w.heap.size,0,none⟩) (v:=.slice (some ⟨W6.heap.size+1,0,none⟩) 1 1) (show w7.heap[W6.heap.size+1]?=_ from HG.out) (show W6.heap.size+1≠w.heap.size by omega)) (show W6.heap.size+1≠w.heap.size by omega))
  repeat (first|go_values|go_skip|go_guarded|go_step|go_upon|(simp only []))
  (try simp only [Exit.inBlock,Exit.then])
  refine bodyPost_ret (v:=.agg #[.slice (some ⟨W6.heap.size+1,0,none⟩) 1 1,.int .i64 p]) ?_ rfl ?_
  ·rw [results_cell_one rfl]
   go_simp
  ·exact ⟨_,rfl,HG7.out,by have:=HK6.out.size;omega,HS7.out,HK7.out⟩
end Go.Proofs.YtbiahhojnjchnaaGreat
namespace Go.Proofs.YtbiahhojnjchnaaGreat
open Go.RowKit
set_option maxRecDepth 100000 in
set_option maxHeartbeats 8000000 in
theorem one_end {b n c K:Nat} {d dp at_:Int} {fo:Bool} {A:Option Addr} {l:List Int} {w:World} (h:BSt b n c d fo dp A l at_ w) (hend:(n:Int)≤at_) :
  Calls Tryz.prog 143 #[.pointer (some ⟨b,0,none⟩)] w (IOut b n c d fo dp A l K (.error (1,at_)) w):=by
 have hlt:=h.lt
 have hB0:Below w.heap.size w (w.alloc (.cells #[.slice none 0 0,.int .i64 0] 167)):=(Below.refl _ _).alloc (Nat.le_refl _) _
 have HS0:=Lib.hid (h.next hB0)
 have hp:ptAt l at_=-1:=ptAt_out l (by rw [h.len];omega)
 have CN:=Lib.hid (named_none HS0.out (by simp [saysB,hp]))
 obtain ⟨W0,hW0⟩:∃ X,X=w.alloc (.cells #[.slice none 0 0,.int .i64 0] 167):=⟨_,rfl⟩
 have hs0:W0.heap.size=w.heap.size+1:=by rw [hW0];simp
 rw [← hW0] at HS0 CN hB0
 have HB0:=Lib.hid hB0
 clear hp hB0 h
 go_enter Tryz.func143,Tryz.ntmps143
 go_upto_region 1 with (fail)
 rw [← hW0]
 clear hW0
 go_upto_region 4 with (first
  | (go_at_call 184;(with_reducible refine CN.out.mono ?_);rintro e w1 ⟨rfl,hb⟩))
 obtain ⟨W2,hW2⟩:∃ X,X=w1.alloc (.cells #[.slice none 0 0,.int .i64 0] 167):=⟨_,rfl⟩
 have hb2:Below W0.heap.size W0 W2:=by rw [hW2];exact hb.alloc hb.size _
 have HS2:=Lib.hid (HS0.out.next hb2)
 have HB2:=Lib.hid (HB0.out.trans (hb2.mono (by omega)))
 rw [← hW2]
 clear hW2 hb hb2 CN HS0 HB0 hs0
 obtain ⟨c0,c1,c2,c3,f2⟩:=HS2.out.rd.cells
 have e1:(decide ((n:Int)≤at_))=true:=decide_eq_true hend
 go_quiet (fail)
 go_wp2_with (go_at_call 59;(with_reducible refine (fail21 1 at_ _).mono ?_);rintro e w' ⟨rfl,rfl⟩)
 exact ⟨rfl,Kept.of (below_drewN HB2.out _),rfl⟩
end Go.Proofs.YtbiahhojnjchnaaGreat
