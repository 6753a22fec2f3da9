/- An interval: walked. -/
import Derived.Test.YtmjlmjlkghpknaaTkF2
import Derived.Deep.DeepCutAuto
set_option linter.unusedVariables false
set_option linter.unusedSimpArgs false
namespace Go.Proofs.Ytmjlmjlkghpknaa
open Go.RowKit
/-- what an interval leaves -/
def IOut (b n c:Nat) (d:Int) (A:Option Addr) (l:List Int) (at_:Int):Option TR→Ending→World→Prop
 | none,e,w=>e=.returned (.tuple #[({}:Tk).agg,.bool false])∧St b n c d A l at_ w
 | some (.ok p),e,w=>e=.returned (.tuple #[p.1.agg,.bool true])∧St b n c d A l p.2 w
 | some (.error x),e,_=>e=.panicked (wrongV x)
/-- digits in a row, in memory -/
structure Digs (w:World) (b:Nat) (l:List Int) (v:Value):Prop where
 all:∀ p ∈ l,isDig p=true
 len:l.length≤3
 is:∃ A' c',v=.slice A' l.length c'∧Rds w b 1 A' l.length (ints l)
theorem Digs.of {w:World} {b k c':Nat} {A':Option Addr} {l:List Int} {at_:Int} (hk:k=runLen isDig l at_ 3) (h:Rds w b 1 A' k (ints (runPts l at_ k))):Digs w b (runPts l at_ k) (.slice A' k c'):=by
 subst hk
 refine ⟨fun p hp=>?_,by rw [runPts_length];exact runLen_le _ _ _ _,A',c',by rw [runPts_length],by rw [runPts_length];exact h⟩
 obtain ⟨i,hi,rfl⟩:=List.mem_iff_getElem.1 hp
 rw [runPts_get]
 rw [runPts_length] at hi
 exact runLen_yes _ _ _ _ _ hi
theorem Digs.kept {w w':World} {b:Nat} {l:List Int} {v:Value} (h:Digs w b l v) (hk:Kept b w w') (hb:b < w.heap.size):Digs w' b l v:=by
 obtain ⟨A',c',e,hr⟩:=h.is
 exact ⟨h.all,h.len,A',c',e,hr.kept hk (Nat.le_refl _) (Nat.le_of_lt hb)⟩
theorem decimal_digs {w:World} {b:Nat} {l:List Int} {v:Value} (h:Digs w b l v):Calls Try.prog 53 #[v] w fun e w'=>e=.returned (.int .i64 (decN l))∧w=w':=by
 obtain ⟨A',c',rfl,hr⟩:=h.is
 exact (decimal53 l A' l.length c' w b h.len h.all hr).mono fun _ _ ⟨e,hw⟩=>⟨e,hw.symm⟩
theorem Digs.back {w w':World} {b:Nat} {l:List Int} {v:Value} (h:Digs w' b l v) (hk:Kept b w w') (hb:b < w.heap.size):Digs w b l v:=by
 obtain ⟨A',c',e,hr⟩:=h.is
 exact ⟨h.all,h.len,A',c',e,hr.keep fun p hp=>(hk.cell (by omega) (by omega)).symm⟩
theorem repeat_agg {b n c:Nat} {d at_:Int} {A:Option Addr} {l:List Int} {w:World} (least most:Int) (h:St b n c d A l at_ w) (t:Tk) (nx:Int) (hr:repeatP d l at_ least most=(t,nx)) :
  Calls Try.prog 39 #[.pointer (some ⟨b,0,none⟩),.int .i64 least,.int .i64 most] w fun e w'=>e=.returned (.agg #[.int .i64 t.kind,.int .i64 t.num,.string ⟨t.text.toArray⟩,.bool t.not_,.int .i64 t.least,.int .i64 t.most,.int .i64 t.way,.int .i64 t.fold])∧St b n c d A l nx w'∧Kept b w w':=by
 have C:=repeat39 least most h
 rw [hr] at C
 exact C.mono fun _ _ ⟨⟨e,h1⟩,h2⟩=>⟨e,h1,h2⟩
theorem Digs.num {w:World} {b:Nat} {l:List Int} {v:Value} (h:Digs w b l v):0≤decN l∧decN l < 1000:=by
 have h1:=decN_small l h.all l.length (Nat.le_refl _)
 rw [List.take_length] at h1
 have h2:=h.len
 have h3:(10:Int) ^ l.length≤1000:=by
  have:l.length=0∨l.length=1∨l.length=2∨l.length=3:=by omega
  rcases this with h|h|h|h<;>rw [h]<;>decide
 omega
set_option maxRecDepth 100000 in
set_option maxHeartbeats 16000000 in
theorem interval59 {b n c:Nat} {d at_:Int} {A:Option Addr} {l:List Int} {w:World} (h:St b n c d A l at_ w) :
  Calls Try.prog 59 #[.pointer (some ⟨b,0,none⟩)] w fun e w'=>IOut b n c d A l at_ (intervalP d l at_) e w'∧Kept b w w':=by
 have H:=Lib.hid h
 have hlt:=h.lt
 have hb0:¬ w.heap.size=b:=by omega
 obtain ⟨c0,c1,c2,f2⟩:=h.rd.cells
 clear h c0 c1 f2
 unfold intervalP
 obtain ⟨al,hal⟩:∃ al,al=runPts l at_ (runLen isDig l at_ 3):=⟨_,rfl⟩
 obtain ⟨bl,hbl⟩:∃ bl,bl=(secondP l at_).1:=⟨_,rfl⟩
 obtain ⟨a2,ha2⟩:∃ a2,a2=(secondP l at_).2:=⟨_,rfl⟩
 rw [← hal,← hbl,← ha2]
 obtain ⟨r,hr0⟩:∃ r,r=intervalE d l a2 al bl:=⟨_,rfl⟩
 rw [← hr0]
 have HR0:=Lib.hid hr0
 clear hr0
 have HAL:=Lib.hid hal
 have HBL:=Lib.hid hbl
 have HA2:=Lib.hid ha2
 clear hal hbl ha2
 have HLEN:=Lib.hid (runLen_le isDig l 3 at_)
 obtain ⟨cm,hcm⟩:∃ cm,cm=commaB l at_:=⟨_,rfl⟩
 have HCM:=Lib.hid hcm
 clear hcm
 obtain ⟨ka,hka⟩:∃ ka,ka=runLen isDig l at_ 3:=⟨_,rfl⟩
 have HKA:=Lib.hid hka
 rw [← hka] at HLEN
 have hka3:=HLEN.out
 have RA:=Lib.hid (fun (w:World) (h:St b n c d A l at_ w)=>run_st runDig 3 h (by omega))
 rw [← hka] at RA
 clear hka
 have MC:Hid (∀ w1,St b n c d A l (at_+ka) w1→Calls Try.prog 45 #[.pointer (some ⟨b,0,none⟩),.int .i32 44] w1 fun e w'=>e=.returned (.bool cm)∧St b n c d A l (if cm=true then at_+ka+1 else at_+ka) w'∧Kept b w1 w'):=Lib.hid (fun w1 h=>by
  by_cases hp:ptAt l (at_+ka)=44
  ·have:cm=true:=by rw [HCM.out];unfold commaB;rw [← HKA.out];exact decide_eq_true hp
   rw [this,if_pos rfl];exact may_yes 44 h (by omega) hp
  ·have:cm=false:=by rw [HCM.out];unfold commaB;rw [← HKA.out];exact decide_eq_false hp
   rw [this,if_neg (by decide)];exact may_no 44 h (by omega) hp)
 go_enter Try.func59,Try.ntmps59
 go_upto_if 20 with (first
  | (go_at_call 54;refine Calls.mono (RA.out _ (?_:St b n c d A l at_ _)) ?_;(repeat' (first|(with_reducible first|exact H.out|refine St.setRow ?_ ?_ _|refine St.setOther ?_ ?_ _|refine St.alloc ?_ _)|(with_reducible change (_:Nat) < _;(try simp)<;>omega)));rintro e w1 ⟨A1,n1,rfl,hs,h1,k1⟩;have HS:=Lib.hid hs;have H1:=Lib.hid h1;(have hs1:=k1.size);(try simp at hs1);have HZ1:=Lib.hid ((k1.block w.heap.size (by (try simp)<;>omega) hb0).trans (show _=some Z24 by (repeat' (first|(with_reducible first|exact hz_new|refine hz_set ?_ ?_|refine hz_row ?_ ?_|refine hz_alloc ?_)|(with_reducible change (_:Nat)≠_;(try simp)<;>omega)))));have K1:Hid (Kept b w w1):=Lib.hid (Kept.trans (w1:=_) (by (repeat' (first|(with_reducible first|exact Kept.refl _ _|refine Kept.setRow ?_ ?_ _|refine Kept.setNew ?_ ?_ _|refine Kept.alloc ?_ _)|(with_reducible change (_:Nat)≤_;(try simp)<;>omega)))) k1);clear hs h1 k1)
  | (go_at_call 45;refine Calls.mono (MC.out _ H1.out) ?_;rintro e w2 ⟨rfl,h2,k2⟩;have H2:=Lib.hid h2;have K2:=Lib.hid (K1.out.trans k2);have HZ2:=Lib.hid ((k2.block w.heap.size (by omega) hb0).trans HZ1.out);have HS2:=Lib.hid (HS.out.kept k2 (Nat.le_refl _) (Nat.le_of_lt H1.out.lt));clear h2 k2))
 have HDA:Hid (Digs w2 b al (.slice A1 ka n1)):=Lib.hid (by rw [HAL.out,← HKA.out];exact Digs.of HKA.out HS2.out)
 clear HS RA MC
 go_cut [6] (fun z wc=>Hid (Digs wc b bl z)∧Hid (Digs wc b al (.slice A1 ka n1))∧Hid (St b n c d A l a2 wc)∧Hid (Kept b w wc)∧Hid (wc.heap[w.heap.size]?=some Z24))
 case first =>
  obtain ⟨kb,hkb⟩:∃ kb,kb=runLen isDig l (at_+ka+1) 3:=⟨_,rfl⟩
  have HKB:=Lib.hid hkb
  have RB:=Lib.hid (fun (w:World) (h:St b n c d A l (at_+ka+1) w)=>run_st runDig 3 h (by omega))
  rw [← hkb] at RB
  clear hkb
  have hs2:=H2.out.lt
  cases cm
  ·have HB:Hid (bl=al∧a2=at_+ka):=Lib.hid ⟨by rw [HBL.out,HAL.out,secondP,← HCM.out];rfl,by rw [HA2.out,secondP,← HCM.out,HKA.out];rfl⟩
   go_wp2_with fail
   go_meet
   exact ⟨by rw [HB.out.1];exact HDA,HDA,by rw [HB.out.2];exact H2,K2,HZ2⟩
  ·have HB:Hid (bl=runPts l (at_+ka+1) kb∧a2=at_+ka+1+kb):=Lib.hid ⟨by rw [HBL.out,secondP,← HCM.out,HKB.out,HKA.out];rfl,by rw [HA2.out,secondP,← HCM.out,HKB.out,HKA.out];rfl⟩
   rw [if_pos rfl] at H2
   go_wp2_with (go_at_call 54;refine Calls.mono (RB.out _ H2.out) ?_;rintro e w3 ⟨A2,n2,rfl,hs,h3,k3⟩;have HS3:=Lib.hid hs;have H3:=Lib.hid h3;have K3:=Lib.hid (K2.out.trans k3);have HZ3:=Lib.hid ((k3.block w.heap.size (by have:=HZ2.out;rcases Nat.lt_or_ge w.heap.size w2.heap.size with h'|h';exact h';simp [Array.getElem?_eq_none h'] at this) hb0).trans HZ2.out);have HDA3:=Lib.hid (HDA.out.kept k3 H2.out.lt);clear hs h3 k3)
   go_meet
   exact ⟨by rw [HB.out.1];exact Lib.hid (Digs.of HKB.out HS3.out),HDA3,by rw [HB.out.2];exact H3,K3,HZ3⟩
 case rest =>
  obtain ⟨HB,HA,H4,K4,HZ4⟩:=hcut
  have hb0':¬ b=w.heap.size:=by omega
  have HAa:=Lib.hid (fun w' (k:Kept b w w')=>(HA.out.back K4.out hlt).kept k hlt)
  have HBb:=Lib.hid (fun w' (k:Kept b w w')=>(HB.out.back K4.out hlt).kept k hlt)
  have hal3:=HA.out.len
  have hbl3:=HB.out.len
  have hx:=HA.out.num
  have hy:=HB.out.num
  obtain ⟨A1',n1',e1,-⟩:=HA.out.is
  obtain ⟨A2,n2,e2,-⟩:=HB.out.is
  cases e1
  subst e2
  clear HA HB HAL HBL HA2 HCM HKA HLEN H1 H2 K1 K2 HZ1 HZ2 HS2 HDA
  have hl4:=lt_heap HZ4.out
  obtain ⟨c40,c41,c42,f42⟩:=H4.out.rd.cells
  clear c41
  have hlo:=H.out.lo
  have hhi:=H.out.hi
  by_cases hd:d=3
  ·rw [hd] at c40
   have HD:=Lib.hid hd
   clear hd
   by_cases h1:ptAt l a2=92
   ·have P1:=Lib.hid h1
    clear h1
    by_cases h2:ptAt l (a2+1)=125
    ·have P2:=Lib.hid h2
     clear h2
     by_cases hok:al.length+bl.length=0
     ·skip
      have hE:r=none:=by rw [HR0.out,intervalE,if_pos HD.out,if_neg (fun h=>h P1.out),if_neg (fun h=>h P2.out),if_pos hok]
      subst hE
      obtain ⟨q1,q2⟩:al.length=0∧bl.length=0:=by omega
      clear hok
      have hq:¬ 0 < al.length+bl.length:=by omega
      go_wp2_with (go_at_call 45;refine Calls.mono (may_yes _ (?_:St b n c d A l (a2) _) ?_ ?_) ?_;(repeat' (first|(with_reducible first|exact H4.out|refine St.setRow ?_ ?_ _|refine St.setOther ?_ ?_ _|refine St.alloc ?_ _)|(with_reducible change (_:Nat) < _;(try simp)<;>omega)));(omega);(have:=P1.out;omega);rintro e w5 ⟨rfl,h5,k5⟩;have H5:=Lib.hid h5;obtain ⟨ca5,cb5,cc5,cf5⟩:=H5.out.rd.cells;clear cb5;have hs5:=k5.size;(try simp at hs5);(have hl5:w.heap.size < w5.heap.size:=by omega);have HZ5:=Lib.hid ((k5.block w.heap.size (by (try simp)<;>omega) hb0).trans (show _=some Z24 by (repeat' (first|(with_reducible first|exact HZ4.out|exact hz_new|refine hz_set ?_ ?_|refine hz_row ?_ ?_|refine hz_alloc ?_)|(with_reducible change (_:Nat)≠_;(try simp)<;>omega)))));have K5:Hid (Kept b w w5):=Lib.hid (Kept.trans (w1:=_) (by (repeat' (first|(with_reducible first|exact Kept.refl _ _|exact K4.out|refine Kept.setRow ?_ ?_ _|refine Kept.setNew ?_ ?_ _|refine Kept.alloc ?_ _)|(with_reducible change (_:Nat)≤_;(try simp)<;>omega)))) k5);clear h5 k5)
      go_wp2_with (first|(go_at_call 45;refine Calls.mono (may_yes _ (?_:St b n c d A l (a2+1) _) ?_ ?_) ?_;(repeat' (first|(with_reducible first|exact H5.out|refine St.setRow ?_ ?_ _|refine St.setOther ?_ ?_ _|refine St.alloc ?_ _)|(with_reducible change (_:Nat) < _;(try simp)<;>omega)));(omega);(have:=P2.out;omega);rintro e w6 ⟨rfl,h6,k6⟩;have H6:=Lib.hid h6;obtain ⟨ca6,cb6,cc6,cf6⟩:=H6.out.rd.cells;clear cb6;have hs6:=k6.size;(try simp at hs6);(have hl6:w.heap.size < w6.heap.size:=by omega);have HZ6:=Lib.hid ((k6.block w.heap.size (by (try simp)<;>omega) hb0).trans (show _=some Z24 by (repeat' (first|(with_reducible first|exact HZ5.out|exact hz_new|refine hz_set ?_ ?_|refine hz_row ?_ ?_|refine hz_alloc ?_)|(with_reducible change (_:Nat)≠_;(try simp)<;>omega)))));have K6:Hid (Kept b w w6):=Lib.hid (Kept.trans (w1:=_) (by (repeat' (first|(with_reducible first|exact Kept.refl _ _|exact K5.out|refine Kept.setRow ?_ ?_ _|refine Kept.setNew ?_ ?_ _|refine Kept.alloc ?_ _)|(with_reducible change (_:Nat)≤_;(try simp)<;>omega)))) k6);clear h6 k6)|((with_reducible apply store24 (g:=w.heap.size));rfl;(with_reducible rfl);rfl;rfl;(repeat' (first|(with_reducible first|exact HZ6.out|exact hz_new|refine hz_set ?_ ?_|refine hz_row ?_ ?_|refine hz_alloc ?_)|(with_reducible change (_:Nat)≠_;(try simp)<;>omega)));rfl;rfl))
      have HM:=Lib.hid (H6.out.move (x:=at_) hlo hhi)
      have KM:=Lib.hid (K6.out.set 2 (.int .i64 at_))
      ((try simp only [Exit.inBlock,Exit.then]);refine bodyPost_ret (v:=_) (results24t Try.results59 _ _ w.heap.size _ (.bool false) ?_ ?_ (row24 ?_) ?_) rfl ⟨⟨rfl,?_⟩,?_⟩;rfl;rfl;(repeat' (first|(with_reducible first|exact HZ6.out|exact hz_new|refine hz_set ?_ ?_|refine hz_row ?_ ?_|refine hz_alloc ?_)|(with_reducible change (_:Nat)≠_;(try simp)<;>omega)));rfl;(repeat' (first|(with_reducible first|exact HM.out|refine St.setRow ?_ ?_ _|refine St.setOther ?_ ?_ _|refine St.alloc ?_ _)|(with_reducible change (_:Nat) < _;(try simp)<;>omega)));(repeat' (first|(with_reducible first|exact Kept.refl _ _|exact KM.out|refine Kept.setRow ?_ ?_ _|refine Kept.setNew ?_ ?_ _|refine Kept.alloc ?_ _)|(with_reducible change (_:Nat)≤_;(try simp)<;>omega))))
     ·skip
      have hsum:0 < al.length+bl.length:=by omega
      have hsui:(0:Int) < (al.length:Int)+(bl.length:Int):=by omega
      by_cases hkb:0 < bl.length
      ·have hkbi:(0:Int) < (bl.length:Int):=by omega
       by_cases h5:decN bl < decN al
       ·skip
        have hE:r=some (.error 3):=by rw [HR0.out,intervalE,if_pos HD.out,if_neg (fun h=>h P1.out),if_neg (fun h=>h P2.out),if_neg hok,if_pos hkb,timesP,if_pos ⟨by omega,h5⟩]
        subst hE
        go_wp2_with (go_at_call 45;refine Calls.mono (may_yes _ (?_:St b n c d A l (a2) _) ?_ ?_) ?_;(repeat' (first|(with_reducible first|exact H4.out|refine St.setRow ?_ ?_ _|refine St.setOther ?_ ?_ _|refine St.alloc ?_ _)|(with_reducible change (_:Nat) < _;(try simp)<;>omega)));(omega);(have:=P1.out;omega);rintro e w5 ⟨rfl,h5,k5⟩;have H5:=Lib.hid h5;obtain ⟨ca5,cb5,cc5,cf5⟩:=H5.out.rd.cells;clear cb5;have hs5:=k5.size;(try simp at hs5);(have hl5:w.heap.size < w5.heap.size:=by omega);have HZ5:=Lib.hid ((k5.block w.heap.size (by (try simp)<;>omega) hb0).trans (show _=some Z24 by (repeat' (first|(with_reducible first|exact HZ4.out|exact hz_new|refine hz_set ?_ ?_|refine hz_row ?_ ?_|refine hz_alloc ?_)|(with_reducible change (_:Nat)≠_;(try simp)<;>omega)))));have K5:Hid (Kept b w w5):=Lib.hid (Kept.trans (w1:=_) (by (repeat' (first|(with_reducible first|exact Kept.refl _ _|exact K4.out|refine Kept.setRow ?_ ?_ _|refine Kept.setNew ?_ ?_ _|refine Kept.alloc ?_ _)|(with_reducible change (_:Nat)≤_;(try simp)<;>omega)))) k5);clear h5 k5)
        go_wp2_with (go_at_call 45;refine Calls.mono (may_yes _ (?_:St b n c d A l (a2+1) _) ?_ ?_) ?_;(repeat' (first|(with_reducible first|exact H5.out|refine St.setRow ?_ ?_ _|refine St.setOther ?_ ?_ _|refine St.alloc ?_ _)|(with_reducible change (_:Nat) < _;(try simp)<;>omega)));(omega);(have:=P2.out;omega);rintro e w6 ⟨rfl,h6,k6⟩;have H6:=Lib.hid h6;obtain ⟨ca6,cb6,cc6,cf6⟩:=H6.out.rd.cells;clear cb6;have hs6:=k6.size;(try simp at hs6);(have hl6:w.heap.size < w6.heap.size:=by omega);have HZ6:=Lib.hid ((k6.block w.heap.size (by (try simp)<;>omega) hb0).trans (show _=some Z24 by (repeat' (first|(with_reducible first|exact HZ5.out|exact hz_new|refine hz_set ?_ ?_|refine hz_row ?_ ?_|refine hz_alloc ?_)|(with_reducible change (_:Nat)≠_;(try simp)<;>omega)))));have K6:Hid (Kept b w w6):=Lib.hid (Kept.trans (w1:=_) (by (repeat' (first|(with_reducible first|exact Kept.refl _ _|exact K5.out|refine Kept.setRow ?_ ?_ _|refine Kept.setNew ?_ ?_ _|refine Kept.alloc ?_ _)|(with_reducible change (_:Nat)≤_;(try simp)<;>omega)))) k6);clear h6 k6)
        go_wp2_with (first
         | (go_at_call 53;(with_reducible refine (decimal_digs (HAa.out _ K6.out)).mono ?_);rintro e w' ⟨rfl,rfl⟩)
         | (go_at_call 53;(with_reducible refine (decimal_digs (HBb.out _ K6.out)).mono ?_);rintro e w' ⟨rfl,rfl⟩)
         | (go_at_call 46;refine (fail46 _ _).mono ?_;rintro e w' ⟨rfl,rfl⟩))
        exact ⟨rfl,rfl,K6.out⟩
       ·by_cases h6:decN al < decN bl
        ·by_cases h7:100 < decN bl
         ·skip
          have hE:r=some (.error 2):=by rw [HR0.out,intervalE,if_pos HD.out,if_neg (fun h=>h P1.out),if_neg (fun h=>h P2.out),if_neg hok,if_pos hkb,timesP,if_neg (fun h=>h5 h.2),if_pos (by omega)]
          subst hE
          go_wp2_with (go_at_call 45;refine Calls.mono (may_yes _ (?_:St b n c d A l (a2) _) ?_ ?_) ?_;(repeat' (first|(with_reducible first|exact H4.out|refine St.setRow ?_ ?_ _|refine St.setOther ?_ ?_ _|refine St.alloc ?_ _)|(with_reducible change (_:Nat) < _;(try simp)<;>omega)));(omega);(have:=P1.out;omega);rintro e w5 ⟨rfl,h5,k5⟩;have H5:=Lib.hid h5;obtain ⟨ca5,cb5,cc5,cf5⟩:=H5.out.rd.cells;clear cb5;have hs5:=k5.size;(try simp at hs5);(have hl5:w.heap.size < w5.heap.size:=by omega);have HZ5:=Lib.hid ((k5.block w.heap.size (by (try simp)<;>omega) hb0).trans (show _=some Z24 by (repeat' (first|(with_reducible first|exact HZ4.out|exact hz_new|refine hz_set ?_ ?_|refine hz_row ?_ ?_|refine hz_alloc ?_)|(with_reducible change (_:Nat)≠_;(try simp)<;>omega)))));have K5:Hid (Kept b w w5):=Lib.hid (Kept.trans (w1:=_) (by (repeat' (first|(with_reducible first|exact Kept.refl _ _|exact K4.out|refine Kept.setRow ?_ ?_ _|refine Kept.setNew ?_ ?_ _|refine Kept.alloc ?_ _)|(with_reducible change (_:Nat)≤_;(try simp)<;>omega)))) k5);clear h5 k5)
          go_wp2_with (go_at_call 45;refine Calls.mono (may_yes _ (?_:St b n c d A l (a2+1) _) ?_ ?_) ?_;(repeat' (first|(with_reducible first|exact H5.out|refine St.setRow ?_ ?_ _|refine St.setOther ?_ ?_ _|refine St.alloc ?_ _)|(with_reducible change (_:Nat) < _;(try simp)<;>omega)));(omega);(have:=P2.out;omega);rintro e w6 ⟨rfl,h6,k6⟩;have H6:=Lib.hid h6;obtain ⟨ca6,cb6,cc6,cf6⟩:=H6.out.rd.cells;clear cb6;have hs6:=k6.size;(try simp at hs6);(have hl6:w.heap.size < w6.heap.size:=by omega);have HZ6:=Lib.hid ((k6.block w.heap.size (by (try simp)<;>omega) hb0).trans (show _=some Z24 by (repeat' (first|(with_reducible first|exact HZ5.out|exact hz_new|refine hz_set ?_ ?_|refine hz_row ?_ ?_|refine hz_alloc ?_)|(with_reducible change (_:Nat)≠_;(try simp)<;>omega)))));have K6:Hid (Kept b w w6):=Lib.hid (Kept.trans (w1:=_) (by (repeat' (first|(with_reducible first|exact Kept.refl _ _|exact K5.out|refine Kept.setRow ?_ ?_ _|refine Kept.setNew ?_ ?_ _|refine Kept.alloc ?_ _)|(with_reducible change (_:Nat)≤_;(try simp)<;>omega)))) k6);clear h6 k6)
          go_wp2_with (first
           | (go_at_call 53;(with_reducible refine (decimal_digs (HAa.out _ K6.out)).mono ?_);rintro e w' ⟨rfl,rfl⟩)
           | (go_at_call 53;(with_reducible refine (decimal_digs (HBb.out _ K6.out)).mono ?_);rintro e w' ⟨rfl,rfl⟩)
           | (go_at_call 46;refine (fail46 _ _).mono ?_;rintro e w' ⟨rfl,rfl⟩))
          exact ⟨rfl,rfl,K6.out⟩
         ·skip
          obtain ⟨⟨t,nx⟩,hr⟩:∃ p,p=repeatP d l (a2+1+1) (decN al) (decN bl):=⟨_,rfl⟩
          have hE:r=some (.ok (t,nx)):=by rw [HR0.out,intervalE,if_pos HD.out,if_neg (fun h=>h P1.out),if_neg (fun h=>h P2.out),if_neg hok,if_pos hkb,timesP,if_neg (fun h=>h5 h.2),if_neg (by omega),hr]
          subst hE
          have HR:=Lib.hid hr.symm
          clear hr
          go_wp2_with (go_at_call 45;refine Calls.mono (may_yes _ (?_:St b n c d A l (a2) _) ?_ ?_) ?_;(repeat' (first|(with_reducible first|exact H4.out|refine St.setRow ?_ ?_ _|refine St.setOther ?_ ?_ _|refine St.alloc ?_ _)|(with_reducible change (_:Nat) < _;(try simp)<;>omega)));(omega);(have:=P1.out;omega);rintro e w5 ⟨rfl,h5,k5⟩;have H5:=Lib.hid h5;obtain ⟨ca5,cb5,cc5,cf5⟩:=H5.out.rd.cells;clear cb5;have hs5:=k5.size;(try simp at hs5);(have hl5:w.heap.size < w5.heap.size:=by omega);have HZ5:=Lib.hid ((k5.block w.heap.size (by (try simp)<;>omega) hb0).trans (show _=some Z24 by (repeat' (first|(with_reducible first|exact HZ4.out|exact hz_new|refine hz_set ?_ ?_|refine hz_row ?_ ?_|refine hz_alloc ?_)|(with_reducible change (_:Nat)≠_;(try simp)<;>omega)))));have K5:Hid (Kept b w w5):=Lib.hid (Kept.trans (w1:=_) (by (repeat' (first|(with_reducible first|exact Kept.refl _ _|exact K4.out|refine Kept.setRow ?_ ?_ _|refine Kept.setNew ?_ ?_ _|refine Kept.alloc ?_ _)|(with_reducible change (_:Nat)≤_;(try simp)<;>omega)))) k5);clear h5 k5)
          go_wp2_with (go_at_call 45;refine Calls.mono (may_yes _ (?_:St b n c d A l (a2+1) _) ?_ ?_) ?_;(repeat' (first|(with_reducible first|exact H5.out|refine St.setRow ?_ ?_ _|refine St.setOther ?_ ?_ _|refine St.alloc ?_ _)|(with_reducible change (_:Nat) < _;(try simp)<;>omega)));(omega);(have:=P2.out;omega);rintro e w6 ⟨rfl,h6,k6⟩;have H6:=Lib.hid h6;obtain ⟨ca6,cb6,cc6,cf6⟩:=H6.out.rd.cells;clear cb6;have hs6:=k6.size;(try simp at hs6);(have hl6:w.heap.size < w6.heap.size:=by omega);have HZ6:=Lib.hid ((k6.block w.heap.size (by (try simp)<;>omega) hb0).trans (show _=some Z24 by (repeat' (first|(with_reducible first|exact HZ5.out|exact hz_new|refine hz_set ?_ ?_|refine hz_row ?_ ?_|refine hz_alloc ?_)|(with_reducible change (_:Nat)≠_;(try simp)<;>omega)))));have K6:Hid (Kept b w w6):=Lib.hid (Kept.trans (w1:=_) (by (repeat' (first|(with_reducible first|exact Kept.refl _ _|exact K5.out|refine Kept.setRow ?_ ?_ _|refine Kept.setNew ?_ ?_ _|refine Kept.alloc ?_ _)|(with_reducible change (_:Nat)≤_;(try simp)<;>omega)))) k6);clear h6 k6)
          go_wp2_with (first
           | (go_at_call 53;(with_reducible refine (decimal_digs (HAa.out _ K6.out)).mono ?_);rintro e w' ⟨rfl,rfl⟩)
           | (go_at_call 53;(with_reducible refine (decimal_digs (HBb.out _ K6.out)).mono ?_);rintro e w' ⟨rfl,rfl⟩)
           | (go_at_call 39;refine Calls.mono (repeat_agg _ _ (?_:St b n c d A l (a2+1+1) _) t nx HR.out) ?_;(repeat' (first|(with_reducible first|exact H6.out|refine St.setRow ?_ ?_ _|refine St.setOther ?_ ?_ _|refine St.alloc ?_ _)|(with_reducible change (_:Nat) < _;(try simp)<;>omega)));rintro e w9 ⟨rfl,h9,k9⟩;have H9:=Lib.hid h9;obtain ⟨ca9,cb9,cc9,cf9⟩:=H9.out.rd.cells;clear cb9;have hs9:=k9.size;(try simp at hs9);(have hl9:w.heap.size < w9.heap.size:=by omega);have HZ9:=Lib.hid ((k9.block w.heap.size (by (try simp)<;>omega) hb0).trans (show _=some Z24 by (repeat' (first|(with_reducible first|exact HZ6.out|exact hz_new|refine hz_set ?_ ?_|refine hz_row ?_ ?_|refine hz_alloc ?_)|(with_reducible change (_:Nat)≠_;(try simp)<;>omega)))));have K9:Hid (Kept b w w9):=Lib.hid (Kept.trans (w1:=_) (by (repeat' (first|(with_reducible first|exact Kept.refl _ _|exact K6.out|refine Kept.setRow ?_ ?_ _|refine Kept.setNew ?_ ?_ _|refine Kept.alloc ?_ _)|(with_reducible change (_:Nat)≤_;(try simp)<;>omega)))) k9);clear h9 k9)
           | ((with_reducible apply store24 (g:=w.heap.size));rfl;(with_reducible rfl);rfl;rfl;(repeat' (first|(with_reducible first|exact HZ9.out|exact hz_new|refine hz_set ?_ ?_|refine hz_row ?_ ?_|refine hz_alloc ?_)|(with_reducible change (_:Nat)≠_;(try simp)<;>omega)));rfl;rfl))
          ((try simp only [Exit.inBlock,Exit.then]);refine bodyPost_ret (v:=_) (results24t Try.results59 _ _ w.heap.size _ (.bool true) ?_ ?_ (row24 ?_) ?_) rfl ⟨⟨rfl,?_⟩,?_⟩;rfl;rfl;(repeat' (first|(with_reducible first|exact HZ9.out|exact hz_new|refine hz_set ?_ ?_|refine hz_row ?_ ?_|refine hz_alloc ?_)|(with_reducible change (_:Nat)≠_;(try simp)<;>omega)));rfl;(repeat' (first|(with_reducible first|exact H9.out|refine St.setRow ?_ ?_ _|refine St.setOther ?_ ?_ _|refine St.alloc ?_ _)|(with_reducible change (_:Nat) < _;(try simp)<;>omega)));(repeat' (first|(with_reducible first|exact Kept.refl _ _|exact K9.out|refine Kept.setRow ?_ ?_ _|refine Kept.setNew ?_ ?_ _|refine Kept.alloc ?_ _)|(with_reducible change (_:Nat)≤_;(try simp)<;>omega))))
        ·by_cases h7:100 < decN al
         ·skip
          have hE:r=some (.error 2):=by rw [HR0.out,intervalE,if_pos HD.out,if_neg (fun h=>h P1.out),if_neg (fun h=>h P2.out),if_neg hok,if_pos hkb,timesP,if_neg (fun h=>h5 h.2),if_pos (by omega)]
          subst hE
          go_wp2_with (go_at_call 45;refine Calls.mono (may_yes _ (?_:St b n c d A l (a2) _) ?_ ?_) ?_;(repeat' (first|(with_reducible first|exact H4.out|refine St.setRow ?_ ?_ _|refine St.setOther ?_ ?_ _|refine St.alloc ?_ _)|(with_reducible change (_:Nat) < _;(try simp)<;>omega)));(omega);(have:=P1.out;omega);rintro e w5 ⟨rfl,h5,k5⟩;have H5:=Lib.hid h5;obtain ⟨ca5,cb5,cc5,cf5⟩:=H5.out.rd.cells;clear cb5;have hs5:=k5.size;(try simp at hs5);(have hl5:w.heap.size < w5.heap.size:=by omega);have HZ5:=Lib.hid ((k5.block w.heap.size (by (try simp)<;>omega) hb0).trans (show _=some Z24 by (repeat' (first|(with_reducible first|exact HZ4.out|exact hz_new|refine hz_set ?_ ?_|refine hz_row ?_ ?_|refine hz_alloc ?_)|(with_reducible change (_:Nat)≠_;(try simp)<;>omega)))));have K5:Hid (Kept b w w5):=Lib.hid (Kept.trans (w1:=_) (by (repeat' (first|(with_reducible first|exact Kept.refl _ _|exact K4.out|refine Kept.setRow ?_ ?_ _|refine Kept.setNew ?_ ?_ _|refine Kept.alloc ?_ _)|(with_reducible change (_:Nat)≤_;(try simp)<;>omega)))) k5);clear h5 k5)
          go_wp2_with (go_at_call 45;refine Calls.mono (may_yes _ (?_:St b n c d A l (a2+1) _) ?_ ?_) ?_;(repeat' (first|(with_reducible first|exact H5.out|refine St.setRow ?_ ?_ _|refine St.setOther ?_ ?_ _|refine St.alloc ?_ _)|(with_reducible change (_:Nat) < _;(try simp)<;>omega)));(omega);(have:=P2.out;omega);rintro e w6 ⟨rfl,h6,k6⟩;have H6:=Lib.hid h6;obtain ⟨ca6,cb6,cc6,cf6⟩:=H6.out.rd.cells;clear cb6;have hs6:=k6.size;(try simp at hs6);(have hl6:w.heap.size < w6.heap.size:=by omega);have HZ6:=Lib.hid ((k6.block w.heap.size (by (try simp)<;>omega) hb0).trans (show _=some Z24 by (repeat' (first|(with_reducible first|exact HZ5.out|exact hz_new|refine hz_set ?_ ?_|refine hz_row ?_ ?_|refine hz_alloc ?_)|(with_reducible change (_:Nat)≠_;(try simp)<;>omega)))));have K6:Hid (Kept b w w6):=Lib.hid (Kept.trans (w1:=_) (by (repeat' (first|(with_reducible first|exact Kept.refl _ _|exact K5.out|refine Kept.setRow ?_ ?_ _|refine Kept.setNew ?_ ?_ _|refine Kept.alloc ?_ _)|(with_reducible change (_:Nat)≤_;(try simp)<;>omega)))) k6);clear h6 k6)
          go_wp2_with (first
           | (go_at_call 53;(with_reducible refine (decimal_digs (HAa.out _ K6.out)).mono ?_);rintro e w' ⟨rfl,rfl⟩)
           | (go_at_call 53;(with_reducible refine (decimal_digs (HBb.out _ K6.out)).mono ?_);rintro e w' ⟨rfl,rfl⟩)
           | (go_at_call 46;refine (fail46 _ _).mono ?_;rintro e w' ⟨rfl,rfl⟩))
          exact ⟨rfl,rfl,K6.out⟩
         ·skip
          obtain ⟨⟨t,nx⟩,hr⟩:∃ p,p=repeatP d l (a2+1+1) (decN al) (decN bl):=⟨_,rfl⟩
          have hE:r=some (.ok (t,nx)):=by rw [HR0.out,intervalE,if_pos HD.out,if_neg (fun h=>h P1.out),if_neg (fun h=>h P2.out),if_neg hok,if_pos hkb,timesP,if_neg (fun h=>h5 h.2),if_neg (by omega),hr]
          subst hE
          have HR:=Lib.hid hr.symm
          clear hr
          go_wp2_with (go_at_call 45;refine Calls.mono (may_yes _ (?_:St b n c d A l (a2) _) ?_ ?_) ?_;(repeat' (first|(with_reducible first|exact H4.out|refine St.setRow ?_ ?_ _|refine St.setOther ?_ ?_ _|refine St.alloc ?_ _)|(with_reducible change (_:Nat) < _;(try simp)<;>omega)));(omega);(have:=P1.out;omega);rintro e w5 ⟨rfl,h5,k5⟩;have H5:=Lib.hid h5;obtain ⟨ca5,cb5,cc5,cf5⟩:=H5.out.rd.cells;clear cb5;have hs5:=k5.size;(try simp at hs5);(have hl5:w.heap.size < w5.heap.size:=by omega);have HZ5:=Lib.hid ((k5.block w.heap.size (by (try simp)<;>omega) hb0).trans (show _=some Z24 by (repeat' (first|(with_reducible first|exact HZ4.out|exact hz_new|refine hz_set ?_ ?_|refine hz_row ?_ ?_|refine hz_alloc ?_)|(with_reducible change (_:Nat)≠_;(try simp)<;>omega)))));have K5:Hid (Kept b w w5):=Lib.hid (Kept.trans (w1:=_) (by (repeat' (first|(with_reducible first|exact Kept.refl _ _|exact K4.out|refine Kept.setRow ?_ ?_ _|refine Kept.setNew ?_ ?_ _|refine Kept.alloc ?_ _)|(with_reducible change (_:Nat)≤_;(try simp)<;>omega)))) k5);clear h5 k5)
          go_wp2_with (go_at_call 45;refine Calls.mono (may_yes _ (?_:St b n c d A l (a2+1) _) ?_ ?_) ?_;(repeat' (first|(with_reducible first|exact H5.out|refine St.setRow ?_ ?_ _|refine St.setOther ?_ ?_ _|refine St.alloc ?_ _)|(with_reducible change (_:Nat) < _;(try simp)<;>omega)));(omega);(have:=P2.out;omega);rintro e w6 ⟨rfl,h6,k6⟩;have H6:=Lib.hid h6;obtain ⟨ca6,cb6,cc6,cf6⟩:=H6.out.rd.cells;clear cb6;have hs6:=k6.size;(try simp at hs6);(have hl6:w.heap.size < w6.heap.size:=by omega);have HZ6:=Lib.hid ((k6.block w.heap.size (by (try simp)<;>omega) hb0).trans (show _=some Z24 by (repeat' (first|(with_reducible first|exact HZ5.out|exact hz_new|refine hz_set ?_ ?_|refine hz_row ?_ ?_|refine hz_alloc ?_)|(with_reducible change (_:Nat)≠_;(try simp)<;>omega)))));have K6:Hid (Kept b w w6):=Lib.hid (Kept.trans (w1:=_) (by (repeat' (first|(with_reducible first|exact Kept.refl _ _|exact K5.out|refine Kept.setRow ?_ ?_ _|refine Kept.setNew ?_ ?_ _|refine Kept.alloc ?_ _)|(with_reducible change (_:Nat)≤_;(try simp)<;>omega)))) k6);clear h6 k6)
          go_wp2_with (first
           | (go_at_call 53;(with_reducible refine (decimal_digs (HAa.out _ K6.out)).mono ?_);rintro e w' ⟨rfl,rfl⟩)
           | (go_at_call 53;(with_reducible refine (decimal_digs (HBb.out _ K6.out)).mono ?_);rintro e w' ⟨rfl,rfl⟩)
           | (go_at_call 39;refine Calls.mono (repeat_agg _ _ (?_:St b n c d A l (a2+1+1) _) t nx HR.out) ?_;(repeat' (first|(with_reducible first|exact H6.out|refine St.setRow ?_ ?_ _|refine St.setOther ?_ ?_ _|refine St.alloc ?_ _)|(with_reducible change (_:Nat) < _;(try simp)<;>omega)));rintro e w9 ⟨rfl,h9,k9⟩;have H9:=Lib.hid h9;obtain ⟨ca9,cb9,cc9,cf9⟩:=H9.out.rd.cells;clear cb9;have hs9:=k9.size;(try simp at hs9);(have hl9:w.heap.size < w9.heap.size:=by omega);have HZ9:=Lib.hid ((k9.block w.heap.size (by (try simp)<;>omega) hb0).trans (show _=some Z24 by (repeat' (first|(with_reducible first|exact HZ6.out|exact hz_new|refine hz_set ?_ ?_|refine hz_row ?_ ?_|refine hz_alloc ?_)|(with_reducible change (_:Nat)≠_;(try simp)<;>omega)))));have K9:Hid (Kept b w w9):=Lib.hid (Kept.trans (w1:=_) (by (repeat' (first|(with_reducible first|exact Kept.refl _ _|exact K6.out|refine Kept.setRow ?_ ?_ _|refine Kept.setNew ?_ ?_ _|refine Kept.alloc ?_ _)|(with_reducible change (_:Nat)≤_;(try simp)<;>omega)))) k9);clear h9 k9)
           | ((with_reducible apply store24 (g:=w.heap.size));rfl;(with_reducible rfl);rfl;rfl;(repeat' (first|(with_reducible first|exact HZ9.out|exact hz_new|refine hz_set ?_ ?_|refine hz_row ?_ ?_|refine hz_alloc ?_)|(with_reducible change (_:Nat)≠_;(try simp)<;>omega)));rfl;rfl))
          ((try simp only [Exit.inBlock,Exit.then]);refine bodyPost_ret (v:=_) (results24t Try.results59 _ _ w.heap.size _ (.bool true) ?_ ?_ (row24 ?_) ?_) rfl ⟨⟨rfl,?_⟩,?_⟩;rfl;rfl;(repeat' (first|(with_reducible first|exact HZ9.out|exact hz_new|refine hz_set ?_ ?_|refine hz_row ?_ ?_|refine hz_alloc ?_)|(with_reducible change (_:Nat)≠_;(try simp)<;>omega)));rfl;(repeat' (first|(with_reducible first|exact H9.out|refine St.setRow ?_ ?_ _|refine St.setOther ?_ ?_ _|refine St.alloc ?_ _)|(with_reducible change (_:Nat) < _;(try simp)<;>omega)));(repeat' (first|(with_reducible first|exact Kept.refl _ _|exact K9.out|refine Kept.setRow ?_ ?_ _|refine Kept.setNew ?_ ?_ _|refine Kept.alloc ?_ _)|(with_reducible change (_:Nat)≤_;(try simp)<;>omega))))
      ·have hkb0:bl.length=0:=by omega
       have hal0:0 < al.length:=by omega
       have hal1:(0:Int) < (al.length:Int):=by omega
       have h8:¬ decN al < -1:=by omega
       by_cases h7:100 < decN al
       ·skip
        have hE:r=some (.error 2):=by rw [HR0.out,intervalE,if_pos HD.out,if_neg (fun h=>h P1.out),if_neg (fun h=>h P2.out),if_neg hok,if_neg hkb,timesP,if_neg (by omega),if_pos (by omega)]
        subst hE
        go_wp2_with (go_at_call 45;refine Calls.mono (may_yes _ (?_:St b n c d A l (a2) _) ?_ ?_) ?_;(repeat' (first|(with_reducible first|exact H4.out|refine St.setRow ?_ ?_ _|refine St.setOther ?_ ?_ _|refine St.alloc ?_ _)|(with_reducible change (_:Nat) < _;(try simp)<;>omega)));(omega);(have:=P1.out;omega);rintro e w5 ⟨rfl,h5,k5⟩;have H5:=Lib.hid h5;obtain ⟨ca5,cb5,cc5,cf5⟩:=H5.out.rd.cells;clear cb5;have hs5:=k5.size;(try simp at hs5);(have hl5:w.heap.size < w5.heap.size:=by omega);have HZ5:=Lib.hid ((k5.block w.heap.size (by (try simp)<;>omega) hb0).trans (show _=some Z24 by (repeat' (first|(with_reducible first|exact HZ4.out|exact hz_new|refine hz_set ?_ ?_|refine hz_row ?_ ?_|refine hz_alloc ?_)|(with_reducible change (_:Nat)≠_;(try simp)<;>omega)))));have K5:Hid (Kept b w w5):=Lib.hid (Kept.trans (w1:=_) (by (repeat' (first|(with_reducible first|exact Kept.refl _ _|exact K4.out|refine Kept.setRow ?_ ?_ _|refine Kept.setNew ?_ ?_ _|refine Kept.alloc ?_ _)|(with_reducible change (_:Nat)≤_;(try simp)<;>omega)))) k5);clear h5 k5)
        go_wp2_with (go_at_call 45;refine Calls.mono (may_yes _ (?_:St b n c d A l (a2+1) _) ?_ ?_) ?_;(repeat' (first|(with_reducible first|exact H5.out|refine St.setRow ?_ ?_ _|refine St.setOther ?_ ?_ _|refine St.alloc ?_ _)|(with_reducible change (_:Nat) < _;(try simp)<;>omega)));(omega);(have:=P2.out;omega);rintro e w6 ⟨rfl,h6,k6⟩;have H6:=Lib.hid h6;obtain ⟨ca6,cb6,cc6,cf6⟩:=H6.out.rd.cells;clear cb6;have hs6:=k6.size;(try simp at hs6);(have hl6:w.heap.size < w6.heap.size:=by omega);have HZ6:=Lib.hid ((k6.block w.heap.size (by (try simp)<;>omega) hb0).trans (show _=some Z24 by (repeat' (first|(with_reducible first|exact HZ5.out|exact hz_new|refine hz_set ?_ ?_|refine hz_row ?_ ?_|refine hz_alloc ?_)|(with_reducible change (_:Nat)≠_;(try simp)<;>omega)))));have K6:Hid (Kept b w w6):=Lib.hid (Kept.trans (w1:=_) (by (repeat' (first|(with_reducible first|exact Kept.refl _ _|exact K5.out|refine Kept.setRow ?_ ?_ _|refine Kept.setNew ?_ ?_ _|refine Kept.alloc ?_ _)|(with_reducible change (_:Nat)≤_;(try simp)<;>omega)))) k6);clear h6 k6)
        go_wp2_with (first
         | (go_at_call 53;(with_reducible refine (decimal_digs (HAa.out _ K6.out)).mono ?_);rintro e w' ⟨rfl,rfl⟩)
         | (go_at_call 53;(with_reducible refine (decimal_digs (HBb.out _ K6.out)).mono ?_);rintro e w' ⟨rfl,rfl⟩)
         | (go_at_call 46;refine (fail46 _ _).mono ?_;rintro e w' ⟨rfl,rfl⟩))
        exact ⟨rfl,rfl,K6.out⟩
       ·skip
        obtain ⟨⟨t,nx⟩,hr⟩:∃ p,p=repeatP d l (a2+1+1) (decN al) (-1):=⟨_,rfl⟩
        have hE:r=some (.ok (t,nx)):=by rw [HR0.out,intervalE,if_pos HD.out,if_neg (fun h=>h P1.out),if_neg (fun h=>h P2.out),if_neg hok,if_neg hkb,timesP,if_neg (by omega),if_neg (by omega),hr]
        subst hE
        have HR:=Lib.hid hr.symm
        clear hr
        go_wp2_with (go_at_call 45;refine Calls.mono (may_yes _ (?_:St b n c d A l (a2) _) ?_ ?_) ?_;(repeat' (first|(with_reducible first|exact H4.out|refine St.setRow ?_ ?_ _|refine St.setOther ?_ ?_ _|refine St.alloc ?_ _)|(with_reducible change (_:Nat) < _;(try simp)<;>omega)));(omega);(have:=P1.out;omega);rintro e w5 ⟨rfl,h5,k5⟩;have H5:=Lib.hid h5;obtain ⟨ca5,cb5,cc5,cf5⟩:=H5.out.rd.cells;clear cb5;have hs5:=k5.size;(try simp at hs5);(have hl5:w.heap.size < w5.heap.size:=by omega);have HZ5:=Lib.hid ((k5.block w.heap.size (by (try simp)<;>omega) hb0).trans (show _=some Z24 by (repeat' (first|(with_reducible first|exact HZ4.out|exact hz_new|refine hz_set ?_ ?_|refine hz_row ?_ ?_|refine hz_alloc ?_)|(with_reducible change (_:Nat)≠_;(try simp)<;>omega)))));have K5:Hid (Kept b w w5):=Lib.hid (Kept.trans (w1:=_) (by (repeat' (first|(with_reducible first|exact Kept.refl _ _|exact K4.out|refine Kept.setRow ?_ ?_ _|refine Kept.setNew ?_ ?_ _|refine Kept.alloc ?_ _)|(with_reducible change (_:Nat)≤_;(try simp)<;>omega)))) k5);clear h5 k5)
        go_wp2_with (go_at_call 45;refine Calls.mono (may_yes _ (?_:St b n c d A l (a2+1) _) ?_ ?_) ?_;(repeat' (first|(with_reducible first|exact H5.out|refine St.setRow ?_ ?_ _|refine St.setOther ?_ ?_ _|refine St.alloc ?_ _)|(with_reducible change (_:Nat) < _;(try simp)<;>omega)));(omega);(have:=P2.out;omega);rintro e w6 ⟨rfl,h6,k6⟩;have H6:=Lib.hid h6;obtain ⟨ca6,cb6,cc6,cf6⟩:=H6.out.rd.cells;clear cb6;have hs6:=k6.size;(try simp at hs6);(have hl6:w.heap.size < w6.heap.size:=by omega);have HZ6:=Lib.hid ((k6.block w.heap.size (by (try simp)<;>omega) hb0).trans (show _=some Z24 by (repeat' (first|(with_reducible first|exact HZ5.out|exact hz_new|refine hz_set ?_ ?_|refine hz_row ?_ ?_|refine hz_alloc ?_)|(with_reducible change (_:Nat)≠_;(try simp)<;>omega)))));have K6:Hid (Kept b w w6):=Lib.hid (Kept.trans (w1:=_) (by (repeat' (first|(with_reducible first|exact Kept.refl _ _|exact K5.out|refine Kept.setRow ?_ ?_ _|refine Kept.setNew ?_ ?_ _|refine Kept.alloc ?_ _)|(with_reducible change (_:Nat)≤_;(try simp)<;>omega)))) k6);clear h6 k6)
        go_wp2_with (first
         | (go_at_call 53;(with_reducible refine (decimal_digs (HAa.out _ K6.out)).mono ?_);rintro e w' ⟨rfl,rfl⟩)
         | (go_at_call 53;(with_reducible refine (decimal_digs (HBb.out _ K6.out)).mono ?_);rintro e w' ⟨rfl,rfl⟩)
         | (go_at_call 39;refine Calls.mono (repeat_agg _ _ (?_:St b n c d A l (a2+1+1) _) t nx HR.out) ?_;(repeat' (first|(with_reducible first|exact H6.out|refine St.setRow ?_ ?_ _|refine St.setOther ?_ ?_ _|refine St.alloc ?_ _)|(with_reducible change (_:Nat) < _;(try simp)<;>omega)));rintro e w9 ⟨rfl,h9,k9⟩;have H9:=Lib.hid h9;obtain ⟨ca9,cb9,cc9,cf9⟩:=H9.out.rd.cells;clear cb9;have hs9:=k9.size;(try simp at hs9);(have hl9:w.heap.size < w9.heap.size:=by omega);have HZ9:=Lib.hid ((k9.block w.heap.size (by (try simp)<;>omega) hb0).trans (show _=some Z24 by (repeat' (first|(with_reducible first|exact HZ6.out|exact hz_new|refine hz_set ?_ ?_|refine hz_row ?_ ?_|refine hz_alloc ?_)|(with_reducible change (_:Nat)≠_;(try simp)<;>omega)))));have K9:Hid (Kept b w w9):=Lib.hid (Kept.trans (w1:=_) (by (repeat' (first|(with_reducible first|exact Kept.refl _ _|exact K6.out|refine Kept.setRow ?_ ?_ _|refine Kept.setNew ?_ ?_ _|refine Kept.alloc ?_ _)|(with_reducible change (_:Nat)≤_;(try simp)<;>omega)))) k9);clear h9 k9)
         | ((with_reducible apply store24 (g:=w.heap.size));rfl;(with_reducible rfl);rfl;rfl;(repeat' (first|(with_reducible first|exact HZ9.out|exact hz_new|refine hz_set ?_ ?_|refine hz_row ?_ ?_|refine hz_alloc ?_)|(with_reducible change (_:Nat)≠_;(try simp)<;>omega)));rfl;rfl))
        ((try simp only [Exit.inBlock,Exit.then]);refine bodyPost_ret (v:=_) (results24t Try.results59 _ _ w.heap.size _ (.bool true) ?_ ?_ (row24 ?_) ?_) rfl ⟨⟨rfl,?_⟩,?_⟩;rfl;rfl;(repeat' (first|(with_reducible first|exact HZ9.out|exact hz_new|refine hz_set ?_ ?_|refine hz_row ?_ ?_|refine hz_alloc ?_)|(with_reducible change (_:Nat)≠_;(try simp)<;>omega)));rfl;(repeat' (first|(with_reducible first|exact H9.out|refine St.setRow ?_ ?_ _|refine St.setOther ?_ ?_ _|refine St.alloc ?_ _)|(with_reducible change (_:Nat) < _;(try simp)<;>omega)));(repeat' (first|(with_reducible first|exact Kept.refl _ _|exact K9.out|refine Kept.setRow ?_ ?_ _|refine Kept.setNew ?_ ?_ _|refine Kept.alloc ?_ _)|(with_reducible change (_:Nat)≤_;(try simp)<;>omega))))
    ·have P2:=Lib.hid h2
     clear h2
     have hE:r=none:=by rw [HR0.out,intervalE,if_pos HD.out,if_neg (fun h=>h P1.out),if_pos P2.out]
     subst hE
     go_wp2_with (go_at_call 45;refine Calls.mono (may_yes _ (?_:St b n c d A l (a2) _) ?_ ?_) ?_;(repeat' (first|(with_reducible first|exact H4.out|refine St.setRow ?_ ?_ _|refine St.setOther ?_ ?_ _|refine St.alloc ?_ _)|(with_reducible change (_:Nat) < _;(try simp)<;>omega)));(omega);(have:=P1.out;omega);rintro e w5 ⟨rfl,h5,k5⟩;have H5:=Lib.hid h5;obtain ⟨ca5,cb5,cc5,cf5⟩:=H5.out.rd.cells;clear cb5;have hs5:=k5.size;(try simp at hs5);(have hl5:w.heap.size < w5.heap.size:=by omega);have HZ5:=Lib.hid ((k5.block w.heap.size (by (try simp)<;>omega) hb0).trans (show _=some Z24 by (repeat' (first|(with_reducible first|exact HZ4.out|exact hz_new|refine hz_set ?_ ?_|refine hz_row ?_ ?_|refine hz_alloc ?_)|(with_reducible change (_:Nat)≠_;(try simp)<;>omega)))));have K5:Hid (Kept b w w5):=Lib.hid (Kept.trans (w1:=_) (by (repeat' (first|(with_reducible first|exact Kept.refl _ _|exact K4.out|refine Kept.setRow ?_ ?_ _|refine Kept.setNew ?_ ?_ _|refine Kept.alloc ?_ _)|(with_reducible change (_:Nat)≤_;(try simp)<;>omega)))) k5);clear h5 k5)
     go_wp2_with (first|(go_at_call 45;refine Calls.mono (may_no _ (?_:St b n c d A l (a2+1) _) ?_ ?_) ?_;(repeat' (first|(with_reducible first|exact H5.out|refine St.setRow ?_ ?_ _|refine St.setOther ?_ ?_ _|refine St.alloc ?_ _)|(with_reducible change (_:Nat) < _;(try simp)<;>omega)));(omega);(have:=P2.out;omega);rintro e w6 ⟨rfl,h6,k6⟩;have H6:=Lib.hid h6;obtain ⟨ca6,cb6,cc6,cf6⟩:=H6.out.rd.cells;clear cb6;have hs6:=k6.size;(try simp at hs6);(have hl6:w.heap.size < w6.heap.size:=by omega);have HZ6:=Lib.hid ((k6.block w.heap.size (by (try simp)<;>omega) hb0).trans (show _=some Z24 by (repeat' (first|(with_reducible first|exact HZ5.out|exact hz_new|refine hz_set ?_ ?_|refine hz_row ?_ ?_|refine hz_alloc ?_)|(with_reducible change (_:Nat)≠_;(try simp)<;>omega)))));have K6:Hid (Kept b w w6):=Lib.hid (Kept.trans (w1:=_) (by (repeat' (first|(with_reducible first|exact Kept.refl _ _|exact K5.out|refine Kept.setRow ?_ ?_ _|refine Kept.setNew ?_ ?_ _|refine Kept.alloc ?_ _)|(with_reducible change (_:Nat)≤_;(try simp)<;>omega)))) k6);clear h6 k6)|((with_reducible apply store24 (g:=w.heap.size));rfl;(with_reducible rfl);rfl;rfl;(repeat' (first|(with_reducible first|exact HZ6.out|exact hz_new|refine hz_set ?_ ?_|refine hz_row ?_ ?_|refine hz_alloc ?_)|(with_reducible change (_:Nat)≠_;(try simp)<;>omega)));rfl;rfl))
     have HM:=Lib.hid (H6.out.move (x:=at_) hlo hhi)
     have KM:=Lib.hid (K6.out.set 2 (.int .i64 at_))
     ((try simp only [Exit.inBlock,Exit.then]);refine bodyPost_ret (v:=_) (results24t Try.results59 _ _ w.heap.size _ (.bool false) ?_ ?_ (row24 ?_) ?_) rfl ⟨⟨rfl,?_⟩,?_⟩;rfl;rfl;(repeat' (first|(with_reducible first|exact HZ6.out|exact hz_new|refine hz_set ?_ ?_|refine hz_row ?_ ?_|refine hz_alloc ?_)|(with_reducible change (_:Nat)≠_;(try simp)<;>omega)));rfl;(repeat' (first|(with_reducible first|exact HM.out|refine St.setRow ?_ ?_ _|refine St.setOther ?_ ?_ _|refine St.alloc ?_ _)|(with_reducible change (_:Nat) < _;(try simp)<;>omega)));(repeat' (first|(with_reducible first|exact Kept.refl _ _|exact KM.out|refine Kept.setRow ?_ ?_ _|refine Kept.setNew ?_ ?_ _|refine Kept.alloc ?_ _)|(with_reducible change (_:Nat)≤_;(try simp)<;>omega))))
   ·have P1:=Lib.hid h1
    clear h1
    by_cases h2:ptAt l a2=125
    ·have P2:=Lib.hid h2
     clear h2
     have hE:r=none:=by rw [HR0.out,intervalE,if_pos HD.out,if_pos P1.out]
     subst hE
     go_wp2_with (go_at_call 45;refine Calls.mono (may_no _ (?_:St b n c d A l (a2) _) ?_ ?_) ?_;(repeat' (first|(with_reducible first|exact H4.out|refine St.setRow ?_ ?_ _|refine St.setOther ?_ ?_ _|refine St.alloc ?_ _)|(with_reducible change (_:Nat) < _;(try simp)<;>omega)));(omega);(have:=P1.out;omega);rintro e w5 ⟨rfl,h5,k5⟩;have H5:=Lib.hid h5;obtain ⟨ca5,cb5,cc5,cf5⟩:=H5.out.rd.cells;clear cb5;have hs5:=k5.size;(try simp at hs5);(have hl5:w.heap.size < w5.heap.size:=by omega);have HZ5:=Lib.hid ((k5.block w.heap.size (by (try simp)<;>omega) hb0).trans (show _=some Z24 by (repeat' (first|(with_reducible first|exact HZ4.out|exact hz_new|refine hz_set ?_ ?_|refine hz_row ?_ ?_|refine hz_alloc ?_)|(with_reducible change (_:Nat)≠_;(try simp)<;>omega)))));have K5:Hid (Kept b w w5):=Lib.hid (Kept.trans (w1:=_) (by (repeat' (first|(with_reducible first|exact Kept.refl _ _|exact K4.out|refine Kept.setRow ?_ ?_ _|refine Kept.setNew ?_ ?_ _|refine Kept.alloc ?_ _)|(with_reducible change (_:Nat)≤_;(try simp)<;>omega)))) k5);clear h5 k5)
     go_wp2_with (first|(go_at_call 45;refine Calls.mono (may_yes _ (?_:St b n c d A l (a2) _) ?_ ?_) ?_;(repeat' (first|(with_reducible first|exact H5.out|refine St.setRow ?_ ?_ _|refine St.setOther ?_ ?_ _|refine St.alloc ?_ _)|(with_reducible change (_:Nat) < _;(try simp)<;>omega)));(omega);(have:=P2.out;omega);rintro e w6 ⟨rfl,h6,k6⟩;have H6:=Lib.hid h6;obtain ⟨ca6,cb6,cc6,cf6⟩:=H6.out.rd.cells;clear cb6;have hs6:=k6.size;(try simp at hs6);(have hl6:w.heap.size < w6.heap.size:=by omega);have HZ6:=Lib.hid ((k6.block w.heap.size (by (try simp)<;>omega) hb0).trans (show _=some Z24 by (repeat' (first|(with_reducible first|exact HZ5.out|exact hz_new|refine hz_set ?_ ?_|refine hz_row ?_ ?_|refine hz_alloc ?_)|(with_reducible change (_:Nat)≠_;(try simp)<;>omega)))));have K6:Hid (Kept b w w6):=Lib.hid (Kept.trans (w1:=_) (by (repeat' (first|(with_reducible first|exact Kept.refl _ _|exact K5.out|refine Kept.setRow ?_ ?_ _|refine Kept.setNew ?_ ?_ _|refine Kept.alloc ?_ _)|(with_reducible change (_:Nat)≤_;(try simp)<;>omega)))) k6);clear h6 k6)|((with_reducible apply store24 (g:=w.heap.size));rfl;(with_reducible rfl);rfl;rfl;(repeat' (first|(with_reducible first|exact HZ6.out|exact hz_new|refine hz_set ?_ ?_|refine hz_row ?_ ?_|refine hz_alloc ?_)|(with_reducible change (_:Nat)≠_;(try simp)<;>omega)));rfl;rfl))
     have HM:=Lib.hid (H6.out.move (x:=at_) hlo hhi)
     have KM:=Lib.hid (K6.out.set 2 (.int .i64 at_))
     ((try simp only [Exit.inBlock,Exit.then]);refine bodyPost_ret (v:=_) (results24t Try.results59 _ _ w.heap.size _ (.bool false) ?_ ?_ (row24 ?_) ?_) rfl ⟨⟨rfl,?_⟩,?_⟩;rfl;rfl;(repeat' (first|(with_reducible first|exact HZ6.out|exact hz_new|refine hz_set ?_ ?_|refine hz_row ?_ ?_|refine hz_alloc ?_)|(with_reducible change (_:Nat)≠_;(try simp)<;>omega)));rfl;(repeat' (first|(with_reducible first|exact HM.out|refine St.setRow ?_ ?_ _|refine St.setOther ?_ ?_ _|refine St.alloc ?_ _)|(with_reducible change (_:Nat) < _;(try simp)<;>omega)));(repeat' (first|(with_reducible first|exact Kept.refl _ _|exact KM.out|refine Kept.setRow ?_ ?_ _|refine Kept.setNew ?_ ?_ _|refine Kept.alloc ?_ _)|(with_reducible change (_:Nat)≤_;(try simp)<;>omega))))
    ·have P2:=Lib.hid h2
     clear h2
     have hE:r=none:=by rw [HR0.out,intervalE,if_pos HD.out,if_pos P1.out]
     subst hE
     go_wp2_with (go_at_call 45;refine Calls.mono (may_no _ (?_:St b n c d A l (a2) _) ?_ ?_) ?_;(repeat' (first|(with_reducible first|exact H4.out|refine St.setRow ?_ ?_ _|refine St.setOther ?_ ?_ _|refine St.alloc ?_ _)|(with_reducible change (_:Nat) < _;(try simp)<;>omega)));(omega);(have:=P1.out;omega);rintro e w5 ⟨rfl,h5,k5⟩;have H5:=Lib.hid h5;obtain ⟨ca5,cb5,cc5,cf5⟩:=H5.out.rd.cells;clear cb5;have hs5:=k5.size;(try simp at hs5);(have hl5:w.heap.size < w5.heap.size:=by omega);have HZ5:=Lib.hid ((k5.block w.heap.size (by (try simp)<;>omega) hb0).trans (show _=some Z24 by (repeat' (first|(with_reducible first|exact HZ4.out|exact hz_new|refine hz_set ?_ ?_|refine hz_row ?_ ?_|refine hz_alloc ?_)|(with_reducible change (_:Nat)≠_;(try simp)<;>omega)))));have K5:Hid (Kept b w w5):=Lib.hid (Kept.trans (w1:=_) (by (repeat' (first|(with_reducible first|exact Kept.refl _ _|exact K4.out|refine Kept.setRow ?_ ?_ _|refine Kept.setNew ?_ ?_ _|refine Kept.alloc ?_ _)|(with_reducible change (_:Nat)≤_;(try simp)<;>omega)))) k5);clear h5 k5)
     go_wp2_with (first|(go_at_call 45;refine Calls.mono (may_no _ (?_:St b n c d A l (a2) _) ?_ ?_) ?_;(repeat' (first|(with_reducible first|exact H5.out|refine St.setRow ?_ ?_ _|refine St.setOther ?_ ?_ _|refine St.alloc ?_ _)|(with_reducible change (_:Nat) < _;(try simp)<;>omega)));(omega);(have:=P2.out;omega);rintro e w6 ⟨rfl,h6,k6⟩;have H6:=Lib.hid h6;obtain ⟨ca6,cb6,cc6,cf6⟩:=H6.out.rd.cells;clear cb6;have hs6:=k6.size;(try simp at hs6);(have hl6:w.heap.size < w6.heap.size:=by omega);have HZ6:=Lib.hid ((k6.block w.heap.size (by (try simp)<;>omega) hb0).trans (show _=some Z24 by (repeat' (first|(with_reducible first|exact HZ5.out|exact hz_new|refine hz_set ?_ ?_|refine hz_row ?_ ?_|refine hz_alloc ?_)|(with_reducible change (_:Nat)≠_;(try simp)<;>omega)))));have K6:Hid (Kept b w w6):=Lib.hid (Kept.trans (w1:=_) (by (repeat' (first|(with_reducible first|exact Kept.refl _ _|exact K5.out|refine Kept.setRow ?_ ?_ _|refine Kept.setNew ?_ ?_ _|refine Kept.alloc ?_ _)|(with_reducible change (_:Nat)≤_;(try simp)<;>omega)))) k6);clear h6 k6)|((with_reducible apply store24 (g:=w.heap.size));rfl;(with_reducible rfl);rfl;rfl;(repeat' (first|(with_reducible first|exact HZ6.out|exact hz_new|refine hz_set ?_ ?_|refine hz_row ?_ ?_|refine hz_alloc ?_)|(with_reducible change (_:Nat)≠_;(try simp)<;>omega)));rfl;rfl))
     have HM:=Lib.hid (H6.out.move (x:=at_) hlo hhi)
     have KM:=Lib.hid (K6.out.set 2 (.int .i64 at_))
     ((try simp only [Exit.inBlock,Exit.then]);refine bodyPost_ret (v:=_) (results24t Try.results59 _ _ w.heap.size _ (.bool false) ?_ ?_ (row24 ?_) ?_) rfl ⟨⟨rfl,?_⟩,?_⟩;rfl;rfl;(repeat' (first|(with_reducible first|exact HZ6.out|exact hz_new|refine hz_set ?_ ?_|refine hz_row ?_ ?_|refine hz_alloc ?_)|(with_reducible change (_:Nat)≠_;(try simp)<;>omega)));rfl;(repeat' (first|(with_reducible first|exact HM.out|refine St.setRow ?_ ?_ _|refine St.setOther ?_ ?_ _|refine St.alloc ?_ _)|(with_reducible change (_:Nat) < _;(try simp)<;>omega)));(repeat' (first|(with_reducible first|exact Kept.refl _ _|exact KM.out|refine Kept.setRow ?_ ?_ _|refine Kept.setNew ?_ ?_ _|refine Kept.alloc ?_ _)|(with_reducible change (_:Nat)≤_;(try simp)<;>omega))))
  ·have hd2:(d == 3)=false:=by simpa using hd
   have HD:=Lib.hid hd
   clear hd
   by_cases h2:ptAt l a2=125
   ·have P2:=Lib.hid h2
    clear h2
    by_cases hok:al.length+bl.length=0
    ·skip
     have hE:r=none:=by rw [HR0.out,intervalE,if_neg HD.out,if_neg (fun h=>h P2.out),if_pos hok]
     subst hE
     obtain ⟨q1,q2⟩:al.length=0∧bl.length=0:=by omega
     clear hok
     have hq:¬ 0 < al.length+bl.length:=by omega
     go_wp2_with (first|(go_at_call 45;refine Calls.mono (may_yes _ (?_:St b n c d A l (a2) _) ?_ ?_) ?_;(repeat' (first|(with_reducible first|exact H4.out|refine St.setRow ?_ ?_ _|refine St.setOther ?_ ?_ _|refine St.alloc ?_ _)|(with_reducible change (_:Nat) < _;(try simp)<;>omega)));(omega);(have:=P2.out;omega);rintro e w5 ⟨rfl,h5,k5⟩;have H5:=Lib.hid h5;obtain ⟨ca5,cb5,cc5,cf5⟩:=H5.out.rd.cells;clear cb5;have hs5:=k5.size;(try simp at hs5);(have hl5:w.heap.size < w5.heap.size:=by omega);have HZ5:=Lib.hid ((k5.block w.heap.size (by (try simp)<;>omega) hb0).trans (show _=some Z24 by (repeat' (first|(with_reducible first|exact HZ4.out|exact hz_new|refine hz_set ?_ ?_|refine hz_row ?_ ?_|refine hz_alloc ?_)|(with_reducible change (_:Nat)≠_;(try simp)<;>omega)))));have K5:Hid (Kept b w w5):=Lib.hid (Kept.trans (w1:=_) (by (repeat' (first|(with_reducible first|exact Kept.refl _ _|exact K4.out|refine Kept.setRow ?_ ?_ _|refine Kept.setNew ?_ ?_ _|refine Kept.alloc ?_ _)|(with_reducible change (_:Nat)≤_;(try simp)<;>omega)))) k5);clear h5 k5)|((with_reducible apply store24 (g:=w.heap.size));rfl;(with_reducible rfl);rfl;rfl;(repeat' (first|(with_reducible first|exact HZ5.out|exact hz_new|refine hz_set ?_ ?_|refine hz_row ?_ ?_|refine hz_alloc ?_)|(with_reducible change (_:Nat)≠_;(try simp)<;>omega)));rfl;rfl))
     have HM:=Lib.hid (H5.out.move (x:=at_) hlo hhi)
     have KM:=Lib.hid (K5.out.set 2 (.int .i64 at_))
     ((try simp only [Exit.inBlock,Exit.then]);refine bodyPost_ret (v:=_) (results24t Try.results59 _ _ w.heap.size _ (.bool false) ?_ ?_ (row24 ?_) ?_) rfl ⟨⟨rfl,?_⟩,?_⟩;rfl;rfl;(repeat' (first|(with_reducible first|exact HZ5.out|exact hz_new|refine hz_set ?_ ?_|refine hz_row ?_ ?_|refine hz_alloc ?_)|(with_reducible change (_:Nat)≠_;(try simp)<;>omega)));rfl;(repeat' (first|(with_reducible first|exact HM.out|refine St.setRow ?_ ?_ _|refine St.setOther ?_ ?_ _|refine St.alloc ?_ _)|(with_reducible change (_:Nat) < _;(try simp)<;>omega)));(repeat' (first|(with_reducible first|exact Kept.refl _ _|exact KM.out|refine Kept.setRow ?_ ?_ _|refine Kept.setNew ?_ ?_ _|refine Kept.alloc ?_ _)|(with_reducible change (_:Nat)≤_;(try simp)<;>omega))))
    ·skip
     have hsum:0 < al.length+bl.length:=by omega
     have hsui:(0:Int) < (al.length:Int)+(bl.length:Int):=by omega
     by_cases hkb:0 < bl.length
     ·have hkbi:(0:Int) < (bl.length:Int):=by omega
      by_cases h5:decN bl < decN al
      ·skip
       have hE:r=some (.error 3):=by rw [HR0.out,intervalE,if_neg HD.out,if_neg (fun h=>h P2.out),if_neg hok,if_pos hkb,timesP,if_pos ⟨by omega,h5⟩]
       subst hE
       go_wp2_with (go_at_call 45;refine Calls.mono (may_yes _ (?_:St b n c d A l (a2) _) ?_ ?_) ?_;(repeat' (first|(with_reducible first|exact H4.out|refine St.setRow ?_ ?_ _|refine St.setOther ?_ ?_ _|refine St.alloc ?_ _)|(with_reducible change (_:Nat) < _;(try simp)<;>omega)));(omega);(have:=P2.out;omega);rintro e w5 ⟨rfl,h5,k5⟩;have H5:=Lib.hid h5;obtain ⟨ca5,cb5,cc5,cf5⟩:=H5.out.rd.cells;clear cb5;have hs5:=k5.size;(try simp at hs5);(have hl5:w.heap.size < w5.heap.size:=by omega);have HZ5:=Lib.hid ((k5.block w.heap.size (by (try simp)<;>omega) hb0).trans (show _=some Z24 by (repeat' (first|(with_reducible first|exact HZ4.out|exact hz_new|refine hz_set ?_ ?_|refine hz_row ?_ ?_|refine hz_alloc ?_)|(with_reducible change (_:Nat)≠_;(try simp)<;>omega)))));have K5:Hid (Kept b w w5):=Lib.hid (Kept.trans (w1:=_) (by (repeat' (first|(with_reducible first|exact Kept.refl _ _|exact K4.out|refine Kept.setRow ?_ ?_ _|refine Kept.setNew ?_ ?_ _|refine Kept.alloc ?_ _)|(with_reducible change (_:Nat)≤_;(try simp)<;>omega)))) k5);clear h5 k5)
       go_wp2_with (first
        | (go_at_call 53;(with_reducible refine (decimal_digs (HAa.out _ K5.out)).mono ?_);rintro e w' ⟨rfl,rfl⟩)
        | (go_at_call 53;(with_reducible refine (decimal_digs (HBb.out _ K5.out)).mono ?_);rintro e w' ⟨rfl,rfl⟩)
        | (go_at_call 46;refine (fail46 _ _).mono ?_;rintro e w' ⟨rfl,rfl⟩))
       exact ⟨rfl,rfl,K5.out⟩
      ·by_cases h6:decN al < decN bl
       ·by_cases h7:100 < decN bl
        ·skip
         have hE:r=some (.error 2):=by rw [HR0.out,intervalE,if_neg HD.out,if_neg (fun h=>h P2.out),if_neg hok,if_pos hkb,timesP,if_neg (fun h=>h5 h.2),if_pos (by omega)]
         subst hE
         go_wp2_with (go_at_call 45;refine Calls.mono (may_yes _ (?_:St b n c d A l (a2) _) ?_ ?_) ?_;(repeat' (first|(with_reducible first|exact H4.out|refine St.setRow ?_ ?_ _|refine St.setOther ?_ ?_ _|refine St.alloc ?_ _)|(with_reducible change (_:Nat) < _;(try simp)<;>omega)));(omega);(have:=P2.out;omega);rintro e w5 ⟨rfl,h5,k5⟩;have H5:=Lib.hid h5;obtain ⟨ca5,cb5,cc5,cf5⟩:=H5.out.rd.cells;clear cb5;have hs5:=k5.size;(try simp at hs5);(have hl5:w.heap.size < w5.heap.size:=by omega);have HZ5:=Lib.hid ((k5.block w.heap.size (by (try simp)<;>omega) hb0).trans (show _=some Z24 by (repeat' (first|(with_reducible first|exact HZ4.out|exact hz_new|refine hz_set ?_ ?_|refine hz_row ?_ ?_|refine hz_alloc ?_)|(with_reducible change (_:Nat)≠_;(try simp)<;>omega)))));have K5:Hid (Kept b w w5):=Lib.hid (Kept.trans (w1:=_) (by (repeat' (first|(with_reducible first|exact Kept.refl _ _|exact K4.out|refine Kept.setRow ?_ ?_ _|refine Kept.setNew ?_ ?_ _|refine Kept.alloc ?_ _)|(with_reducible change (_:Nat)≤_;(try simp)<;>omega)))) k5);clear h5 k5)
         go_wp2_with (first
          | (go_at_call 53;(with_reducible refine (decimal_digs (HAa.out _ K5.out)).mono ?_);rintro e w' ⟨rfl,rfl⟩)
          | (go_at_call 53;(with_reducible refine (decimal_digs (HBb.out _ K5.out)).mono ?_);rintro e w' ⟨rfl,rfl⟩)
          | (go_at_call 46;refine (fail46 _ _).mono ?_;rintro e w' ⟨rfl,rfl⟩))
         exact ⟨rfl,rfl,K5.out⟩
        ·skip
         obtain ⟨⟨t,nx⟩,hr⟩:∃ p,p=repeatP d l (a2+1) (decN al) (decN bl):=⟨_,rfl⟩
         have hE:r=some (.ok (t,nx)):=by rw [HR0.out,intervalE,if_neg HD.out,if_neg (fun h=>h P2.out),if_neg hok,if_pos hkb,timesP,if_neg (fun h=>h5 h.2),if_neg (by omega),hr]
         subst hE
         have HR:=Lib.hid hr.symm
         clear hr
         go_wp2_with (go_at_call 45;refine Calls.mono (may_yes _ (?_:St b n c d A l (a2) _) ?_ ?_) ?_;(repeat' (first|(with_reducible first|exact H4.out|refine St.setRow ?_ ?_ _|refine St.setOther ?_ ?_ _|refine St.alloc ?_ _)|(with_reducible change (_:Nat) < _;(try simp)<;>omega)));(omega);(have:=P2.out;omega);rintro e w5 ⟨rfl,h5,k5⟩;have H5:=Lib.hid h5;obtain ⟨ca5,cb5,cc5,cf5⟩:=H5.out.rd.cells;clear cb5;have hs5:=k5.size;(try simp at hs5);(have hl5:w.heap.size < w5.heap.size:=by omega);have HZ5:=Lib.hid ((k5.block w.heap.size (by (try simp)<;>omega) hb0).trans (show _=some Z24 by (repeat' (first|(with_reducible first|exact HZ4.out|exact hz_new|refine hz_set ?_ ?_|refine hz_row ?_ ?_|refine hz_alloc ?_)|(with_reducible change (_:Nat)≠_;(try simp)<;>omega)))));have K5:Hid (Kept b w w5):=Lib.hid (Kept.trans (w1:=_) (by (repeat' (first|(with_reducible first|exact Kept.refl _ _|exact K4.out|refine Kept.setRow ?_ ?_ _|refine Kept.setNew ?_ ?_ _|refine Kept.alloc ?_ _)|(with_reducible change (_:Nat)≤_;(try simp)<;>omega)))) k5);clear h5 k5)
         go_wp2_with (first
          | (go_at_call 53;(with_reducible refine (decimal_digs (HAa.out _ K5.out)).mono ?_);rintro e w' ⟨rfl,rfl⟩)
          | (go_at_call 53;(with_reducible refine (decimal_digs (HBb.out _ K5.out)).mono ?_);rintro e w' ⟨rfl,rfl⟩)
          | (go_at_call 39;refine Calls.mono (repeat_agg _ _ (?_:St b n c d A l (a2+1) _) t nx HR.out) ?_;(repeat' (first|(with_reducible first|exact H5.out|refine St.setRow ?_ ?_ _|refine St.setOther ?_ ?_ _|refine St.alloc ?_ _)|(with_reducible change (_:Nat) < _;(try simp)<;>omega)));rintro e w9 ⟨rfl,h9,k9⟩;have H9:=Lib.hid h9;obtain ⟨ca9,cb9,cc9,cf9⟩:=H9.out.rd.cells;clear cb9;have hs9:=k9.size;(try simp at hs9);(have hl9:w.heap.size < w9.heap.size:=by omega);have HZ9:=Lib.hid ((k9.block w.heap.size (by (try simp)<;>omega) hb0).trans (show _=some Z24 by (repeat' (first|(with_reducible first|exact HZ5.out|exact hz_new|refine hz_set ?_ ?_|refine hz_row ?_ ?_|refine hz_alloc ?_)|(with_reducible change (_:Nat)≠_;(try simp)<;>omega)))));have K9:Hid (Kept b w w9):=Lib.hid (Kept.trans (w1:=_) (by (repeat' (first|(with_reducible first|exact Kept.refl _ _|exact K5.out|refine Kept.setRow ?_ ?_ _|refine Kept.setNew ?_ ?_ _|refine Kept.alloc ?_ _)|(with_reducible change (_:Nat)≤_;(try simp)<;>omega)))) k9);clear h9 k9)
          | ((with_reducible apply store24 (g:=w.heap.size));rfl;(with_reducible rfl);rfl;rfl;(repeat' (first|(with_reducible first|exact HZ9.out|exact hz_new|refine hz_set ?_ ?_|refine hz_row ?_ ?_|refine hz_alloc ?_)|(with_reducible change (_:Nat)≠_;(try simp)<;>omega)));rfl;rfl))
         ((try simp only [Exit.inBlock,Exit.then]);refine bodyPost_ret (v:=_) (results24t Try.results59 _ _ w.heap.size _ (.bool true) ?_ ?_ (row24 ?_) ?_) rfl ⟨⟨rfl,?_⟩,?_⟩;rfl;rfl;(repeat' (first|(with_reducible first|exact HZ9.out|exact hz_new|refine hz_set ?_ ?_|refine hz_row ?_ ?_|refine hz_alloc ?_)|(with_reducible change (_:Nat)≠_;(try simp)<;>omega)));rfl;(repeat' (first|(with_reducible first|exact H9.out|refine St.setRow ?_ ?_ _|refine St.setOther ?_ ?_ _|refine St.alloc ?_ _)|(with_reducible change (_:Nat) < _;(try simp)<;>omega)));(repeat' (first|(with_reducible first|exact Kept.refl _ _|exact K9.out|refine Kept.setRow ?_ ?_ _|refine Kept.setNew ?_ ?_ _|refine Kept.alloc ?_ _)|(with_reducible change (_:Nat)≤_;(try simp)<;>omega))))
       ·by_cases h7:100 < decN al
        ·skip
         have hE:r=some (.error 2):=by rw [HR0.out,intervalE,if_neg HD.out,if_neg (fun h=>h P2.out),if_neg hok,if_pos hkb,timesP,if_neg (fun h=>h5 h.2),if_pos (by omega)]
         subst hE
         go_wp2_with (go_at_call 45;refine Calls.mono (may_yes _ (?_:St b n c d A l (a2) _) ?_ ?_) ?_;(repeat' (first|(with_reducible first|exact H4.out|refine St.setRow ?_ ?_ _|refine St.setOther ?_ ?_ _|refine St.alloc ?_ _)|(with_reducible change (_:Nat) < _;(try simp)<;>omega)));(omega);(have:=P2.out;omega);rintro e w5 ⟨rfl,h5,k5⟩;have H5:=Lib.hid h5;obtain ⟨ca5,cb5,cc5,cf5⟩:=H5.out.rd.cells;clear cb5;have hs5:=k5.size;(try simp at hs5);(have hl5:w.heap.size < w5.heap.size:=by omega);have HZ5:=Lib.hid ((k5.block w.heap.size (by (try simp)<;>omega) hb0).trans (show _=some Z24 by (repeat' (first|(with_reducible first|exact HZ4.out|exact hz_new|refine hz_set ?_ ?_|refine hz_row ?_ ?_|refine hz_alloc ?_)|(with_reducible change (_:Nat)≠_;(try simp)<;>omega)))));have K5:Hid (Kept b w w5):=Lib.hid (Kept.trans (w1:=_) (by (repeat' (first|(with_reducible first|exact Kept.refl _ _|exact K4.out|refine Kept.setRow ?_ ?_ _|refine Kept.setNew ?_ ?_ _|refine Kept.alloc ?_ _)|(with_reducible change (_:Nat)≤_;(try simp)<;>omega)))) k5);clear h5 k5)
         go_wp2_with (first
          | (go_at_call 53;(with_reducible refine (decimal_digs (HAa.out _ K5.out)).mono ?_);rintro e w' ⟨rfl,rfl⟩)
          | (go_at_call 53;(with_reducible refine (decimal_digs (HBb.out _ K5.out)).mono ?_);rintro e w' ⟨rfl,rfl⟩)
          | (go_at_call 46;refine (fail46 _ _).mono ?_;rintro e w' ⟨rfl,rfl⟩))
         exact ⟨rfl,rfl,K5.out⟩
        ·skip
         obtain ⟨⟨t,nx⟩,hr⟩:∃ p,p=repeatP d l (a2+1) (decN al) (decN bl):=⟨_,rfl⟩
         have hE:r=some (.ok (t,nx)):=by rw [HR0.out,intervalE,if_neg HD.out,if_neg (fun h=>h P2.out),if_neg hok,if_pos hkb,timesP,if_neg (fun h=>h5 h.2),if_neg (by omega),hr]
         subst hE
         have HR:=Lib.hid hr.symm
         clear hr
         go_wp2_with (go_at_call 45;refine Calls.mono (may_yes _ (?_:St b n c d A l (a2) _) ?_ ?_) ?_;(repeat' (first|(with_reducible first|exact H4.out|refine St.setRow ?_ ?_ _|refine St.setOther ?_ ?_ _|refine St.alloc ?_ _)|(with_reducible change (_:Nat) < _;(try simp)<;>omega)));(omega);(have:=P2.out;omega);rintro e w5 ⟨rfl,h5,k5⟩;have H5:=Lib.hid h5;obtain ⟨ca5,cb5,cc5,cf5⟩:=H5.out.rd.cells;clear cb5;have hs5:=k5.size;(try simp at hs5);(have hl5:w.heap.size < w5.heap.size:=by omega);have HZ5:=Lib.hid ((k5.block w.heap.size (by (try simp)<;>omega) hb0).trans (show _=some Z24 by (repeat' (first|(with_reducible first|exact HZ4.out|exact hz_new|refine hz_set ?_ ?_|refine hz_row ?_ ?_|refine hz_alloc ?_)|(with_reducible change (_:Nat)≠_;(try simp)<;>omega)))));have K5:Hid (Kept b w w5):=Lib.hid (Kept.trans (w1:=_) (by (repeat' (first|(with_reducible first|exact Kept.refl _ _|exact K4.out|refine Kept.setRow ?_ ?_ _|refine Kept.setNew ?_ ?_ _|refine Kept.alloc ?_ _)|(with_reducible change (_:Nat)≤_;(try simp)<;>omega)))) k5);clear h5 k5)
         go_wp2_with (first
          | (go_at_call 53;(with_reducible refine (decimal_digs (HAa.out _ K5.out)).mono ?_);rintro e w' ⟨rfl,rfl⟩)
          | (go_at_call 53;(with_reducible refine (decimal_digs (HBb.out _ K5.out)).mono ?_);rintro e w' ⟨rfl,rfl⟩)
          | (go_at_call 39;refine Calls.mono (repeat_agg _ _ (?_:St b n c d A l (a2+1) _) t nx HR.out) ?_;(repeat' (first|(with_reducible first|exact H5.out|refine St.setRow ?_ ?_ _|refine St.setOther ?_ ?_ _|refine St.alloc ?_ _)|(with_reducible change (_:Nat) < _;(try simp)<;>omega)));rintro e w9 ⟨rfl,h9,k9⟩;have H9:=Lib.hid h9;obtain ⟨ca9,cb9,cc9,cf9⟩:=H9.out.rd.cells;clear cb9;have hs9:=k9.size;(try simp at hs9);(have hl9:w.heap.size < w9.heap.size:=by omega);have HZ9:=Lib.hid ((k9.block w.heap.size (by (try simp)<;>omega) hb0).trans (show _=some Z24 by (repeat' (first|(with_reducible first|exact HZ5.out|exact hz_new|refine hz_set ?_ ?_|refine hz_row ?_ ?_|refine hz_alloc ?_)|(with_reducible change (_:Nat)≠_;(try simp)<;>omega)))));have K9:Hid (Kept b w w9):=Lib.hid (Kept.trans (w1:=_) (by (repeat' (first|(with_reducible first|exact Kept.refl _ _|exact K5.out|refine Kept.setRow ?_ ?_ _|refine Kept.setNew ?_ ?_ _|refine Kept.alloc ?_ _)|(with_reducible change (_:Nat)≤_;(try simp)<;>omega)))) k9);clear h9 k9)
          | ((with_reducible apply store24 (g:=w.heap.size));rfl;(with_reducible rfl);rfl;rfl;(repeat' (first|(with_reducible first|exact HZ9.out|exact hz_new|refine hz_set ?_ ?_|refine hz_row ?_ ?_|refine hz_alloc ?_)|(with_reducible change (_:Nat)≠_;(try simp)<;>omega)));rfl;rfl))
         ((try simp only [Exit.inBlock,Exit.then]);refine bodyPost_ret (v:=_) (results24t Try.results59 _ _ w.heap.size _ (.bool true) ?_ ?_ (row24 ?_) ?_) rfl ⟨⟨rfl,?_⟩,?_⟩;rfl;rfl;(repeat' (first|(with_reducible first|exact HZ9.out|exact hz_new|refine hz_set ?_ ?_|refine hz_row ?_ ?_|refine hz_alloc ?_)|(with_reducible change (_:Nat)≠_;(try simp)<;>omega)));rfl;(repeat' (first|(with_reducible first|exact H9.out|refine St.setRow ?_ ?_ _|refine St.setOther ?_ ?_ _|refine St.alloc ?_ _)|(with_reducible change (_:Nat) < _;(try simp)<;>omega)));(repeat' (first|(with_reducible first|exact Kept.refl _ _|exact K9.out|refine Kept.setRow ?_ ?_ _|refine Kept.setNew ?_ ?_ _|refine Kept.alloc ?_ _)|(with_reducible change (_:Nat)≤_;(try simp)<;>omega))))
     ·have hkb0:bl.length=0:=by omega
      have hal0:0 < al.length:=by omega
      have hal1:(0:Int) < (al.length:Int):=by omega
      have h8:¬ decN al < -1:=by omega
      by_cases h7:100 < decN al
      ·skip
       have hE:r=some (.error 2):=by rw [HR0.out,intervalE,if_neg HD.out,if_neg (fun h=>h P2.out),if_neg hok,if_neg hkb,timesP,if_neg (by omega),if_pos (by omega)]
       subst hE
       go_wp2_with (go_at_call 45;refine Calls.mono (may_yes _ (?_:St b n c d A l (a2) _) ?_ ?_) ?_;(repeat' (first|(with_reducible first|exact H4.out|refine St.setRow ?_ ?_ _|refine St.setOther ?_ ?_ _|refine St.alloc ?_ _)|(with_reducible change (_:Nat) < _;(try simp)<;>omega)));(omega);(have:=P2.out;omega);rintro e w5 ⟨rfl,h5,k5⟩;have H5:=Lib.hid h5;obtain ⟨ca5,cb5,cc5,cf5⟩:=H5.out.rd.cells;clear cb5;have hs5:=k5.size;(try simp at hs5);(have hl5:w.heap.size < w5.heap.size:=by omega);have HZ5:=Lib.hid ((k5.block w.heap.size (by (try simp)<;>omega) hb0).trans (show _=some Z24 by (repeat' (first|(with_reducible first|exact HZ4.out|exact hz_new|refine hz_set ?_ ?_|refine hz_row ?_ ?_|refine hz_alloc ?_)|(with_reducible change (_:Nat)≠_;(try simp)<;>omega)))));have K5:Hid (Kept b w w5):=Lib.hid (Kept.trans (w1:=_) (by (repeat' (first|(with_reducible first|exact Kept.refl _ _|exact K4.out|refine Kept.setRow ?_ ?_ _|refine Kept.setNew ?_ ?_ _|refine Kept.alloc ?_ _)|(with_reducible change (_:Nat)≤_;(try simp)<;>omega)))) k5);clear h5 k5)
       go_wp2_with (first
        | (go_at_call 53;(with_reducible refine (decimal_digs (HAa.out _ K5.out)).mono ?_);rintro e w' ⟨rfl,rfl⟩)
        | (go_at_call 53;(with_reducible refine (decimal_digs (HBb.out _ K5.out)).mono ?_);rintro e w' ⟨rfl,rfl⟩)
        | (go_at_call 46;refine (fail46 _ _).mono ?_;rintro e w' ⟨rfl,rfl⟩))
       exact ⟨rfl,rfl,K5.out⟩
      ·skip
       obtain ⟨⟨t,nx⟩,hr⟩:∃ p,p=repeatP d l (a2+1) (decN al) (-1):=⟨_,rfl⟩
       have hE:r=some (.ok (t,nx)):=by rw [HR0.out,intervalE,if_neg HD.out,if_neg (fun h=>h P2.out),if_neg hok,if_neg hkb,timesP,if_neg (by omega),if_neg (by omega),hr]
       subst hE
       have HR:=Lib.hid hr.symm
       clear hr
       go_wp2_with (go_at_call 45;refine Calls.mono (may_yes _ (?_:St b n c d A l (a2) _) ?_ ?_) ?_;(repeat' (first|(with_reducible first|exact H4.out|refine St.setRow ?_ ?_ _|refine St.setOther ?_ ?_ _|refine St.alloc ?_ _)|(with_reducible change (_:Nat) < _;(try simp)<;>omega)));(omega);(have:=P2.out;omega);rintro e w5 ⟨rfl,h5,k5⟩;have H5:=Lib.hid h5;obtain ⟨ca5,cb5,cc5,cf5⟩:=H5.out.rd.cells;clear cb5;have hs5:=k5.size;(try simp at hs5);(have hl5:w.heap.size < w5.heap.size:=by omega);have HZ5:=Lib.hid ((k5.block w.heap.size (by (try simp)<;>omega) hb0).trans (show _=some Z24 by (repeat' (first|(with_reducible first|exact HZ4.out|exact hz_new|refine hz_set ?_ ?_|refine hz_row ?_ ?_|refine hz_alloc ?_)|(with_reducible change (_:Nat)≠_;(try simp)<;>omega)))));have K5:Hid (Kept b w w5):=Lib.hid (Kept.trans (w1:=_) (by (repeat' (first|(with_reducible first|exact Kept.refl _ _|exact K4.out|refine Kept.setRow ?_ ?_ _|refine Kept.setNew ?_ ?_ _|refine Kept.alloc ?_ _)|(with_reducible change (_:Nat)≤_;(try simp)<;>omega)))) k5);clear h5 k5)
       go_wp2_with (first
        | (go_at_call 53;(with_reducible refine (decimal_digs (HAa.out _ K5.out)).mono ?_);rintro e w' ⟨rfl,rfl⟩)
        | (go_at_call 53;(with_reducible refine (decimal_digs (HBb.out _ K5.out)).mono ?_);rintro e w' ⟨rfl,rfl⟩)
        | (go_at_call 39;refine Calls.mono (repeat_agg _ _ (?_:St b n c d A l (a2+1) _) t nx HR.out) ?_;(repeat' (first|(with_reducible first|exact H5.out|refine St.setRow ?_ ?_ _|refine St.setOther ?_ ?_ _|refine St.alloc ?_ _)|(with_reducible change (_:Nat) < _;(try simp)<;>omega)));rintro e w9 ⟨rfl,h9,k9⟩;have H9:=Lib.hid h9;obtain ⟨ca9,cb9,cc9,cf9⟩:=H9.out.rd.cells;clear cb9;have hs9:=k9.size;(try simp at hs9);(have hl9:w.heap.size < w9.heap.size:=by omega);have HZ9:=Lib.hid ((k9.block w.heap.size (by (try simp)<;>omega) hb0).trans (show _=some Z24 by (repeat' (first|(with_reducible first|exact HZ5.out|exact hz_new|refine hz_set ?_ ?_|refine hz_row ?_ ?_|refine hz_alloc ?_)|(with_reducible change (_:Nat)≠_;(try simp)<;>omega)))));have K9:Hid (Kept b w w9):=Lib.hid (Kept.trans (w1:=_) (by (repeat' (first|(with_reducible first|exact Kept.refl _ _|exact K5.out|refine Kept.setRow ?_ ?_ _|refine Kept.setNew ?_ ?_ _|refine Kept.alloc ?_ _)|(with_reducible change (_:Nat)≤_;(try simp)<;>omega)))) k9);clear h9 k9)
        | ((with_reducible apply store24 (g:=w.heap.size));rfl;(with_reducible rfl);rfl;rfl;(repeat' (first|(with_reducible first|exact HZ9.out|exact hz_new|refine hz_set ?_ ?_|refine hz_row ?_ ?_|refine hz_alloc ?_)|(with_reducible change (_:Nat)≠_;(try simp)<;>omega)));rfl;rfl))
       ((try simp only [Exit.inBlock,Exit.then]);refine bodyPost_ret (v:=_) (results24t Try.results59 _ _ w.heap.size _ (.bool true) ?_ ?_ (row24 ?_) ?_) rfl ⟨⟨rfl,?_⟩,?_⟩;rfl;rfl;(repeat' (first|(with_reducible first|exact HZ9.out|exact hz_new|refine hz_set ?_ ?_|refine hz_row ?_ ?_|refine hz_alloc ?_)|(with_reducible change (_:Nat)≠_;(try simp)<;>omega)));rfl;(repeat' (first|(with_reducible first|exact H9.out|refine St.setRow ?_ ?_ _|refine St.setOther ?_ ?_ _|refine St.alloc ?_ _)|(with_reducible change (_:Nat) < _;(try simp)<;>omega)));(repeat' (first|(with_reducible first|exact Kept.refl _ _|exact K9.out|refine Kept.setRow ?_ ?_ _|refine Kept.setNew ?_ ?_ _|refine Kept.alloc ?_ _)|(with_reducible change (_:Nat)≤_;(try simp)<;>omega))))
   ·have P2:=Lib.hid h2
    clear h2
    have hE:r=none:=by rw [HR0.out,intervalE,if_neg HD.out,if_pos P2.out]
    subst hE
    go_wp2_with (first|(go_at_call 45;refine Calls.mono (may_no _ (?_:St b n c d A l (a2) _) ?_ ?_) ?_;(repeat' (first|(with_reducible first|exact H4.out|refine St.setRow ?_ ?_ _|refine St.setOther ?_ ?_ _|refine St.alloc ?_ _)|(with_reducible change (_:Nat) < _;(try simp)<;>omega)));(omega);(have:=P2.out;omega);rintro e w5 ⟨rfl,h5,k5⟩;have H5:=Lib.hid h5;obtain ⟨ca5,cb5,cc5,cf5⟩:=H5.out.rd.cells;clear cb5;have hs5:=k5.size;(try simp at hs5);(have hl5:w.heap.size < w5.heap.size:=by omega);have HZ5:=Lib.hid ((k5.block w.heap.size (by (try simp)<;>omega) hb0).trans (show _=some Z24 by (repeat' (first|(with_reducible first|exact HZ4.out|exact hz_new|refine hz_set ?_ ?_|refine hz_row ?_ ?_|refine hz_alloc ?_)|(with_reducible change (_:Nat)≠_;(try simp)<;>omega)))));have K5:Hid (Kept b w w5):=Lib.hid (Kept.trans (w1:=_) (by (repeat' (first|(with_reducible first|exact Kept.refl _ _|exact K4.out|refine Kept.setRow ?_ ?_ _|refine Kept.setNew ?_ ?_ _|refine Kept.alloc ?_ _)|(with_reducible change (_:Nat)≤_;(try simp)<;>omega)))) k5);clear h5 k5)|((with_reducible apply store24 (g:=w.heap.size));rfl;(with_reducible rfl);rfl;rfl;(repeat' (first|(with_reducible first|exact HZ5.out|exact hz_new|refine hz_set ?_ ?_|refine hz_row ?_ ?_|refine hz_alloc ?_)|(with_reducible change (_:Nat)≠_;(try simp)<;>omega)));rfl;rfl))
    have HM:=Lib.hid (H5.out.move (x:=at_) hlo hhi)
    have KM:=Lib.hid (K5.out.set 2 (.int .i64 at_))
    ((try simp only [Exit.inBlock,Exit.then]);refine bodyPost_ret (v:=_) (results24t Try.results59 _ _ w.heap.size _ (.bool false) ?_ ?_ (row24 ?_) ?_) rfl ⟨⟨rfl,?_⟩,?_⟩;rfl;rfl;(repeat' (first|(with_reducible first|exact HZ5.out|exact hz_new|refine hz_set ?_ ?_|refine hz_row ?_ ?_|refine hz_alloc ?_)|(with_reducible change (_:Nat)≠_;(try simp)<;>omega)));rfl;(repeat' (first|(with_reducible first|exact HM.out|refine St.setRow ?_ ?_ _|refine St.setOther ?_ ?_ _|refine St.alloc ?_ _)|(with_reducible change (_:Nat) < _;(try simp)<;>omega)));(repeat' (first|(with_reducible first|exact Kept.refl _ _|exact KM.out|refine Kept.setRow ?_ ?_ _|refine Kept.setNew ?_ ?_ _|refine Kept.alloc ?_ _)|(with_reducible change (_:Nat)≤_;(try simp)<;>omega))))
end Go.Proofs.Ytmjlmjlkghpknaa
