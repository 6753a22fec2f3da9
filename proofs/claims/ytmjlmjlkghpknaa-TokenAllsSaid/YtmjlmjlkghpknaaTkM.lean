/- Behind x or u: walked. -/
import Derived.Test.YtmjlmjlkghpknaaTkI
import Derived.Test.YtmjlmjlkghpknaaTkK
set_option linter.unusedVariables false
set_option linter.unusedSimpArgs false
namespace Go.Proofs.Ytmjlmjlkghpknaa
open Go.RowKit
/-- a row of points in memory -/
structure Row (w:World) (b:Nat) (l:List Int) (v:Value):Prop where
 is:∃ A' c',v=.slice A' l.length c'∧Rds w b 1 A' l.length (ints l)
theorem Row.of {w:World} {b k c':Nat} {A':Option Addr} {l:List Int} (hl:l.length=k) (h:Rds w b 1 A' k (ints l)):Row w b l (.slice A' k c'):=by
 subst hl;exact ⟨A',c',rfl,h⟩
theorem Row.kept {w w':World} {b:Nat} {l:List Int} {v:Value} (h:Row w b l v) (hk:Kept b w w') (hb:b < w.heap.size):Row w' b l v:=by
 obtain ⟨A',c',e,hr⟩:=h.is
 exact ⟨A',c',e,hr.kept hk (Nat.le_refl _) (Nat.le_of_lt hb)⟩
theorem Row.back {w w':World} {b:Nat} {l:List Int} {v:Value} (h:Row w' b l v) (hk:Kept b w w') (hb:b < w.heap.size):Row w b l v:=by
 obtain ⟨A',c',e,hr⟩:=h.is
 exact ⟨A',c',e,hr.keep fun p hp=>(hk.cell (by omega) (by omega)).symm⟩
theorem number_row {w:World} {b:Nat} {l:List Int} {v:Value} (h:Row w b l v) (ha:∀ p ∈ l,isHexP p=true) (hl:l.length≤6):Calls Try.prog 61 #[v,.int .i64 16] w fun e w'=>e=.returned (.int .i64 (hexN l))∧w=w':=by
 obtain ⟨A',c',rfl,hr⟩:=h.is
 exact number61 l A' l.length c' w b hl ha hr
theorem decimal_row {w:World} {b:Nat} {l:List Int} {v:Value} (h:Row w b l v) (ha:∀ p ∈ l,isDig p=true) (hl:l.length≤3):Calls Try.prog 53 #[v] w fun e w'=>e=.returned (.int .i64 (decN l))∧w=w':=by
 obtain ⟨A',c',rfl,hr⟩:=h.is
 exact (decimal53 l A' l.length c' w b hl ha hr).mono fun _ _ ⟨e,hw⟩=>⟨e,hw.symm⟩
theorem runPts_all (f:Int→Bool) (l:List Int) (at_:Int) (m:Nat):∀ p ∈ runPts l at_ (runLen f l at_ m),f p=true:=by
 intro p hp
 obtain ⟨i,hi,rfl⟩:=List.mem_iff_getElem.1 hp
 rw [runPts_get]
 rw [runPts_length] at hi
 exact runLen_yes _ _ _ _ _ hi
theorem hexN_lt (l:List Int) (h:∀ p ∈ l,isHexP p=true) (hl:l.length≤6):0≤hexN l∧hexN l≤16777215:=by
 have h1:=hexN_small l h l.length (Nat.le_refl _)
 rw [List.take_length] at h1
 have h3:(16:Int) ^ l.length≤16777216:=by
  have:l.length=0∨l.length=1∨l.length=2∨l.length=3∨l.length=4∨l.length=5∨l.length=6:=by omega
  rcases this with h|h|h|h|h|h|h<;>rw [h]<;>decide
 omega
theorem hexN_4 (l:List Int) (h:∀ p ∈ l,isHexP p=true) (hl:l.length≤4):hexN l≤65535:=by
 have h1:=hexN_small l h l.length (Nat.le_refl _)
 rw [List.take_length] at h1
 have h3:(16:Int) ^ l.length≤65536:=by
  have:l.length=0∨l.length=1∨l.length=2∨l.length=3∨l.length=4:=by omega
  rcases this with h|h|h|h|h<;>rw [h]<;>decide
 omega
set_option maxRecDepth 100000 in
set_option maxHeartbeats 40000000 in
theorem scalar50 {b n c:Nat} {d at_:Int} {A:Option Addr} {l:List Int} {w:World} (p:Int) (h:St b n c d A l at_ w) :
  Calls Try.prog 50 #[.pointer (some ⟨b,0,none⟩),.int .i64 p] w fun e w'=>TOut b n c d A l (scalarP l at_ p) e w'∧Kept b w w':=by
 have H:=Lib.hid h
 have hlt:=h.lt
 have hb0:¬ w.heap.size=b:=by omega
 have hb1:¬ w.heap.size+1=b:=by omega
 have hlo:=h.lo
 have hhi:=h.hi
 have hsm:=h.small
 obtain ⟨c0,c1,c2,f2⟩:=h.rd.cells
 clear h c1 c2 f2
 obtain ⟨r,hr0⟩:∃ r,r=scalarP l at_ p:=⟨_,rfl⟩
 rw [← hr0]
 have HR0:=Lib.hid hr0
 clear hr0
 by_cases hp:p=117
 case pos =>
  obtain ⟨k,hk⟩:∃ k,k=runLen isHexP l (at_) 4:=⟨_,rfl⟩
  have LK:=Lib.hid (runLen_le isHexP l 4 (at_))
  have RK:=Lib.hid (fun (w:World) (h:St b n c d A l (at_) w)=>run_st runHex 4 h (by omega))
  obtain ⟨xs,hxs⟩:∃ xs,xs=runPts l (at_) (runLen isHexP l (at_) 4):=⟨_,rfl⟩
  have ALL:Hid (∀ p ∈ xs,isHexP p=true):=Lib.hid (by rw [hxs];exact runPts_all _ _ _ _)
  have HLX:Hid (xs.length=k):=Lib.hid (by rw [hxs,runPts_length,hk])
  rw [← hxs,← hk] at RK
  rw [← hk] at LK
  have hk6:=LK.out
  have HX:=Lib.hid (hexN_lt xs ALL.out (by rw [HLX.out];omega))
  have hpb:(p == 117)=true:=by simpa using hp
  by_cases k4:k < 4
  case pos =>
   have hE:r=.error 1:=by rw [HR0.out,scalarP,if_pos hp];rw [← hk,if_pos k4]
   subst hE
   clear hk hxs hp
   have k4i:(k:Int) < 4:=by omega
   go_enter Try.func50,Try.ntmps50
   go_wp2_with (go_at_call 54;refine Calls.mono (RK.out _ (?_:St b n c d A l (at_) _)) ?_;(repeat' (first|(with_reducible first|exact H.out|refine St.setRow ?_ ?_ _|refine St.setOther ?_ ?_ _|refine St.alloc ?_ _)|(with_reducible change (_:Nat) < _;(try simp)<;>omega)));rintro e w1 ⟨A1,n1,rfl,hq1,h1,k1⟩;have H1:=Lib.hid h1;obtain ⟨ca1,cb1,cc1,cf1⟩:=H1.out.rd.cells;clear cb1;have hB1:=H1.out.lt;have hs1:=k1.size;(try simp at hs1);(have hl1:w.heap.size < w1.heap.size:=by omega);have HZ1:=Lib.hid ((k1.block w.heap.size (by (try simp)<;>omega) hb0).trans (show _=some Z24 by (repeat' (first|(with_reducible first|exact hz_new|refine hz_set ?_ ?_|refine hz_row ?_ ?_|refine hz_alloc ?_)|(with_reducible change (_:Nat)≠_;(try simp)<;>omega)))));have K1:Hid (Kept b w w1):=Lib.hid (Kept.trans (w1:=_) (by (repeat' (first|(with_reducible first|exact Kept.refl _ _|refine Kept.setRow ?_ ?_ _|refine Kept.setNew ?_ ?_ _|refine Kept.alloc ?_ _)|(with_reducible change (_:Nat)≤_;(try simp)<;>omega)))) k1);have HW1:=Lib.hid (fun w' (k:Kept b w w')=>((Row.of (c':=n1) HLX.out hq1).back K1.out hlt).kept k hlt);clear hq1;clear h1 k1)
   go_wp2_with (go_at_call 46;refine (fail46 _ _).mono ?_;rintro e w' ⟨rfl,rfl⟩)
   exact ⟨rfl,rfl,by (repeat' (first|(with_reducible first|exact Kept.refl _ _|exact K1.out|refine Kept.setRow ?_ ?_ _|refine Kept.setNew ?_ ?_ _|refine Kept.alloc ?_ _)|(with_reducible change (_:Nat)≤_;(try simp)<;>omega)))⟩
  case neg =>
   have k4e:k=4:=by omega
   have h4:=Lib.hid (hexN_4 xs ALL.out (by rw [HLX.out];omega))
   have hb:¬ 1114111 < hexN xs:=by have:=h4.out;omega
   have hE:r=.ok (pointT (hexN xs),at_+k):=by rw [HR0.out,scalarP,if_pos hp];rw [← hxs,← hk,if_neg k4,scalarEnd,if_neg (by rw [HLX.out];omega),if_neg hb]
   subst hE
   clear hk hxs hp k4
   obtain rfl:=k4e
   go_enter Try.func50,Try.ntmps50
   go_wp2_with (first|(go_at_call 54;refine Calls.mono (RK.out _ (?_:St b n c d A l (at_) _)) ?_;(repeat' (first|(with_reducible first|exact H.out|refine St.setRow ?_ ?_ _|refine St.setOther ?_ ?_ _|refine St.alloc ?_ _)|(with_reducible change (_:Nat) < _;(try simp)<;>omega)));rintro e w1 ⟨A1,n1,rfl,hq1,h1,k1⟩;have H1:=Lib.hid h1;obtain ⟨ca1,cb1,cc1,cf1⟩:=H1.out.rd.cells;clear cb1;have hB1:=H1.out.lt;have hs1:=k1.size;(try simp at hs1);(have hl1:w.heap.size < w1.heap.size:=by omega);have HZ1:=Lib.hid ((k1.block w.heap.size (by (try simp)<;>omega) hb0).trans (show _=some Z24 by (repeat' (first|(with_reducible first|exact hz_new|refine hz_set ?_ ?_|refine hz_row ?_ ?_|refine hz_alloc ?_)|(with_reducible change (_:Nat)≠_;(try simp)<;>omega)))));have K1:Hid (Kept b w w1):=Lib.hid (Kept.trans (w1:=_) (by (repeat' (first|(with_reducible first|exact Kept.refl _ _|refine Kept.setRow ?_ ?_ _|refine Kept.setNew ?_ ?_ _|refine Kept.alloc ?_ _)|(with_reducible change (_:Nat)≤_;(try simp)<;>omega)))) k1);have HW1:=Lib.hid (fun w' (k:Kept b w w')=>((Row.of (c':=n1) HLX.out hq1).back K1.out hlt).kept k hlt);clear hq1;clear h1 k1)|(go_at_call 61;(with_reducible refine (number_row (HW1.out _ K1.out) ALL.out (by rw [HLX.out];omega)).mono ?_);rintro e w' ⟨rfl,rfl⟩))
   go_wp2_with (first|(go_at_call 41;refine Calls.mono (point_st _ (?_:St b n c d A l (at_+(4:Nat)) _)) ?_;(repeat' (first|(with_reducible first|exact H1.out|refine St.setRow ?_ ?_ _|refine St.setOther ?_ ?_ _|refine St.alloc ?_ _)|(with_reducible change (_:Nat) < _;(try simp)<;>omega)));rintro e w2 ⟨rfl,h2,k2⟩;have H2:=Lib.hid h2;obtain ⟨ca2,cb2,cc2,cf2⟩:=H2.out.rd.cells;clear cb2;have hB2:=H2.out.lt;have hs2:=k2.size;(try simp at hs2);(have hl2:w.heap.size < w2.heap.size:=by omega);have HZ2:=Lib.hid ((k2.block w.heap.size (by (try simp)<;>omega) hb0).trans (show _=some Z24 by (repeat' (first|(with_reducible first|exact HZ1.out|exact hz_new|refine hz_set ?_ ?_|refine hz_row ?_ ?_|refine hz_alloc ?_)|(with_reducible change (_:Nat)≠_;(try simp)<;>omega)))));have K2:Hid (Kept b w w2):=Lib.hid (Kept.trans (w1:=_) (by (repeat' (first|(with_reducible first|exact Kept.refl _ _|exact K1.out|refine Kept.setRow ?_ ?_ _|refine Kept.setNew ?_ ?_ _|refine Kept.alloc ?_ _)|(with_reducible change (_:Nat)≤_;(try simp)<;>omega)))) k2);clear h2 k2)|((with_reducible apply store24 (g:=w.heap.size));rfl;(with_reducible rfl);rfl;rfl;(repeat' (first|(with_reducible first|exact HZ2.out|exact hz_new|refine hz_set ?_ ?_|refine hz_row ?_ ?_|refine hz_alloc ?_)|(with_reducible change (_:Nat)≠_;(try simp)<;>omega)));rfl;rfl))
   ((try simp only [Exit.inBlock,Exit.then]);refine bodyPost_ret (v:=_) (results24 Try.results50 _ _ w.heap.size _ ?_ (row24 ?_) ?_) rfl ⟨⟨rfl,?_⟩,?_⟩;rfl;(repeat' (first|(with_reducible first|exact HZ2.out|exact hz_new|refine hz_set ?_ ?_|refine hz_row ?_ ?_|refine hz_alloc ?_)|(with_reducible change (_:Nat)≠_;(try simp)<;>omega)));rfl;(repeat' (first|(with_reducible first|exact H2.out|refine St.setRow ?_ ?_ _|refine St.setOther ?_ ?_ _|refine St.alloc ?_ _)|(with_reducible change (_:Nat) < _;(try simp)<;>omega)));(repeat' (first|(with_reducible first|exact Kept.refl _ _|exact K2.out|refine Kept.setRow ?_ ?_ _|refine Kept.setNew ?_ ?_ _|refine Kept.alloc ?_ _)|(with_reducible change (_:Nat)≤_;(try simp)<;>omega))))
 case neg =>
  have hpb:(p == 117)=false:=by simpa using hp
  by_cases h123:ptAt l at_=123
  case pos =>
   have P1:=Lib.hid h123
   obtain ⟨k,hk⟩:∃ k,k=runLen isHexP l (at_+1) 6:=⟨_,rfl⟩
   have LK:=Lib.hid (runLen_le isHexP l 6 (at_+1))
   have RK:=Lib.hid (fun (w:World) (h:St b n c d A l (at_+1) w)=>run_st runHex 6 h (by omega))
   obtain ⟨xs,hxs⟩:∃ xs,xs=runPts l (at_+1) (runLen isHexP l (at_+1) 6):=⟨_,rfl⟩
   have ALL:Hid (∀ p ∈ xs,isHexP p=true):=Lib.hid (by rw [hxs];exact runPts_all _ _ _ _)
   have HLX:Hid (xs.length=k):=Lib.hid (by rw [hxs,runPts_length,hk])
   rw [← hxs,← hk] at RK
   rw [← hk] at LK
   have hk6:=LK.out
   have HX:=Lib.hid (hexN_lt xs ALL.out (by rw [HLX.out];omega))
   by_cases h125:ptAt l (at_+1+k)=125
   case pos =>
    have P2:=Lib.hid h125
    have HPN:=Lib.hid hp
    clear hp h123 h125
    by_cases k0:k=0
    case pos =>
     have hE:r=.error 1:=by rw [HR0.out,scalarP,if_neg HPN.out,if_pos P1.out,if_neg (fun h=>h (by rw [← hk];exact P2.out))];rw [← hxs,← hk,scalarEnd,if_pos (by rw [HLX.out];exact k0)]
     subst hE
     have kz:k=0:=k0
     clear hk hxs k0
     go_enter Try.func50,Try.ntmps50
     go_wp2_with (go_at_call 45;refine Calls.mono (may_yes _ (?_:St b n c d A l (at_) _) ?_ ?_) ?_;(repeat' (first|(with_reducible first|exact H.out|refine St.setRow ?_ ?_ _|refine St.setOther ?_ ?_ _|refine St.alloc ?_ _)|(with_reducible change (_:Nat) < _;(try simp)<;>omega)));(omega);(exact P1.out);rintro e w1 ⟨rfl,h1,k1⟩;have H1:=Lib.hid h1;obtain ⟨ca1,cb1,cc1,cf1⟩:=H1.out.rd.cells;clear cb1;have hB1:=H1.out.lt;have hs1:=k1.size;(try simp at hs1);(have hl1:w.heap.size < w1.heap.size:=by omega);have HZ1:=Lib.hid ((k1.block w.heap.size (by (try simp)<;>omega) hb0).trans (show _=some Z24 by (repeat' (first|(with_reducible first|exact hz_new|refine hz_set ?_ ?_|refine hz_row ?_ ?_|refine hz_alloc ?_)|(with_reducible change (_:Nat)≠_;(try simp)<;>omega)))));have K1:Hid (Kept b w w1):=Lib.hid (Kept.trans (w1:=_) (by (repeat' (first|(with_reducible first|exact Kept.refl _ _|refine Kept.setRow ?_ ?_ _|refine Kept.setNew ?_ ?_ _|refine Kept.alloc ?_ _)|(with_reducible change (_:Nat)≤_;(try simp)<;>omega)))) k1);clear h1 k1)
     go_wp2_with (go_at_call 54;refine Calls.mono (RK.out _ (?_:St b n c d A l (at_+1) _)) ?_;(repeat' (first|(with_reducible first|exact H1.out|refine St.setRow ?_ ?_ _|refine St.setOther ?_ ?_ _|refine St.alloc ?_ _)|(with_reducible change (_:Nat) < _;(try simp)<;>omega)));rintro e w2 ⟨A2,n2,rfl,hq2,h2,k2⟩;have H2:=Lib.hid h2;obtain ⟨ca2,cb2,cc2,cf2⟩:=H2.out.rd.cells;clear cb2;have hB2:=H2.out.lt;have hs2:=k2.size;(try simp at hs2);(have hl2:w.heap.size < w2.heap.size:=by omega);have HZ2:=Lib.hid ((k2.block w.heap.size (by (try simp)<;>omega) hb0).trans (show _=some Z24 by (repeat' (first|(with_reducible first|exact HZ1.out|exact hz_new|refine hz_set ?_ ?_|refine hz_row ?_ ?_|refine hz_alloc ?_)|(with_reducible change (_:Nat)≠_;(try simp)<;>omega)))));have K2:Hid (Kept b w w2):=Lib.hid (Kept.trans (w1:=_) (by (repeat' (first|(with_reducible first|exact Kept.refl _ _|exact K1.out|refine Kept.setRow ?_ ?_ _|refine Kept.setNew ?_ ?_ _|refine Kept.alloc ?_ _)|(with_reducible change (_:Nat)≤_;(try simp)<;>omega)))) k2);have HW2:=Lib.hid (fun w' (k:Kept b w w')=>((Row.of (c':=n2) HLX.out hq2).back K2.out hlt).kept k hlt);clear hq2;clear h2 k2)
     go_wp2_with (go_at_call 58;refine Calls.mono (must_yes _ (?_:St b n c d A l (at_+1+k) _) ?_ ?_) ?_;(repeat' (first|(with_reducible first|exact H2.out|refine St.setRow ?_ ?_ _|refine St.setOther ?_ ?_ _|refine St.alloc ?_ _)|(with_reducible change (_:Nat) < _;(try simp)<;>omega)));(omega);(exact P2.out);rintro e w3 ⟨rfl,h3,k3⟩;have H3:=Lib.hid h3;obtain ⟨ca3,cb3,cc3,cf3⟩:=H3.out.rd.cells;clear cb3;have hB3:=H3.out.lt;have hs3:=k3.size;(try simp at hs3);(have hl3:w.heap.size < w3.heap.size:=by omega);have HZ3:=Lib.hid ((k3.block w.heap.size (by (try simp)<;>omega) hb0).trans (show _=some Z24 by (repeat' (first|(with_reducible first|exact HZ2.out|exact hz_new|refine hz_set ?_ ?_|refine hz_row ?_ ?_|refine hz_alloc ?_)|(with_reducible change (_:Nat)≠_;(try simp)<;>omega)))));have K3:Hid (Kept b w w3):=Lib.hid (Kept.trans (w1:=_) (by (repeat' (first|(with_reducible first|exact Kept.refl _ _|exact K2.out|refine Kept.setRow ?_ ?_ _|refine Kept.setNew ?_ ?_ _|refine Kept.alloc ?_ _)|(with_reducible change (_:Nat)≤_;(try simp)<;>omega)))) k3);clear h3 k3)
     go_wp2_with (go_at_call 46;refine (fail46 _ _).mono ?_;rintro e w' ⟨rfl,rfl⟩)
     exact ⟨rfl,rfl,by (repeat' (first|(with_reducible first|exact Kept.refl _ _|exact K3.out|refine Kept.setRow ?_ ?_ _|refine Kept.setNew ?_ ?_ _|refine Kept.alloc ?_ _)|(with_reducible change (_:Nat)≤_;(try simp)<;>omega)))⟩
    case neg =>
     have kp:0 < k:=by omega
     have kp2:(0:Int) < (k:Int):=by omega
     have kz:((k:Int) == 0)=false:=by simp;omega
     by_cases hb:1114111 < hexN xs
     case pos =>
      have hE:r=.error 3:=by rw [HR0.out,scalarP,if_neg HPN.out,if_pos P1.out,if_neg (fun h=>h (by rw [← hk];exact P2.out))];rw [← hxs,← hk,scalarEnd,if_neg (by rw [HLX.out];exact k0),if_pos hb]
      subst hE
      clear hk hxs k0
      go_enter Try.func50,Try.ntmps50
      go_wp2_with (go_at_call 45;refine Calls.mono (may_yes _ (?_:St b n c d A l (at_) _) ?_ ?_) ?_;(repeat' (first|(with_reducible first|exact H.out|refine St.setRow ?_ ?_ _|refine St.setOther ?_ ?_ _|refine St.alloc ?_ _)|(with_reducible change (_:Nat) < _;(try simp)<;>omega)));(omega);(exact P1.out);rintro e w1 ⟨rfl,h1,k1⟩;have H1:=Lib.hid h1;obtain ⟨ca1,cb1,cc1,cf1⟩:=H1.out.rd.cells;clear cb1;have hB1:=H1.out.lt;have hs1:=k1.size;(try simp at hs1);(have hl1:w.heap.size < w1.heap.size:=by omega);have HZ1:=Lib.hid ((k1.block w.heap.size (by (try simp)<;>omega) hb0).trans (show _=some Z24 by (repeat' (first|(with_reducible first|exact hz_new|refine hz_set ?_ ?_|refine hz_row ?_ ?_|refine hz_alloc ?_)|(with_reducible change (_:Nat)≠_;(try simp)<;>omega)))));have K1:Hid (Kept b w w1):=Lib.hid (Kept.trans (w1:=_) (by (repeat' (first|(with_reducible first|exact Kept.refl _ _|refine Kept.setRow ?_ ?_ _|refine Kept.setNew ?_ ?_ _|refine Kept.alloc ?_ _)|(with_reducible change (_:Nat)≤_;(try simp)<;>omega)))) k1);clear h1 k1)
      go_wp2_with (go_at_call 54;refine Calls.mono (RK.out _ (?_:St b n c d A l (at_+1) _)) ?_;(repeat' (first|(with_reducible first|exact H1.out|refine St.setRow ?_ ?_ _|refine St.setOther ?_ ?_ _|refine St.alloc ?_ _)|(with_reducible change (_:Nat) < _;(try simp)<;>omega)));rintro e w2 ⟨A2,n2,rfl,hq2,h2,k2⟩;have H2:=Lib.hid h2;obtain ⟨ca2,cb2,cc2,cf2⟩:=H2.out.rd.cells;clear cb2;have hB2:=H2.out.lt;have hs2:=k2.size;(try simp at hs2);(have hl2:w.heap.size < w2.heap.size:=by omega);have HZ2:=Lib.hid ((k2.block w.heap.size (by (try simp)<;>omega) hb0).trans (show _=some Z24 by (repeat' (first|(with_reducible first|exact HZ1.out|exact hz_new|refine hz_set ?_ ?_|refine hz_row ?_ ?_|refine hz_alloc ?_)|(with_reducible change (_:Nat)≠_;(try simp)<;>omega)))));have K2:Hid (Kept b w w2):=Lib.hid (Kept.trans (w1:=_) (by (repeat' (first|(with_reducible first|exact Kept.refl _ _|exact K1.out|refine Kept.setRow ?_ ?_ _|refine Kept.setNew ?_ ?_ _|refine Kept.alloc ?_ _)|(with_reducible change (_:Nat)≤_;(try simp)<;>omega)))) k2);have HW2:=Lib.hid (fun w' (k:Kept b w w')=>((Row.of (c':=n2) HLX.out hq2).back K2.out hlt).kept k hlt);clear hq2;clear h2 k2)
      go_wp2_with (first|(go_at_call 58;refine Calls.mono (must_yes _ (?_:St b n c d A l (at_+1+k) _) ?_ ?_) ?_;(repeat' (first|(with_reducible first|exact H2.out|refine St.setRow ?_ ?_ _|refine St.setOther ?_ ?_ _|refine St.alloc ?_ _)|(with_reducible change (_:Nat) < _;(try simp)<;>omega)));(omega);(exact P2.out);rintro e w3 ⟨rfl,h3,k3⟩;have H3:=Lib.hid h3;obtain ⟨ca3,cb3,cc3,cf3⟩:=H3.out.rd.cells;clear cb3;have hB3:=H3.out.lt;have hs3:=k3.size;(try simp at hs3);(have hl3:w.heap.size < w3.heap.size:=by omega);have HZ3:=Lib.hid ((k3.block w.heap.size (by (try simp)<;>omega) hb0).trans (show _=some Z24 by (repeat' (first|(with_reducible first|exact HZ2.out|exact hz_new|refine hz_set ?_ ?_|refine hz_row ?_ ?_|refine hz_alloc ?_)|(with_reducible change (_:Nat)≠_;(try simp)<;>omega)))));have K3:Hid (Kept b w w3):=Lib.hid (Kept.trans (w1:=_) (by (repeat' (first|(with_reducible first|exact Kept.refl _ _|exact K2.out|refine Kept.setRow ?_ ?_ _|refine Kept.setNew ?_ ?_ _|refine Kept.alloc ?_ _)|(with_reducible change (_:Nat)≤_;(try simp)<;>omega)))) k3);clear h3 k3)|(go_at_call 61;(with_reducible refine (number_row (HW2.out _ K3.out) ALL.out (by rw [HLX.out];omega)).mono ?_);rintro e w' ⟨rfl,rfl⟩))
      go_wp2_with (go_at_call 46;refine (fail46 _ _).mono ?_;rintro e w' ⟨rfl,rfl⟩)
      exact ⟨rfl,rfl,by (repeat' (first|(with_reducible first|exact Kept.refl _ _|exact K3.out|refine Kept.setRow ?_ ?_ _|refine Kept.setNew ?_ ?_ _|refine Kept.alloc ?_ _)|(with_reducible change (_:Nat)≤_;(try simp)<;>omega)))⟩
     case neg =>
      have hE:r=.ok (pointT (hexN xs),at_+1+k+1):=by rw [HR0.out,scalarP,if_neg HPN.out,if_pos P1.out,if_neg (fun h=>h (by rw [← hk];exact P2.out))];rw [← hxs,← hk,scalarEnd,if_neg (by rw [HLX.out];exact k0),if_neg hb]
      subst hE
      clear hk hxs k0
      go_enter Try.func50,Try.ntmps50
      go_wp2_with (go_at_call 45;refine Calls.mono (may_yes _ (?_:St b n c d A l (at_) _) ?_ ?_) ?_;(repeat' (first|(with_reducible first|exact H.out|refine St.setRow ?_ ?_ _|refine St.setOther ?_ ?_ _|refine St.alloc ?_ _)|(with_reducible change (_:Nat) < _;(try simp)<;>omega)));(omega);(exact P1.out);rintro e w1 ⟨rfl,h1,k1⟩;have H1:=Lib.hid h1;obtain ⟨ca1,cb1,cc1,cf1⟩:=H1.out.rd.cells;clear cb1;have hB1:=H1.out.lt;have hs1:=k1.size;(try simp at hs1);(have hl1:w.heap.size < w1.heap.size:=by omega);have HZ1:=Lib.hid ((k1.block w.heap.size (by (try simp)<;>omega) hb0).trans (show _=some Z24 by (repeat' (first|(with_reducible first|exact hz_new|refine hz_set ?_ ?_|refine hz_row ?_ ?_|refine hz_alloc ?_)|(with_reducible change (_:Nat)≠_;(try simp)<;>omega)))));have K1:Hid (Kept b w w1):=Lib.hid (Kept.trans (w1:=_) (by (repeat' (first|(with_reducible first|exact Kept.refl _ _|refine Kept.setRow ?_ ?_ _|refine Kept.setNew ?_ ?_ _|refine Kept.alloc ?_ _)|(with_reducible change (_:Nat)≤_;(try simp)<;>omega)))) k1);clear h1 k1)
      go_wp2_with (go_at_call 54;refine Calls.mono (RK.out _ (?_:St b n c d A l (at_+1) _)) ?_;(repeat' (first|(with_reducible first|exact H1.out|refine St.setRow ?_ ?_ _|refine St.setOther ?_ ?_ _|refine St.alloc ?_ _)|(with_reducible change (_:Nat) < _;(try simp)<;>omega)));rintro e w2 ⟨A2,n2,rfl,hq2,h2,k2⟩;have H2:=Lib.hid h2;obtain ⟨ca2,cb2,cc2,cf2⟩:=H2.out.rd.cells;clear cb2;have hB2:=H2.out.lt;have hs2:=k2.size;(try simp at hs2);(have hl2:w.heap.size < w2.heap.size:=by omega);have HZ2:=Lib.hid ((k2.block w.heap.size (by (try simp)<;>omega) hb0).trans (show _=some Z24 by (repeat' (first|(with_reducible first|exact HZ1.out|exact hz_new|refine hz_set ?_ ?_|refine hz_row ?_ ?_|refine hz_alloc ?_)|(with_reducible change (_:Nat)≠_;(try simp)<;>omega)))));have K2:Hid (Kept b w w2):=Lib.hid (Kept.trans (w1:=_) (by (repeat' (first|(with_reducible first|exact Kept.refl _ _|exact K1.out|refine Kept.setRow ?_ ?_ _|refine Kept.setNew ?_ ?_ _|refine Kept.alloc ?_ _)|(with_reducible change (_:Nat)≤_;(try simp)<;>omega)))) k2);have HW2:=Lib.hid (fun w' (k:Kept b w w')=>((Row.of (c':=n2) HLX.out hq2).back K2.out hlt).kept k hlt);clear hq2;clear h2 k2)
      go_wp2_with (first|(go_at_call 58;refine Calls.mono (must_yes _ (?_:St b n c d A l (at_+1+k) _) ?_ ?_) ?_;(repeat' (first|(with_reducible first|exact H2.out|refine St.setRow ?_ ?_ _|refine St.setOther ?_ ?_ _|refine St.alloc ?_ _)|(with_reducible change (_:Nat) < _;(try simp)<;>omega)));(omega);(exact P2.out);rintro e w3 ⟨rfl,h3,k3⟩;have H3:=Lib.hid h3;obtain ⟨ca3,cb3,cc3,cf3⟩:=H3.out.rd.cells;clear cb3;have hB3:=H3.out.lt;have hs3:=k3.size;(try simp at hs3);(have hl3:w.heap.size < w3.heap.size:=by omega);have HZ3:=Lib.hid ((k3.block w.heap.size (by (try simp)<;>omega) hb0).trans (show _=some Z24 by (repeat' (first|(with_reducible first|exact HZ2.out|exact hz_new|refine hz_set ?_ ?_|refine hz_row ?_ ?_|refine hz_alloc ?_)|(with_reducible change (_:Nat)≠_;(try simp)<;>omega)))));have K3:Hid (Kept b w w3):=Lib.hid (Kept.trans (w1:=_) (by (repeat' (first|(with_reducible first|exact Kept.refl _ _|exact K2.out|refine Kept.setRow ?_ ?_ _|refine Kept.setNew ?_ ?_ _|refine Kept.alloc ?_ _)|(with_reducible change (_:Nat)≤_;(try simp)<;>omega)))) k3);clear h3 k3)|(go_at_call 61;(with_reducible refine (number_row (HW2.out _ K3.out) ALL.out (by rw [HLX.out];omega)).mono ?_);rintro e w' ⟨rfl,rfl⟩))
      go_wp2_with (first|(go_at_call 41;refine Calls.mono (point_st _ (?_:St b n c d A l (at_+1+k+1) _)) ?_;(repeat' (first|(with_reducible first|exact H3.out|refine St.setRow ?_ ?_ _|refine St.setOther ?_ ?_ _|refine St.alloc ?_ _)|(with_reducible change (_:Nat) < _;(try simp)<;>omega)));rintro e w4 ⟨rfl,h4,k4⟩;have H4:=Lib.hid h4;obtain ⟨ca4,cb4,cc4,cf4⟩:=H4.out.rd.cells;clear cb4;have hB4:=H4.out.lt;have hs4:=k4.size;(try simp at hs4);(have hl4:w.heap.size < w4.heap.size:=by omega);have HZ4:=Lib.hid ((k4.block w.heap.size (by (try simp)<;>omega) hb0).trans (show _=some Z24 by (repeat' (first|(with_reducible first|exact HZ3.out|exact hz_new|refine hz_set ?_ ?_|refine hz_row ?_ ?_|refine hz_alloc ?_)|(with_reducible change (_:Nat)≠_;(try simp)<;>omega)))));have K4:Hid (Kept b w w4):=Lib.hid (Kept.trans (w1:=_) (by (repeat' (first|(with_reducible first|exact Kept.refl _ _|exact K3.out|refine Kept.setRow ?_ ?_ _|refine Kept.setNew ?_ ?_ _|refine Kept.alloc ?_ _)|(with_reducible change (_:Nat)≤_;(try simp)<;>omega)))) k4);clear h4 k4)|((with_reducible apply store24 (g:=w.heap.size));rfl;(with_reducible rfl);rfl;rfl;(repeat' (first|(with_reducible first|exact HZ4.out|exact hz_new|refine hz_set ?_ ?_|refine hz_row ?_ ?_|refine hz_alloc ?_)|(with_reducible change (_:Nat)≠_;(try simp)<;>omega)));rfl;rfl))
      ((try simp only [Exit.inBlock,Exit.then]);refine bodyPost_ret (v:=_) (results24 Try.results50 _ _ w.heap.size _ ?_ (row24 ?_) ?_) rfl ⟨⟨rfl,?_⟩,?_⟩;rfl;(repeat' (first|(with_reducible first|exact HZ4.out|exact hz_new|refine hz_set ?_ ?_|refine hz_row ?_ ?_|refine hz_alloc ?_)|(with_reducible change (_:Nat)≠_;(try simp)<;>omega)));rfl;(repeat' (first|(with_reducible first|exact H4.out|refine St.setRow ?_ ?_ _|refine St.setOther ?_ ?_ _|refine St.alloc ?_ _)|(with_reducible change (_:Nat) < _;(try simp)<;>omega)));(repeat' (first|(with_reducible first|exact Kept.refl _ _|exact K4.out|refine Kept.setRow ?_ ?_ _|refine Kept.setNew ?_ ?_ _|refine Kept.alloc ?_ _)|(with_reducible change (_:Nat)≤_;(try simp)<;>omega))))
   case neg =>
    have hE:r=.error 1:=by rw [HR0.out,scalarP,if_neg hp,if_pos h123,if_pos (by rw [← hk];exact h125)]
    subst hE
    have P2:=Lib.hid h125
    clear hk hxs hp h123 h125
    go_enter Try.func50,Try.ntmps50
    go_wp2_with (go_at_call 45;refine Calls.mono (may_yes _ (?_:St b n c d A l (at_) _) ?_ ?_) ?_;(repeat' (first|(with_reducible first|exact H.out|refine St.setRow ?_ ?_ _|refine St.setOther ?_ ?_ _|refine St.alloc ?_ _)|(with_reducible change (_:Nat) < _;(try simp)<;>omega)));(omega);(exact P1.out);rintro e w1 ⟨rfl,h1,k1⟩;have H1:=Lib.hid h1;obtain ⟨ca1,cb1,cc1,cf1⟩:=H1.out.rd.cells;clear cb1;have hB1:=H1.out.lt;have hs1:=k1.size;(try simp at hs1);(have hl1:w.heap.size < w1.heap.size:=by omega);have HZ1:=Lib.hid ((k1.block w.heap.size (by (try simp)<;>omega) hb0).trans (show _=some Z24 by (repeat' (first|(with_reducible first|exact hz_new|refine hz_set ?_ ?_|refine hz_row ?_ ?_|refine hz_alloc ?_)|(with_reducible change (_:Nat)≠_;(try simp)<;>omega)))));have K1:Hid (Kept b w w1):=Lib.hid (Kept.trans (w1:=_) (by (repeat' (first|(with_reducible first|exact Kept.refl _ _|refine Kept.setRow ?_ ?_ _|refine Kept.setNew ?_ ?_ _|refine Kept.alloc ?_ _)|(with_reducible change (_:Nat)≤_;(try simp)<;>omega)))) k1);clear h1 k1)
    go_wp2_with (go_at_call 54;refine Calls.mono (RK.out _ (?_:St b n c d A l (at_+1) _)) ?_;(repeat' (first|(with_reducible first|exact H1.out|refine St.setRow ?_ ?_ _|refine St.setOther ?_ ?_ _|refine St.alloc ?_ _)|(with_reducible change (_:Nat) < _;(try simp)<;>omega)));rintro e w2 ⟨A2,n2,rfl,hq2,h2,k2⟩;have H2:=Lib.hid h2;obtain ⟨ca2,cb2,cc2,cf2⟩:=H2.out.rd.cells;clear cb2;have hB2:=H2.out.lt;have hs2:=k2.size;(try simp at hs2);(have hl2:w.heap.size < w2.heap.size:=by omega);have HZ2:=Lib.hid ((k2.block w.heap.size (by (try simp)<;>omega) hb0).trans (show _=some Z24 by (repeat' (first|(with_reducible first|exact HZ1.out|exact hz_new|refine hz_set ?_ ?_|refine hz_row ?_ ?_|refine hz_alloc ?_)|(with_reducible change (_:Nat)≠_;(try simp)<;>omega)))));have K2:Hid (Kept b w w2):=Lib.hid (Kept.trans (w1:=_) (by (repeat' (first|(with_reducible first|exact Kept.refl _ _|exact K1.out|refine Kept.setRow ?_ ?_ _|refine Kept.setNew ?_ ?_ _|refine Kept.alloc ?_ _)|(with_reducible change (_:Nat)≤_;(try simp)<;>omega)))) k2);have HW2:=Lib.hid (fun w' (k:Kept b w w')=>((Row.of (c':=n2) HLX.out hq2).back K2.out hlt).kept k hlt);clear hq2;clear h2 k2)
    go_wp2_with (go_at_call 58;refine Calls.mono (must_no _ (?_:St b n c d A l (at_+1+k) _) ?_ ?_) ?_;(repeat' (first|(with_reducible first|exact H2.out|refine St.setRow ?_ ?_ _|refine St.setOther ?_ ?_ _|refine St.alloc ?_ _)|(with_reducible change (_:Nat) < _;(try simp)<;>omega)));(omega);(exact P2.out);rintro e w' ⟨rfl,kk⟩;have KK:Hid (Kept b w w'):=Lib.hid (Kept.trans (w1:=_) (by (repeat' (first|(with_reducible first|exact Kept.refl _ _|exact K2.out|refine Kept.setRow ?_ ?_ _|refine Kept.setNew ?_ ?_ _|refine Kept.alloc ?_ _)|(with_reducible change (_:Nat)≤_;(try simp)<;>omega)))) kk);clear kk)
    exact ⟨rfl,rfl,KK.out⟩
  case neg =>
   obtain ⟨k,hk⟩:∃ k,k=runLen isHexP l (at_) 2:=⟨_,rfl⟩
   have LK:=Lib.hid (runLen_le isHexP l 2 (at_))
   have RK:=Lib.hid (fun (w:World) (h:St b n c d A l (at_) w)=>run_st runHex 2 h (by omega))
   obtain ⟨xs,hxs⟩:∃ xs,xs=runPts l (at_) (runLen isHexP l (at_) 2):=⟨_,rfl⟩
   have ALL:Hid (∀ p ∈ xs,isHexP p=true):=Lib.hid (by rw [hxs];exact runPts_all _ _ _ _)
   have HLX:Hid (xs.length=k):=Lib.hid (by rw [hxs,runPts_length,hk])
   rw [← hxs,← hk] at RK
   rw [← hk] at LK
   have hk6:=LK.out
   have HX:=Lib.hid (hexN_lt xs ALL.out (by rw [HLX.out];omega))
   have P1:=Lib.hid h123
   have HPN:=Lib.hid hp
   clear hp h123
   by_cases k0:k=0
   case pos =>
    have hE:r=.error 1:=by rw [HR0.out,scalarP,if_neg HPN.out,if_neg P1.out];rw [← hxs,← hk,scalarEnd,if_pos (by rw [HLX.out];exact k0)]
    subst hE
    have kz:k=0:=k0
    clear hk hxs k0
    go_enter Try.func50,Try.ntmps50
    go_wp2_with (go_at_call 45;refine Calls.mono (may_no _ (?_:St b n c d A l (at_) _) ?_ ?_) ?_;(repeat' (first|(with_reducible first|exact H.out|refine St.setRow ?_ ?_ _|refine St.setOther ?_ ?_ _|refine St.alloc ?_ _)|(with_reducible change (_:Nat) < _;(try simp)<;>omega)));(omega);(exact P1.out);rintro e w1 ⟨rfl,h1,k1⟩;have H1:=Lib.hid h1;obtain ⟨ca1,cb1,cc1,cf1⟩:=H1.out.rd.cells;clear cb1;have hB1:=H1.out.lt;have hs1:=k1.size;(try simp at hs1);(have hl1:w.heap.size < w1.heap.size:=by omega);have HZ1:=Lib.hid ((k1.block w.heap.size (by (try simp)<;>omega) hb0).trans (show _=some Z24 by (repeat' (first|(with_reducible first|exact hz_new|refine hz_set ?_ ?_|refine hz_row ?_ ?_|refine hz_alloc ?_)|(with_reducible change (_:Nat)≠_;(try simp)<;>omega)))));have K1:Hid (Kept b w w1):=Lib.hid (Kept.trans (w1:=_) (by (repeat' (first|(with_reducible first|exact Kept.refl _ _|refine Kept.setRow ?_ ?_ _|refine Kept.setNew ?_ ?_ _|refine Kept.alloc ?_ _)|(with_reducible change (_:Nat)≤_;(try simp)<;>omega)))) k1);clear h1 k1)
    go_wp2_with (go_at_call 54;refine Calls.mono (RK.out _ (?_:St b n c d A l (at_) _)) ?_;(repeat' (first|(with_reducible first|exact H1.out|refine St.setRow ?_ ?_ _|refine St.setOther ?_ ?_ _|refine St.alloc ?_ _)|(with_reducible change (_:Nat) < _;(try simp)<;>omega)));rintro e w2 ⟨A2,n2,rfl,hq2,h2,k2⟩;have H2:=Lib.hid h2;obtain ⟨ca2,cb2,cc2,cf2⟩:=H2.out.rd.cells;clear cb2;have hB2:=H2.out.lt;have hs2:=k2.size;(try simp at hs2);(have hl2:w.heap.size < w2.heap.size:=by omega);have HZ2:=Lib.hid ((k2.block w.heap.size (by (try simp)<;>omega) hb0).trans (show _=some Z24 by (repeat' (first|(with_reducible first|exact HZ1.out|exact hz_new|refine hz_set ?_ ?_|refine hz_row ?_ ?_|refine hz_alloc ?_)|(with_reducible change (_:Nat)≠_;(try simp)<;>omega)))));have K2:Hid (Kept b w w2):=Lib.hid (Kept.trans (w1:=_) (by (repeat' (first|(with_reducible first|exact Kept.refl _ _|exact K1.out|refine Kept.setRow ?_ ?_ _|refine Kept.setNew ?_ ?_ _|refine Kept.alloc ?_ _)|(with_reducible change (_:Nat)≤_;(try simp)<;>omega)))) k2);have HW2:=Lib.hid (fun w' (k:Kept b w w')=>((Row.of (c':=n2) HLX.out hq2).back K2.out hlt).kept k hlt);clear hq2;clear h2 k2)
    go_wp2_with (go_at_call 46;refine (fail46 _ _).mono ?_;rintro e w' ⟨rfl,rfl⟩)
    exact ⟨rfl,rfl,by (repeat' (first|(with_reducible first|exact Kept.refl _ _|exact K2.out|refine Kept.setRow ?_ ?_ _|refine Kept.setNew ?_ ?_ _|refine Kept.alloc ?_ _)|(with_reducible change (_:Nat)≤_;(try simp)<;>omega)))⟩
   case neg =>
    have kp:0 < k:=by omega
    have kp2:(0:Int) < (k:Int):=by omega
    have kz:((k:Int) == 0)=false:=by simp;omega
    by_cases hb:1114111 < hexN xs
    case pos =>
     have hE:r=.error 3:=by rw [HR0.out,scalarP,if_neg HPN.out,if_neg P1.out];rw [← hxs,← hk,scalarEnd,if_neg (by rw [HLX.out];exact k0),if_pos hb]
     subst hE
     clear hk hxs k0
     go_enter Try.func50,Try.ntmps50
     go_wp2_with (go_at_call 45;refine Calls.mono (may_no _ (?_:St b n c d A l (at_) _) ?_ ?_) ?_;(repeat' (first|(with_reducible first|exact H.out|refine St.setRow ?_ ?_ _|refine St.setOther ?_ ?_ _|refine St.alloc ?_ _)|(with_reducible change (_:Nat) < _;(try simp)<;>omega)));(omega);(exact P1.out);rintro e w1 ⟨rfl,h1,k1⟩;have H1:=Lib.hid h1;obtain ⟨ca1,cb1,cc1,cf1⟩:=H1.out.rd.cells;clear cb1;have hB1:=H1.out.lt;have hs1:=k1.size;(try simp at hs1);(have hl1:w.heap.size < w1.heap.size:=by omega);have HZ1:=Lib.hid ((k1.block w.heap.size (by (try simp)<;>omega) hb0).trans (show _=some Z24 by (repeat' (first|(with_reducible first|exact hz_new|refine hz_set ?_ ?_|refine hz_row ?_ ?_|refine hz_alloc ?_)|(with_reducible change (_:Nat)≠_;(try simp)<;>omega)))));have K1:Hid (Kept b w w1):=Lib.hid (Kept.trans (w1:=_) (by (repeat' (first|(with_reducible first|exact Kept.refl _ _|refine Kept.setRow ?_ ?_ _|refine Kept.setNew ?_ ?_ _|refine Kept.alloc ?_ _)|(with_reducible change (_:Nat)≤_;(try simp)<;>omega)))) k1);clear h1 k1)
     go_wp2_with (first|(go_at_call 54;refine Calls.mono (RK.out _ (?_:St b n c d A l (at_) _)) ?_;(repeat' (first|(with_reducible first|exact H1.out|refine St.setRow ?_ ?_ _|refine St.setOther ?_ ?_ _|refine St.alloc ?_ _)|(with_reducible change (_:Nat) < _;(try simp)<;>omega)));rintro e w2 ⟨A2,n2,rfl,hq2,h2,k2⟩;have H2:=Lib.hid h2;obtain ⟨ca2,cb2,cc2,cf2⟩:=H2.out.rd.cells;clear cb2;have hB2:=H2.out.lt;have hs2:=k2.size;(try simp at hs2);(have hl2:w.heap.size < w2.heap.size:=by omega);have HZ2:=Lib.hid ((k2.block w.heap.size (by (try simp)<;>omega) hb0).trans (show _=some Z24 by (repeat' (first|(with_reducible first|exact HZ1.out|exact hz_new|refine hz_set ?_ ?_|refine hz_row ?_ ?_|refine hz_alloc ?_)|(with_reducible change (_:Nat)≠_;(try simp)<;>omega)))));have K2:Hid (Kept b w w2):=Lib.hid (Kept.trans (w1:=_) (by (repeat' (first|(with_reducible first|exact Kept.refl _ _|exact K1.out|refine Kept.setRow ?_ ?_ _|refine Kept.setNew ?_ ?_ _|refine Kept.alloc ?_ _)|(with_reducible change (_:Nat)≤_;(try simp)<;>omega)))) k2);have HW2:=Lib.hid (fun w' (k:Kept b w w')=>((Row.of (c':=n2) HLX.out hq2).back K2.out hlt).kept k hlt);clear hq2;clear h2 k2)|(go_at_call 61;(with_reducible refine (number_row (HW2.out _ K2.out) ALL.out (by rw [HLX.out];omega)).mono ?_);rintro e w' ⟨rfl,rfl⟩))
     go_wp2_with (go_at_call 46;refine (fail46 _ _).mono ?_;rintro e w' ⟨rfl,rfl⟩)
     exact ⟨rfl,rfl,by (repeat' (first|(with_reducible first|exact Kept.refl _ _|exact K2.out|refine Kept.setRow ?_ ?_ _|refine Kept.setNew ?_ ?_ _|refine Kept.alloc ?_ _)|(with_reducible change (_:Nat)≤_;(try simp)<;>omega)))⟩
    case neg =>
     have hE:r=.ok (pointT (hexN xs),at_+k):=by rw [HR0.out,scalarP,if_neg HPN.out,if_neg P1.out];rw [← hxs,← hk,scalarEnd,if_neg (by rw [HLX.out];exact k0),if_neg hb]
     subst hE
     clear hk hxs k0
     go_enter Try.func50,Try.ntmps50
     go_wp2_with (go_at_call 45;refine Calls.mono (may_no _ (?_:St b n c d A l (at_) _) ?_ ?_) ?_;(repeat' (first|(with_reducible first|exact H.out|refine St.setRow ?_ ?_ _|refine St.setOther ?_ ?_ _|refine St.alloc ?_ _)|(with_reducible change (_:Nat) < _;(try simp)<;>omega)));(omega);(exact P1.out);rintro e w1 ⟨rfl,h1,k1⟩;have H1:=Lib.hid h1;obtain ⟨ca1,cb1,cc1,cf1⟩:=H1.out.rd.cells;clear cb1;have hB1:=H1.out.lt;have hs1:=k1.size;(try simp at hs1);(have hl1:w.heap.size < w1.heap.size:=by omega);have HZ1:=Lib.hid ((k1.block w.heap.size (by (try simp)<;>omega) hb0).trans (show _=some Z24 by (repeat' (first|(with_reducible first|exact hz_new|refine hz_set ?_ ?_|refine hz_row ?_ ?_|refine hz_alloc ?_)|(with_reducible change (_:Nat)≠_;(try simp)<;>omega)))));have K1:Hid (Kept b w w1):=Lib.hid (Kept.trans (w1:=_) (by (repeat' (first|(with_reducible first|exact Kept.refl _ _|refine Kept.setRow ?_ ?_ _|refine Kept.setNew ?_ ?_ _|refine Kept.alloc ?_ _)|(with_reducible change (_:Nat)≤_;(try simp)<;>omega)))) k1);clear h1 k1)
     go_wp2_with (first|(go_at_call 54;refine Calls.mono (RK.out _ (?_:St b n c d A l (at_) _)) ?_;(repeat' (first|(with_reducible first|exact H1.out|refine St.setRow ?_ ?_ _|refine St.setOther ?_ ?_ _|refine St.alloc ?_ _)|(with_reducible change (_:Nat) < _;(try simp)<;>omega)));rintro e w2 ⟨A2,n2,rfl,hq2,h2,k2⟩;have H2:=Lib.hid h2;obtain ⟨ca2,cb2,cc2,cf2⟩:=H2.out.rd.cells;clear cb2;have hB2:=H2.out.lt;have hs2:=k2.size;(try simp at hs2);(have hl2:w.heap.size < w2.heap.size:=by omega);have HZ2:=Lib.hid ((k2.block w.heap.size (by (try simp)<;>omega) hb0).trans (show _=some Z24 by (repeat' (first|(with_reducible first|exact HZ1.out|exact hz_new|refine hz_set ?_ ?_|refine hz_row ?_ ?_|refine hz_alloc ?_)|(with_reducible change (_:Nat)≠_;(try simp)<;>omega)))));have K2:Hid (Kept b w w2):=Lib.hid (Kept.trans (w1:=_) (by (repeat' (first|(with_reducible first|exact Kept.refl _ _|exact K1.out|refine Kept.setRow ?_ ?_ _|refine Kept.setNew ?_ ?_ _|refine Kept.alloc ?_ _)|(with_reducible change (_:Nat)≤_;(try simp)<;>omega)))) k2);have HW2:=Lib.hid (fun w' (k:Kept b w w')=>((Row.of (c':=n2) HLX.out hq2).back K2.out hlt).kept k hlt);clear hq2;clear h2 k2)|(go_at_call 61;(with_reducible refine (number_row (HW2.out _ K2.out) ALL.out (by rw [HLX.out];omega)).mono ?_);rintro e w' ⟨rfl,rfl⟩))
     go_wp2_with (first|(go_at_call 41;refine Calls.mono (point_st _ (?_:St b n c d A l (at_+k) _)) ?_;(repeat' (first|(with_reducible first|exact H2.out|refine St.setRow ?_ ?_ _|refine St.setOther ?_ ?_ _|refine St.alloc ?_ _)|(with_reducible change (_:Nat) < _;(try simp)<;>omega)));rintro e w3 ⟨rfl,h3,k3⟩;have H3:=Lib.hid h3;obtain ⟨ca3,cb3,cc3,cf3⟩:=H3.out.rd.cells;clear cb3;have hB3:=H3.out.lt;have hs3:=k3.size;(try simp at hs3);(have hl3:w.heap.size < w3.heap.size:=by omega);have HZ3:=Lib.hid ((k3.block w.heap.size (by (try simp)<;>omega) hb0).trans (show _=some Z24 by (repeat' (first|(with_reducible first|exact HZ2.out|exact hz_new|refine hz_set ?_ ?_|refine hz_row ?_ ?_|refine hz_alloc ?_)|(with_reducible change (_:Nat)≠_;(try simp)<;>omega)))));have K3:Hid (Kept b w w3):=Lib.hid (Kept.trans (w1:=_) (by (repeat' (first|(with_reducible first|exact Kept.refl _ _|exact K2.out|refine Kept.setRow ?_ ?_ _|refine Kept.setNew ?_ ?_ _|refine Kept.alloc ?_ _)|(with_reducible change (_:Nat)≤_;(try simp)<;>omega)))) k3);clear h3 k3)|((with_reducible apply store24 (g:=w.heap.size));rfl;(with_reducible rfl);rfl;rfl;(repeat' (first|(with_reducible first|exact HZ3.out|exact hz_new|refine hz_set ?_ ?_|refine hz_row ?_ ?_|refine hz_alloc ?_)|(with_reducible change (_:Nat)≠_;(try simp)<;>omega)));rfl;rfl))
     ((try simp only [Exit.inBlock,Exit.then]);refine bodyPost_ret (v:=_) (results24 Try.results50 _ _ w.heap.size _ ?_ (row24 ?_) ?_) rfl ⟨⟨rfl,?_⟩,?_⟩;rfl;(repeat' (first|(with_reducible first|exact HZ3.out|exact hz_new|refine hz_set ?_ ?_|refine hz_row ?_ ?_|refine hz_alloc ?_)|(with_reducible change (_:Nat)≠_;(try simp)<;>omega)));rfl;(repeat' (first|(with_reducible first|exact H3.out|refine St.setRow ?_ ?_ _|refine St.setOther ?_ ?_ _|refine St.alloc ?_ _)|(with_reducible change (_:Nat) < _;(try simp)<;>omega)));(repeat' (first|(with_reducible first|exact Kept.refl _ _|exact K3.out|refine Kept.setRow ?_ ?_ _|refine Kept.setNew ?_ ?_ _|refine Kept.alloc ?_ _)|(with_reducible change (_:Nat)≤_;(try simp)<;>omega))))
end Go.Proofs.Ytmjlmjlkghpknaa
