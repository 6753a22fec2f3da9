/- Behind a backslash in Emacs: walked. -/
import Derived.Test.YtmjlmjlkghpknaaTkN
import Derived.Test.YtmjlmjlkghpknaaTkL
set_option linter.unusedVariables false
set_option linter.unusedSimpArgs false
namespace Go.Proofs.Ytmjlmjlkghpknaa
open Go.RowKit
section
variable {b n c:Nat} {d at_:Int} {A:Option Addr} {l:List Int} {w:World}
theorem class_st (p:Int) (t:Tk) (f:Bool) (ht:(classT p).getD {}=t∧(classT p).isSome=f) (h:St b n c d A l at_ w) (h0:0≤p) (h1:p≤1114111):Calls Try.prog 48 #[.int .i64 p] w fun e w'=>e=.returned (.tuple #[.agg #[.int .i64 t.kind,.int .i64 t.num,.string ⟨t.text.toArray⟩,.bool t.not_,.int .i64 t.least,.int .i64 t.most,.int .i64 t.way,.int .i64 t.fold],.bool f])∧St b n c d A l at_ w'∧Kept b w w':=by
 obtain ⟨rfl,rfl⟩:=ht
 exact (class48 p h0 h1 w).mono fun _ _ ⟨e,hb⟩=>⟨e,h.next hb,Kept.of hb⟩
theorem class_119 (h:St b n c d A l at_ w):Calls Try.prog 48 #[.int .i64 119] w fun e w'=>e=.returned (.tuple #[.agg #[.int .i64 4,.int .i64 0,.string ⟨#[119,111,114,100]⟩,.bool false,.int .i64 0,.int .i64 0,.int .i64 0,.int .i64 0],.bool true])∧St b n c d A l at_ w'∧Kept b w w' :=
 class_st 119 { kind:=4,text:=[119,111,114,100] } true ⟨rfl,rfl⟩ h (by decide) (by decide)
theorem class_87 (h:St b n c d A l at_ w):Calls Try.prog 48 #[.int .i64 87] w fun e w'=>e=.returned (.tuple #[.agg #[.int .i64 4,.int .i64 0,.string ⟨#[119,111,114,100]⟩,.bool true,.int .i64 0,.int .i64 0,.int .i64 0,.int .i64 0],.bool true])∧St b n c d A l at_ w'∧Kept b w w' :=
 class_st 87 { kind:=4,text:=[119,111,114,100],not_:=true } true ⟨rfl,rfl⟩ h (by decide) (by decide)
end
set_option maxRecDepth 100000 in
set_option maxHeartbeats 40000000 in
theorem emacs47 {b n c:Nat} {d at_:Int} {A:Option Addr} {l:List Int} {w:World} (p:Int) (hd:d=3) (h:St b n c d A l at_ w) :
  Calls Try.prog 47 #[.pointer (some ⟨b,0,none⟩),.int .i64 p] w fun e w'=>TOut b n c d A l (emacsP l at_ p) e w'∧Kept b w w':=by
 have H:=Lib.hid h
 have hlt:=h.lt
 have hb0:¬ w.heap.size=b:=by omega
 have hb1:¬ w.heap.size+1=b:=by omega
 have hlo:=h.lo
 have hhi:=h.hi
 have hsm:=h.small
 obtain ⟨c0,c1,c2,f2⟩:=h.rd.cells
 clear h c1 c2 f2
 have HD:=Lib.hid hd
 clear hd
 obtain ⟨r,hr0⟩:∃ r,r=emacsP l at_ p:=⟨_,rfl⟩
 rw [← hr0]
 have HR0:=Lib.hid hr0
 clear hr0
 by_cases q40:p=40
 case pos =>
  subst q40
  cases ho:openP d l at_ with
  | error x =>
   have hE:r=.error x:=by rw [HR0.out,← ho,HD.out];rfl
   subst hE
   have HO:=Lib.hid ho
   clear ho
   go_enter Try.func47,Try.ntmps47
   go_wp2_with (go_at_call 42;refine Calls.mono (tout_bad (open42 (?_:St b n c d A l (at_) _)) HO.out) ?_;(repeat' (first|(with_reducible first|exact H.out|refine St.setRow ?_ ?_ _|refine St.setOther ?_ ?_ _|refine St.alloc ?_ _)|(with_reducible change (_:Nat) < _;(try simp)<;>omega)));rintro e w' ⟨rfl,kk⟩;have KK:Hid (Kept b w w'):=Lib.hid (Kept.trans (w1:=_) (by (repeat' (first|(with_reducible first|exact Kept.refl _ _|refine Kept.setRow ?_ ?_ _|refine Kept.setNew ?_ ?_ _|refine Kept.alloc ?_ _)|(with_reducible change (_:Nat)≤_;(try simp)<;>omega)))) kk);clear kk)
   exact ⟨rfl,rfl,KK.out⟩
  | ok q =>
   obtain ⟨t,nx⟩:=q
   have hE:r=.ok (t,nx):=by rw [HR0.out,← ho,HD.out];rfl
   subst hE
   have HO:=Lib.hid ho
   clear ho
   go_enter Try.func47,Try.ntmps47
   go_wp2_with (first|(go_at_call 42;refine Calls.mono (tout_ok (open42 (?_:St b n c d A l (at_) _)) HO.out) ?_;(repeat' (first|(with_reducible first|exact H.out|refine St.setRow ?_ ?_ _|refine St.setOther ?_ ?_ _|refine St.alloc ?_ _)|(with_reducible change (_:Nat) < _;(try simp)<;>omega)));rintro e w1 ⟨rfl,h1,k1⟩;have H1:=Lib.hid h1;obtain ⟨ca1,cb1,cc1,cf1⟩:=H1.out.rd.cells;clear cb1;have hB1:=H1.out.lt;have hs1:=k1.size;(try simp at hs1);(have hl1:w.heap.size < w1.heap.size:=by omega);have HZ1:=Lib.hid ((k1.block w.heap.size (by (try simp)<;>omega) hb0).trans (show _=some Z24 by (repeat' (first|(with_reducible first|exact hz_new|refine hz_set ?_ ?_|refine hz_row ?_ ?_|refine hz_alloc ?_)|(with_reducible change (_:Nat)≠_;(try simp)<;>omega)))));have K1:Hid (Kept b w w1):=Lib.hid (Kept.trans (w1:=_) (by (repeat' (first|(with_reducible first|exact Kept.refl _ _|refine Kept.setRow ?_ ?_ _|refine Kept.setNew ?_ ?_ _|refine Kept.alloc ?_ _)|(with_reducible change (_:Nat)≤_;(try simp)<;>omega)))) k1);clear h1 k1)|((with_reducible apply store24 (g:=w.heap.size));rfl;(with_reducible rfl);rfl;rfl;(repeat' (first|(with_reducible first|exact HZ1.out|exact hz_new|refine hz_set ?_ ?_|refine hz_row ?_ ?_|refine hz_alloc ?_)|(with_reducible change (_:Nat)≠_;(try simp)<;>omega)));rfl;rfl))
   ((try simp only [Exit.inBlock,Exit.then]);refine bodyPost_ret (v:=_) (results24 Try.results47 _ _ w.heap.size _ ?_ (row24 ?_) ?_) rfl ⟨⟨rfl,?_⟩,?_⟩;rfl;(repeat' (first|(with_reducible first|exact HZ1.out|exact hz_new|refine hz_set ?_ ?_|refine hz_row ?_ ?_|refine hz_alloc ?_)|(with_reducible change (_:Nat)≠_;(try simp)<;>omega)));rfl;(repeat' (first|(with_reducible first|exact H1.out|refine St.setRow ?_ ?_ _|refine St.setOther ?_ ?_ _|refine St.alloc ?_ _)|(with_reducible change (_:Nat) < _;(try simp)<;>omega)));(repeat' (first|(with_reducible first|exact Kept.refl _ _|exact K1.out|refine Kept.setRow ?_ ?_ _|refine Kept.setNew ?_ ?_ _|refine Kept.alloc ?_ _)|(with_reducible change (_:Nat)≤_;(try simp)<;>omega))))
 case neg =>
  by_cases q41:p=41
  case pos =>
   subst q41
   have hE:r=.ok ({ kind:=8 },at_):=by rw [HR0.out];rfl
   subst hE
   go_enter Try.func47,Try.ntmps47
   go_wp2_with ((with_reducible apply store24 (g:=w.heap.size));rfl;(with_reducible rfl);rfl;rfl;(repeat' (first|(with_reducible first|exact hz_new|refine hz_set ?_ ?_|refine hz_row ?_ ?_|refine hz_alloc ?_)|(with_reducible change (_:Nat)≠_;(try simp)<;>omega)));rfl;rfl)
   ((try simp only [Exit.inBlock,Exit.then]);refine bodyPost_ret (v:=_) (results24 Try.results47 _ _ w.heap.size _ ?_ (row24 ?_) ?_) rfl ⟨⟨rfl,?_⟩,?_⟩;rfl;(repeat' (first|(with_reducible first|exact hz_new|refine hz_set ?_ ?_|refine hz_row ?_ ?_|refine hz_alloc ?_)|(with_reducible change (_:Nat)≠_;(try simp)<;>omega)));rfl;(repeat' (first|(with_reducible first|exact H.out|refine St.setRow ?_ ?_ _|refine St.setOther ?_ ?_ _|refine St.alloc ?_ _)|(with_reducible change (_:Nat) < _;(try simp)<;>omega)));(repeat' (first|(with_reducible first|exact Kept.refl _ _|refine Kept.setRow ?_ ?_ _|refine Kept.setNew ?_ ?_ _|refine Kept.alloc ?_ _)|(with_reducible change (_:Nat)≤_;(try simp)<;>omega))))
  case neg =>
   by_cases q124:p=124
   case pos =>
    subst q124
    have hE:r=.ok ({ kind:=9 },at_):=by rw [HR0.out];rfl
    subst hE
    go_enter Try.func47,Try.ntmps47
    go_wp2_with ((with_reducible apply store24 (g:=w.heap.size));rfl;(with_reducible rfl);rfl;rfl;(repeat' (first|(with_reducible first|exact hz_new|refine hz_set ?_ ?_|refine hz_row ?_ ?_|refine hz_alloc ?_)|(with_reducible change (_:Nat)≠_;(try simp)<;>omega)));rfl;rfl)
    ((try simp only [Exit.inBlock,Exit.then]);refine bodyPost_ret (v:=_) (results24 Try.results47 _ _ w.heap.size _ ?_ (row24 ?_) ?_) rfl ⟨⟨rfl,?_⟩,?_⟩;rfl;(repeat' (first|(with_reducible first|exact hz_new|refine hz_set ?_ ?_|refine hz_row ?_ ?_|refine hz_alloc ?_)|(with_reducible change (_:Nat)≠_;(try simp)<;>omega)));rfl;(repeat' (first|(with_reducible first|exact H.out|refine St.setRow ?_ ?_ _|refine St.setOther ?_ ?_ _|refine St.alloc ?_ _)|(with_reducible change (_:Nat) < _;(try simp)<;>omega)));(repeat' (first|(with_reducible first|exact Kept.refl _ _|refine Kept.setRow ?_ ?_ _|refine Kept.setNew ?_ ?_ _|refine Kept.alloc ?_ _)|(with_reducible change (_:Nat)≤_;(try simp)<;>omega))))
   case neg =>
    by_cases q123:p=123
    case pos =>
     subst q123
     cases ho:braceP d l at_ 123 with
     | error x =>
      have hE:r=.error x:=by rw [HR0.out,← ho,HD.out];rfl
      subst hE
      have HO:=Lib.hid ho
      clear ho
      go_enter Try.func47,Try.ntmps47
      go_wp2_with (go_at_call 43;refine Calls.mono (tout_bad (brace43 123 (?_:St b n c d A l (at_) _)) HO.out) ?_;(repeat' (first|(with_reducible first|exact H.out|refine St.setRow ?_ ?_ _|refine St.setOther ?_ ?_ _|refine St.alloc ?_ _)|(with_reducible change (_:Nat) < _;(try simp)<;>omega)));rintro e w' ⟨rfl,kk⟩;have KK:Hid (Kept b w w'):=Lib.hid (Kept.trans (w1:=_) (by (repeat' (first|(with_reducible first|exact Kept.refl _ _|refine Kept.setRow ?_ ?_ _|refine Kept.setNew ?_ ?_ _|refine Kept.alloc ?_ _)|(with_reducible change (_:Nat)≤_;(try simp)<;>omega)))) kk);clear kk)
      exact ⟨rfl,rfl,KK.out⟩
     | ok q =>
      obtain ⟨t,nx⟩:=q
      have hE:r=.ok (t,nx):=by rw [HR0.out,← ho,HD.out];rfl
      subst hE
      have HO:=Lib.hid ho
      clear ho
      go_enter Try.func47,Try.ntmps47
      go_wp2_with (first|(go_at_call 43;refine Calls.mono (tout_ok (brace43 123 (?_:St b n c d A l (at_) _)) HO.out) ?_;(repeat' (first|(with_reducible first|exact H.out|refine St.setRow ?_ ?_ _|refine St.setOther ?_ ?_ _|refine St.alloc ?_ _)|(with_reducible change (_:Nat) < _;(try simp)<;>omega)));rintro e w1 ⟨rfl,h1,k1⟩;have H1:=Lib.hid h1;obtain ⟨ca1,cb1,cc1,cf1⟩:=H1.out.rd.cells;clear cb1;have hB1:=H1.out.lt;have hs1:=k1.size;(try simp at hs1);(have hl1:w.heap.size < w1.heap.size:=by omega);have HZ1:=Lib.hid ((k1.block w.heap.size (by (try simp)<;>omega) hb0).trans (show _=some Z24 by (repeat' (first|(with_reducible first|exact hz_new|refine hz_set ?_ ?_|refine hz_row ?_ ?_|refine hz_alloc ?_)|(with_reducible change (_:Nat)≠_;(try simp)<;>omega)))));have K1:Hid (Kept b w w1):=Lib.hid (Kept.trans (w1:=_) (by (repeat' (first|(with_reducible first|exact Kept.refl _ _|refine Kept.setRow ?_ ?_ _|refine Kept.setNew ?_ ?_ _|refine Kept.alloc ?_ _)|(with_reducible change (_:Nat)≤_;(try simp)<;>omega)))) k1);clear h1 k1)|((with_reducible apply store24 (g:=w.heap.size));rfl;(with_reducible rfl);rfl;rfl;(repeat' (first|(with_reducible first|exact HZ1.out|exact hz_new|refine hz_set ?_ ?_|refine hz_row ?_ ?_|refine hz_alloc ?_)|(with_reducible change (_:Nat)≠_;(try simp)<;>omega)));rfl;rfl))
      ((try simp only [Exit.inBlock,Exit.then]);refine bodyPost_ret (v:=_) (results24 Try.results47 _ _ w.heap.size _ ?_ (row24 ?_) ?_) rfl ⟨⟨rfl,?_⟩,?_⟩;rfl;(repeat' (first|(with_reducible first|exact HZ1.out|exact hz_new|refine hz_set ?_ ?_|refine hz_row ?_ ?_|refine hz_alloc ?_)|(with_reducible change (_:Nat)≠_;(try simp)<;>omega)));rfl;(repeat' (first|(with_reducible first|exact H1.out|refine St.setRow ?_ ?_ _|refine St.setOther ?_ ?_ _|refine St.alloc ?_ _)|(with_reducible change (_:Nat) < _;(try simp)<;>omega)));(repeat' (first|(with_reducible first|exact Kept.refl _ _|exact K1.out|refine Kept.setRow ?_ ?_ _|refine Kept.setNew ?_ ?_ _|refine Kept.alloc ?_ _)|(with_reducible change (_:Nat)≤_;(try simp)<;>omega))))
    case neg =>
     by_cases q119:p=119
     case pos =>
      subst q119
      have hE:r=.ok ({ kind:=4,text:=[119,111,114,100] },at_):=by rw [HR0.out];rfl
      subst hE
      go_enter Try.func47,Try.ntmps47
      go_wp2_with (first|(go_at_call 48;refine Calls.mono (class_119 (?_:St b n c d A l (at_) _)) ?_;(repeat' (first|(with_reducible first|exact H.out|refine St.setRow ?_ ?_ _|refine St.setOther ?_ ?_ _|refine St.alloc ?_ _)|(with_reducible change (_:Nat) < _;(try simp)<;>omega)));rintro e w1 ⟨rfl,h1,k1⟩;have H1:=Lib.hid h1;obtain ⟨ca1,cb1,cc1,cf1⟩:=H1.out.rd.cells;clear cb1;have hB1:=H1.out.lt;have hs1:=k1.size;(try simp at hs1);(have hl1:w.heap.size < w1.heap.size:=by omega);have HZ1:=Lib.hid ((k1.block w.heap.size (by (try simp)<;>omega) hb0).trans (show _=some Z24 by (repeat' (first|(with_reducible first|exact hz_new|refine hz_set ?_ ?_|refine hz_row ?_ ?_|refine hz_alloc ?_)|(with_reducible change (_:Nat)≠_;(try simp)<;>omega)))));have K1:Hid (Kept b w w1):=Lib.hid (Kept.trans (w1:=_) (by (repeat' (first|(with_reducible first|exact Kept.refl _ _|refine Kept.setRow ?_ ?_ _|refine Kept.setNew ?_ ?_ _|refine Kept.alloc ?_ _)|(with_reducible change (_:Nat)≤_;(try simp)<;>omega)))) k1);clear h1 k1)|((with_reducible apply store24 (g:=w.heap.size));rfl;(with_reducible rfl);rfl;rfl;(repeat' (first|(with_reducible first|exact HZ1.out|exact hz_new|refine hz_set ?_ ?_|refine hz_row ?_ ?_|refine hz_alloc ?_)|(with_reducible change (_:Nat)≠_;(try simp)<;>omega)));rfl;rfl))
      ((try simp only [Exit.inBlock,Exit.then]);refine bodyPost_ret (v:=_) (results24 Try.results47 _ _ w.heap.size _ ?_ (row24 ?_) ?_) rfl ⟨⟨rfl,?_⟩,?_⟩;rfl;(repeat' (first|(with_reducible first|exact HZ1.out|exact hz_new|refine hz_set ?_ ?_|refine hz_row ?_ ?_|refine hz_alloc ?_)|(with_reducible change (_:Nat)≠_;(try simp)<;>omega)));rfl;(repeat' (first|(with_reducible first|exact H1.out|refine St.setRow ?_ ?_ _|refine St.setOther ?_ ?_ _|refine St.alloc ?_ _)|(with_reducible change (_:Nat) < _;(try simp)<;>omega)));(repeat' (first|(with_reducible first|exact Kept.refl _ _|exact K1.out|refine Kept.setRow ?_ ?_ _|refine Kept.setNew ?_ ?_ _|refine Kept.alloc ?_ _)|(with_reducible change (_:Nat)≤_;(try simp)<;>omega))))
     case neg =>
      by_cases q87:p=87
      case pos =>
       subst q87
       have hE:r=.ok ({ kind:=4,text:=[119,111,114,100],not_:=true },at_):=by rw [HR0.out];rfl
       subst hE
       go_enter Try.func47,Try.ntmps47
       go_wp2_with (first|(go_at_call 48;refine Calls.mono (class_87 (?_:St b n c d A l (at_) _)) ?_;(repeat' (first|(with_reducible first|exact H.out|refine St.setRow ?_ ?_ _|refine St.setOther ?_ ?_ _|refine St.alloc ?_ _)|(with_reducible change (_:Nat) < _;(try simp)<;>omega)));rintro e w1 ⟨rfl,h1,k1⟩;have H1:=Lib.hid h1;obtain ⟨ca1,cb1,cc1,cf1⟩:=H1.out.rd.cells;clear cb1;have hB1:=H1.out.lt;have hs1:=k1.size;(try simp at hs1);(have hl1:w.heap.size < w1.heap.size:=by omega);have HZ1:=Lib.hid ((k1.block w.heap.size (by (try simp)<;>omega) hb0).trans (show _=some Z24 by (repeat' (first|(with_reducible first|exact hz_new|refine hz_set ?_ ?_|refine hz_row ?_ ?_|refine hz_alloc ?_)|(with_reducible change (_:Nat)≠_;(try simp)<;>omega)))));have K1:Hid (Kept b w w1):=Lib.hid (Kept.trans (w1:=_) (by (repeat' (first|(with_reducible first|exact Kept.refl _ _|refine Kept.setRow ?_ ?_ _|refine Kept.setNew ?_ ?_ _|refine Kept.alloc ?_ _)|(with_reducible change (_:Nat)≤_;(try simp)<;>omega)))) k1);clear h1 k1)|((with_reducible apply store24 (g:=w.heap.size));rfl;(with_reducible rfl);rfl;rfl;(repeat' (first|(with_reducible first|exact HZ1.out|exact hz_new|refine hz_set ?_ ?_|refine hz_row ?_ ?_|refine hz_alloc ?_)|(with_reducible change (_:Nat)≠_;(try simp)<;>omega)));rfl;rfl))
       ((try simp only [Exit.inBlock,Exit.then]);refine bodyPost_ret (v:=_) (results24 Try.results47 _ _ w.heap.size _ ?_ (row24 ?_) ?_) rfl ⟨⟨rfl,?_⟩,?_⟩;rfl;(repeat' (first|(with_reducible first|exact HZ1.out|exact hz_new|refine hz_set ?_ ?_|refine hz_row ?_ ?_|refine hz_alloc ?_)|(with_reducible change (_:Nat)≠_;(try simp)<;>omega)));rfl;(repeat' (first|(with_reducible first|exact H1.out|refine St.setRow ?_ ?_ _|refine St.setOther ?_ ?_ _|refine St.alloc ?_ _)|(with_reducible change (_:Nat) < _;(try simp)<;>omega)));(repeat' (first|(with_reducible first|exact Kept.refl _ _|exact K1.out|refine Kept.setRow ?_ ?_ _|refine Kept.setNew ?_ ?_ _|refine Kept.alloc ?_ _)|(with_reducible change (_:Nat)≤_;(try simp)<;>omega))))
      case neg =>
       by_cases q98:p=98
       case pos =>
        subst q98
        have hE:r=.ok (lookT 7,at_):=by rw [HR0.out];rfl
        subst hE
        go_enter Try.func47,Try.ntmps47
        go_wp2_with (first|(go_at_call 38;refine Calls.mono (look_st _ (?_:St b n c d A l (at_) _)) ?_;(repeat' (first|(with_reducible first|exact H.out|refine St.setRow ?_ ?_ _|refine St.setOther ?_ ?_ _|refine St.alloc ?_ _)|(with_reducible change (_:Nat) < _;(try simp)<;>omega)));rintro e w1 ⟨rfl,h1,k1⟩;have H1:=Lib.hid h1;obtain ⟨ca1,cb1,cc1,cf1⟩:=H1.out.rd.cells;clear cb1;have hB1:=H1.out.lt;have hs1:=k1.size;(try simp at hs1);(have hl1:w.heap.size < w1.heap.size:=by omega);have HZ1:=Lib.hid ((k1.block w.heap.size (by (try simp)<;>omega) hb0).trans (show _=some Z24 by (repeat' (first|(with_reducible first|exact hz_new|refine hz_set ?_ ?_|refine hz_row ?_ ?_|refine hz_alloc ?_)|(with_reducible change (_:Nat)≠_;(try simp)<;>omega)))));have K1:Hid (Kept b w w1):=Lib.hid (Kept.trans (w1:=_) (by (repeat' (first|(with_reducible first|exact Kept.refl _ _|refine Kept.setRow ?_ ?_ _|refine Kept.setNew ?_ ?_ _|refine Kept.alloc ?_ _)|(with_reducible change (_:Nat)≤_;(try simp)<;>omega)))) k1);clear h1 k1)|((with_reducible apply store24 (g:=w.heap.size));rfl;(with_reducible rfl);rfl;rfl;(repeat' (first|(with_reducible first|exact HZ1.out|exact hz_new|refine hz_set ?_ ?_|refine hz_row ?_ ?_|refine hz_alloc ?_)|(with_reducible change (_:Nat)≠_;(try simp)<;>omega)));rfl;rfl))
        ((try simp only [Exit.inBlock,Exit.then]);refine bodyPost_ret (v:=_) (results24 Try.results47 _ _ w.heap.size _ ?_ (row24 ?_) ?_) rfl ⟨⟨rfl,?_⟩,?_⟩;rfl;(repeat' (first|(with_reducible first|exact HZ1.out|exact hz_new|refine hz_set ?_ ?_|refine hz_row ?_ ?_|refine hz_alloc ?_)|(with_reducible change (_:Nat)≠_;(try simp)<;>omega)));rfl;(repeat' (first|(with_reducible first|exact H1.out|refine St.setRow ?_ ?_ _|refine St.setOther ?_ ?_ _|refine St.alloc ?_ _)|(with_reducible change (_:Nat) < _;(try simp)<;>omega)));(repeat' (first|(with_reducible first|exact Kept.refl _ _|exact K1.out|refine Kept.setRow ?_ ?_ _|refine Kept.setNew ?_ ?_ _|refine Kept.alloc ?_ _)|(with_reducible change (_:Nat)≤_;(try simp)<;>omega))))
       case neg =>
        by_cases q66:p=66
        case pos =>
         subst q66
         have hE:r=.ok (lookT 8,at_):=by rw [HR0.out];rfl
         subst hE
         go_enter Try.func47,Try.ntmps47
         go_wp2_with (first|(go_at_call 38;refine Calls.mono (look_st _ (?_:St b n c d A l (at_) _)) ?_;(repeat' (first|(with_reducible first|exact H.out|refine St.setRow ?_ ?_ _|refine St.setOther ?_ ?_ _|refine St.alloc ?_ _)|(with_reducible change (_:Nat) < _;(try simp)<;>omega)));rintro e w1 ⟨rfl,h1,k1⟩;have H1:=Lib.hid h1;obtain ⟨ca1,cb1,cc1,cf1⟩:=H1.out.rd.cells;clear cb1;have hB1:=H1.out.lt;have hs1:=k1.size;(try simp at hs1);(have hl1:w.heap.size < w1.heap.size:=by omega);have HZ1:=Lib.hid ((k1.block w.heap.size (by (try simp)<;>omega) hb0).trans (show _=some Z24 by (repeat' (first|(with_reducible first|exact hz_new|refine hz_set ?_ ?_|refine hz_row ?_ ?_|refine hz_alloc ?_)|(with_reducible change (_:Nat)≠_;(try simp)<;>omega)))));have K1:Hid (Kept b w w1):=Lib.hid (Kept.trans (w1:=_) (by (repeat' (first|(with_reducible first|exact Kept.refl _ _|refine Kept.setRow ?_ ?_ _|refine Kept.setNew ?_ ?_ _|refine Kept.alloc ?_ _)|(with_reducible change (_:Nat)≤_;(try simp)<;>omega)))) k1);clear h1 k1)|((with_reducible apply store24 (g:=w.heap.size));rfl;(with_reducible rfl);rfl;rfl;(repeat' (first|(with_reducible first|exact HZ1.out|exact hz_new|refine hz_set ?_ ?_|refine hz_row ?_ ?_|refine hz_alloc ?_)|(with_reducible change (_:Nat)≠_;(try simp)<;>omega)));rfl;rfl))
         ((try simp only [Exit.inBlock,Exit.then]);refine bodyPost_ret (v:=_) (results24 Try.results47 _ _ w.heap.size _ ?_ (row24 ?_) ?_) rfl ⟨⟨rfl,?_⟩,?_⟩;rfl;(repeat' (first|(with_reducible first|exact HZ1.out|exact hz_new|refine hz_set ?_ ?_|refine hz_row ?_ ?_|refine hz_alloc ?_)|(with_reducible change (_:Nat)≠_;(try simp)<;>omega)));rfl;(repeat' (first|(with_reducible first|exact H1.out|refine St.setRow ?_ ?_ _|refine St.setOther ?_ ?_ _|refine St.alloc ?_ _)|(with_reducible change (_:Nat) < _;(try simp)<;>omega)));(repeat' (first|(with_reducible first|exact Kept.refl _ _|exact K1.out|refine Kept.setRow ?_ ?_ _|refine Kept.setNew ?_ ?_ _|refine Kept.alloc ?_ _)|(with_reducible change (_:Nat)≤_;(try simp)<;>omega))))
        case neg =>
         by_cases q96:p=96
         case pos =>
          subst q96
          have hE:r=.ok (lookT 5,at_):=by rw [HR0.out];rfl
          subst hE
          go_enter Try.func47,Try.ntmps47
          go_wp2_with (first|(go_at_call 38;refine Calls.mono (look_st _ (?_:St b n c d A l (at_) _)) ?_;(repeat' (first|(with_reducible first|exact H.out|refine St.setRow ?_ ?_ _|refine St.setOther ?_ ?_ _|refine St.alloc ?_ _)|(with_reducible change (_:Nat) < _;(try simp)<;>omega)));rintro e w1 ⟨rfl,h1,k1⟩;have H1:=Lib.hid h1;obtain ⟨ca1,cb1,cc1,cf1⟩:=H1.out.rd.cells;clear cb1;have hB1:=H1.out.lt;have hs1:=k1.size;(try simp at hs1);(have hl1:w.heap.size < w1.heap.size:=by omega);have HZ1:=Lib.hid ((k1.block w.heap.size (by (try simp)<;>omega) hb0).trans (show _=some Z24 by (repeat' (first|(with_reducible first|exact hz_new|refine hz_set ?_ ?_|refine hz_row ?_ ?_|refine hz_alloc ?_)|(with_reducible change (_:Nat)≠_;(try simp)<;>omega)))));have K1:Hid (Kept b w w1):=Lib.hid (Kept.trans (w1:=_) (by (repeat' (first|(with_reducible first|exact Kept.refl _ _|refine Kept.setRow ?_ ?_ _|refine Kept.setNew ?_ ?_ _|refine Kept.alloc ?_ _)|(with_reducible change (_:Nat)≤_;(try simp)<;>omega)))) k1);clear h1 k1)|((with_reducible apply store24 (g:=w.heap.size));rfl;(with_reducible rfl);rfl;rfl;(repeat' (first|(with_reducible first|exact HZ1.out|exact hz_new|refine hz_set ?_ ?_|refine hz_row ?_ ?_|refine hz_alloc ?_)|(with_reducible change (_:Nat)≠_;(try simp)<;>omega)));rfl;rfl))
          ((try simp only [Exit.inBlock,Exit.then]);refine bodyPost_ret (v:=_) (results24 Try.results47 _ _ w.heap.size _ ?_ (row24 ?_) ?_) rfl ⟨⟨rfl,?_⟩,?_⟩;rfl;(repeat' (first|(with_reducible first|exact HZ1.out|exact hz_new|refine hz_set ?_ ?_|refine hz_row ?_ ?_|refine hz_alloc ?_)|(with_reducible change (_:Nat)≠_;(try simp)<;>omega)));rfl;(repeat' (first|(with_reducible first|exact H1.out|refine St.setRow ?_ ?_ _|refine St.setOther ?_ ?_ _|refine St.alloc ?_ _)|(with_reducible change (_:Nat) < _;(try simp)<;>omega)));(repeat' (first|(with_reducible first|exact Kept.refl _ _|exact K1.out|refine Kept.setRow ?_ ?_ _|refine Kept.setNew ?_ ?_ _|refine Kept.alloc ?_ _)|(with_reducible change (_:Nat)≤_;(try simp)<;>omega))))
         case neg =>
          by_cases q39:p=39
          case pos =>
           subst q39
           have hE:r=.ok (lookT 6,at_):=by rw [HR0.out];rfl
           subst hE
           go_enter Try.func47,Try.ntmps47
           go_wp2_with (first|(go_at_call 38;refine Calls.mono (look_st _ (?_:St b n c d A l (at_) _)) ?_;(repeat' (first|(with_reducible first|exact H.out|refine St.setRow ?_ ?_ _|refine St.setOther ?_ ?_ _|refine St.alloc ?_ _)|(with_reducible change (_:Nat) < _;(try simp)<;>omega)));rintro e w1 ⟨rfl,h1,k1⟩;have H1:=Lib.hid h1;obtain ⟨ca1,cb1,cc1,cf1⟩:=H1.out.rd.cells;clear cb1;have hB1:=H1.out.lt;have hs1:=k1.size;(try simp at hs1);(have hl1:w.heap.size < w1.heap.size:=by omega);have HZ1:=Lib.hid ((k1.block w.heap.size (by (try simp)<;>omega) hb0).trans (show _=some Z24 by (repeat' (first|(with_reducible first|exact hz_new|refine hz_set ?_ ?_|refine hz_row ?_ ?_|refine hz_alloc ?_)|(with_reducible change (_:Nat)≠_;(try simp)<;>omega)))));have K1:Hid (Kept b w w1):=Lib.hid (Kept.trans (w1:=_) (by (repeat' (first|(with_reducible first|exact Kept.refl _ _|refine Kept.setRow ?_ ?_ _|refine Kept.setNew ?_ ?_ _|refine Kept.alloc ?_ _)|(with_reducible change (_:Nat)≤_;(try simp)<;>omega)))) k1);clear h1 k1)|((with_reducible apply store24 (g:=w.heap.size));rfl;(with_reducible rfl);rfl;rfl;(repeat' (first|(with_reducible first|exact HZ1.out|exact hz_new|refine hz_set ?_ ?_|refine hz_row ?_ ?_|refine hz_alloc ?_)|(with_reducible change (_:Nat)≠_;(try simp)<;>omega)));rfl;rfl))
           ((try simp only [Exit.inBlock,Exit.then]);refine bodyPost_ret (v:=_) (results24 Try.results47 _ _ w.heap.size _ ?_ (row24 ?_) ?_) rfl ⟨⟨rfl,?_⟩,?_⟩;rfl;(repeat' (first|(with_reducible first|exact HZ1.out|exact hz_new|refine hz_set ?_ ?_|refine hz_row ?_ ?_|refine hz_alloc ?_)|(with_reducible change (_:Nat)≠_;(try simp)<;>omega)));rfl;(repeat' (first|(with_reducible first|exact H1.out|refine St.setRow ?_ ?_ _|refine St.setOther ?_ ?_ _|refine St.alloc ?_ _)|(with_reducible change (_:Nat) < _;(try simp)<;>omega)));(repeat' (first|(with_reducible first|exact Kept.refl _ _|exact K1.out|refine Kept.setRow ?_ ?_ _|refine Kept.setNew ?_ ?_ _|refine Kept.alloc ?_ _)|(with_reducible change (_:Nat)≤_;(try simp)<;>omega))))
          case neg =>
           have z40:(p == 40)=false:=by simpa using q40
           have z41:(p == 41)=false:=by simpa using q41
           have z124:(p == 124)=false:=by simpa using q124
           have z123:(p == 123)=false:=by simpa using q123
           have z119:(p == 119)=false:=by simpa using q119
           have z87:(p == 87)=false:=by simpa using q87
           have z98:(p == 98)=false:=by simpa using q98
           have z66:(p == 66)=false:=by simpa using q66
           have z96:(p == 96)=false:=by simpa using q96
           have z39:(p == 39)=false:=by simpa using q39
           by_cases h9:49≤p∧p≤57
           case pos =>
            have hE:r=.ok ({ kind:=10,num:=p - 48 },at_):=by rw [HR0.out];simp [emacsP,q40,q41,q124,q123,q119,q87,q98,q66,q96,q39,h9]
            subst hE
            obtain ⟨h91,h92⟩:=h9
            clear q40 q41 q124 q123 q119 q87 q98 q66 q96 q39
            go_enter Try.func47,Try.ntmps47
            go_wp2_with (first|(go_at_call 52;refine Calls.mono (again_st _ (?_:St b n c d A l (at_) _)) ?_;(repeat' (first|(with_reducible first|exact H.out|refine St.setRow ?_ ?_ _|refine St.setOther ?_ ?_ _|refine St.alloc ?_ _)|(with_reducible change (_:Nat) < _;(try simp)<;>omega)));rintro e w1 ⟨rfl,h1,k1⟩;have H1:=Lib.hid h1;obtain ⟨ca1,cb1,cc1,cf1⟩:=H1.out.rd.cells;clear cb1;have hB1:=H1.out.lt;have hs1:=k1.size;(try simp at hs1);(have hl1:w.heap.size < w1.heap.size:=by omega);have HZ1:=Lib.hid ((k1.block w.heap.size (by (try simp)<;>omega) hb0).trans (show _=some Z24 by (repeat' (first|(with_reducible first|exact hz_new|refine hz_set ?_ ?_|refine hz_row ?_ ?_|refine hz_alloc ?_)|(with_reducible change (_:Nat)≠_;(try simp)<;>omega)))));have K1:Hid (Kept b w w1):=Lib.hid (Kept.trans (w1:=_) (by (repeat' (first|(with_reducible first|exact Kept.refl _ _|refine Kept.setRow ?_ ?_ _|refine Kept.setNew ?_ ?_ _|refine Kept.alloc ?_ _)|(with_reducible change (_:Nat)≤_;(try simp)<;>omega)))) k1);clear h1 k1)|((with_reducible apply store24 (g:=w.heap.size));rfl;(with_reducible rfl);rfl;rfl;(repeat' (first|(with_reducible first|exact HZ1.out|exact hz_new|refine hz_set ?_ ?_|refine hz_row ?_ ?_|refine hz_alloc ?_)|(with_reducible change (_:Nat)≠_;(try simp)<;>omega)));rfl;rfl))
            ((try simp only [Exit.inBlock,Exit.then]);refine bodyPost_ret (v:=_) (results24 Try.results47 _ _ w.heap.size _ ?_ (row24 ?_) ?_) rfl ⟨⟨rfl,?_⟩,?_⟩;rfl;(repeat' (first|(with_reducible first|exact HZ1.out|exact hz_new|refine hz_set ?_ ?_|refine hz_row ?_ ?_|refine hz_alloc ?_)|(with_reducible change (_:Nat)≠_;(try simp)<;>omega)));rfl;(repeat' (first|(with_reducible first|exact H1.out|refine St.setRow ?_ ?_ _|refine St.setOther ?_ ?_ _|refine St.alloc ?_ _)|(with_reducible change (_:Nat) < _;(try simp)<;>omega)));(repeat' (first|(with_reducible first|exact Kept.refl _ _|exact K1.out|refine Kept.setRow ?_ ?_ _|refine Kept.setNew ?_ ?_ _|refine Kept.alloc ?_ _)|(with_reducible change (_:Nat)≤_;(try simp)<;>omega))))
           case neg =>
            have hE:r=.ok (pointT p,at_):=by rw [HR0.out];simp only [emacsP];rw [if_neg q40];rw [if_neg q41];rw [if_neg q124];rw [if_neg q123];rw [if_neg q119];rw [if_neg q87];rw [if_neg q98];rw [if_neg q66];rw [if_neg q96];rw [if_neg q39];rw [if_neg h9]
            subst hE
            clear q40 q41 q124 q123 q119 q87 q98 q66 q96 q39
            by_cases h91:49≤p
            case pos =>
             have h92:decide (p≤57)=false:=by simp;omega
             clear h9
             go_enter Try.func47,Try.ntmps47
             go_wp2_with (first|(go_at_call 41;refine Calls.mono (point_st _ (?_:St b n c d A l (at_) _)) ?_;(repeat' (first|(with_reducible first|exact H.out|refine St.setRow ?_ ?_ _|refine St.setOther ?_ ?_ _|refine St.alloc ?_ _)|(with_reducible change (_:Nat) < _;(try simp)<;>omega)));rintro e w1 ⟨rfl,h1,k1⟩;have H1:=Lib.hid h1;obtain ⟨ca1,cb1,cc1,cf1⟩:=H1.out.rd.cells;clear cb1;have hB1:=H1.out.lt;have hs1:=k1.size;(try simp at hs1);(have hl1:w.heap.size < w1.heap.size:=by omega);have HZ1:=Lib.hid ((k1.block w.heap.size (by (try simp)<;>omega) hb0).trans (show _=some Z24 by (repeat' (first|(with_reducible first|exact hz_new|refine hz_set ?_ ?_|refine hz_row ?_ ?_|refine hz_alloc ?_)|(with_reducible change (_:Nat)≠_;(try simp)<;>omega)))));have K1:Hid (Kept b w w1):=Lib.hid (Kept.trans (w1:=_) (by (repeat' (first|(with_reducible first|exact Kept.refl _ _|refine Kept.setRow ?_ ?_ _|refine Kept.setNew ?_ ?_ _|refine Kept.alloc ?_ _)|(with_reducible change (_:Nat)≤_;(try simp)<;>omega)))) k1);clear h1 k1)|((with_reducible apply store24 (g:=w.heap.size));rfl;(with_reducible rfl);rfl;rfl;(repeat' (first|(with_reducible first|exact HZ1.out|exact hz_new|refine hz_set ?_ ?_|refine hz_row ?_ ?_|refine hz_alloc ?_)|(with_reducible change (_:Nat)≠_;(try simp)<;>omega)));rfl;rfl))
             ((try simp only [Exit.inBlock,Exit.then]);refine bodyPost_ret (v:=_) (results24 Try.results47 _ _ w.heap.size _ ?_ (row24 ?_) ?_) rfl ⟨⟨rfl,?_⟩,?_⟩;rfl;(repeat' (first|(with_reducible first|exact HZ1.out|exact hz_new|refine hz_set ?_ ?_|refine hz_row ?_ ?_|refine hz_alloc ?_)|(with_reducible change (_:Nat)≠_;(try simp)<;>omega)));rfl;(repeat' (first|(with_reducible first|exact H1.out|refine St.setRow ?_ ?_ _|refine St.setOther ?_ ?_ _|refine St.alloc ?_ _)|(with_reducible change (_:Nat) < _;(try simp)<;>omega)));(repeat' (first|(with_reducible first|exact Kept.refl _ _|exact K1.out|refine Kept.setRow ?_ ?_ _|refine Kept.setNew ?_ ?_ _|refine Kept.alloc ?_ _)|(with_reducible change (_:Nat)≤_;(try simp)<;>omega))))
            case neg =>
             have h92:decide (49≤p)=false:=by simp;omega
             clear h9
             go_enter Try.func47,Try.ntmps47
             go_wp2_with (first|(go_at_call 41;refine Calls.mono (point_st _ (?_:St b n c d A l (at_) _)) ?_;(repeat' (first|(with_reducible first|exact H.out|refine St.setRow ?_ ?_ _|refine St.setOther ?_ ?_ _|refine St.alloc ?_ _)|(with_reducible change (_:Nat) < _;(try simp)<;>omega)));rintro e w1 ⟨rfl,h1,k1⟩;have H1:=Lib.hid h1;obtain ⟨ca1,cb1,cc1,cf1⟩:=H1.out.rd.cells;clear cb1;have hB1:=H1.out.lt;have hs1:=k1.size;(try simp at hs1);(have hl1:w.heap.size < w1.heap.size:=by omega);have HZ1:=Lib.hid ((k1.block w.heap.size (by (try simp)<;>omega) hb0).trans (show _=some Z24 by (repeat' (first|(with_reducible first|exact hz_new|refine hz_set ?_ ?_|refine hz_row ?_ ?_|refine hz_alloc ?_)|(with_reducible change (_:Nat)≠_;(try simp)<;>omega)))));have K1:Hid (Kept b w w1):=Lib.hid (Kept.trans (w1:=_) (by (repeat' (first|(with_reducible first|exact Kept.refl _ _|refine Kept.setRow ?_ ?_ _|refine Kept.setNew ?_ ?_ _|refine Kept.alloc ?_ _)|(with_reducible change (_:Nat)≤_;(try simp)<;>omega)))) k1);clear h1 k1)|((with_reducible apply store24 (g:=w.heap.size));rfl;(with_reducible rfl);rfl;rfl;(repeat' (first|(with_reducible first|exact HZ1.out|exact hz_new|refine hz_set ?_ ?_|refine hz_row ?_ ?_|refine hz_alloc ?_)|(with_reducible change (_:Nat)≠_;(try simp)<;>omega)));rfl;rfl))
             ((try simp only [Exit.inBlock,Exit.then]);refine bodyPost_ret (v:=_) (results24 Try.results47 _ _ w.heap.size _ ?_ (row24 ?_) ?_) rfl ⟨⟨rfl,?_⟩,?_⟩;rfl;(repeat' (first|(with_reducible first|exact HZ1.out|exact hz_new|refine hz_set ?_ ?_|refine hz_row ?_ ?_|refine hz_alloc ?_)|(with_reducible change (_:Nat)≠_;(try simp)<;>omega)));rfl;(repeat' (first|(with_reducible first|exact H1.out|refine St.setRow ?_ ?_ _|refine St.setOther ?_ ?_ _|refine St.alloc ?_ _)|(with_reducible change (_:Nat) < _;(try simp)<;>omega)));(repeat' (first|(with_reducible first|exact Kept.refl _ _|exact K1.out|refine Kept.setRow ?_ ?_ _|refine Kept.setNew ?_ ?_ _|refine Kept.alloc ?_ _)|(with_reducible change (_:Nat)≤_;(try simp)<;>omega))))
end Go.Proofs.Ytmjlmjlkghpknaa
