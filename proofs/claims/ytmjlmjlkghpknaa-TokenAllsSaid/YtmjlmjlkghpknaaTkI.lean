/- A brace; what opens a group: walked. -/
import Derived.Test.YtmjlmjlkghpknaaTkG
set_option linter.unusedVariables false
set_option linter.unusedSimpArgs false
namespace Go.Proofs.Ytmjlmjlkghpknaa
open Go.RowKit
/-- what a method of the reader leaves -/
def TOut (b n c:Nat) (d:Int) (A:Option Addr) (l:List Int):TR→Ending→World→Prop
 | .ok p,e,w=>e=.returned p.1.agg∧St b n c d A l p.2 w
 | .error x,e,_=>e=.panicked (wrongV x)
section
variable {b n c:Nat} {d at_:Int} {A:Option Addr} {l:List Int} {w:World}
theorem point_st (p:Int) (h:St b n c d A l at_ w):Calls Try.prog 41 #[.int .i64 p] w fun e w'=>e=.returned (.agg #[.int .i64 1,.int .i64 p,.string ⟨#[]⟩,.bool false,.int .i64 0,.int .i64 0,.int .i64 0,.int .i64 0])∧St b n c d A l at_ w'∧Kept b w w' :=
 (point41 p w).mono fun _ _ ⟨e,hb⟩=>⟨e,h.next hb,Kept.of hb⟩
theorem look_st (p:Int) (h:St b n c d A l at_ w):Calls Try.prog 38 #[.int .i64 p] w fun e w'=>e=.returned (.agg #[.int .i64 3,.int .i64 p,.string ⟨#[]⟩,.bool false,.int .i64 0,.int .i64 0,.int .i64 0,.int .i64 0])∧St b n c d A l at_ w'∧Kept b w w' :=
 (look38 p w).mono fun _ _ ⟨e,hb⟩=>⟨e,h.next hb,Kept.of hb⟩
theorem again_st (p:Int) (h:St b n c d A l at_ w):Calls Try.prog 52 #[.int .i64 p] w fun e w'=>e=.returned (.agg #[.int .i64 10,.int .i64 p,.string ⟨#[]⟩,.bool false,.int .i64 0,.int .i64 0,.int .i64 0,.int .i64 0])∧St b n c d A l at_ w'∧Kept b w w' :=
 (again52 p w).mono fun _ _ ⟨e,hb⟩=>⟨e,h.next hb,Kept.of hb⟩
theorem name_none (h:St b n c d A l at_ w) (h0:nameLen l at_=0):Calls Try.prog 57 #[.pointer (some ⟨b,0,none⟩)] w fun e w'=>e=.returned (.string ⟨#[]⟩)∧St b n c d A l at_ w'∧Kept b w w':=by
 have C:=name57 h
 rw [h0] at C
 exact C.mono fun _ _ ⟨e,h1,h2⟩=>⟨e,by simpa using h1,h2⟩
theorem name_some (nm:List UInt8) (K:Nat) (h:St b n c d A l at_ w) (hn:nm=bytesP (runPts l at_ (nameLen l at_))∧K=nameLen l at_):Calls Try.prog 57 #[.pointer (some ⟨b,0,none⟩)] w fun e w'=>e=.returned (.string ⟨nm.toArray⟩)∧St b n c d A l (at_+K) w'∧Kept b w w':=by
 have C:=name57 h
 rw [← hn.1,← hn.2] at C
 exact C.mono fun _ _ ⟨e,h1,h2⟩=>⟨e,h1,h2⟩
theorem name_full {l:List Int} {at_:Int} {nm:List UInt8} {K:Nat} (hn:nm=bytesP (runPts l at_ (nameLen l at_))∧K=nameLen l at_) (h0:K≠0):nm.isEmpty=false:=by
 rw [hn.1]
 cases hb:bytesP (runPts l at_ (nameLen l at_)) with
 | nil =>
  have:=congrArg List.length hb
  simp [bytesP,runPts_length] at this
  omega
 | cons=>rfl
theorem interval_none (h:St b n c d A l at_ w) (hi:intervalP d l at_=none):Calls Try.prog 59 #[.pointer (some ⟨b,0,none⟩)] w fun e w'=>e=.returned (.tuple #[.agg #[.int .i64 0,.int .i64 0,.string ⟨#[]⟩,.bool false,.int .i64 0,.int .i64 0,.int .i64 0,.int .i64 0],.bool false])∧St b n c d A l at_ w'∧Kept b w w':=by
 have C:=interval59 h
 rw [hi] at C
 exact C.mono fun _ _ ⟨⟨e,h1⟩,h2⟩=>⟨e,h1,h2⟩
theorem interval_ok (t:Tk) (nx:Int) (h:St b n c d A l at_ w) (hi:intervalP d l at_=some (.ok (t,nx))):Calls Try.prog 59 #[.pointer (some ⟨b,0,none⟩)] w fun e w'=>e=.returned (.tuple #[.agg #[.int .i64 t.kind,.int .i64 t.num,.string ⟨t.text.toArray⟩,.bool t.not_,.int .i64 t.least,.int .i64 t.most,.int .i64 t.way,.int .i64 t.fold],.bool true])∧St b n c d A l nx w'∧Kept b w w':=by
 have C:=interval59 h
 rw [hi] at C
 exact C.mono fun _ _ ⟨⟨e,h1⟩,h2⟩=>⟨e,h1,h2⟩
theorem interval_bad (x:Int) (h:St b n c d A l at_ w) (hi:intervalP d l at_=some (.error x)):Calls Try.prog 59 #[.pointer (some ⟨b,0,none⟩)] w fun e w'=>e=.panicked (wrongV x)∧Kept b w w':=by
 have C:=interval59 h
 rw [hi] at C
 exact C.mono fun _ _ ⟨e,h2⟩=>⟨e,h2⟩
/-- a method that gives a token, by its outcome -/
theorem tout_ok {g:Nat} {args:Array Value} {r:TR} {t:Tk} {nx:Int} (C:Calls Try.prog g args w fun e w'=>TOut b n c d A l r e w'∧Kept b w w') (hr:r=.ok (t,nx)):Calls Try.prog g args w fun e w'=>e=.returned (.agg #[.int .i64 t.kind,.int .i64 t.num,.string ⟨t.text.toArray⟩,.bool t.not_,.int .i64 t.least,.int .i64 t.most,.int .i64 t.way,.int .i64 t.fold])∧St b n c d A l nx w'∧Kept b w w':=by
 subst hr
 exact C.mono fun _ _ ⟨⟨e,h1⟩,h2⟩=>⟨e,h1,h2⟩
theorem tout_bad {g:Nat} {args:Array Value} {r:TR} {x:Int} (C:Calls Try.prog g args w fun e w'=>TOut b n c d A l r e w'∧Kept b w w') (hr:r=.error x):Calls Try.prog g args w fun e w'=>e=.panicked (wrongV x)∧Kept b w w':=by
 subst hr
 exact C.mono fun _ _ ⟨e,h2⟩=>⟨e,h2⟩
end
set_option maxRecDepth 100000 in
set_option maxHeartbeats 8000000 in
theorem brace43 {b n c:Nat} {d at_:Int} {A:Option Addr} {l:List Int} {w:World} (p:Int) (h:St b n c d A l at_ w) :
  Calls Try.prog 43 #[.pointer (some ⟨b,0,none⟩),.int .i64 p] w fun e w'=>TOut b n c d A l (braceP d l at_ p) e w'∧Kept b w w':=by
 have H:=Lib.hid h
 have hlt:=h.lt
 have hb0:¬ w.heap.size=b:=by omega
 clear h
 unfold braceP
 cases hi:intervalP d l at_ with
 | none =>
  have HI:=Lib.hid hi
  clear hi
  by_cases hd:d=1
  ·have HD:=Lib.hid hd
   have hdn:(d != 1)=false:=by simp [hd]
   clear hd
   simp only [if_pos HD.out]
   go_enter Try.func43,Try.ntmps43
   go_wp2_with (go_at_call 59;refine Calls.mono (interval_none (?_:St b n c d A l (at_) _) HI.out) ?_;(repeat' (first|(with_reducible first|exact H.out|refine St.setRow ?_ ?_ _|refine St.setOther ?_ ?_ _|refine St.alloc ?_ _)|(with_reducible change (_:Nat) < _;(try simp)<;>omega)));rintro e w1 ⟨rfl,h1,k1⟩;have H1:=Lib.hid h1;obtain ⟨ca1,cb1,cc1,cf1⟩:=H1.out.rd.cells;clear cb1;have hB1:=H1.out.lt;have hs1:=k1.size;(try simp at hs1);(have hl1:w.heap.size < w1.heap.size:=by omega);have HZ1:=Lib.hid ((k1.block w.heap.size (by (try simp)<;>omega) hb0).trans (show _=some Z24 by (repeat' (first|(with_reducible first|exact hz_new|refine hz_set ?_ ?_|refine hz_row ?_ ?_|refine hz_alloc ?_)|(with_reducible change (_:Nat)≠_;(try simp)<;>omega)))));have K1:Hid (Kept b w w1):=Lib.hid (Kept.trans (w1:=_) (by (repeat' (first|(with_reducible first|exact Kept.refl _ _|refine Kept.setRow ?_ ?_ _|refine Kept.setNew ?_ ?_ _|refine Kept.alloc ?_ _)|(with_reducible change (_:Nat)≤_;(try simp)<;>omega)))) k1);clear h1 k1)
   go_wp2_with (first|(go_at_call 41;refine Calls.mono (point_st _ (?_:St b n c d A l (at_) _)) ?_;(repeat' (first|(with_reducible first|exact H1.out|refine St.setRow ?_ ?_ _|refine St.setOther ?_ ?_ _|refine St.alloc ?_ _)|(with_reducible change (_:Nat) < _;(try simp)<;>omega)));rintro e w2 ⟨rfl,h2,k2⟩;have H2:=Lib.hid h2;obtain ⟨ca2,cb2,cc2,cf2⟩:=H2.out.rd.cells;clear cb2;have hB2:=H2.out.lt;have hs2:=k2.size;(try simp at hs2);(have hl2:w.heap.size < w2.heap.size:=by omega);have HZ2:=Lib.hid ((k2.block w.heap.size (by (try simp)<;>omega) hb0).trans (show _=some Z24 by (repeat' (first|(with_reducible first|exact HZ1.out|exact hz_new|refine hz_set ?_ ?_|refine hz_row ?_ ?_|refine hz_alloc ?_)|(with_reducible change (_:Nat)≠_;(try simp)<;>omega)))));have K2:Hid (Kept b w w2):=Lib.hid (Kept.trans (w1:=_) (by (repeat' (first|(with_reducible first|exact Kept.refl _ _|exact K1.out|refine Kept.setRow ?_ ?_ _|refine Kept.setNew ?_ ?_ _|refine Kept.alloc ?_ _)|(with_reducible change (_:Nat)≤_;(try simp)<;>omega)))) k2);clear h2 k2)|((with_reducible apply store24 (g:=w.heap.size));rfl;(with_reducible rfl);rfl;rfl;(repeat' (first|(with_reducible first|exact HZ2.out|exact hz_new|refine hz_set ?_ ?_|refine hz_row ?_ ?_|refine hz_alloc ?_)|(with_reducible change (_:Nat)≠_;(try simp)<;>omega)));rfl;rfl))
   ((try simp only [Exit.inBlock,Exit.then]);refine bodyPost_ret (v:=_) (results24 Try.results43 _ _ w.heap.size _ ?_ (row24 ?_) ?_) rfl ⟨⟨rfl,?_⟩,?_⟩;rfl;(repeat' (first|(with_reducible first|exact HZ2.out|exact hz_new|refine hz_set ?_ ?_|refine hz_row ?_ ?_|refine hz_alloc ?_)|(with_reducible change (_:Nat)≠_;(try simp)<;>omega)));rfl;(repeat' (first|(with_reducible first|exact H2.out|refine St.setRow ?_ ?_ _|refine St.setOther ?_ ?_ _|refine St.alloc ?_ _)|(with_reducible change (_:Nat) < _;(try simp)<;>omega)));(repeat' (first|(with_reducible first|exact Kept.refl _ _|exact K2.out|refine Kept.setRow ?_ ?_ _|refine Kept.setNew ?_ ?_ _|refine Kept.alloc ?_ _)|(with_reducible change (_:Nat)≤_;(try simp)<;>omega))))
  ·have HD:=Lib.hid hd
   have hdn:(d != 1)=true:=by simpa using hd
   clear hd
   simp only [if_neg HD.out]
   go_enter Try.func43,Try.ntmps43
   go_wp2_with (go_at_call 59;refine Calls.mono (interval_none (?_:St b n c d A l (at_) _) HI.out) ?_;(repeat' (first|(with_reducible first|exact H.out|refine St.setRow ?_ ?_ _|refine St.setOther ?_ ?_ _|refine St.alloc ?_ _)|(with_reducible change (_:Nat) < _;(try simp)<;>omega)));rintro e w1 ⟨rfl,h1,k1⟩;have H1:=Lib.hid h1;obtain ⟨ca1,cb1,cc1,cf1⟩:=H1.out.rd.cells;clear cb1;have hB1:=H1.out.lt;have hs1:=k1.size;(try simp at hs1);(have hl1:w.heap.size < w1.heap.size:=by omega);have HZ1:=Lib.hid ((k1.block w.heap.size (by (try simp)<;>omega) hb0).trans (show _=some Z24 by (repeat' (first|(with_reducible first|exact hz_new|refine hz_set ?_ ?_|refine hz_row ?_ ?_|refine hz_alloc ?_)|(with_reducible change (_:Nat)≠_;(try simp)<;>omega)))));have K1:Hid (Kept b w w1):=Lib.hid (Kept.trans (w1:=_) (by (repeat' (first|(with_reducible first|exact Kept.refl _ _|refine Kept.setRow ?_ ?_ _|refine Kept.setNew ?_ ?_ _|refine Kept.alloc ?_ _)|(with_reducible change (_:Nat)≤_;(try simp)<;>omega)))) k1);clear h1 k1)
   go_wp2_with (go_at_call 46;refine (fail46 _ _).mono ?_;rintro e w' ⟨rfl,rfl⟩)
   exact ⟨rfl,rfl,by (repeat' (first|(with_reducible first|exact Kept.refl _ _|exact K1.out|refine Kept.setRow ?_ ?_ _|refine Kept.setNew ?_ ?_ _|refine Kept.alloc ?_ _)|(with_reducible change (_:Nat)≤_;(try simp)<;>omega)))⟩
 | some r =>
  cases r with
  | error x =>
   have HI:=Lib.hid hi
   clear hi
   go_enter Try.func43,Try.ntmps43
   go_wp2_with (go_at_call 59;refine Calls.mono (interval_bad x (?_:St b n c d A l at_ _) HI.out) ?_;(repeat' (first|(with_reducible first|exact H.out|refine St.setRow ?_ ?_ _|refine St.setOther ?_ ?_ _|refine St.alloc ?_ _)|(with_reducible change (_:Nat) < _;(try simp)<;>omega)));rintro e w1 ⟨rfl,k1⟩;have K1:Hid (Kept b w w1):=Lib.hid (Kept.trans (w1:=_) (by (repeat' (first|(with_reducible first|exact Kept.refl _ _|refine Kept.setRow ?_ ?_ _|refine Kept.setNew ?_ ?_ _|refine Kept.alloc ?_ _)|(with_reducible change (_:Nat)≤_;(try simp)<;>omega)))) k1);clear k1)
   exact ⟨rfl,rfl,K1.out⟩
  | ok p =>
   obtain ⟨t,nx⟩:=p
   have HI:=Lib.hid hi
   clear hi
   go_enter Try.func43,Try.ntmps43
   go_wp2_with (first|(go_at_call 59;refine Calls.mono (interval_ok t nx (?_:St b n c d A l (at_) _) HI.out) ?_;(repeat' (first|(with_reducible first|exact H.out|refine St.setRow ?_ ?_ _|refine St.setOther ?_ ?_ _|refine St.alloc ?_ _)|(with_reducible change (_:Nat) < _;(try simp)<;>omega)));rintro e w1 ⟨rfl,h1,k1⟩;have H1:=Lib.hid h1;obtain ⟨ca1,cb1,cc1,cf1⟩:=H1.out.rd.cells;clear cb1;have hB1:=H1.out.lt;have hs1:=k1.size;(try simp at hs1);(have hl1:w.heap.size < w1.heap.size:=by omega);have HZ1:=Lib.hid ((k1.block w.heap.size (by (try simp)<;>omega) hb0).trans (show _=some Z24 by (repeat' (first|(with_reducible first|exact hz_new|refine hz_set ?_ ?_|refine hz_row ?_ ?_|refine hz_alloc ?_)|(with_reducible change (_:Nat)≠_;(try simp)<;>omega)))));have K1:Hid (Kept b w w1):=Lib.hid (Kept.trans (w1:=_) (by (repeat' (first|(with_reducible first|exact Kept.refl _ _|refine Kept.setRow ?_ ?_ _|refine Kept.setNew ?_ ?_ _|refine Kept.alloc ?_ _)|(with_reducible change (_:Nat)≤_;(try simp)<;>omega)))) k1);clear h1 k1)|((with_reducible apply store24 (g:=w.heap.size));rfl;(with_reducible rfl);rfl;rfl;(repeat' (first|(with_reducible first|exact HZ1.out|exact hz_new|refine hz_set ?_ ?_|refine hz_row ?_ ?_|refine hz_alloc ?_)|(with_reducible change (_:Nat)≠_;(try simp)<;>omega)));rfl;rfl))
   ((try simp only [Exit.inBlock,Exit.then]);refine bodyPost_ret (v:=_) (results24 Try.results43 _ _ w.heap.size _ ?_ (row24 ?_) ?_) rfl ⟨⟨rfl,?_⟩,?_⟩;rfl;(repeat' (first|(with_reducible first|exact HZ1.out|exact hz_new|refine hz_set ?_ ?_|refine hz_row ?_ ?_|refine hz_alloc ?_)|(with_reducible change (_:Nat)≠_;(try simp)<;>omega)));rfl;(repeat' (first|(with_reducible first|exact H1.out|refine St.setRow ?_ ?_ _|refine St.setOther ?_ ?_ _|refine St.alloc ?_ _)|(with_reducible change (_:Nat) < _;(try simp)<;>omega)));(repeat' (first|(with_reducible first|exact Kept.refl _ _|exact K1.out|refine Kept.setRow ?_ ?_ _|refine Kept.setNew ?_ ?_ _|refine Kept.alloc ?_ _)|(with_reducible change (_:Nat)≤_;(try simp)<;>omega))))
end Go.Proofs.Ytmjlmjlkghpknaa
