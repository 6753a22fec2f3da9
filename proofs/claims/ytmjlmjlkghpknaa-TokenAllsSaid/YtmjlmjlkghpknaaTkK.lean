/- A class by its letter: walked. -/
import Derived.Test.YtmjlmjlkghpknaaTkJ
set_option linter.unusedVariables false
set_option linter.unusedSimpArgs false
namespace Go.Proofs.Ytmjlmjlkghpknaa
open Go.RowKit Go.Maps
noncomputable abbrev ps {H:Type}:Value→Option (DataW H × List MemPlace):=plainElem Try.prog 9
theorem insS {w:World} {g n:Nat} {D:DataW Unit} (h:w.ownsMap (H:=Unit) Try.prog 3 ps g n D) (hn:n < maxLen) (k:Int) (hk:(Lit.int .i64 k).wf=true) (s:ByteArray) (hs:s.size≤maxLen) :
  ∃ w',(Instr.mapUpdate 79 (.map (some g)) (.int .i64 k) (.string s)).run Try.prog w=.ok () w'∧w'.ownsMap (H:=Unit) Try.prog 3 ps g (n+1) (D.put (.int .i64 k) (.lit (.string s.data.toList)))∧w.grownBy w' (some g) :=
 h.update (int_keyed Try.underlying3) Try.underlying79 hn (keyOf_int_mk Try.underlying3 hk) (plainElem_string Try.underlying9 hs)
theorem ps_string {H:Type} {v:Value} {l:List UInt8} {p:List MemPlace} (h:ps (H:=H) v=some (.lit (.string l),p)):v=.string ⟨l.toArray⟩:=by
 obtain ⟨s,hs⟩:=plainElem_string_inv Try.underlying9 h
 have h1:=hs.1
 have h2:=congrArg Prod.fst hs.2.1
 simp only [DataW.lit.injEq,Lit.string.injEq] at h2
 rw [h1,h2]
theorem lookOk {w:World} {g n:Nat} {D:DataW Unit} {l:List UInt8} {f:Bool} (h:w.ownsMap (H:=Unit) Try.prog 3 ps g n D) (k:Int) (hk:(Lit.int .i64 k).wf=true) (hD:D.atKey (.int .i64 k) (.lit (.string []))=.lit (.string l)) (hf:Maps.has D (.int .i64 k)=f) :
  (Instr.lookup 79 (.map (some g)) (.int .i64 k) true).run Try.prog w=.ok (.tuple #[.string ⟨l.toArray⟩,.bool f]) w:=by
 obtain ⟨v,p,hr,hv⟩:=h.look_ok (int_keyed Try.underlying3) Try.underlying79 (Try.zeroValue9 w) (z:=.string ⟨#[]⟩) (plainElem_string Try.underlying9 (s:=⟨#[]⟩) (by decide)) (keyOf_int_mk Try.underlying3 hk)
 rw [show (DataW.atKey D (.int .i64 k) (.lit (.string (⟨#[]⟩:ByteArray).data.toList)))=.lit (.string l) from hD] at hv
 rw [hr,ps_string hv,hf]
def D4:DataW Unit:=((((DataW.map []).put (.int .i64 100) (.lit (.string [100,105,103,105,116]))).put (.int .i64 119) (.lit (.string [119,111,114,100]))).put (.int .i64 115) (.lit (.string [115,112,97,99,101]))).put (.int .i64 104) (.lit (.string [120,100,105,103,105,116]))
def nameOf (p:Int):List UInt8:=if p=100 then [100,105,103,105,116] else if p=119 then [119,111,114,100] else if p=115 then [115,112,97,99,101] else if p=104 then [120,100,105,103,105,116] else []
def isCls (p:Int):Bool:=p == 100 || p == 119 || p == 115 || p == 104
theorem D4_eq:D4=.map [(.int .i64 100,.lit (.string [100,105,103,105,116])),(.int .i64 104,.lit (.string [120,100,105,103,105,116])),(.int .i64 115,.lit (.string [115,112,97,99,101])),(.int .i64 119,.lit (.string [119,111,114,100]))]:=rfl
theorem D4_at (p:Int):D4.atKey (.int .i64 p) (.lit (.string []))=.lit (.string (nameOf p))∧Maps.has D4 (.int .i64 p)=isCls p:=by
 by_cases h1:p=100
 ·subst h1;exact ⟨rfl,rfl⟩
 by_cases h2:p=119
 ·subst h2;exact ⟨rfl,rfl⟩
 by_cases h3:p=115
 ·subst h3;exact ⟨rfl,rfl⟩
 by_cases h4:p=104
 ·subst h4;exact ⟨rfl,rfl⟩
 rw [D4_eq]
 unfold nameOf isCls
 simp [h1,h2,h3,h4,DataW.atKey,Maps.has,Lit.sameKey,Ne.symm h1,Ne.symm h2,Ne.symm h3,Ne.symm h4]
 try omega
theorem classT_eq (p:Int) (h0:0≤p):classT p=if isCls p=true then some { kind:=4,text:=nameOf p } else if isCls (or32 p)=true then some { kind:=4,text:=nameOf (or32 p),not_:=true } else none:=by
 by_cases hs:p < 128
 ·obtain ⟨m,rfl⟩:=Int.eq_ofNat_of_zero_le h0
  have key:∀ m:Nat,m < 128→((isCls m=true→m=100∨m=119∨m=115∨m=104)∧(isCls (or32 m)=true→m=100∨m=119∨m=115∨m=104∨m=68∨m=87∨m=83∨m=72)):=by decide
  have hk:=key m (by omega)
  by_cases h1:isCls m=true
  ·rcases hk.1 h1 with rfl|rfl|rfl|rfl<;>rfl
  ·by_cases h2:isCls (or32 m)=true
   ·rcases hk.2 h2 with rfl|rfl|rfl|rfl|rfl|rfl|rfl|rfl<;>rfl
   ·rw [if_neg h1,if_neg h2]
    unfold classT
    have hn:∀ q:Nat,(q=100∨q=119∨q=115∨q=104∨q=68∨q=87∨q=83∨q=72)→m≠q:=by
     rintro q (rfl|rfl|rfl|rfl|rfl|rfl|rfl|rfl) rfl<;>first|exact h1 (by decide)|exact h2 (by decide)
    have q1:=hn 100 (by decide);have q2:=hn 119 (by decide);have q3:=hn 115 (by decide);have q4:=hn 104 (by decide)
    have q5:=hn 68 (by decide);have q6:=hn 87 (by decide);have q7:=hn 83 (by decide);have q8:=hn 72 (by decide)
    repeat rw [if_neg (by omega)]
 ·have a:isCls p=false:=by unfold isCls;simp;omega
  have b:isCls (or32 p)=false:=by unfold isCls or32;simp;split<;>omega
  rw [a,b]
  unfold classT
  simp only [Bool.false_eq_true,if_false]
  repeat rw [if_neg (by omega)]
def ClassOut (p:Int) (e:Ending):Prop:=e=.returned (.tuple #[((classT p).getD {}).agg,.bool (classT p).isSome])
set_option maxRecDepth 100000 in
set_option maxHeartbeats 4000000 in
theorem class48 (p:Int) (h0:0≤p) (h1:p≤1114111) (w:World):Calls Try.prog 48 #[.int .i64 p] w fun e w'=>ClassOut p e∧Below w.heap.size w w':=by
 have hmm:=@run_makeMap Try.prog
 obtain ⟨W,hW⟩:∃ W,W=w.alloc (.cells #[.int .i64 0,.int .i64 0,.string ⟨#[]⟩,.bool false,.int .i64 0,.int .i64 0,.int .i64 0,.int .i64 0] 24):=⟨_,rfl⟩
 have hWs:W.heap.size=w.heap.size+1:=by rw [hW];simp
 have HM0:=Lib.hid (World.ownsMap_made (H:=Unit) W Try.prog 3 ps)
 obtain ⟨w1,r1,o1,g1⟩:=insS HM0.out (by unfold maxLen;omega) 100 (by decide) ⟨#[100,105,103,105,116]⟩ (by unfold maxLen;decide)
 obtain ⟨w2,r2,o2,g2⟩:=insS o1 (by unfold maxLen;omega) 119 (by decide) ⟨#[119,111,114,100]⟩ (by unfold maxLen;decide)
 obtain ⟨w3,r3,o3,g3⟩:=insS o2 (by unfold maxLen;omega) 115 (by decide) ⟨#[115,112,97,99,101]⟩ (by unfold maxLen;decide)
 obtain ⟨w4,r4,o4,g4⟩:=insS o3 (by unfold maxLen;omega) 104 (by decide) ⟨#[120,100,105,103,105,116]⟩ (by unfold maxLen;decide)
 have q0:(Lit.int .i64 p).wf=true:=by simp only [Lit.wf,Bool.and_eq_true,decide_eq_true_eq];exact ⟨by have:IntKind.i64.min=-9223372036854775808:=rfl;omega,by have:IntKind.i64.max=9223372036854775807:=rfl;omega⟩
 have hor:=bits_or32 p h0 (by omega)
 have hb:0≤or32 p∧or32 p≤2000000:=by unfold or32;split<;>omega
 have q1:(Lit.int .i64 (or32 p)).wf=true:=by simp only [Lit.wf,Bool.and_eq_true,decide_eq_true_eq];exact ⟨by have:IntKind.i64.min=-9223372036854775808:=rfl;omega,by have:IntKind.i64.max=9223372036854775807:=rfl;omega⟩
 have l1:=lookOk o4 p q0 (D4_at p).1 (D4_at p).2
 have l2:=lookOk o4 (or32 p) q1 (D4_at (or32 p)).1 (D4_at (or32 p)).2
 have s0:(W.alloc (.map #[] 0)).heap.size=W.heap.size+1:=by simp
 have B1:Below W.heap.size W w1:=Below.grown ((Below.refl _ _).alloc (Nat.le_refl _) _) g1 (by omega) (fun k hk=>by cases hk;exact Nat.le_refl _)
 have B2:Below W.heap.size W w2:=B1.grown g2 B1.size (fun k hk=>by cases hk;exact Nat.le_refl _)
 have B3:Below W.heap.size W w3:=B2.grown g3 B2.size (fun k hk=>by cases hk;exact Nat.le_refl _)
 have HB4:=Lib.hid (B3.grown g4 B3.size (fun k hk=>by cases hk;exact Nat.le_refl _))
 have HZ4:Hid (w4.heap[w.heap.size]?=some Z24):=Lib.hid (by rw [HB4.out.block _ (by omega),hW];exact heap_alloc_new w _)
 have HBW:Hid (Below w.heap.size w w4):=Lib.hid ((show Below w.heap.size w W by rw [hW];exact (Below.refl _ _).alloc (Nat.le_refl _) _).trans (HB4.out.mono (by omega)))
 have hw4:=HBW.out.size
 rw [hWs] at r1 r2 r3 r4 l1 l2
 clear o1 o2 o3 o4 g1 g2 g3 g4 B1 B2 B3 s0 HM0 q0 q1 HB4
 have HC:=Lib.hid (classT_eq p h0)
 unfold ClassOut
 rw [HC.out]
 obtain ⟨n1,hn1⟩:∃ n1,n1=nameOf p:=⟨_,rfl⟩
 obtain ⟨n2,hn2⟩:∃ n2,n2=nameOf (or32 p):=⟨_,rfl⟩
 obtain ⟨f1,hf1⟩:∃ f1,f1=isCls p:=⟨_,rfl⟩
 obtain ⟨f2,hf2⟩:∃ f2,f2=isCls (or32 p):=⟨_,rfl⟩
 rw [← hn1,← hf1] at l1
 rw [← hn2,← hf2] at l2
 rw [← hn1,← hn2,← hf1,← hf2]
 clear hn1 hn2 hf1 hf2 HC
 obtain ⟨y,hy⟩:∃ y,y=or32 p:=⟨_,rfl⟩
 rw [← hy] at hor l2 hb
 clear hy
 cases f1
 ·cases f2
  all_goals
   go_enter Try.func48,Try.ntmps48
   go_upto_region 1 with (fail)
   rw [← hW]
   clear hW
   go_wp2_with ((with_reducible apply store24 (g:=w.heap.size));rfl;(with_reducible rfl);rfl;rfl;(repeat' (first|(with_reducible first|exact HZ4.out|exact hz_new|refine hz_set ?_ ?_|refine hz_row ?_ ?_|refine hz_alloc ?_)|(with_reducible change (_:Nat)≠_;(try simp)<;>omega)));rfl;rfl)
   ((try simp only [Exit.inBlock,Exit.then]);refine bodyPost_ret (v:=_) (results24t Try.results48 _ _ w.heap.size _ (.bool _) ?_ ?_ (row24 ?_) ?_) rfl ⟨rfl,?_⟩;rfl;rfl;(repeat' (first|(with_reducible first|exact HZ4.out|exact hz_new|refine hz_set ?_ ?_|refine hz_row ?_ ?_|refine hz_alloc ?_)|(with_reducible change (_:Nat)≠_;(try simp)<;>omega)));rfl;exact Below.setRow HBW.out (Nat.le_refl _) _)
 ·go_enter Try.func48,Try.ntmps48
  go_upto_region 1 with (fail)
  rw [← hW]
  clear hW
  go_wp2_with ((with_reducible apply store24 (g:=w.heap.size));rfl;(with_reducible rfl);rfl;rfl;(repeat' (first|(with_reducible first|exact HZ4.out|exact hz_new|refine hz_set ?_ ?_|refine hz_row ?_ ?_|refine hz_alloc ?_)|(with_reducible change (_:Nat)≠_;(try simp)<;>omega)));rfl;rfl)
  ((try simp only [Exit.inBlock,Exit.then]);refine bodyPost_ret (v:=_) (results24t Try.results48 _ _ w.heap.size _ (.bool _) ?_ ?_ (row24 ?_) ?_) rfl ⟨rfl,?_⟩;rfl;rfl;(repeat' (first|(with_reducible first|exact HZ4.out|exact hz_new|refine hz_set ?_ ?_|refine hz_row ?_ ?_|refine hz_alloc ?_)|(with_reducible change (_:Nat)≠_;(try simp)<;>omega)));rfl;exact Below.setRow HBW.out (Nat.le_refl _) _)
end Go.Proofs.Ytmjlmjlkghpknaa
