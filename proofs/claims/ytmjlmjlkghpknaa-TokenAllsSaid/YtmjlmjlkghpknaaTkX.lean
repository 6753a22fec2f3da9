/- Next: walked. -/
import Derived.Test.YtmjlmjlkghpknaaTkW
import Derived.Test.YtmjlmjlkghpknaaTkQ
import Derived.Test.YtmjlmjlkghpknaaTkS
set_option linter.unusedVariables false
set_option linter.unusedSimpArgs false
namespace Go.Proofs.Ytmjlmjlkghpknaa
open Go.RowKit
theorem pts_small {l:List Int} (h:l.all okPt=true) (q:Int):ptAt l q≤1114111:=by
 unfold ptAt
 split
 ·rename_i hq
  have:=List.all_eq_true.1 h (l[q.toNat]'(by omega)) (List.getElem_mem _)
  unfold okPt at this;simp at this;exact this.2
 ·omega
theorem rightE_ok {d:Int} {l:List Int} (h:rightE d l=0):l.length≤300∧l.all okPt=true∧1≤d∧d≤3:=by
 unfold rightE at h
 split at h
 ·cases h
 ·split at h
  ·cases h
  ·split at h
   ·rename_i h1 h2 h3;exact ⟨by omega,h3,by omega,by omega⟩
   ·cases h
theorem raw_tok (d at_:Int) (l:List Int) (A:Option Addr) (n c:Nat) (w:World) (hr:rightE d l=0) (h0:0≤at_) (h1:at_ < n) (hc:n≤c) (ha:Rds w w.heap.size 1 A n (ints l)) :
  Calls Try.prog 15 #[.int .i64 d,.slice A n c,.int .i64 at_] w fun e w'=>ROut (tokenP d l at_) e∧Below w.heap.size w w' :=
 raw15 (fun b n c d at_ A l w hpa hat h=>token27 hpa hat h) d at_ l A n c w (pts_small (rightE_ok hr).2.1) h0 h1 (by have:=(rightE_ok hr).1;have:=ha.ints_len;omega) hc ha
/-- what Next tells -/
def nextR (d:Int) (l:List Int) (at_:Int):TR:=if rightE d l≠0 then .error (rightE d l) else if at_ < 0∨l.length≤at_ then .error 3 else tokenP d l at_
theorem results24q {fn:Func} {p u v:Tmp} (h:fn.results=#[.cell p 24,.tmp u,.tmp v]) (tmps:Array Value) (w:World) (g:Nat) (cs:Array Value) (x y:Value) (hp:tmps.getD p undef=.pointer (some ⟨g,0,none⟩)) (hu:tmps.getD u undef=x) (hv:tmps.getD v undef=y) (hg:w.heap[g]?=some (.cells cs 24 (0,0))) (hs:cs.size=8) :
  (results fn tmps).run Try.prog w=.ok (.tuple #[.agg cs,x,y]) w:=by
 have hl:=run_loadVar_row (P:=Try.prog) w g 24 24 cs (0,0) _ hg Try.underlying24 rfl (by rw [hs];exact info24)
 have hp':tmps[p]?.getD undef=.pointer (some ⟨g,0,none⟩):=by simpa using hp
 have hu':tmps[u]?.getD undef=x:=by simpa using hu
 have hv':tmps[v]?.getD undef=y:=by simpa using hv
 simp [results,h,hp',hu',hv',asAddr,hl,Sem.run_bind]
set_option maxRecDepth 100000 in
set_option maxHeartbeats 4000000 in
theorem next8 (d at_:Int) (l:List Int) (A:Option Addr) (n c:Nat) (w:World) (hn:n≤maxLen) (hc:n≤c) (ha:Rds w w.heap.size 1 A n (ints l)) :
  Calls Try.prog 8 #[.int .i64 d,.slice A n c,.int .i64 at_] w fun e w'=>ROut (nextR d l at_) e∧Below w.heap.size w w':=by
 have HLN:=Lib.hid ha.ints_len
 have HA:=Lib.hid ha
 have R:=Lib.hid (fun w' (h:Below w.heap.size w w')=>right14 d l A n c w.heap.size w' hn (ha.below h (Nat.le_refl _)))
 have hm:=hn
 unfold maxLen at hm
 obtain ⟨r,hr⟩:∃ r,r=nextR d l at_:=⟨_,rfl⟩
 rw [← hr]
 have HR:=Lib.hid hr
 clear hr ha hn
 have HZ0:Hid ((w.alloc (.cells #[.int .i64 0,.int .i64 0,.string ⟨#[]⟩,.bool false,.int .i64 0,.int .i64 0,.int .i64 0,.int .i64 0] 24)).heap[w.heap.size]?=some Z24):=Lib.hid hz_new
 have HB0:Hid (Below w.heap.size w (w.alloc (.cells #[.int .i64 0,.int .i64 0,.string ⟨#[]⟩,.bool false,.int .i64 0,.int .i64 0,.int .i64 0,.int .i64 0] 24))):=Lib.hid ((Below.refl _ _).alloc (Nat.le_refl _) _)
 have HS0:(w.alloc (.cells #[.int .i64 0,.int .i64 0,.string ⟨#[]⟩,.bool false,.int .i64 0,.int .i64 0,.int .i64 0,.int .i64 0] 24)).heap.size=w.heap.size+1:=by simp
 obtain ⟨W,hW⟩:∃ W,W=w.alloc (.cells #[.int .i64 0,.int .i64 0,.string ⟨#[]⟩,.bool false,.int .i64 0,.int .i64 0,.int .i64 0,.int .i64 0] 24):=⟨_,rfl⟩
 rw [← hW] at HZ0 HB0 HS0
 have HWS:=Lib.hid HS0
 have hlW:w.heap.size < W.heap.size:=by omega
 clear HS0
 obtain ⟨ee,hee⟩:∃ ee,ee=rightE d l:=⟨_,rfl⟩
 have R0:=Lib.hid (R.out W HB0.out)
 rw [← hee] at R0
 have HEE:=Lib.hid hee
 clear hee R
 by_cases h0:ee=0
 ·have h0':=h0
  rw [h0] at R0
  by_cases h1:0≤at_∧at_ < n
  ·obtain ⟨h11,h12⟩:=h1
   have T:=Lib.hid (raw_tok d at_ l A n c W (by rw [← HEE.out];exact h0) h11 h12 hc ((HA.out.below HB0.out (Nat.le_refl _)).more (by omega)))
   have hE:r=tokenP d l at_:=by rw [HR.out,nextR,← HEE.out,if_neg (by omega),if_neg (by rw [HLN.out];omega)]
   clear h0 h0'
   have h12i:¬ (n:Int)≤at_:=by omega
   cases r with
   | error x =>
    rw [← hE] at T
    go_enter Try.func8,Try.ntmps8
    go_upto_region 1 with (fail)
    rw [← hW]
    clear hW
    go_wp2_with (first
     | (go_at_call 14;(with_reducible refine R0.out.mono ?_);rintro e w' ⟨rfl,rfl⟩)
     | (go_at_call 15;(with_reducible refine T.out.mono ?_);rintro e w1 ⟨he,hb⟩;obtain rfl:=(show e=.returned (.tuple #[.agg #[.int .i64 0,.int .i64 0,.string ⟨#[]⟩,.bool false,.int .i64 0,.int .i64 0,.int .i64 0,.int .i64 0],.int .i64 0,.int .i64 x]) from he);have HZ1:=Lib.hid ((hb.block _ hlW).trans HZ0.out);have HB1:=Lib.hid (HB0.out.trans (hb.mono (by omega)));clear hb he)
     | ((with_reducible apply store24 (g:=w.heap.size));rfl;(with_reducible rfl);rfl;rfl;(repeat' (first|(with_reducible first|exact HZ1.out|exact hz_new|refine hz_set ?_ ?_|refine hz_row ?_ ?_|refine hz_alloc ?_)|(with_reducible change (_:Nat)≠_;(try simp)<;>omega)));rfl;rfl))
    ((try simp only [Exit.inBlock,Exit.then]);refine bodyPost_ret (v:=_) (results24q Try.results8 _ _ w.heap.size _ (.int .i64 0) (.int .i64 x) ?_ ?_ ?_ (row24 ?_) ?_) rfl ⟨rfl,?_⟩;rfl;rfl;rfl;(repeat' (first|(with_reducible first|exact HZ1.out|exact hz_new|refine hz_set ?_ ?_|refine hz_row ?_ ?_|refine hz_alloc ?_)|(with_reducible change (_:Nat)≠_;(try simp)<;>omega)));rfl;exact Below.setRow HB1.out (Nat.le_refl _) _)
   | ok p =>
    obtain ⟨t,nx⟩:=p
    rw [← hE] at T
    go_enter Try.func8,Try.ntmps8
    go_upto_region 1 with (fail)
    rw [← hW]
    clear hW
    go_wp2_with (first
     | (go_at_call 14;(with_reducible refine R0.out.mono ?_);rintro e w' ⟨rfl,rfl⟩)
     | (go_at_call 15;(with_reducible refine T.out.mono ?_);rintro e w1 ⟨he,hb⟩;obtain rfl:=(show e=.returned (.tuple #[.agg #[.int .i64 t.kind,.int .i64 t.num,.string ⟨t.text.toArray⟩,.bool t.not_,.int .i64 t.least,.int .i64 t.most,.int .i64 t.way,.int .i64 t.fold],.int .i64 nx,.int .i64 0]) from he);have HZ1:=Lib.hid ((hb.block _ hlW).trans HZ0.out);have HB1:=Lib.hid (HB0.out.trans (hb.mono (by omega)));clear hb he)
     | ((with_reducible apply store24 (g:=w.heap.size));rfl;(with_reducible rfl);rfl;rfl;(repeat' (first|(with_reducible first|exact HZ1.out|exact hz_new|refine hz_set ?_ ?_|refine hz_row ?_ ?_|refine hz_alloc ?_)|(with_reducible change (_:Nat)≠_;(try simp)<;>omega)));rfl;rfl))
    ((try simp only [Exit.inBlock,Exit.then]);refine bodyPost_ret (v:=_) (results24q Try.results8 _ _ w.heap.size _ (.int .i64 nx) (.int .i64 0) ?_ ?_ ?_ (row24 ?_) ?_) rfl ⟨rfl,?_⟩;rfl;rfl;rfl;(repeat' (first|(with_reducible first|exact HZ1.out|exact hz_new|refine hz_set ?_ ?_|refine hz_row ?_ ?_|refine hz_alloc ?_)|(with_reducible change (_:Nat)≠_;(try simp)<;>omega)));rfl;exact Below.setRow HB1.out (Nat.le_refl _) _)
  ·have hE:r=.error 3:=by rw [HR.out,nextR,← HEE.out,if_neg (by omega),if_pos (by rw [HLN.out];omega)]
   subst hE
   have h1':at_ < 0∨(¬ at_ < 0∧(n:Int)≤at_):=by omega
   clear h0 h0' h1
   rcases h1' with h1|⟨h1,h2⟩
   all_goals
    go_enter Try.func8,Try.ntmps8
    go_upto_region 1 with (fail)
    rw [← hW]
    clear hW
    go_wp2_with (first
     | (go_at_call 14;(with_reducible refine R0.out.mono ?_);rintro e w' ⟨rfl,rfl⟩)
     | ((with_reducible apply store24 (g:=w.heap.size));rfl;(with_reducible rfl);rfl;rfl;(repeat' (first|(with_reducible first|exact HZ0.out|exact hz_new|refine hz_set ?_ ?_|refine hz_row ?_ ?_|refine hz_alloc ?_)|(with_reducible change (_:Nat)≠_;(try simp)<;>omega)));rfl;rfl))
    ((try simp only [Exit.inBlock,Exit.then]);refine bodyPost_ret (v:=_) (results24q Try.results8 _ _ w.heap.size _ (.int .i64 0) (.int .i64 3) ?_ ?_ ?_ (row24 ?_) ?_) rfl ⟨rfl,?_⟩;rfl;rfl;rfl;(repeat' (first|(with_reducible first|exact HZ0.out|exact hz_new|refine hz_set ?_ ?_|refine hz_row ?_ ?_|refine hz_alloc ?_)|(with_reducible change (_:Nat)≠_;(try simp)<;>omega)));rfl;exact Below.setRow HB0.out (Nat.le_refl _) _)
 ·have hE:r=.error ee:=by rw [HR.out,nextR,← HEE.out,if_pos h0]
  subst hE
  have hz:(ee == 0)=false:=by simpa using h0
  have hz2:(ee != 0)=true:=by simpa using h0
  clear h0
  go_enter Try.func8,Try.ntmps8
  go_upto_region 1 with (fail)
  rw [← hW]
  clear hW
  go_wp2_with (first
   | (go_at_call 14;(with_reducible refine R0.out.mono ?_);rintro e w' ⟨rfl,rfl⟩)
   | ((with_reducible apply store24 (g:=w.heap.size));rfl;(with_reducible rfl);rfl;rfl;(repeat' (first|(with_reducible first|exact HZ0.out|exact hz_new|refine hz_set ?_ ?_|refine hz_row ?_ ?_|refine hz_alloc ?_)|(with_reducible change (_:Nat)≠_;(try simp)<;>omega)));rfl;rfl))
  ((try simp only [Exit.inBlock,Exit.then]);refine bodyPost_ret (v:=_) (results24q Try.results8 _ _ w.heap.size _ (.int .i64 0) (.int .i64 ee) ?_ ?_ ?_ (row24 ?_) ?_) rfl ⟨rfl,?_⟩;rfl;rfl;rfl;(repeat' (first|(with_reducible first|exact HZ0.out|exact hz_new|refine hz_set ?_ ?_|refine hz_row ?_ ?_|refine hz_alloc ?_)|(with_reducible change (_:Nat)≠_;(try simp)<;>omega)));rfl;exact Below.setRow HB0.out (Nat.le_refl _) _)
end Go.Proofs.Ytmjlmjlkghpknaa
