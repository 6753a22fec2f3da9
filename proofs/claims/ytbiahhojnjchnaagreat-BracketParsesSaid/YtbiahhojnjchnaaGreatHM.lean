/-
  InClass of the reference: walked at each name. Ranges of the reference: walked. ContainsFunc at ranges for any test; In of the program; InClass and ClassOf of the reference: walked. FoldOf of the reference: walked.
-/
import Derived.Test.YtbiahhojnjchnaaGreatGN
import Derived.Test.YtbiahhojnjchnaaGreatGL
import Derived.Test.YtbiahhojnjchnaaGreatFoldK
set_option linter.unusedVariables false
set_option linter.unusedSimpArgs false
namespace Go.Proofs.YtbiahhojnjchnaaGreat
open Go.RowKit
/-- what InClass answers -/
def InC (w:World) (l:List (Int × Int)) (p:Int) (e:Ending) (w':World):Prop:=∃ b,e=.returned (.bool b)∧(b=true↔mem l p)∧w=w'
theorem mem_evens (a:Int) (k:Nat) (p:Int):mem (evens a k) p↔a≤p∧p < a+2 * k∧(p - a) % 2=0:=by
 induction k with
 | zero=>simp [evens,mem];omega
 | succ k ih =>
  rw [show evens a (k+1)=evens a k ++ [(a+2 * k,a+2 * k)] from rfl,mem_append,mem_cons,ih]
  have:=mem_nil p
  constructor
  ·rintro (h|h|h)
   ·omega
   ·omega
   ·exact absurd h this
  ·intro h
   by_cases e:p=a+2 * k
   ·exact .inr (.inl (by omega))
   ·exact .inl (by omega)
set_option maxRecDepth 100000 in
set_option maxHeartbeats 4000000 in
theorem inC_any (p:Int) (w:World):Calls Tryz.prog 147 #[.string ⟨#[97,110,121]⟩,.int .i64 p] w (InC w l_any p):=by
 go_enter Tryz.func147,Tryz.ntmps147
 go_wp2_with (go_at_call 31;refine (isPoint_any _ _).mono ?_;rintro e w' ⟨rfl,rfl⟩)
 all_goals (go_ret;refine ⟨_,rfl,?_,rfl⟩;simp only [l_any,mem_cons,mem_nil,or_false];simp_all<;>omega)
set_option maxRecDepth 100000 in
set_option maxHeartbeats 4000000 in
theorem inC_ascii (p:Int) (w:World):Calls Tryz.prog 147 #[.string ⟨#[97,115,99,105,105]⟩,.int .i64 p] w (InC w l_ascii p):=by
 go_enter Tryz.func147,Tryz.ntmps147
 go_wp2_with (go_at_call 119;refine (between_any _ _ _ _).mono ?_;rintro e w' ⟨rfl,rfl⟩)
 all_goals (go_ret;refine ⟨_,rfl,?_,rfl⟩;simp only [l_ascii,mem_cons,mem_nil,or_false];simp_all<;>omega)
set_option maxRecDepth 100000 in
set_option maxHeartbeats 4000000 in
theorem inC_cntrl (p:Int) (w:World):Calls Tryz.prog 147 #[.string ⟨#[99,110,116,114,108]⟩,.int .i64 p] w (InC w l_cntrl p):=by
 go_enter Tryz.func147,Tryz.ntmps147
 go_wp2_with (go_at_call 119;refine (between_any _ _ _ _).mono ?_;rintro e w' ⟨rfl,rfl⟩)
 all_goals (go_ret;refine ⟨_,rfl,?_,rfl⟩;simp only [l_cntrl,mem_cons,mem_nil,or_false];simp_all<;>omega)
set_option maxRecDepth 100000 in
set_option maxHeartbeats 4000000 in
theorem inC_digit (p:Int) (w:World):Calls Tryz.prog 147 #[.string ⟨#[100,105,103,105,116]⟩,.int .i64 p] w (InC w l_digit p):=by
 go_enter Tryz.func147,Tryz.ntmps147
 go_wp2_with (go_at_call 119;refine (between_any _ _ _ _).mono ?_;rintro e w' ⟨rfl,rfl⟩)
 all_goals (go_ret;refine ⟨_,rfl,?_,rfl⟩;simp only [l_digit,mem_cons,mem_nil,or_false];simp_all<;>omega)
set_option maxRecDepth 100000 in
set_option maxHeartbeats 4000000 in
theorem inC_xdigit (p:Int) (w:World):Calls Tryz.prog 147 #[.string ⟨#[120,100,105,103,105,116]⟩,.int .i64 p] w (InC w l_xdigit p):=by
 go_enter Tryz.func147,Tryz.ntmps147
 go_wp2_with (go_at_call 119;refine (between_any _ _ _ _).mono ?_;rintro e w' ⟨rfl,rfl⟩)
 all_goals (go_ret;refine ⟨_,rfl,?_,rfl⟩;simp only [l_xdigit,mem_cons,mem_nil,or_false];simp_all<;>omega)
set_option maxRecDepth 100000 in
set_option maxHeartbeats 4000000 in
theorem inC_blank (p:Int) (w:World):Calls Tryz.prog 147 #[.string ⟨#[98,108,97,110,107]⟩,.int .i64 p] w (InC w l_blank p):=by
 go_enter Tryz.func147,Tryz.ntmps147
 go_wp2_with (go_at_call 119;refine (between_any _ _ _ _).mono ?_;rintro e w' ⟨rfl,rfl⟩)
 all_goals (go_ret;refine ⟨_,rfl,?_,rfl⟩;simp only [l_blank,mem_cons,mem_nil,or_false];simp_all<;>omega)
set_option maxRecDepth 100000 in
set_option maxHeartbeats 4000000 in
theorem inC_space (p:Int) (w:World):Calls Tryz.prog 147 #[.string ⟨#[115,112,97,99,101]⟩,.int .i64 p] w (InC w l_space p):=by
 go_enter Tryz.func147,Tryz.ntmps147
 go_wp2_with (go_at_call 119;refine (between_any _ _ _ _).mono ?_;rintro e w' ⟨rfl,rfl⟩)
 all_goals (go_ret;refine ⟨_,rfl,?_,rfl⟩;simp only [l_space,mem_cons,mem_nil,or_false];simp_all<;>omega)
set_option maxRecDepth 100000 in
set_option maxHeartbeats 4000000 in
theorem inC_punct (p:Int) (w:World):Calls Tryz.prog 147 #[.string ⟨#[112,117,110,99,116]⟩,.int .i64 p] w (InC w l_punct p):=by
 go_enter Tryz.func147,Tryz.ntmps147
 go_wp2_with (go_at_call 119;refine (between_any _ _ _ _).mono ?_;rintro e w' ⟨rfl,rfl⟩)
 all_goals (go_ret;refine ⟨_,rfl,?_,rfl⟩;simp only [l_punct,mem_cons,mem_nil,or_false];simp_all<;>omega)
set_option maxRecDepth 100000 in
set_option maxHeartbeats 4000000 in
theorem inC_alpha (p:Int) (w:World):Calls Tryz.prog 147 #[.string ⟨#[97,108,112,104,97]⟩,.int .i64 p] w (InC w l_alpha p):=by
 go_enter Tryz.func147,Tryz.ntmps147
 go_wp2_with (go_at_call 119;refine (between_any _ _ _ _).mono ?_;rintro e w' ⟨rfl,rfl⟩)
 all_goals (go_ret;refine ⟨_,rfl,?_,rfl⟩;simp only [l_alpha,mem_cons,mem_nil,or_false];simp_all<;>omega)
set_option maxRecDepth 100000 in
set_option maxHeartbeats 4000000 in
theorem inC_upper (p:Int) (w:World):Calls Tryz.prog 147 #[.string ⟨#[117,112,112,101,114]⟩,.int .i64 p] w (InC w l_upper p):=by
 go_enter Tryz.func147,Tryz.ntmps147
 go_wp2_with (go_at_call 119;refine (between_any _ _ _ _).mono ?_;rintro e w' ⟨rfl,rfl⟩)
 all_goals (go_ret;refine ⟨_,rfl,?_,rfl⟩;simp only [l_upper,mem_append,mem_evens,mem_cons,mem_nil,or_false];simp_all<;>omega)
set_option maxRecDepth 100000 in
set_option maxHeartbeats 4000000 in
theorem inC_lower (p:Int) (w:World):Calls Tryz.prog 147 #[.string ⟨#[108,111,119,101,114]⟩,.int .i64 p] w (InC w l_lower p):=by
 go_enter Tryz.func147,Tryz.ntmps147
 go_wp2_with (go_at_call 119;refine (between_any _ _ _ _).mono ?_;rintro e w' ⟨rfl,rfl⟩)
 all_goals (go_ret;refine ⟨_,rfl,?_,rfl⟩;simp only [l_lower,mem_append,mem_evens,mem_cons,mem_nil,or_false];simp_all<;>omega)
theorem inC_memB {w:World} {l:List (Int × Int)} {p:Int} {args:Array Value} (h:Calls Tryz.prog 147 args w (InC w l p)):Calls Tryz.prog 147 args w fun e w'=>e=.returned (.bool (memB l p))∧w=w' :=
 h.mono fun e w' ⟨b,h1,h2,h3⟩=>⟨by rw [h1,show b=memB l p from by rw [Bool.eq_iff_iff,memB_iff];exact h2],h3⟩
set_option maxRecDepth 100000 in
set_option maxHeartbeats 4000000 in
theorem inC_alnum (p:Int) (w:World):Calls Tryz.prog 147 #[.string ⟨#[97,108,110,117,109]⟩,.int .i64 p] w (InC w l_alnum p):=by
 have C1:=Lib.hid (inC_alpha p w)
 have C2:=Lib.hid (inC_digit p w)
 go_enter Tryz.func147,Tryz.ntmps147
 go_wp2_with fail
 refine C1.out.mono ?_
 rintro e w' ⟨b,rfl,hb,rfl⟩
 cases b
 ·have HB:=Lib.hid hb
  clear hb
  go_wp2_with fail
  refine C2.out.mono ?_
  rintro e w' ⟨b,rfl,hb2,rfl⟩
  have HB2:=Lib.hid hb2
  clear hb2
  go_wp2
  all_goals (go_ret;refine ⟨_,rfl,?_,rfl⟩;have h1:=HB.out;have h2:=HB2.out;simp only [l_alnum,mem_append] at *;simp_all)
 ·have HB:=Lib.hid hb
  clear hb
  go_wp2
  go_ret
  refine ⟨_,rfl,?_,rfl⟩
  have h1:=HB.out
  simp only [l_alnum,mem_append]
  simp_all
set_option maxRecDepth 100000 in
set_option maxHeartbeats 4000000 in
theorem inC_word (p:Int) (w:World):Calls Tryz.prog 147 #[.string ⟨#[119,111,114,100]⟩,.int .i64 p] w (InC w l_word p):=by
 have C1:=Lib.hid (inC_alnum p w)
 go_enter Tryz.func147,Tryz.ntmps147
 go_wp2_with fail
 refine C1.out.mono ?_
 rintro e w' ⟨b,rfl,hb,rfl⟩
 have HB:=Lib.hid hb
 clear hb
 cases b
 ·go_wp2
  all_goals (go_ret;refine ⟨_,rfl,?_,rfl⟩;have h1:=HB.out;simp only [l_word,mem_append,mem_cons,mem_nil,or_false];simp_all<;>omega)
 ·go_wp2
  go_ret
  refine ⟨_,rfl,?_,rfl⟩
  have h1:=HB.out
  simp only [l_word,mem_append]
  simp_all
set_option maxRecDepth 100000 in
set_option maxHeartbeats 4000000 in
theorem inC_graph (p:Int) (w:World):Calls Tryz.prog 147 #[.string ⟨#[103,114,97,112,104]⟩,.int .i64 p] w (InC w l_graph p):=by
 have C1:=Lib.hid (inC_alnum p w)
 have C2:=Lib.hid (inC_punct p w)
 go_enter Tryz.func147,Tryz.ntmps147
 go_wp2_with fail
 refine C1.out.mono ?_
 rintro e w' ⟨b,rfl,hb,rfl⟩
 cases b
 ·have HB:=Lib.hid hb
  clear hb
  go_wp2_with fail
  refine C2.out.mono ?_
  rintro e w' ⟨b,rfl,hb2,rfl⟩
  have HB2:=Lib.hid hb2
  clear hb2
  go_wp2
  all_goals (go_ret;refine ⟨_,rfl,?_,rfl⟩;have h1:=HB.out;have h2:=HB2.out;simp only [l_graph,mem_append] at *;simp_all)
 ·have HB:=Lib.hid hb
  clear hb
  go_wp2
  go_ret
  refine ⟨_,rfl,?_,rfl⟩
  have h1:=HB.out
  simp only [l_graph,mem_append]
  simp_all
end Go.Proofs.YtbiahhojnjchnaaGreat
namespace Go.Proofs.YtbiahhojnjchnaaGreat
open Go.RowKit
/-! plain: points taken in one by one -/
def RgSt (f:Int→Bool) (k:Int) (out:List (Int × Int)):Prop:=Can out∧∀ q,mem out q↔(0≤q∧q < k∧f q=true)
theorem RgSt.start (f:Int→Bool):RgSt f 0 []:=⟨Can.nil,fun q=>⟨fun h=>absurd h (mem_nil q),fun h=>by omega⟩⟩
theorem RgSt.last {f:Int→Bool} {k:Int} {o:List (Int × Int)} {s:Int × Int} (h:RgSt f k (o ++ [s])):s.2 < k:=by
 have hs:=(okR_iff _).1 (h.1.1 s (by simp))
 exact ((h.2 s.2).1 ⟨s,by simp,hs.2.1,Int.le_refl _⟩).2.1
theorem RgSt.skip {f:Int→Bool} {k:Int} {out:List (Int × Int)} (h:RgSt f k out) (hf:f k=false):RgSt f (k+1) out :=
 ⟨h.1,fun q=>(h.2 q).trans ⟨fun ⟨a,b,c⟩=>⟨a,by omega,c⟩,fun ⟨a,b,c⟩=>by
  rcases Int.lt_or_le q k with e|e
  ·exact ⟨a,e,c⟩
  ·have:q=k:=by omega
   subst this;rw [hf] at c;cases c⟩⟩
theorem RgSt.take {f:Int→Bool} {k:Int} {out:List (Int × Int)} (h:RgSt f k out) (hf:f k=true) (h0:0≤k) (h1:k≤1114111):RgSt f (k+1) (rawStep out (k,k)):=by
 have hr:=rawStep_set (out:=out) (l:=out) (r:=(k,k)) ⟨h.1,fun p=>Iff.rfl⟩ ((okR_iff _).2 ⟨h0,Int.le_refl _,h1⟩) (fun s hs=>by
  have hs':=(okR_iff _).1 (h.1.1 s hs)
  have:=((h.2 s.1).1 ⟨s,hs,Int.le_refl _,hs'.2.1⟩).2.1
  simp only;omega)
 refine ⟨hr.1.1,fun q=>?_⟩
 rw [hr.1.2 q,mem_append,h.2 q,mem_cons]
 have hn:=mem_nil q
 constructor
 ·rintro (⟨a,b,c⟩|⟨a,b⟩|e)
  ·exact ⟨a,by omega,c⟩
  ·have:q=k:=by omega
   subst this;exact ⟨h0,by omega,hf⟩
  ·exact absurd e hn
 ·rintro ⟨a,b,c⟩
  rcases Int.lt_or_le q k with e|e
  ·exact .inl ⟨a,e,c⟩
  ·exact .inr (.inl (by omega))
theorem RgSt.join {f:Int→Bool} {k a b:Int} {o:List (Int × Int)} (h:RgSt f k (o ++ [(a,b)])) (hf:f k=true) (h0:0≤k) (h1:k≤1114111) (hb:b=k - 1):RgSt f (k+1) (o ++ [(a,k)]):=by
 have:=h.take hf h0 h1
 rwa [rawStep_snoc,if_pos (by simp only;omega),show max b k=k by omega] at this
theorem RgSt.apart {f:Int→Bool} {k a b:Int} {o:List (Int × Int)} (h:RgSt f k (o ++ [(a,b)])) (hf:f k=true) (h0:0≤k) (h1:k≤1114111) (hb:b≠k - 1):RgSt f (k+1) (o ++ [(a,b)] ++ [(k,k)]):=by
 have hl:=h.last
 have:=h.take hf h0 h1
 rwa [rawStep_snoc,if_neg (by simp only at hl ⊢;omega)] at this
/-- all points, if behind 13000 it goes on as there -/
def Tail (f:Int→Bool):Prop:=(∀ q,13000 < q→q≤1114111→f q=f 13000)∧∀ q,f q=true→0≤q∧q≤1114111
theorem RgSt.end_on {f:Int→Bool} (ht:Tail f) {a b:Int} {o:List (Int × Int)} (h:RgSt f 13001 (o ++ [(a,b)])) (hb:b=13000):IsSet (o ++ [(a,1114111)]) (fun q=>f q=true):=by
 subst hb
 obtain ⟨hc,hok,hg⟩:=h.1.init
 have hok':=(okR_iff _).1 hok
 have hf:f 13000=true:=((h.2 13000).1 ⟨(a,13000),by simp,hok'.2.1,Int.le_refl _⟩).2.2
 refine ⟨hc.snoc ((okR_iff _).2 ⟨hok'.1,by simp only at hok' ⊢;omega,Int.le_refl _⟩) hg,fun q=>?_⟩
 have hq:=h.2 q
 rw [mem_append,mem_cons] at hq ⊢
 have hn:=mem_nil q
 simp only at hok' hq ⊢
 rcases Int.lt_or_le 13000 q with e|e
 ·constructor
  ·rintro (k|k|k)
   ·have:=hq.1 (.inl k);omega
   ·rw [ht.1 q e k.2];exact hf
   ·exact absurd k hn
  ·intro k;exact .inr (.inl ⟨by omega,(ht.2 q k).2⟩)
 ·constructor
  ·rintro (k|k|k)
   ·exact (hq.1 (.inl k)).2.2
   ·exact (hq.1 (.inr (.inl ⟨k.1,e⟩))).2.2
   ·exact absurd k hn
  ·intro k
   rcases hq.2 ⟨(ht.2 q k).1,by omega,k⟩ with k|k|k
   ·exact .inl k
   ·exact .inr (.inl ⟨k.1,by omega⟩)
   ·exact absurd k hn
theorem RgSt.end_off {f:Int→Bool} (ht:Tail f) {out:List (Int × Int)} (h:RgSt f 13001 out) (hl:∀ o s,out=o ++ [s]→s.2≠13000):IsSet out (fun q=>f q=true):=by
 have hf:f 13000=false:=by
  rw [Bool.eq_false_iff]
  intro hf
  obtain ⟨r,hr,r1,r2⟩:=(h.2 13000).2 ⟨by decide,by decide,hf⟩
  rcases snoc_cases out with rfl|⟨o,s,rfl⟩
  ·cases hr
  ·have hs:=hl o s rfl
   have hlast:=h.last
   obtain ⟨hc,hok,hg⟩:=h.1.init
   have hok':=(okR_iff _).1 hok
   rcases List.mem_append.1 hr with k|k
   ·have:=hg r k;omega
   ·rw [List.mem_singleton.1 k] at r1 r2;omega
 refine ⟨h.1,fun q=>(h.2 q).trans ⟨fun k=>k.2.2,fun k=>⟨(ht.2 q k).1,?_,k⟩⟩⟩
 rcases Int.lt_or_le 13000 q with e|e
 ·have k2:=ht.1 q e (ht.2 q k).2
  rw [hf] at k2;simp only at k;rw [k2] at k;cases k
 ·omega
set_option maxRecDepth 100000 in
set_option maxHeartbeats 4000000 in
theorem ranges105 (f:Int→Bool) (g:Nat) (cb:Array Value) (w:World) (hT:Tail f)
  (eg:∀ args w,(callFunc g args).run Tryz.prog w=.ok (.enter g args) w)
  (hcl:∀ (p:Int) (w':World),Below w.heap.size w w'→Calls Tryz.prog g (#[.int .i64 p] ++ cb) w' fun e w''=>e=.returned (.bool (f p))∧∃ q,w''=w'.drewN q) :
  Calls Tryz.prog 145 #[.func (.func g) #[] cb] w fun e w'=>∃ out,(IsSet out fun p=>f p=true)∧out.length≤13001∧OwnRngs w out e w':=by
 have HT:=Lib.hid hT
 have HCL:=Lib.hid hcl
 clear hT hcl
 go_enter Tryz.func145,Tryz.ntmps145
 go_wp2_with fail
 go_loopw [3,4] (fun v i wr=>∃ (k t:Nat) (out:List (Int × Int)),k≤13001∧i=.int .i64 k∧t≤k∧RgSt f k out∧wr.ownsRow w.heap.size 67 2 v t (rngs out)∧Below w.heap.size w wr) (fun _ i _=>13001 - (intOf i).toNat)
 case atStart=>exact ⟨0,0,[],Nat.zero_le _,rfl,Nat.le_refl _,RgSt.start f,World.ownsRow_nil _ _ _ _,Below.refl _ _⟩
 case round =>
  obtain ⟨k,t,out,hk,rfl,ht,hst,hout,hB⟩:=hrel
  have HST:=Lib.hid hst
  clear hst
  obtain ⟨Ao,co,rfl,hoc,hco⟩:=own_slice hout
  unfold maxLen at hco
  have hsz:=hB.size
  by_cases hlt:k≤13000
  ·have hk2:(k:Int)≤13000:=by omega
   cases hfx:f k
   ·have HFX:=Lib.hid hfx
    clear hfx
    go_wp2_with fail
    refine (HCL.out k wr hB).mono ?_
    rintro e w' ⟨rfl,q,rfl⟩
    rw [HFX.out]
    go_wp2
    go_roundw
    case rel=>exact ⟨k+1,t,out,by omega,by go_num,by omega,by have:=HST.out.skip HFX.out;simpa using this,hout,below_drewN hB _⟩
    case measure=>simp [intOf];omega
   ·have HFX:=Lib.hid hfx
    clear hfx
    have R:=Lib.hid (fun q':Nat=>Rds.new (wr.drewN q') 2 1 #[.int .i64 k,.int .i64 k] 67 (rngs [((k:Int),(k:Int))]) rfl rfl)
    go_wp2_with fail
    refine (HCL.out k wr hB).mono ?_
    rintro e w' ⟨rfl,q,rfl⟩
    rw [HFX.out]
    rcases snoc_cases out with rfl|⟨o,s,rfl⟩
    ·obtain rfl:t=0:=own_rngs_len hout
     have HNX:=Lib.hid (HST.out.take HFX.out (by omega) (by omega))
     go_wp2_with (at_builtin;refine app_rngs (.tmp 35) (.tmp 39) (base:=w.heap.size) (xs:=[]) (n:=0) (by exact hout.alloc _) (R.out _) (by omega) (by simp;omega) rfl rfl rfl rfl ?_;intro v3 w3 hown3 hg3 hat3)
     go_roundw
     case rel=>exact ⟨k+1,1,[((k:Int),(k:Int))],by omega,by go_num,by omega,by have:=HNX.out;rw [rawStep_nil] at this;simpa using this,hown3,grown_ownN hB hout hg3 (Nat.le_refl _) hsz⟩
     case measure=>simp [intOf];omega
    ·obtain ⟨gl,hAo,hgl,hgl2,htl,htc,hca,hcb,hfz,hst⟩:=own_last hout
     obtain ⟨u,hu⟩:∃ u,u=o.length:=⟨_,rfl⟩
     rw [← hu] at hca hcb hfz hst htl
     have HU:=Lib.hid hu
     clear hu
     obtain rfl:t=u+1:=htl
     obtain ⟨sa,sb⟩:=s
     simp only at hca hcb hst
     have HSTO:=Lib.hid hst
     clear hst hca
     have HAO:=Lib.hid hAo
     subst hAo
     have u1:(0:Int)≤(u:Int):=by omega
     have u2:(0:Int) < (u:Int)+1:=by omega
     have W1:=Lib.hid (show IntKind.i64.wrap ((u:Int)+1 - 1)=(u:Int) by rw [IntWalk.i64_in _ (by omega)];omega)
     have W2:=Lib.hid (show IntKind.i64.wrap ((k:Int) - 1)=(k:Int) - 1 from IntWalk.i64_in _ (by omega))
     by_cases hs:sb=(k:Int) - 1
     ·have hb:(sb == (k:Int) - 1)=true:=by rw [beq_iff_eq];exact hs
      have HNX:=Lib.hid (HST.out.join HFX.out (by omega) (by omega) hs)
      clear hs
      go_wp2
      go_roundw
      case rel=>exact ⟨k+1,u+1,o ++ [(sa,(k:Int))],by omega,by go_num,by omega,by simpa using HNX.out,HSTO.out _,(below_drewN hB _).setCell hgl _⟩
      case measure=>simp [intOf];omega
     ·have hb:(sb == (k:Int) - 1)=false:=by rw [beq_eq_false_iff_ne];exact hs
      have HNX:=Lib.hid (HST.out.apart HFX.out (by omega) (by omega) hs)
      clear hs
      go_wp2_with (at_builtin;refine app_rngs (.tmp 35) (.tmp 39) (base:=w.heap.size) (by exact hout.alloc _) (R.out _) (by omega) (by simp;omega) rfl rfl rfl rfl ?_;intro v3 w3 hown3 hg3 hat3)
      go_roundw
      case rel=>exact ⟨k+1,u+1+1,o ++ [(sa,sb)] ++ [((k:Int),(k:Int))],by omega,by go_num,by omega,by simpa using HNX.out,hown3,grown_ownN hB hout hg3 (Nat.le_refl _) hsz⟩
      case measure=>simp [intOf];omega
  ·obtain rfl:k=13001:=by omega
   rcases snoc_cases out with rfl|⟨o,s,rfl⟩
   ·obtain rfl:t=0:=own_rngs_len hout
    go_wp2
    go_ret
    exact ⟨[],HST.out.end_off HT.out (fun o s e=>by cases o<;>cases e),by simp,ownRngs_of rfl hout hB⟩
   ·obtain ⟨gl,hAo,hgl,hgl2,htl,htc,hca,hcb,hfz,hst⟩:=own_last hout
    have HLEN:=Lib.hid (own_rngs_len hout)
    obtain ⟨u,hu⟩:∃ u,u=o.length:=⟨_,rfl⟩
    rw [← hu] at hca hcb hfz hst htl
    have HU:=Lib.hid hu
    clear hu
    obtain rfl:t=u+1:=htl
    obtain ⟨sa,sb⟩:=s
    simp only at hca hcb hst
    have HSTO:=Lib.hid hst
    clear hst hca
    have HAO:=Lib.hid hAo
    subst hAo
    have u1:(0:Int)≤(u:Int):=by omega
    have u2:(0:Int) < (u:Int)+1:=by omega
    have W1:=Lib.hid (show IntKind.i64.wrap ((u:Int)+1 - 1)=(u:Int) by rw [IntWalk.i64_in _ (by omega)];omega)
    by_cases hs:sb=13000
    ·have HFIN:=Lib.hid (HST.out.end_on HT.out hs)
     subst hs
     go_wp2
     go_ret
     exact ⟨o ++ [(sa,1114111)],HFIN.out,by have:=HLEN.out;simp at this ⊢;omega,ownRngs_of rfl (HSTO.out _) (hB.setCell hgl _)⟩
    ·have hb:(sb == 13000)=false:=by rw [beq_eq_false_iff_ne];exact hs
     have HFIN:=Lib.hid (HST.out.end_off HT.out (fun o' s' e=>by obtain ⟨_,e⟩:=List.append_inj' e rfl;injection e with e;subst e;exact hs))
     clear hs
     go_wp2
     go_ret
     exact ⟨o ++ [(sa,sb)],HFIN.out,by have:=HLEN.out;simp at this ⊢;omega,ownRngs_of rfl hout hB⟩
end Go.Proofs.YtbiahhojnjchnaaGreat
namespace Go.Proofs.YtbiahhojnjchnaaGreat
open Go.RowKit
theorem any_snoc (a:List (Int × Int)) (f:Int × Int→Bool) (k:Nat) (hk:k < a.length) (h:(a.take k).any f=false) (hr:f a[k]=false):(a.take (k+1)).any f=false:=by
 rw [take_snoc' a k hk,List.any_append,h];simp [hr]
set_option maxHeartbeats 1000000 in
theorem index132g (f:Int × Int→Bool) (g:Nat) (cb:Array Value) (a:List (Int × Int)) (A:Option Addr) (n c:Nat) (w:World) (hn:n≤maxLen) (ha:Rds w w.heap.size 2 A n (rngs a))
  (eg:∀ args w,(callFunc g args).run Tryz.prog w=.ok (.enter g args) w)
  (hcl:∀ (r:Int × Int) (w':World),Below w.heap.size w w'→Calls Tryz.prog g (#[.agg #[.int .i64 r.1,.int .i64 r.2]] ++ cb) w' fun e w''=>e=.returned (.bool (f r))∧Below w'.heap.size w' w'') :
  Calls Tryz.prog 122 #[.slice A n c,.func (.func g) #[] cb] w fun e w'=>(∃ i:Int,e=.returned (.int .i64 i)∧decide (0≤i)=a.any f)∧Below w.heap.size w w':=by
 have HA:=Lib.hid ha.rngs_len
 have HCL:=Lib.hid hcl
 clear hcl
 unfold maxLen at hn
 go_enter Tryz.func122,Tryz.ntmps122
 go_wp2_with fail
 go_loopw [8] (fun i wr=>∃ k:Nat,k≤n∧i=.int .i64 k∧(a.take k).any f=false∧Below w.heap.size w wr) (fun i _=>n - (intOf i).toNat)
 case atStart=>exact ⟨0,Nat.zero_le _,rfl,by simp,Below.refl _ _⟩
 case round =>
  obtain ⟨k,hk,rfl,hall,hB⟩:=hrel
  have HALL:=Lib.hid hall
  clear hall
  by_cases hlt:k < n
  ·obtain ⟨b1,off1,hl1,hA,hb1,hc1,hd1⟩:=(ha.below hB (Nat.le_refl _)).rng_at hlt
   subst hA
   have HS:=Lib.hid (any_snoc a f k hl1 HALL.out)
   have HBAD:=Lib.hid (fun (h:f a[k]=true)=>show a.any f=true from List.any_eq_true.2 ⟨a[k],List.getElem_mem hl1,h⟩)
   obtain ⟨p,hp⟩:∃ p,p=a[k]:=⟨_,rfl⟩
   rw [← hp] at hc1 hd1 HS HBAD
   clear hp
   cases hok:f p
   ·have HOK:=Lib.hid hok
    clear hok
    go_wp2_with fail
    refine (HCL.out p wr hB).mono ?_
    rintro e w1 ⟨rfl,hb⟩
    rw [HOK.out]
    go_wp2
    go_roundw
    case rel=>exact ⟨k+1,by omega,by go_num,HS.out HOK.out,hB.trans (hb.mono hB.size)⟩
    case measure=>simp [intOf];omega
   ·have HOK:=Lib.hid hok
    clear hok
    go_wp2_with fail
    refine (HCL.out p wr hB).mono ?_
    rintro e w1 ⟨rfl,hb⟩
    rw [HOK.out]
    go_wp2
    go_ret
    exact ⟨⟨k,rfl,by rw [HBAD.out HOK.out];simp⟩,hB.trans (hb.mono hB.size)⟩
  ·obtain rfl:k=n:=by omega
   go_wp2
   go_ret
   refine ⟨⟨-1,rfl,?_⟩,hB⟩
   have:=HALL.out
   rw [List.take_of_length_le (by rw [HA.out];exact Nat.le_refl _)] at this
   rw [this];rfl
set_option maxHeartbeats 1000000 in
theorem contains99g (f:Int × Int→Bool) (g:Nat) (cb:Array Value) (a:List (Int × Int)) (A:Option Addr) (n c:Nat) (w:World) (hn:n≤maxLen) (ha:Rds w w.heap.size 2 A n (rngs a))
  (eg:∀ args w,(callFunc g args).run Tryz.prog w=.ok (.enter g args) w)
  (hcl:∀ (r:Int × Int) (w':World),Below w.heap.size w w'→Calls Tryz.prog g (#[.agg #[.int .i64 r.1,.int .i64 r.2]] ++ cb) w' fun e w''=>e=.returned (.bool (f r))∧Below w'.heap.size w' w'') :
  Calls Tryz.prog 102 #[.slice A n c,.func (.func g) #[] cb] w fun e w'=>e=.returned (.bool (a.any f))∧Below w.heap.size w w':=by
 have C:=Lib.hid (index132g f g cb a A n c w hn ha eg hcl)
 clear hcl eg
 go_enter Tryz.func102,Tryz.ntmps102
 go_wp2_with fail
 refine C.out.mono ?_
 rintro e w' ⟨⟨i,rfl,hi⟩,hb⟩
 have HI:=Lib.hid hi
 clear hi
 go_wp2
 go_ret
 exact ⟨ret_bool HI.out,hb⟩
/-! ClassOf -/
def tailOk (l:List (Int × Int)):Bool:=l.all okR && l.all fun r=>decide (r.2 < 13000) || (decide (r.1≤13000) && r.2 == 1114111)
theorem tail_of {l:List (Int × Int)} (h:tailOk l=true):Tail (memB l):=by
 simp only [tailOk,Bool.and_eq_true,List.all_eq_true] at h
 obtain ⟨h1,h2⟩:=h
 constructor
 ·intro q q0 q1
  rw [Bool.eq_iff_iff,memB_iff,memB_iff]
  constructor
  ·rintro ⟨r,hr,a,b⟩
   refine ⟨r,hr,?_⟩
   have:=h2 r hr
   simp at this
   omega
  ·rintro ⟨r,hr,a,b⟩
   refine ⟨r,hr,?_⟩
   have:=h2 r hr
   simp at this
   omega
 ·intro q hq
  obtain ⟨r,hr,a,b⟩:=(memB_iff _ _).1 hq
  have:=(okR_iff r).1 (h1 r hr)
  omega
theorem cls_tail {t:List UInt8} {l:List (Int × Int)} (h:cls t=some l):Tail (memB l):=by
 unfold cls at h
 by_cases e:t=[97,110,121]
 ·rw [if_pos e] at h;injection h with h;subst h;exact tail_of (by decide)
 rw [if_neg e] at h
 clear e
 by_cases e:t=[97,115,99,105,105]
 ·rw [if_pos e] at h;injection h with h;subst h;exact tail_of (by decide)
 rw [if_neg e] at h
 clear e
 by_cases e:t=[99,110,116,114,108]
 ·rw [if_pos e] at h;injection h with h;subst h;exact tail_of (by decide)
 rw [if_neg e] at h
 clear e
 by_cases e:t=[100,105,103,105,116]
 ·rw [if_pos e] at h;injection h with h;subst h;exact tail_of (by decide)
 rw [if_neg e] at h
 clear e
 by_cases e:t=[120,100,105,103,105,116]
 ·rw [if_pos e] at h;injection h with h;subst h;exact tail_of (by decide)
 rw [if_neg e] at h
 clear e
 by_cases e:t=[98,108,97,110,107]
 ·rw [if_pos e] at h;injection h with h;subst h;exact tail_of (by decide)
 rw [if_neg e] at h
 clear e
 by_cases e:t=[115,112,97,99,101]
 ·rw [if_pos e] at h;injection h with h;subst h;exact tail_of (by decide)
 rw [if_neg e] at h
 clear e
 by_cases e:t=[112,117,110,99,116]
 ·rw [if_pos e] at h;injection h with h;subst h;exact tail_of (by decide)
 rw [if_neg e] at h
 clear e
 by_cases e:t=[97,108,112,104,97]
 ·rw [if_pos e] at h;injection h with h;subst h;exact tail_of (by decide)
 rw [if_neg e] at h
 clear e
 by_cases e:t=[117,112,112,101,114]
 ·rw [if_pos e] at h;injection h with h;subst h;exact tail_of (by decide)
 rw [if_neg e] at h
 clear e
 by_cases e:t=[108,111,119,101,114]
 ·rw [if_pos e] at h;injection h with h;subst h;exact tail_of (by decide)
 rw [if_neg e] at h
 clear e
 by_cases e:t=[97,108,110,117,109]
 ·rw [if_pos e] at h;injection h with h;subst h;exact tail_of (by decide)
 rw [if_neg e] at h
 clear e
 by_cases e:t=[119,111,114,100]
 ·rw [if_pos e] at h;injection h with h;subst h;exact tail_of (by decide)
 rw [if_neg e] at h
 clear e
 by_cases e:t=[103,114,97,112,104]
 ·rw [if_pos e] at h;injection h with h;subst h;exact tail_of (by decide)
 rw [if_neg e] at h
 clear e
 cases h
theorem inClass66 (s:ByteArray) (l:List (Int × Int)) (p:Int) (w:World) (h:cls s.toList=some l):Calls Tryz.prog 147 #[.string s,.int .i64 p] w fun e w'=>e=.returned (.bool (memB l p))∧w=w':=by
 unfold cls at h
 by_cases e:s.toList=[97,110,121]
 ·rw [if_pos e] at h;injection h with h;subst h;obtain rfl:=lit_eq e;exact inC_memB (inC_any p w)
 rw [if_neg e] at h
 clear e
 by_cases e:s.toList=[97,115,99,105,105]
 ·rw [if_pos e] at h;injection h with h;subst h;obtain rfl:=lit_eq e;exact inC_memB (inC_ascii p w)
 rw [if_neg e] at h
 clear e
 by_cases e:s.toList=[99,110,116,114,108]
 ·rw [if_pos e] at h;injection h with h;subst h;obtain rfl:=lit_eq e;exact inC_memB (inC_cntrl p w)
 rw [if_neg e] at h
 clear e
 by_cases e:s.toList=[100,105,103,105,116]
 ·rw [if_pos e] at h;injection h with h;subst h;obtain rfl:=lit_eq e;exact inC_memB (inC_digit p w)
 rw [if_neg e] at h
 clear e
 by_cases e:s.toList=[120,100,105,103,105,116]
 ·rw [if_pos e] at h;injection h with h;subst h;obtain rfl:=lit_eq e;exact inC_memB (inC_xdigit p w)
 rw [if_neg e] at h
 clear e
 by_cases e:s.toList=[98,108,97,110,107]
 ·rw [if_pos e] at h;injection h with h;subst h;obtain rfl:=lit_eq e;exact inC_memB (inC_blank p w)
 rw [if_neg e] at h
 clear e
 by_cases e:s.toList=[115,112,97,99,101]
 ·rw [if_pos e] at h;injection h with h;subst h;obtain rfl:=lit_eq e;exact inC_memB (inC_space p w)
 rw [if_neg e] at h
 clear e
 by_cases e:s.toList=[112,117,110,99,116]
 ·rw [if_pos e] at h;injection h with h;subst h;obtain rfl:=lit_eq e;exact inC_memB (inC_punct p w)
 rw [if_neg e] at h
 clear e
 by_cases e:s.toList=[97,108,112,104,97]
 ·rw [if_pos e] at h;injection h with h;subst h;obtain rfl:=lit_eq e;exact inC_memB (inC_alpha p w)
 rw [if_neg e] at h
 clear e
 by_cases e:s.toList=[117,112,112,101,114]
 ·rw [if_pos e] at h;injection h with h;subst h;obtain rfl:=lit_eq e;exact inC_memB (inC_upper p w)
 rw [if_neg e] at h
 clear e
 by_cases e:s.toList=[108,111,119,101,114]
 ·rw [if_pos e] at h;injection h with h;subst h;obtain rfl:=lit_eq e;exact inC_memB (inC_lower p w)
 rw [if_neg e] at h
 clear e
 by_cases e:s.toList=[97,108,110,117,109]
 ·rw [if_pos e] at h;injection h with h;subst h;obtain rfl:=lit_eq e;exact inC_memB (inC_alnum p w)
 rw [if_neg e] at h
 clear e
 by_cases e:s.toList=[119,111,114,100]
 ·rw [if_pos e] at h;injection h with h;subst h;obtain rfl:=lit_eq e;exact inC_memB (inC_word p w)
 rw [if_neg e] at h
 clear e
 by_cases e:s.toList=[103,114,97,112,104]
 ·rw [if_pos e] at h;injection h with h;subst h;obtain rfl:=lit_eq e;exact inC_memB (inC_graph p w)
 rw [if_neg e] at h
 clear e
 cases h
set_option maxHeartbeats 1000000 in
theorem clo106 (s:ByteArray) (l:List (Int × Int)) (p:Int) (b:Nat) (w:World) (h:cls s.toList=some l) (hb:w.cell? ⟨b,0,none⟩=some (.string s)) :
  Calls Tryz.prog 146 #[.int .i64 p,.pointer (some ⟨b,0,none⟩)] w fun e w'=>e=.returned (.bool (memB l p))∧∃ q,w'=w.drewN q:=by
 have C:=Lib.hid (inClass66 s l p w h)
 clear h
 go_enter Tryz.func146,Tryz.ntmps146
 go_wp2_with fail
 refine C.out.mono ?_
 rintro e w' ⟨rfl,rfl⟩
 go_wp2
 go_ret
 exact ⟨rfl,0,rfl⟩
set_option maxHeartbeats 1000000 in
theorem classOf59 (s:ByteArray) (l:List (Int × Int)) (w:World) (h:cls s.toList=some l) :
  Calls Tryz.prog 121 #[.string s] w fun e w'=>∃ out,IsSet out (mem l)∧out.length≤13001∧OwnRngs w out e w':=by
 have HT:=Lib.hid (cls_tail h)
 have H:=Lib.hid h
 have eg:∀ args w,(callFunc 146 args).run Tryz.prog w=.ok (.enter 146 args) w:=enters_of Tryz.func146 (by kernel_rfl) rfl
 have EG:=Lib.hid eg
 clear eg h
 go_enter Tryz.func121,Tryz.ntmps121
 go_wp2_with fail
 refine (ranges105 (memB l) 146 #[.pointer (some ⟨w.heap.size,0,none⟩)] _ HT.out EG.out (fun p w' hbw=>clo106 s l p w.heap.size w' H.out (by rw [hbw.cell (p:=⟨w.heap.size,0,none⟩) (by simp)];simp))).mono ?_
 rintro e w1 ⟨out,hs,hl,A,n,c,rfl,hown,hb⟩
 go_wp2
 go_ret
 exact ⟨out,⟨hs.1,fun p=>(hs.2 p).trans (memB_iff l p)⟩,hl,ownRngs_of rfl (own_mono hown (by simp)) (Below.trans (by go_grown) (hb.mono (by simp)))⟩
end Go.Proofs.YtbiahhojnjchnaaGreat
namespace Go.Proofs.YtbiahhojnjchnaaGreat
open Go.RowKit
theorem tbl_low:∀ r ∈ tbl,decide (r.t+r.b < 8500) && decide (1≤r.b) && decide (0≤r.f)=true:=by decide
theorem bes_low {p x:Int} (h:x ∈ besP p):0≤p∧p < 8500∧x≠p:=by
 obtain ⟨r,hr,h⟩:=(mem_besP p x).1 h
 have:=tbl_low r hr
 simp at this
 rcases h with ⟨h,_⟩|⟨h,_⟩<;>rw [hit_iff] at h<;>omega
theorem bes_many {p x:Int} (h:x ∈ besP p):1 < (orb p).length:=by
 have h1:=besP_orb h
 have h2:=self_orb p
 have h3:=(bes_low h).2.2
 cases e:orb p with
 | nil=>rw [e] at h1;cases h1
 | cons a l =>
  cases l with
  | nil=>rw [e] at h1 h2;rw [List.mem_singleton] at h1 h2;exact absurd (h1.trans h2.symm) h3
  | cons b l=>simp
theorem many_bes' {p:Int} (h:1 < (orb p).length):∃ q,q ∈ besP p:=by
 cases hb:besP p with
 | nil=>rw [orb_alone hb] at h;simp at h
 | cons q l=>exact ⟨q,by simp⟩
def refE (a:List (Int × Int)) (p:Int):List (Int × Int):=if (fwd p).length=0 then [] else if (orb p).any (memB a) then ones (orb p) else []
def refL (a:List (Int × Int)) (k:Nat):List (Int × Int):=a ++ (List.range k).flatMap fun (i:Nat)=>refE a (i:Int)
theorem refL_zero (a:List (Int × Int)):refL a 0=a:=by simp [refL]
theorem refL_succ (a:List (Int × Int)) (k:Nat):refL a (k+1)=refL a k ++ refE a (k:Int):=by simp [refL,List.range_succ]
theorem mem_refE (a:List (Int × Int)) (p q:Int):mem (refE a p) q↔(∃ y,y ∈ fwd p)∧(∃ x,x ∈ orb p∧mem a x)∧q ∈ orb p:=by
 unfold refE
 by_cases h:(fwd p).length=0
 ·rw [if_pos h]
  have h':=List.eq_nil_of_length_eq_zero h
  constructor
  ·intro k;exact absurd k (mem_nil q)
  ·rintro ⟨⟨y,hy⟩,_⟩;rw [h'] at hy;cases hy
 ·rw [if_neg h]
  have hy:∃ y,y ∈ fwd p:=by
   cases e:fwd p with
   | nil=>rw [e] at h;exact absurd rfl h
   | cons y l=>exact ⟨y,by simp⟩
  by_cases k:(orb p).any (memB a)=true
  ·rw [if_pos k,mem_ones]
   obtain ⟨x,hx,hm⟩:=List.any_eq_true.1 k
   exact ⟨fun h=>⟨hy,⟨x,hx,(memB_iff a x).1 hm⟩,h⟩,fun h=>h.2.2⟩
  ·rw [if_neg k]
   constructor
   ·intro k;exact absurd k (mem_nil q)
   ·rintro ⟨_,⟨x,hx,hm⟩,_⟩
    exact absurd (List.any_eq_true.2 ⟨x,hx,(memB_iff a x).2 hm⟩) k
theorem mem_refL (a:List (Int × Int)) (q:Int):mem (refL a 8500) q↔FoldP a q:=by
 rw [refL,mem_append]
 have hm:mem ((List.range 8500).flatMap fun (i:Nat)=>refE a (i:Int)) q↔∃ i:Nat,i < 8500∧mem (refE a (i:Int)) q:=by
  simp only [mem,List.mem_flatMap,List.mem_range]
  constructor
  ·rintro ⟨r,⟨i,hi,hr⟩,h⟩;exact ⟨i,hi,r,hr,h⟩
  ·rintro ⟨i,hi,r,hr,h⟩;exact ⟨r,⟨i,hi,hr⟩,h⟩
 rw [hm]
 constructor
 ·rintro (h|⟨i,hi,h⟩)
  ·exact .inl h
  ·obtain ⟨⟨y,hy⟩,⟨x,hx,hax⟩,hq⟩:=(mem_refE a i q).1 h
   have hb:=fwd_bes hy
   have hr:=bes_rng hb
   have ho:=((orb_facts i hr.1 hr.2).2 x hx).2
   refine .inr ⟨x,many_bes' (by rw [ho];exact bes_many hb),hax,by rw [ho];exact hq⟩
 ·rintro (h|⟨p,⟨x,hx⟩,hm,hq⟩)
  ·exact .inl h
  ·right
   have hp:∃ p',p' ∈ orb p∧∃ y,y ∈ fwd p':=by
    rcases bes_fwd hx with h|⟨_,h⟩
    ·exact ⟨p,self_orb p,x,h⟩
    ·exact ⟨x,besP_orb hx,p,h⟩
   obtain ⟨p',hp',y,hy⟩:=hp
   have hr:=bes_rng hx
   have ho:=((orb_facts p hr.1 hr.2).2 p' hp').2
   have hl:=bes_low (fwd_bes hy)
   refine ⟨p'.toNat,by omega,?_⟩
   rw [show ((p'.toNat:Nat):Int)=p' by omega]
   exact (mem_refE a p' q).2 ⟨⟨y,hy⟩,⟨p,by rw [ho];exact self_orb p,hm⟩,by rw [ho];exact hq⟩
theorem refL_ok {a:List (Int × Int)} (ha:∀ r ∈ a,okR r=true) (k:Nat):∀ r ∈ refL a k,okR r=true:=fun r hr=>by
 rcases List.mem_append.1 hr with h|h
 ·exact ha r h
 ·obtain ⟨i,hi,hr⟩:=List.mem_flatMap.1 h
  unfold refE at hr
  split at hr
  ·cases hr
  ·split at hr
   ·rename_i hf _
    obtain ⟨x,hx,rfl⟩:=List.mem_map.1 hr
    have:∃ y,y ∈ fwd (i:Int):=by
     cases e:fwd (i:Int) with
     | nil=>rw [e] at hf;exact absurd rfl hf
     | cons y l=>exact ⟨y,by simp⟩
    obtain ⟨y,hy⟩:=this
    have hb:=bes_rng (fwd_bes hy)
    have:=((orb_facts i hb.1 hb.2).2 x hx).1
    exact (okR_iff _).2 ⟨this.1,Int.le_refl _,this.2⟩
   ·cases hr
theorem any_take (l:List Int) (f:Int→Bool) (k:Nat) (h:k < l.length):(l.take (k+1)).any f=((l.take k).any f || f l[k]):=by
 rw [take_snoc' l k h,List.any_append];simp
set_option maxRecDepth 100000 in
set_option maxHeartbeats 4000000 in
theorem foldOf68 (a:List (Int × Int)) (A:Option Addr) (n c:Nat) (w:World) (hn:n≤400000) (hc:c≤maxLen) (hok:∀ r ∈ a,okR r=true) (ha:Rds w w.heap.size 2 A n (rngs a)) :
  Calls Tryz.prog 63 #[.slice A n c] w fun e w'=>∃ out,IsSet out (FoldP a)∧out.length≤1000000∧OwnRngs w out e w':=by
 have HOK:=Lib.hid hok
 have hn0:=Lib.hid (own_new w w.heap.size 67 2 0 #[] (Nat.le_refl _) rfl (by decide))
 clear hok
 go_enter Tryz.func63,Tryz.ntmps63
 go_wp2_with (at_builtin;refine app_rngs (.tmp 9) (.tmp 10) (base:=w.heap.size) (xs:=[]) (n:=0) (by exact hn0.out) (ha.alloc (Nat.le_refl _) _) (by omega) (by simp) rfl rfl rfl rfl ?_;intro v3 w3 hown3 hg3 hat3)
 have HO:=Lib.hid hown3
 have B0:=Lib.hid (show Below w.heap.size w w3 from grown_own ((Below.refl _ _).alloc (Nat.le_refl _) _) hn0.out hg3 (Nat.le_refl _) (by simp))
 clear hown3 hg3 hat3
 obtain ⟨n0,hn0'⟩:∃ n0,n0=0+n:=⟨_,rfl⟩
 rw [← hn0'] at HO
 have hn0n:n0≤400000:=by omega
 go_loopw [3,4] (fun v i wr=>∃ k t:Nat,k≤8500∧i=.int .i64 k∧t≤n0+4 * k∧wr.ownsRow w.heap.size 67 2 v t (rngs (refL a k))∧Below w.heap.size w wr) (fun _ i _=>8500 - (intOf i).toNat)
 case atStart=>exact ⟨0,n0,Nat.zero_le _,rfl,by omega,by rw [refL_zero];simpa using HO.out,B0.out⟩
 case round =>
  obtain ⟨k,t,hk,rfl,ht,hout,hB⟩:=hrel
  have HOUT:=Lib.hid hout
  obtain ⟨Ao,co,rfl,hoc,hco⟩:=own_slice hout
  unfold maxLen at hco
  have hsz:=hB.size
  clear hout
  by_cases hlt:k < 8500
  ·have HS:=Lib.hid (refL_succ a k)
   have HF:=Lib.hid (orb_facts (k:Int) (by omega) (by omega))
   have C1:=Lib.hid (beside109 (k:Int) wr (by omega))
   have C2:=Lib.hid (fun w=>orbitOf62 (k:Int) w (by omega) (by omega))
   have hk2:(k:Int) < 8500:=by omega
   go_wp2_with fail
   refine C1.out.mono ?_
   rintro e w4 ⟨A4,n4,c4,rfl,hown4,hb4⟩
   have HN4:=Lib.hid (own_ints_len hown4)
   have HOUT4:=Lib.hid (own_below HOUT.out hb4 (Nat.le_refl _))
   have B4:=Lib.hid (hB.trans (hb4.mono hsz))
   have hz4:=B4.out.size
   clear hown4 hb4 C1
   by_cases h4:n4=0
   ·have HE:=Lib.hid (show refE a (k:Int)=[] by unfold refE;rw [if_pos (by rw [← HN4.out];exact h4)])
    subst h4
    go_wp2
    go_roundw
    case rel=>exact ⟨k+1,t,by omega,by go_num,by omega,by rw [HS.out,HE.out,List.append_nil];exact HOUT4.out,B4.out⟩
    case measure=>simp [intOf];omega
   ·have HE:=Lib.hid (show refE a (k:Int)=if (orb k).any (memB a) then ones (orb k) else [] by unfold refE;rw [if_neg (by rw [← HN4.out];exact h4)])
    have h4b:((n4:Int) == 0)=false:=by rw [beq_eq_false_iff_ne];omega
    go_wp2_with fail
    refine (C2.out w4).mono ?_
    rintro e w5 ⟨A5,n5,c5,rfl,hown5,hb5⟩
    have HN5:=Lib.hid (own_ints_len hown5)
    have hn5:n5≤4:=by rw [HN5.out];exact HF.out.1
    have HO5:=Lib.hid (own_mono hown5 hz4)
    have HOUT5:=Lib.hid (own_below HOUT4.out hb5 (Nat.le_refl _))
    have B5:=Lib.hid (B4.out.trans (hb5.mono hz4))
    have hz5:=B5.out.size
    clear hown5 hb5 C2
    go_wp2_with fail
    go_loopw [6,7] (fun v i wr=>∃ j q:Nat,j≤n5∧i=.int .i64 j∧v=.bool (((orb k).take j).any (memB a))∧wr=w5.drewN q) (fun _ i _=>n5 - (intOf i).toNat)
    case atStart=>exact ⟨0,0,Nat.zero_le _,rfl,rfl,rfl⟩
    case round =>
     obtain ⟨j,q,hj,rfl,rfl,rfl⟩:=hrel
     by_cases hjl:j < n5
     ·obtain ⟨b2,off2,hl2,hA2,hb2,hc2⟩:=(Rds.of_own HO5.out).int_at hjl
      have HAL2:=Lib.hid hA2
      subst hA2
      have HT2:=Lib.hid (any_take (orb k) (memB a) j hl2)
      obtain ⟨x,hx⟩:∃ x,x=(orb (k:Int))[j]:=⟨_,rfl⟩
      rw [← hx] at hc2 HT2
      clear hx
      have j2:(j:Int) < (n5:Int):=by omega
      cases hb:((orb (k:Int)).take j).any (memB a)
      ·have HB:=Lib.hid hb
       clear hb
       go_wp2_with fail
       refine (within_any a x A n c _ w5.heap.size (by unfold maxLen;omega) (((ha.below B5.out (Nat.le_refl _)).drewN q).more hz5)).mono ?_
       rintro e w6 ⟨rfl,m,rfl⟩
       go_wp2
       go_roundw
       case rel=>exact ⟨j+1,q+m,by omega,by go_num,by rw [HT2.out,HB.out];rfl,rfl⟩
       case measure=>simp [intOf];omega
      ·have HB:=Lib.hid hb
       clear hb
       go_wp2
       go_roundw
       case rel=>exact ⟨j+1,q,by omega,by go_num,by rw [HT2.out,HB.out];rfl,rfl⟩
       case measure=>simp [intOf];omega
     ·obtain rfl:j=n5:=by omega
      have HTT:=Lib.hid (show (orb (k:Int)).take j=orb k from List.take_of_length_le (by rw [← HN5.out];exact Nat.le_refl _))
      rw [HTT.out]
      have HOUT6:=Lib.hid (show (w5.drewN q).ownsRow w.heap.size 67 2 (.slice Ao t co) t (rngs (refL a k)) from HOUT5.out)
      cases hb:(orb (k:Int)).any (memB a)
      ·have HB:=Lib.hid hb
       clear hb
       go_wp2_with fail
       go_loopw [3,8] (fun v i wr=>v=.slice Ao t co∧i=.int .i64 0∧wr=w5.drewN q) (fun _ i _=>0)
       case atStart=>exact ⟨rfl,rfl,rfl⟩
       case round =>
        obtain ⟨rfl,rfl,rfl⟩:=hrel
        go_wp2
        all_goals first
         | (refine ⟨⟨k+1,t,by omega,by go_num,by omega,by rw [HS.out,HE.out,HB.out];simpa using HOUT6.out,below_drewN B5.out _⟩,?_⟩;simp [intOf];omega)
         | skip
      ·have HB:=Lib.hid hb
       clear hb
       go_wp2_with fail
       go_loopw [3,8] (fun v i wr=>∃ j' t:Nat,j'≤j∧i=.int .i64 j'∧t≤n0+4 * k+j'∧wr.ownsRow w.heap.size 67 2 v t (rngs (refL a k ++ ones ((orb k).take j')))∧wr.ownsRow w.heap.size 3 1 (.slice A5 j c5) j (ints (orb k))∧Below w.heap.size w wr) (fun _ i _=>j - (intOf i).toNat)
       case atStart=>exact ⟨0,t,Nat.zero_le _,rfl,by omega,by simpa [ones] using HOUT6.out,HO5.out,below_drewN B5.out _⟩
       case round =>
        obtain ⟨j',t6,hj',rfl,ht6,hout6,ho6,hB6⟩:=hrel
        have HOUT6:=Lib.hid hout6
        have HO6:=Lib.hid ho6
        obtain ⟨Ap,cp,rfl,hpc,hcp⟩:=own_slice hout6
        unfold maxLen at hcp
        have hsz6:=hB6.size
        have HN1:=Lib.hid (own_ne_type hout6 ho6 (by decide))
        by_cases hjl':j' < j
        ·obtain ⟨b2,off2,hl2,hA2,hb2,hc2⟩:=(Rds.of_own ho6).int_at hjl'
         have HAL2:=Lib.hid hA2
         subst hA2
         have HT2:=Lib.hid (ones_snoc (orb k) j' hl2)
         obtain ⟨x,hx⟩:∃ x,x=(orb (k:Int))[j']:=⟨_,rfl⟩
         rw [← hx] at hc2 HT2
         clear hx hout6 ho6
         have j2:(j':Int) < (j:Int):=by omega
         have j0:(0:Int)≤(j':Int):=by omega
         have R:=Lib.hid (Rds.new wr 2 1 #[.int .i64 x,.int .i64 x] 67 (rngs [(x,x)]) rfl rfl)
         have HNB:=Lib.hid (show (some b2:Option Nat)≠(Value.slice Ap t6 cp).ownBlock from fun e=>HN1.out b2 e.symm rfl)
         have hn1:=World.new_ne wr
         go_wp2_with fail
         go_region_held3 (fun w'=>w'.cell? ⟨b2,off2+j',none⟩=some (.int .i64 x))
          (first
           | (exact (by simpa using hc2))
           | (go_split_ands;exact hg3.cell (by assumption) HNB.out)
           | go_keep
           | (go_split_ands;trace_state;fail))
          (first
           | (refine step_app_rngs (.tmp 46) (.tmp 56) (HOUT6.out.alloc _) R.out (by omega) (by simp;omega) rfl rfl rfl rfl ?_;intro v3 w3 hown3 hg3 hat3))
         clear hn1
         go_wp2
         go_roundw
         case rel=>exact ⟨j'+1,t6+1,by omega,by go_num,by omega,by rw [HT2.out,← List.append_assoc];exact hown3,by first|exact own_kept (HO6.out.alloc _) hg3 HN1.out|exact own_kept (World.ownsRow.alloc (w:=wr.drew) HO6.out _) hg3 HN1.out,by first|exact grown_own (hB6.alloc hsz6 _) (HOUT6.out.alloc _) hg3 (Nat.le_refl _) (by simp;omega)|exact grown_own (hB6.alloc hsz6 _).drew (HOUT6.out.alloc _) hg3 (Nat.le_refl _) (by simp;omega)⟩
         case measure=>simp [intOf];omega
        ·obtain rfl:j'=j:=by omega
         go_wp2
         go_roundw
         case rel=>exact ⟨k+1,t6,by omega,by go_num,by omega,by rw [HS.out,HE.out,HB.out,if_pos rfl];have:=HOUT6.out;rw [HTT.out] at this;exact this,hB6⟩
         case measure=>simp [intOf];omega
  ·obtain rfl:k=8500:=by omega
   have HK:=Lib.hid (refL_ok (a:=a) HOK.out 8500)
   go_wp2_with fail
   refine (makeOf_any (refL a 8500) Ao t co wr (by omega) (by unfold maxLen;omega) HK.out (Rds.of_own HOUT.out)).mono ?_
   rintro e w7 ⟨out,hs,hl,A7,n7,c7,rfl,hown,hb7⟩
   go_wp2
   go_ret
   exact ⟨out,⟨hs.1,fun q=>(hs.2 q).trans (mem_refL a q)⟩,by omega,ownRngs_of rfl (own_mono hown hsz) (hB.trans (hb7.mono hsz))⟩
end Go.Proofs.YtbiahhojnjchnaaGreat
