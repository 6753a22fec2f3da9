/-
  Make of the program, walked. with, and Check of the program, walked. Not, Meet, Less of the program, walked. setIs and setBegun of the laws, walked.
-/
import Derived.Test.YtbiahhojnjchnaaGreatHF
import Derived.Test.YtbiahhojnjchnaaGreatGC
import Derived.Test.YtbiahhojnjchnaaGreatGF
import Derived.Test.YtbiahhojnjchnaaGreatHQ
set_option linter.unusedVariables false
set_option linter.unusedSimpArgs false
namespace Go.Proofs.YtbiahhojnjchnaaGreat
open Go.RowKit
/-- a set and an errno handed back: with an errno there is no set. -/
def ROut (w:World) (f:Int→Prop) (k:Nat) (x:Int) (e:Ending) (w':World):Prop :=
 ∃ out A n c,e=.returned (.tuple #[.slice A n c,.int .i64 x])∧(x=0→IsSet out f∧out.length≤k)∧(x≠0→out=[])∧w'.ownsRow w.heap.size 67 2 (.slice A n c) n (rngs out)∧Below w.heap.size w w'
theorem ROut.err {w w':World} {f:Int→Prop} {k:Nat} {x:Int} {e:Ending} (he:e=.returned (.tuple #[.slice none 0 0,.int .i64 x])) (hx:x≠0) (hb:Below w.heap.size w w'):ROut w f k x e w' :=
 ⟨[],none,0,0,he,fun h=>absurd h hx,fun _=>rfl,World.ownsRow_nil _ _ _ _,hb⟩
set_option maxHeartbeats 1000000 in
theorem make26 (l:List (Int × Int)) (x:Int) (hx:rangesE l=x) (A:Option Addr) (n c:Nat) (w:World) (hn:n≤maxLen) (ha:Rds w w.heap.size 2 A n (rngs l)) :
  Calls Tryz.prog 34 #[.slice A n c] w (ROut w (mem l) n x):=by
 have C:=Lib.hid (fun w ha=>ranges71 l x hx A n c w hn ha)
 have HA:=Lib.hid ha.rngs_len
 have HX:=Lib.hid hx
 clear hx
 have hn':=hn
 unfold maxLen at hn
 by_cases h0:x=0
 ·subst h0
  obtain ⟨h1,h2⟩:=(rangesE_ok l).1 HX.out
  have HOK:=Lib.hid h2
  clear h2
  rw [HA.out] at h1
  go_enter Tryz.func34,Tryz.ntmps34
  go_wp2_with fail
  refine (C.out _ ha).mono ?_
  rintro e w1 ⟨rfl,hb⟩
  have hz:=hb.size
  go_wp2_with fail
  refine (raw72 (Lib.hid sortC) l A n c w1 (by omega) HOK.out ((ha.below hb (Nat.le_refl _)).more hz)).mono ?_
  rintro e w2 ⟨out,hset,hlen,A2,n2,c2,rfl,hown,hb2⟩
  go_wp2
  go_ret2
  exact ⟨out,A2,n2,c2,rfl,fun _=>⟨hset,hlen⟩,fun h=>absurd rfl h,own_mono hown hz,hb.trans (hb2.mono hz)⟩
 ·have H0:(x == 0)=false:=by rw [beq_eq_false_iff_ne];exact h0
  have H:=Lib.hid h0
  clear h0
  go_enter Tryz.func34,Tryz.ntmps34
  go_wp2_with fail
  refine (C.out _ ha).mono ?_
  rintro e w1 ⟨rfl,hb⟩
  go_wp2
  go_ret2
  exact ROut.err rfl H.out hb
end Go.Proofs.YtbiahhojnjchnaaGreat
namespace Go.Proofs.YtbiahhojnjchnaaGreat
open Go.RowKit
/-- what set's functions hand back: more than 400 ranges are too many. -/
def WOut (w:World) (f:Int→Prop) (k:Nat) (x:Int) (e:Ending) (w':World):Prop :=
 ∃ (out0:List (Int × Int)),(x=0→IsSet out0 f∧out0.length≤k)∧ROut w f k (if x=0 then (if 400 < out0.length then 2 else 0) else x) e w'
theorem WOut.err {w w':World} {f:Int→Prop} {k:Nat} {x:Int} {e:Ending} (he:e=.returned (.tuple #[.slice none 0 0,.int .i64 x])) (hx:x≠0) (hb:Below w.heap.size w w'):WOut w f k x e w' :=
 ⟨[],fun h=>absurd h hx,by rw [if_neg hx];exact ROut.err he hx hb⟩
set_option maxHeartbeats 1000000 in
theorem with76 (ls:List (List (Int × Int))) (vs:List Value) (x:Int) (hx:chkL ls=x) (A:Option Addr) (n c:Nat) (w:World) (hn:n≤maxLen) (hv:Rds w w.heap.size 1 A n vs) (hs:Sls w w.heap.size vs ls)
  (g:Nat) (cb:Array Value) (f:Int→Prop) (k:Nat)
  (eg:∀ args w,(callFunc g args).run Tryz.prog w=.ok (.enter g args) w)
  (hdo:x=0→∀ w',Below w.heap.size w w'→Calls Tryz.prog g cb w' fun e w''=>∃ out,IsSet out f∧out.length≤k∧OwnRngs w' out e w'') :
  Calls Tryz.prog 36 #[.func (.func g) #[] cb,.slice A n c] w (WOut w f k x):=by
 have HDO:=Lib.hid hdo
 have C:=Lib.hid (check80 ls vs A n c)
 rw [hx] at C
 clear hx hdo
 by_cases h0:x=0
 ·subst h0
  go_enter Tryz.func36,Tryz.ntmps36
  go_wp2_with fail
  refine (C.out _ hn hv hs).mono ?_
  rintro e w1 ⟨rfl,hb⟩
  have hz:=hb.size
  go_wp2_with fail
  refine (HDO.out (by trivial) w1 hb).mono ?_
  rintro e w2 ⟨out,hset,hlen,A2,n2,c2,rfl,hown,hb2⟩
  have HL:=Lib.hid (own_rngs_len hown)
  have HS:=Lib.hid hset
  have HK:=Lib.hid hlen
  clear hset hlen
  by_cases hbig:400 < n2
  ·go_wp2_with fail
   refine (done_many A2 n2 c2 w2 hbig).mono ?_
   rintro e w3 ⟨rfl,rfl⟩
   go_wp2
   go_ret2
   exact ⟨out,fun _=>⟨HS.out,HK.out⟩,by rw [if_pos rfl,if_pos (by rw [← HL.out];exact hbig)];exact ROut.err rfl (by decide) (hb.trans (hb2.mono hz))⟩
  ·go_wp2_with fail
   refine (done_ok A2 n2 c2 w2 (by omega)).mono ?_
   rintro e w3 ⟨rfl,rfl⟩
   go_wp2
   go_ret2
   exact ⟨out,fun _=>⟨HS.out,HK.out⟩,by rw [if_pos rfl,if_neg (by rw [← HL.out];exact hbig)];exact ⟨out,A2,n2,c2,rfl,fun _=>⟨HS.out,HK.out⟩,fun h=>absurd rfl h,own_mono hown hz,hb.trans (hb2.mono hz)⟩⟩
 ·have H0:(x == 0)=false:=by rw [beq_eq_false_iff_ne];exact h0
  have H:=Lib.hid h0
  clear h0
  go_enter Tryz.func36,Tryz.ntmps36
  go_wp2_with fail
  refine (C.out _ hn hv hs).mono ?_
  rintro e w1 ⟨rfl,hb⟩
  go_wp2
  go_ret2
  exact WOut.err rfl H.out hb
theorem chkL_one (a:List (Int × Int)):chkL [a]=chk a:=by
 simp only [chkL];split<;>simp_all
theorem chkL_two (a b:List (Int × Int)):chkL [a,b]=chk2 a b:=by
 simp only [chkL,chk2];split<;>(try split)<;>simp_all
theorem Sls.more {w:World} {X Y:Nat} {vs:List Value} {ls:List (List (Int × Int))} (h:Sls w X vs ls) (hX:X≤Y):Sls w Y vs ls :=
 ⟨h.1,fun k h1 h2=>by obtain ⟨A,n,c,e,a1,a2,a3⟩:=h.2 k h1 h2;exact ⟨A,n,c,e,a1,a2,a3.more hX⟩⟩
theorem sls_one {w:World} {X n c:Nat} {A:Option Addr} {a:List (Int × Int)} (hnc:n≤c) (hc:c≤maxLen) (h:Rds w X 2 A n (rngs a)):Sls w X [.slice A n c] [a] :=
 ⟨rfl,fun k h1 h2=>by
  have hk:k=0:=by simp at h1;exact h1
  subst hk
  exact ⟨A,n,c,rfl,hnc,hc,h⟩⟩
theorem sls_two {w:World} {X n c m d:Nat} {A B:Option Addr} {a b:List (Int × Int)} (hnc:n≤c) (hc:c≤maxLen) (h:Rds w X 2 A n (rngs a)) (hmd:m≤d) (hd:d≤maxLen) (h2:Rds w X 2 B m (rngs b)) :
  Sls w X [.slice A n c,.slice B m d] [a,b] :=
 ⟨rfl,fun k h1 h2'=>by
  have hk:k=0∨k=1:=by simp at h1;omega
  rcases hk with rfl|rfl
  ·exact ⟨A,n,c,rfl,hnc,hc,h⟩
  ·exact ⟨B,m,d,rfl,hmd,hd,h2⟩⟩
set_option maxHeartbeats 1000000 in
theorem check34 (a:List (Int × Int)) (A:Option Addr) (n c:Nat) (w:World) (hnc:n≤c) (hc:c≤maxLen) (ha:Rds w w.heap.size 2 A n (rngs a)) :
  Calls Tryz.prog 86 #[.slice A n c] w fun e w'=>e=.returned (.int .i64 (chk a))∧Below w.heap.size w w':=by
 have HA:=Lib.hid ha.rngs_len
 go_enter Tryz.func86,Tryz.ntmps86
 go_wp2_with fail
 have hb0:Below w.heap.size w (w.alloc (.cells #[.slice A n c] 23)):=by go_grown
 refine (check80 [a] [.slice A n c] _ _ _ _ (by decide) ((Rds.new w 1 1 #[.slice A n c] 23 [.slice A n c] rfl rfl).more (by simp)) ((sls_one hnc hc ha).below hb0 (Nat.le_refl _) |>.more (by simp))).mono ?_
 rintro e w1 ⟨rfl,hb⟩
 go_wp2
 go_ret
 exact ⟨ret_int (chkL_one a),hb0.trans (hb.mono (by simp))⟩
end Go.Proofs.YtbiahhojnjchnaaGreat
namespace Go.Proofs.YtbiahhojnjchnaaGreat
open Go.RowKit
set_option maxRecDepth 100000 in
set_option maxHeartbeats 1000000 in
theorem clo77 (a:List (Int × Int)) (b:Nat) (A:Option Addr) (n c:Nat) (w:World) (hn:n≤100000) (hcan:Can a) (ha:Rds w w.heap.size 2 A n (rngs a)) (hc:w.cell? ⟨b,0,none⟩=some (.slice A n c)) :
  Calls Tryz.prog 68 #[.pointer (some ⟨b,0,none⟩)] w fun e w'=>∃ out,IsSet out (fun p=>0≤p∧p≤1114111∧¬ mem a p)∧out.length≤n+1∧OwnRngs w out e w':=by
 have HA:=Lib.hid ha.rngs_len
 have HC:=Lib.hid hcan
 clear hcan
 go_enter Tryz.func68,Tryz.ntmps68
 go_wp2_with fail
 refine (rawNot78 a A n c w hn HC.out ha).mono ?_
 rintro e w1 ⟨out,hs,hl,A1,n1,c1,rfl,hown,hb⟩
 go_wp2
 go_ret
 exact ⟨out,hs,hl,A1,n1,c1,rfl,hown,hb⟩
theorem chk2_ok {a b:List (Int × Int)} (h:chk2 a b=0):a.length≤400∧Can a∧b.length≤400∧Can b:=by
 unfold chk2 at h
 by_cases h0:chk a=0
 ·rw [if_pos h0] at h
  exact ⟨((chk_ok a).1 h0).1,((chk_ok a).1 h0).2,((chk_ok b).1 h).1,((chk_ok b).1 h).2⟩
 ·rw [if_neg h0] at h;exact absurd h h0
set_option maxRecDepth 100000 in
set_option maxHeartbeats 1000000 in
theorem not31 (a:List (Int × Int)) (A:Option Addr) (n c:Nat) (w:World) (hnc:n≤c) (hc:c≤maxLen) (ha:Rds w w.heap.size 2 A n (rngs a)) :
  Calls Tryz.prog 35 #[.slice A n c] w (WOut w (fun p=>0≤p∧p≤1114111∧¬ mem a p) (n+1) (chk a)):=by
 have HA:=Lib.hid ha.rngs_len
 have HX:=Lib.hid (chkL_one a)
 have EG:=Lib.hid (show ∀ args w,(callFunc 68 args).run Tryz.prog w=.ok (.enter 68 args) w from enters_of Tryz.func68 (by kernel_rfl) rfl)
 go_enter Tryz.func35,Tryz.ntmps35
 go_wp2_with fail
 have hb0:Below w.heap.size w ((w.alloc (.cells #[.slice A n c] 23)).alloc (.cells #[.slice A n c] 23)):=by go_grown
 have hz:((w.alloc (.cells #[.slice A n c] 23)).alloc (.cells #[.slice A n c] 23)).heap.size=w.heap.size+1+1:=by simp
 have hbx:((w.alloc (.cells #[.slice A n c] 23)).alloc (.cells #[.slice A n c] 23)).cell? ⟨w.heap.size,0,none⟩=some (.slice A n c):=by
  rw [World.cell?_alloc_lt _ _ _ (by simp)];simp
 have hrow:=(Rds.new (w.alloc (.cells #[.slice A n c] 23)) 1 1 #[.slice A n c] 23 [.slice A n c] rfl rfl)
 rw [show (w.alloc (.cells #[.slice A n c] 23)).heap.size=w.heap.size+1 by simp] at hrow
 refine (with76 [a] [.slice A n c] (chk a) HX.out _ 1 1 _ (by decide) (hrow.more (by omega)) ((sls_one hnc hc ha).below hb0 (Nat.le_refl _) |>.more (by omega))
  68 #[.pointer (some ⟨w.heap.size,0,none⟩)] (fun p=>0≤p∧p≤1114111∧¬ mem a p) (n+1) EG.out ?_).mono ?_
 ·intro h0 w' hw
  have hk:=(chk_ok a).1 h0
  have hnA:=HA.out
  exact clo77 a _ A n c w' (by omega) hk.2 (((ha.below hb0 (Nat.le_refl _)).below hw (by omega)).more (by have:=hw.size;omega)) (by rw [hw.cell (p:=⟨w.heap.size,0,none⟩) (by show w.heap.size < _;omega)];exact hbx)
 ·rintro e w1 ⟨o0,h0,out,A1,n1,c1,rfl,h1,h2,hown,hb⟩
  have HF:=Lib.hid (show WOut w (fun p=>0≤p∧p≤1114111∧¬ mem a p) (n+1) (chk a) _ w1 from ⟨o0,h0,out,A1,n1,c1,rfl,h1,h2,own_mono hown (by omega),hb0.trans (hb.mono (by omega))⟩)
  clear h0 h1 h2
  generalize (if chk a=0 then if 400 < o0.length then (2:Int) else 0 else chk a)=E at HF ⊢
  go_wp2
  go_ret2
  exact HF.out
end Go.Proofs.YtbiahhojnjchnaaGreat
namespace Go.Proofs.YtbiahhojnjchnaaGreat
open Go.RowKit
set_option maxRecDepth 100000 in
set_option maxHeartbeats 1000000 in
theorem setBegun29 (w:World):Calls Tryz.prog 17 #[] w fun en w'=>en=.returned (.bool true)∧Below w.heap.size w w':=by
 have hb0:Below w.heap.size w (w.alloc (.cells #[.int .i64 5,.int .i64 9,.int .i64 1,.int .i64 4] 67)):=by go_grown
 have R:=Lib.hid ((Rds.new w 2 2 #[.int .i64 5,.int .i64 9,.int .i64 1,.int .i64 4] 67 (rngs [(5,9),(1,4)]) rfl rfl).more (B':=(w.alloc (.cells #[.int .i64 5,.int .i64 9,.int .i64 1,.int .i64 4] 67)).heap.size) (by simp))
 go_enter Tryz.func17,Tryz.ntmps17
 go_wp2_with fail
 refine (make26 [(5,9),(1,4)] 0 rfl _ 2 2 _ (by decide) R.out).mono ?_
 rintro en w1 ⟨o1,A1,n1,c1,rfl,h1,h2,hown,hb1⟩
 have e1:o1=[(1,9)]:=by
  refine IsSet.eq (h1 rfl).1 (g:=mem [(1,9)]) ⟨⟨by decide,.cons (by simp) .nil⟩,fun p=>Iff.rfl⟩ ?_
  intro p
  simp only [mem_cons,mem_nil,or_false]
  omega
 subst e1
 clear h1 h2
 have hn1:n1=1:=own_rngs_len hown
 subst hn1
 obtain ⟨_,_,hv1,q1,q2⟩:=own_slice hown
 injection hv1 with x1 x2 x3
 subst x1 x3
 clear x2
 have hbb:=hb0.trans (hb1.mono (by simp))
 go_wp2_with fail
 refine (not31 [(1,9)] A1 1 c1 w1 q1 q2 (Rds.of_own hown)).mono ?_
 rintro en w2 ⟨o0,h0,o2,A2,n2,c2,rfl,h1,h2,hown2,hb2⟩
 have hk:chk [(1,9)]=0:=by decide
 rw [hk] at h0 h1 h2
 have hX:∀ o:List (Int × Int),(IsSet o fun p=>0≤p∧p≤1114111∧¬ mem [(1,9)] p)→o=[(0,0),(10,1114111)]:=by
  intro o ho
  refine IsSet.eq ho (g:=mem [(0,0),(10,1114111)]) ⟨⟨by decide,.cons (by simp) (.cons (by simp) .nil)⟩,fun p=>Iff.rfl⟩ ?_
  intro p
  simp only [mem_cons,mem_nil,or_false]
  omega
 have e0:=hX o0 (h0 rfl).1
 subst e0
 have e2:=hX o2 (h1 rfl).1
 subst e2
 rw [show (if chk [(1,9)]=0 then if 400 < [((0:Int),(0:Int)),(10,1114111)].length then (2:Int) else 0 else chk [(1,9)])=0 from rfl]
 clear h0 h1 h2 hX hk
 have hn2:n2=2:=own_rngs_len hown2
 subst hn2
 obtain ⟨b3,o3,hl3,hA3,hb3,hc3,hd3⟩:=(Rds.of_own hown2).rng_at (k:=0) (by decide)
 subst hA3
 have hsz:=hbb.size
 have hf:=hbb.trans (hb2.mono (by have:=hb1.size;simp at this;omega))
 simp at hc3 hd3
 go_wp2_with fail
 go_ret
 exact ⟨rfl,hf⟩
end Go.Proofs.YtbiahhojnjchnaaGreat
