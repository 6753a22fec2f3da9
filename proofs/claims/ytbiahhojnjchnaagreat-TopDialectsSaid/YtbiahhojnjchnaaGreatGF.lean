/-
  What the reference hands SetOf, walked: is a point in a set, in none, in both, in one of two. MakeOf, NotOf, MeetOf and UnionOf of the reference, walked: each a right set of just its points.
-/
import Derived.Test.YtbiahhojnjchnaaGreatGA
import Derived.Test.YtbiahhojnjchnaaGreatHD
import Derived.Test.YtbiahhojnjchnaaGreatSetF
import Derived.Shelf.Abstract
set_option linter.unusedVariables false
set_option linter.unusedSimpArgs false
namespace Go.Proofs.YtbiahhojnjchnaaGreat
open Go.RowKit
theorem within_of (a:List (Int × Int)) (p:Int) (b:Bool) (hb:memB a p=b) (A:Option Addr) (n c:Nat) (w:World) (B:Nat) (hn:n≤maxLen) (ha:Rds w B 2 A n (rngs a)) :
  Calls Tryz.prog 97 #[.slice A n c,.int .i64 p] w fun e w'=>e=.returned (.bool b)∧∃ m,w'=w.drewN m:=by rw [← hb];exact within_any a p A n c w B hn ha
theorem memB_change (a:List (Int × Int)) (p:Int) (h:p ∉ endsL a):memB a p=memB a (p - 1):=by
 induction a with
 | nil=>rfl
 | cons r a ih =>
  simp only [endsL,List.mem_cons,not_or] at h
  have:=ih h.2.2
  simp only [memB,List.any_cons] at this ⊢
  rw [this]
  congr 1
  rw [Bool.eq_iff_iff]
  simp
  omega
set_option maxHeartbeats 400000 in
theorem clo75 (a:List (Int × Int)) (p:Int) (b:Nat) (A:Option Addr) (n c:Nat) (w:World) (B:Nat) (hn:n≤maxLen) (ha:Rds w B 2 A n (rngs a)) (hc:w.cell? ⟨b,0,none⟩=some (.slice A n c)) :
  Calls Tryz.prog 118 #[.int .i64 p,.pointer (some ⟨b,0,none⟩)] w fun e w'=>e=.returned (.bool (memB a p))∧∃ m,w'=w.drewN m:=by
 go_enter Tryz.func118,Tryz.ntmps118
 go_wp2_with (go_at_call 97;refine (within_any a p _ _ _ _ B hn ha).mono ?_;rintro e w' ⟨rfl,q,rfl⟩)
 go_ret
 exact ⟨rfl,q,rfl⟩
set_option maxHeartbeats 400000 in
theorem clo79 (a:List (Int × Int)) (p:Int) (b:Nat) (A:Option Addr) (n c:Nat) (w:World) (B:Nat) (hn:n≤maxLen) (ha:Rds w B 2 A n (rngs a)) (hc:w.cell? ⟨b,0,none⟩=some (.slice A n c)) :
  Calls Tryz.prog 101 #[.int .i64 p,.pointer (some ⟨b,0,none⟩)] w fun e w'=>e=.returned (.bool (!memB a p))∧∃ m,w'=w.drewN m:=by
 go_enter Tryz.func101,Tryz.ntmps101
 go_wp2_with (go_at_call 97;refine (within_any a p _ _ _ _ B hn ha).mono ?_;rintro e w' ⟨rfl,q,rfl⟩)
 go_ret
 exact ⟨rfl,q,rfl⟩
set_option maxHeartbeats 400000 in
theorem clo83 (a a2:List (Int × Int)) (p:Int) (b b2:Nat) (A A2:Option Addr) (n c n2 c2:Nat) (w:World) (B B2:Nat) (hn:n≤maxLen) (hn2:n2≤maxLen) (ha:Rds w B 2 A n (rngs a)) (ha2:Rds w B2 2 A2 n2 (rngs a2)) (hc:w.cell? ⟨b,0,none⟩=some (.slice A n c)) (hc2:w.cell? ⟨b2,0,none⟩=some (.slice A2 n2 c2)) :
  Calls Tryz.prog 100 #[.int .i64 p,.pointer (some ⟨b,0,none⟩),.pointer (some ⟨b2,0,none⟩)] w fun e w'=>e=.returned (.bool (memB a p && memB a2 p))∧∃ m,w'=w.drewN m:=by
 cases h1:memB a p
 ·have H1:=Lib.hid h1
  clear h1
  go_enter Tryz.func100,Tryz.ntmps100
  go_wp2_with (go_at_call 97;refine (within_of a p false H1.out _ _ _ _ B hn ha).mono ?_;rintro e w' ⟨rfl,q,rfl⟩)
  go_ret
  exact ⟨rfl,q,rfl⟩
 ·have H1:=Lib.hid h1
  clear h1
  go_enter Tryz.func100,Tryz.ntmps100
  go_wp2_with fail
  refine (within_of a p true H1.out _ _ _ _ B hn ha).mono ?_
  rintro e w' ⟨rfl,q,rfl⟩
  go_wp2_with fail
  refine (within_any a2 p _ _ _ _ B2 hn2 ((ha2.drewN q))).mono ?_
  rintro e w' ⟨rfl,q2,rfl⟩
  go_wp2
  go_ret
  exact ⟨ret_bool (by simp),_,rfl⟩
end Go.Proofs.YtbiahhojnjchnaaGreat
namespace Go.Proofs.YtbiahhojnjchnaaGreat
open Go.RowKit
def RefSet (w:World) (f:Int→Prop) (k:Nat) (e:Ending) (w':World):Prop:=∃ out,IsSet out f∧out.length≤k∧OwnRngs w out e w'
theorem memB_range {a:List (Int × Int)} (h:∀ r ∈ a,okR r=true) {p:Int} (hp:memB a p=true):0≤p∧p≤1114111:=by
 obtain ⟨r,hr,h1,h2⟩:=(memB_iff a p).1 hp
 have:=(okR_iff r).1 (h r hr)
 omega
set_option maxHeartbeats 1000000 in
theorem makeOf_any (a:List (Int × Int)) (A:Option Addr) (n c:Nat) (w:World) (hn:n≤500000) (hc:c≤maxLen) (hok:∀ r ∈ a,okR r=true) (ha:Rds w w.heap.size 2 A n (rngs a)) :
  Calls Tryz.prog 93 #[.slice A n c] w (RefSet w (fun p=>mem a p) (n * 2+1)):=by
 have HOK:=Lib.hid hok
 have HA:=Lib.hid ha.rngs_len
 have eg:∀ args w,(callFunc 118 args).run Tryz.prog w=.ok (.enter 118 args) w:=enters_of Tryz.func118 (by kernel_rfl) rfl
 have EG:=Lib.hid eg
 clear eg hok
 go_enter Tryz.func93,Tryz.ntmps93
 go_wp2_with fail
 refine (endsOf_any a [] A none n 0 c 0 _ (by omega) HOK.out (by simp) ((ha.alloc (Nat.le_refl _) _).more (by simp)) (Rds.nil_ _ _ _ _)).mono ?_
 rintro e w1 ⟨A1,n1,c1,rfl,hown,hb⟩
 have hl1:=Lib.hid (own_ints_len hown)
 have hbx:w1.cell? ⟨w.heap.size,0,none⟩=some (.slice A n c):=by rw [hb.cell (p:=⟨w.heap.size,0,none⟩) (by simp)];simp
 have hs1:=hb.size
 simp at hs1
 have B0:Below w.heap.size w w1:=Below.trans (by go_grown) (hb.mono (by simp))
 go_wp2_with fail
 have ha1:=(ha.below B0 (Nat.le_refl _))
 refine (setOf_any (endsL a ++ endsL []) (memB a) A1 n1 c1 118 #[.pointer (some ⟨w.heap.size,0,none⟩)] w1 (by rw [hl1.out,List.length_append,endsL_len,endsL_len,HA.out];simp;omega) (Rds.of_own hown) EG.out
  (fun p w' hbw=>clo75 a p _ A n c w' w.heap.size (by unfold maxLen;omega) (ha1.below hbw (by omega)) (by rw [hbw.cell (p:=⟨w.heap.size,0,none⟩) (by simp;omega)];exact hbx)) (fun p _ _ hp=>memB_change a p (by simpa [endsL] using hp))).mono ?_
 rintro e w2 ⟨out,hset,hlen,A2,n2,c2,rfl,hown2,hb2⟩
 go_wp2
 go_ret
 refine ⟨out,⟨hset.1,fun p=>?_⟩,?_,ownRngs_of rfl (own_mono hown2 (by omega)) (B0.trans (hb2.mono (by omega)))⟩
 ·refine (hset.2 p).trans ?_
  show (0≤p∧p≤1114111∧memB a p=true)↔mem a p
  rw [memB_iff]
  exact ⟨fun h=>h.2.2,fun h=>⟨(memB_range HOK.out ((memB_iff a p).2 h)).1,(memB_range HOK.out ((memB_iff a p).2 h)).2,h⟩⟩
 ·rw [hl1.out,List.length_append,endsL_len,endsL_len,HA.out] at hlen
  simpa using hlen
set_option maxHeartbeats 1000000 in
theorem notOf_any (a:List (Int × Int)) (A:Option Addr) (n c:Nat) (w:World) (hn:n≤500000) (hc:c≤maxLen) (hok:∀ r ∈ a,okR r=true) (ha:Rds w w.heap.size 2 A n (rngs a)) :
  Calls Tryz.prog 65 #[.slice A n c] w (RefSet w (fun p=>0≤p∧p≤1114111∧¬ mem a p) (n * 2+1)):=by
 have HOK:=Lib.hid hok
 have HA:=Lib.hid ha.rngs_len
 have eg:∀ args w,(callFunc 101 args).run Tryz.prog w=.ok (.enter 101 args) w:=enters_of Tryz.func101 (by kernel_rfl) rfl
 have EG:=Lib.hid eg
 clear eg hok
 go_enter Tryz.func65,Tryz.ntmps65
 go_wp2_with fail
 refine (endsOf_any a [] A none n 0 c 0 _ (by omega) HOK.out (by simp) ((ha.alloc (Nat.le_refl _) _).more (by simp)) (Rds.nil_ _ _ _ _)).mono ?_
 rintro e w1 ⟨A1,n1,c1,rfl,hown,hb⟩
 have hl1:=Lib.hid (own_ints_len hown)
 have hbx:w1.cell? ⟨w.heap.size,0,none⟩=some (.slice A n c):=by rw [hb.cell (p:=⟨w.heap.size,0,none⟩) (by simp)];simp
 have hs1:=hb.size
 simp at hs1
 have B0:Below w.heap.size w w1:=Below.trans (by go_grown) (hb.mono (by simp))
 go_wp2_with fail
 have ha1:=(ha.below B0 (Nat.le_refl _))
 refine (setOf_any (endsL a ++ endsL []) (fun p=>!memB a p) A1 n1 c1 101 #[.pointer (some ⟨w.heap.size,0,none⟩)] w1 (by rw [hl1.out,List.length_append,endsL_len,endsL_len,HA.out];simp;omega) (Rds.of_own hown) EG.out
  (fun p w' hbw=>clo79 a p _ A n c w' w.heap.size (by unfold maxLen;omega) (ha1.below hbw (by omega)) (by rw [hbw.cell (p:=⟨w.heap.size,0,none⟩) (by simp;omega)];exact hbx)) (fun p _ _ hp=>by show (!memB a p)=!memB a (p - 1);rw [memB_change a p (by simpa [endsL] using hp)])).mono ?_
 rintro e w2 ⟨out,hset,hlen,A2,n2,c2,rfl,hown2,hb2⟩
 go_wp2
 go_ret
 refine ⟨out,⟨hset.1,fun p=>?_⟩,?_,ownRngs_of rfl (own_mono hown2 (by omega)) (B0.trans (hb2.mono (by omega)))⟩
 ·refine (hset.2 p).trans ?_
  show (0≤p∧p≤1114111∧(!memB a p)=true)↔(0≤p∧p≤1114111∧¬ mem a p)
  rw [← memB_iff]
  simp
 ·rw [hl1.out,List.length_append,endsL_len,endsL_len,HA.out] at hlen
  simpa using hlen
set_option maxHeartbeats 1000000 in
theorem meetOf_any (a b:List (Int × Int)) (A A2:Option Addr) (n c n2 c2:Nat) (w:World) (hn:n+n2≤500000) (hc:c≤maxLen) (hok:∀ r ∈ a,okR r=true) (hok2:∀ r ∈ b,okR r=true) (ha:Rds w w.heap.size 2 A n (rngs a)) (hb2:Rds w w.heap.size 2 A2 n2 (rngs b)) :
  Calls Tryz.prog 64 #[.slice A n c,.slice A2 n2 c2] w (RefSet w (fun p=>mem a p∧mem b p) ((n+n2) * 2+1)):=by
 have HOK:=Lib.hid hok
 have HOK2:=Lib.hid hok2
 have HA:=Lib.hid ha.rngs_len
 have HA2:=Lib.hid hb2.rngs_len
 have eg:∀ args w,(callFunc 100 args).run Tryz.prog w=.ok (.enter 100 args) w:=enters_of Tryz.func100 (by kernel_rfl) rfl
 have EG:=Lib.hid eg
 clear eg hok hok2
 go_enter Tryz.func64,Tryz.ntmps64
 go_wp2_with fail
 refine (endsOf_any a b A A2 n n2 c c2 _ (by omega) HOK.out HOK2.out (((ha.alloc (Nat.le_refl _) _).alloc (by simp) _).more (by simp;omega)) (((hb2.alloc (Nat.le_refl _) _).alloc (by simp) _).more (by simp;omega))).mono ?_
 rintro e w1 ⟨A1,n1,c1,rfl,hown,hb⟩
 have hl1:=Lib.hid (own_ints_len hown)
 have hbx:w1.cell? ⟨w.heap.size,0,none⟩=some (.slice A n c):=by rw [hb.cell (p:=⟨w.heap.size,0,none⟩) (by simp;omega)];simp
 have hby:w1.cell? ⟨w.heap.size+1,0,none⟩=some (.slice A2 n2 c2):=by rw [hb.cell (p:=⟨w.heap.size+1,0,none⟩) (by simp)];simp
 have hs1:=hb.size
 simp at hs1
 have B0:Below w.heap.size w w1:=Below.trans (by go_grown) (hb.mono (by simp;omega))
 go_wp2_with fail
 have ha1:=(ha.below B0 (Nat.le_refl _))
 have hb1:=(hb2.below B0 (Nat.le_refl _))
 refine (setOf_any (endsL a ++ endsL b) (fun p=>memB a p && memB b p) A1 n1 c1 100 #[.pointer (some ⟨w.heap.size,0,none⟩),.pointer (some ⟨w.heap.size+1,0,none⟩)] w1 (by rw [hl1.out,List.length_append,endsL_len,endsL_len,HA.out,HA2.out];omega) (Rds.of_own hown) EG.out
  (fun p w' hbw=>clo83 a b p _ _ A A2 n c n2 c2 w' w.heap.size w.heap.size (by unfold maxLen;omega) (by unfold maxLen;omega) (ha1.below hbw (by omega)) (hb1.below hbw (by omega)) (by rw [hbw.cell (p:=⟨w.heap.size,0,none⟩) (by simp;omega)];exact hbx) (by rw [hbw.cell (p:=⟨w.heap.size+1,0,none⟩) (by simp;omega)];exact hby))
  (fun p _ _ hp=>by show (memB a p && memB b p)=(memB a (p - 1) && memB b (p - 1));rw [memB_change a p (fun h=>hp (List.mem_append_left _ h)),memB_change b p (fun h=>hp (List.mem_append_right _ h))])).mono ?_
 rintro e w2 ⟨out,hset,hlen,A3,n3,c3,rfl,hown2,hb3⟩
 go_wp2
 go_ret
 refine ⟨out,⟨hset.1,fun p=>?_⟩,?_,ownRngs_of rfl (own_mono hown2 (by omega)) (B0.trans (hb3.mono (by omega)))⟩
 ·refine (hset.2 p).trans ?_
  show (0≤p∧p≤1114111∧(memB a p && memB b p)=true)↔(mem a p∧mem b p)
  rw [← memB_iff,← memB_iff]
  have h1:=memB_range (p:=p) HOK.out
  have h2:=memB_range (p:=p) HOK2.out
  cases e1:memB a p<;>cases e2:memB b p<;>simp [e1,e2] at h1 h2 ⊢<;>omega
 ·rw [hl1.out,List.length_append,endsL_len,endsL_len,HA.out,HA2.out] at hlen
  omega
end Go.Proofs.YtbiahhojnjchnaaGreat
