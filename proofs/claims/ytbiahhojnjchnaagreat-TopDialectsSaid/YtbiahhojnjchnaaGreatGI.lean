/-
  Union of the program, walked. The operations of sets, as the laws call them: one form of contract for all.
-/
import Derived.Test.YtbiahhojnjchnaaGreatGG
import Derived.Test.YtbiahhojnjchnaaGreatHQ
import Derived.Test.YtbiahhojnjchnaaGreatGH
import Derived.Test.YtbiahhojnjchnaaGreatGA
set_option linter.unusedVariables false
set_option linter.unusedSimpArgs false
namespace Go.Proofs.YtbiahhojnjchnaaGreat
open Go.RowKit
end Go.Proofs.YtbiahhojnjchnaaGreat
namespace Go.Proofs.YtbiahhojnjchnaaGreat
open Go.RowKit
theorem Rds.next {w w':World} {size n:Nat} {A:Option Addr} {xs:List Value} (h:Rds w w.heap.size size A n xs) (hb:Below w.heap.size w w'):Rds w' w'.heap.size size A n xs :=
 (h.below hb (Nat.le_refl _)).more hb.size
theorem below_next {W w w':World} (h:Below W.heap.size W w) (hb:Below w.heap.size w w'):Below W.heap.size W w':=h.trans (hb.mono h.size)
theorem below_q (w:World) (q:Nat):Below w.heap.size w (w.drewN q):=below_drewN (Below.refl _ _) q
theorem bz {x:Int} (h:x≠0):(x == 0)=false:=beq_eq_false_iff_ne.2 h
theorem bn {x:Int} (h:x≠0):(x != 0)=true:=bne_iff_ne.2 h
/-- what a set and its errno say -/
structure SFact (f:Int→Prop) (c:Int) (out:List (Int × Int)) (x:Int):Prop where
 ok:x=0→IsSet out f∧out.length≤400
 bad:x≠0→out=[]
 err:c≠0→x=c
 fits:c=0→∃ s,IsSet s f∧x=if 400 < s.length then 2 else 0
theorem SFact.good {f:Int→Prop} {c x:Int} {out:List (Int × Int)} (h:SFact f c out x) (hx:x=0):IsSet out f∧chk out=0∧c=0 :=
 ⟨(h.ok hx).1,(chk_ok out).2 ⟨(h.ok hx).2,(h.ok hx).1.1⟩,Classical.byContradiction fun hc=>hc (by rw [← h.err hc,hx])⟩
theorem SFact.many {f:Int→Prop} {c x:Int} {out:List (Int × Int)} (h:SFact f c out x) (hc:c=0) (hx:x≠0):x=2:=by
 obtain ⟨s,_,e⟩:=h.fits hc
 rw [e] at hx ⊢
 split
 ·rfl
 ·rename_i k;rw [if_neg k] at hx;exact absurd rfl hx
theorem SFact.of_set {f:Int→Prop} {c x:Int} {out s:List (Int × Int)} (h:SFact f c out x) (hc:c=0) (hs:IsSet s f) (hl:s.length≤400):x=0∧out=s:=by
 obtain ⟨s',hs',e⟩:=h.fits hc
 have:=hs'.eq hs (fun p=>Iff.rfl)
 subst this
 have hx:x=0:=by rw [e,if_neg (by omega)]
 exact ⟨hx,(h.ok hx).1.eq hs' (fun p=>Iff.rfl)⟩
def SRes (w:World) (f:Int→Prop) (c:Int) (e:Ending) (w':World):Prop :=
 ∃ out A n k x,e=.returned (.tuple #[.slice A n k,.int .i64 x])∧Hid (SFact f c out x)∧n≤k∧k≤maxLen∧Hid (out.length=n)∧Hid (Rds w' w'.heap.size 2 A n (rngs out))∧Below w.heap.size w w'
theorem sres_of {w w':World} {f:Int→Prop} {k:Nat} {c:Int} {e:Ending} (h:WOut w f k c e w'):SRes w f c e w':=by
 obtain ⟨o0,h0,out,A1,n1,c1,rfl,h1,h2,hown,hb⟩:=h
 obtain ⟨_,_,hv1,q1,q2⟩:=own_slice hown
 injection hv1 with e1 e2 e3
 subst e1 e3
 refine ⟨out,A1,n1,c1,_,rfl,Lib.hid ⟨fun hx=>?_,h2,fun hc=>if_neg hc,fun hc=>⟨o0,(h0 hc).1,if_pos hc⟩⟩,q1,q2,Lib.hid (own_rngs_len hown).symm,Lib.hid (Rds.of_own hown),hb⟩
 have hs:=(h1 hx).1
 refine ⟨hs,?_⟩
 by_cases hc:c=0
 ·rw [if_pos hc] at hx
  have:=hs.eq (h0 hc).1 (fun p=>Iff.rfl)
  rw [this]
  split at hx
  ·cases hx
  ·omega
 ·rw [if_neg hc] at hx;exact absurd hx hc
theorem notS (a:List (Int × Int)) (A:Option Addr) (n c:Nat) (w:World) (hnc:n≤c) (hc:c≤maxLen) (ha:Rds w w.heap.size 2 A n (rngs a)) :
  Calls Tryz.prog 35 #[.slice A n c] w (SRes w (fun p=>0≤p∧p≤1114111∧¬ mem a p) (chk a)):=(not31 a A n c w hnc hc ha).mono fun _ _ h=>sres_of h
theorem sameS_ (a b:List (Int × Int)) (v:Bool) (hv:sameS a b=v) (A B:Option Addr) (n m c d:Nat) (w:World) (hn:n≤maxLen) (hm:m≤maxLen) (ha:Rds w w.heap.size 2 A n (rngs a)) (hb:Rds w w.heap.size 2 B m (rngs b)) :
  Calls Tryz.prog 16 #[.slice A n c,.slice B m d] w fun e w'=>e=.returned (.bool v)∧Below w.heap.size w w':=by
 subst hv
 exact (sameSet_any a b A B n m c d w _ _ hn hm ha hb).mono fun _ _ ⟨h1,q,h2⟩=>⟨h1,by subst h2;exact below_q w q⟩
end Go.Proofs.YtbiahhojnjchnaaGreat
