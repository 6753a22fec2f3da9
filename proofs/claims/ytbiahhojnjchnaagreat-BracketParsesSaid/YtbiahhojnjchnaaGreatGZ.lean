/-
  Bracket expressions in general, in plain Lean: what each tells. (Spec; YtbiahhojnjchnaaGreat is the seat's name.) Bracket expressions moved: what stands ahead of one does not matter; one turned over: plain. What is wrong with an expression has a name: plain. Lengths of canonical sets, plain. How often what an expression tells changes, and so how long a set may be: plain. What classes and folds weigh: plain.
-/
import Derived.Test.YtbiahhojnjchnaaGreatGU
import Derived.Test.YtbiahhojnjchnaaGreatGN
import Derived.Test.YtbiahhojnjchnaaGreatGK
import Derived.Test.YtbiahhojnjchnaaGreatHE
import Derived.Test.YtbiahhojnjchnaaGreatHD
import Derived.Test.YtbiahhojnjchnaaGreatGL
set_option linter.unusedVariables false
set_option linter.unusedSimpArgs false
namespace Go.Proofs.YtbiahhojnjchnaaGreat
section
variable (d:Int) (l:List Int)
def bNamedP (at_:Int):Option (BR Itm) :=
 if saysB l at_ [91,58]=true then
  let nt:=decide (d=1) && saysB l (at_+2) [94]
  let a:=if nt=true then at_+3 else at_+2
  let k:=runLen isLow l a ((l.length:Int) - a).toNat
  if k=0∨saysB l (a+k) [58,93]=false then some (.error (1,a+k))
  else match cls (bytesP (runPts l a k)) with
   | none=>some (.error (5,at_))
   | some L=>some (.ok ⟨clsF L nt,-1,a+k+2⟩)
 else none
def escP (at_:Int):BR Itm :=
 match tokenP d l at_ with
 | .error x=>.error (x,at_)
 | .ok (t,nx) =>
  if t.kind=1 then .ok ⟨fun p=>p=t.num,t.num,nx⟩
  else if t.kind=4 then .ok ⟨clsF ((cls t.text).getD []) t.not_,-1,nx⟩
  else .error (1,at_)
def itemP (W:Int→BR SP) (at_:Int):BR Itm :=
 match bNamedP d l at_ with
 | some r=>r
 | none =>
  if (l.length:Int)≤at_ then .error (1,at_)
  else if d=1∧ptAt l at_=91 then (match W at_ with|.error e=>.error e|.ok r=>.ok ⟨r.1,-1,r.2⟩)
  else if d=1∧ptAt l at_=92 then escP d l at_
  else .ok ⟨fun p=>p=ptAt l at_,ptAt l at_,at_+1⟩
/-- what is folded: what it has, and what is in one orbit with that -/
def foldQ (fo:Bool) (f:Int→Prop) (q:Int):Prop:=if fo=true then f q∨∃ p,(∃ x,x ∈ besP p)∧f p∧q ∈ orb p else f q
def moreP (fo:Bool) (S:Int→BR SP):Nat→(Int→Prop)→Int→BR SP
 | 0,_,nx=>.error (0,nx)
 | m+1,f,nx =>
  if saysB l nx [38,38]=true then match partP d l S false (((l.length:Int) - (nx+2)).toNat+1) 0 (fun _=>False) (nx+2) with
   | .error e=>.error e
   | .ok r=>moreP fo S m (fun p=>f p∧foldQ fo r.1 p) r.2
  else .ok (f,nx+1)
def wholeP (fo:Bool) (S:Int→BR SP) (at_:Int):BR SP :=
 let nt:=saysB l at_ [94]
 let a:=if nt=true then at_+1 else at_
 match partP d l S true (((l.length:Int) - a).toNat+1) 0 (fun _=>False) a with
 | .error e=>.error e
 | .ok r=>match moreP d l fo S (((l.length:Int) - r.2).toNat+1) (foldQ fo r.1) r.2 with
  | .error e=>.error e
  | .ok r=>.ok (if nt=true then (fun p=>0≤p∧p≤1114111∧¬ r.1 p) else r.1,r.2)
/-- an expression at a [ within others, k more of them allowed -/
def inP (fo:Bool):Nat→Int→BR SP
 | 0,at_=>.error (2,at_)
 | k+1,at_=>wholeP d l fo (spanP d l (itemP d l (inP fo k))) (at_+1)
end
end Go.Proofs.YtbiahhojnjchnaaGreat
namespace Go.Proofs.YtbiahhojnjchnaaGreat
/-! ### an expression moved -/
def shB (k:Int):BR SP→BR SP
 | .ok r=>.ok (r.1,k+r.2)
 | .error e=>.error (e.1,k+e.2)
def shI (k:Int):BR Itm→BR Itm
 | .ok r=>.ok ⟨r.f,r.pt,k+r.nx⟩
 | .error e=>.error (e.1,k+e.2)
theorem shB_ite (k:Int) (c:Prop) [Decidable c] (x y:BR SP):shB k (if c then x else y)=if c then shB k x else shB k y:=by split<;>rfl
theorem shI_ite (k:Int) (c:Prop) [Decidable c] (x y:BR Itm):shI k (if c then x else y)=if c then shI k x else shI k y:=by split<;>rfl
theorem says_sh (a l:List Int):∀ (xs:List Int) (p:Int),0≤p→saysB (a ++ l) (a.length+p) xs=saysB l p xs:=by
 intro xs
 induction xs with
 | nil=>intro p _;rfl
 | cons x xs ih =>
  intro p h
  unfold saysB
  rw [pt_sh a l p h,Int.add_assoc,ih (p+1) (by omega)]
theorem named_shB (d:Int) (a l:List Int) (p:Int) (h:0≤p):bNamedP d (a ++ l) (a.length+p)=(bNamedP d l p).map (shI a.length):=by
 unfold bNamedP
 rw [says_sh a l _ p h]
 split
 ·simp only [Int.add_assoc]
  rw [says_sh a l _ _ (by omega)]
  have hk:∀ x:Int,0≤x→runLen isLow (a ++ l) (a.length+x) (((a ++ l).length:Int) - (a.length+x)).toNat=runLen isLow l x ((l.length:Int) - x).toNat:=by
   intro x hx
   rw [run_sh _ _ _ _ _ hx]
   congr 2
   simp
   omega
  have ha:(if (decide (d=1) && saysB l (p+2) [94])=true then (a.length:Int)+(p+3) else a.length+(p+2))=a.length+(if (decide (d=1) && saysB l (p+2) [94])=true then p+3 else p+2):=by split<;>rfl
  rw [ha]
  have h0:0≤(if (decide (d=1) && saysB l (p+2) [94])=true then p+3 else p+2):=by split<;>omega
  generalize (if (decide (d=1) && saysB l (p+2) [94])=true then p+3 else p+2)=q at h0 ⊢
  simp only [hk q h0,Int.add_assoc]
  rw [says_sh a l _ _ (by omega),pts_sh _ _ _ _ h0]
  split
  ·rfl
  ·cases cls (bytesP (runPts l q (runLen isLow l q ((l.length:Int) - q).toNat))) with
   | none=>rfl
   | some L=>simp only [Option.map_some,shI,Int.add_assoc]
 ·rfl
theorem esc_sh (d:Int) (a l:List Int) (p:Int) (h:0≤p):escP d (a ++ l) (a.length+p)=shI a.length (escP d l p):=by
 unfold escP
 rw [token_sh _ _ _ _ h]
 cases tokenP d l p with
 | error x=>rfl
 | ok r=>obtain ⟨t,nx⟩:=r;simp only [shR_ok,shI_ite];rfl
theorem item_sh (d:Int) (a l:List Int) (W W':Int→BR SP) (hW:∀ p,0≤p→W' (a.length+p)=shB a.length (W p)) (p:Int) (h:0≤p):itemP d (a ++ l) W' (a.length+p)=shI a.length (itemP d l W p):=by
 unfold itemP
 rw [named_shB _ _ _ _ h]
 cases bNamedP d l p with
 | some r=>rfl
 | none =>
  simp only [Option.map_none]
  rw [esc_sh _ _ _ _ h,hW p h,pt_sh a l p h]
  have:(((a ++ l).length:Int)≤a.length+p)↔((l.length:Int)≤p):=by simp
  simp only [this,shI_ite,Int.add_assoc]
  cases W p with
  | error e=>rfl
  | ok r=>rfl
/-- an item that is right stands ahead of where it ends -/
def Ahd (f:Int→BR SP):Prop:=∀ p r,0≤p→f p=.ok r→p < r.2
theorem ahd_named {d:Int} {l:List Int} {p:Int} {r:Itm} (h:bNamedP d l p=some (.ok r)):p < r.nx:=by
 unfold bNamedP at h
 split at h
 ·simp only at h
  have h0:p+2≤(if (decide (d=1) && saysB l (p+2) [94])=true then p+3 else p+2):=by split<;>omega
  generalize (if (decide (d=1) && saysB l (p+2) [94])=true then p+3 else p+2)=q at h0 h
  split at h
  ·cases h
  ·split at h
   ·cases h
   ·cases h
    simp only
    omega
 ·cases h
theorem ahd_item {d:Int} {l:List Int} {W:Int→BR SP} (hW:Ahd W) {p:Int} {r:Itm} (h0:0≤p) (h:itemP d l W p=.ok r):p < r.nx:=by
 unfold itemP at h
 split at h
 ·rename_i q hq
  subst h
  exact ahd_named hq
 ·split at h
  ·cases h
  ·rename_i hp
   split at h
   ·split at h
    ·cases h
    ·rename_i s hs
     cases h
     exact hW _ _ h0 hs
   ·split at h
    ·unfold escP at h
     split at h
     ·cases h
     ·rename_i t nx ht
      have:=(token_mv d l p (by omega) t nx ht).1
      split at h
      ·cases h;simp only;omega
      ·split at h
       ·cases h;simp only;omega
       ·cases h
    ·cases h
     simp only
     omega
def AhdI (f:Int→BR Itm):Prop:=∀ p r,0≤p→f p=.ok r→p < r.nx
theorem ahd_span {d:Int} {l:List Int} {I:Int→BR Itm} (hI:AhdI I):Ahd (spanP d l I):=by
 intro p r h0 h
 unfold spanP at h
 split at h
 ·cases h
 ·rename_i a ha
  have h1:=hI p a h0 ha
  split at h
  ·cases h;exact h1
  ·split at h
   ·cases h
   ·split at h
    ·cases h
    ·cases hb:I (a.nx+1) with
     | error e=>rw [hb] at h;cases h
     | ok b =>
      rw [hb] at h
      have h2:=hI (a.nx+1) b (by omega) hb
      unfold pairP at h
      simp only at h
      split at h
      ·cases h
      ·split at h
       ·cases h
       ·cases h;simp only;omega
theorem span_sh (d:Int) (a l:List Int) (I I':Int→BR Itm) (hI:∀ p,0≤p→I' (a.length+p)=shI a.length (I p)) (hA:AhdI I) (p:Int) (h:0≤p):spanP d (a ++ l) I' (a.length+p)=shB a.length (spanP d l I p):=by
 unfold spanP
 rw [hI p h]
 cases hx:I p with
 | error e=>rfl
 | ok x =>
  have hn:=hA p x h hx
  have h1:(0:Int)≤x.nx:=by omega
  simp only [shI,Int.add_assoc]
  rw [says_sh a l _ _ h1,says_sh a l _ _ h1,says_sh a l _ _ (show 0≤x.nx+1 by omega),pt_sh a l _ (show 0≤x.nx+1 by omega),hI _ (show 0≤x.nx+1 by omega)]
  have:(((a ++ l).length:Int)≤a.length+(x.nx+1))↔((l.length:Int)≤x.nx+1):=by simp
  simp only [this,shB_ite]
  have hp:pairP x.pt (a.length+(x.nx+1)) (shI a.length (I (x.nx+1)))=shB a.length (pairP x.pt (x.nx+1) (I (x.nx+1))):=by
   cases I (x.nx+1) with
   | error e=>rfl
   | ok b=>simp only [shI,pairP,shB_ite];rfl
  rw [hp]
  rfl
theorem part_sh (d:Int) (a l:List Int) (S S':Int→BR SP) (hS:∀ p,0≤p→S' (a.length+p)=shB a.length (S p)) (hA:Ahd S) (first:Bool) (m:Nat):∀ (n:Nat) (acc:Int→Prop) (p:Int),0≤p →
  partP d (a ++ l) S' first m n acc (a.length+p)=shB a.length (partP d l S first m n acc p):=by
 induction m with
 | zero=>intro n acc p _;rfl
 | succ m ih =>
  intro n acc p h
  unfold partP
  rw [pt_sh a l p h,says_sh a l _ _ h,hS p h]
  simp only [shB_ite]
  cases hx:S p with
  | error e=>rfl
  | ok r =>
   have:=hA p r h hx
   simp only [shB]
   rw [ih _ _ _ (by omega)]
   rfl
theorem ahd_part {d:Int} {l:List Int} {S:Int→BR SP} (hA:Ahd S) (first:Bool) (m:Nat):∀ (n:Nat) (acc:Int→Prop) (p:Int) (r:SP),0≤p→partP d l S first m n acc p=.ok r→p≤r.2:=by
 induction m with
 | zero=>intro n acc p r _ h;cases h
 | succ m ih =>
  intro n acc p r h0 h
  unfold partP at h
  split at h
  ·split at h
   ·cases h
   ·cases h;exact Int.le_refl _
  ·split at h
   ·split at h
    ·cases h
    ·cases h;exact Int.le_refl _
   ·split at h
    ·cases h
    ·rename_i s hs
     have h1:=hA p s h0 hs
     have:=ih _ _ _ _ (by omega) h
     omega
theorem ahd_more {d:Int} {l:List Int} {fo:Bool} {S:Int→BR SP} (hA:Ahd S) (m:Nat):∀ (f:Int→Prop) (p:Int) (r:SP),0≤p→moreP d l fo S m f p=.ok r→p < r.2:=by
 induction m with
 | zero=>intro f p r _ h;cases h
 | succ m ih =>
  intro f p r h0 h
  unfold moreP at h
  split at h
  ·split at h
   ·cases h
   ·rename_i s hs
    have h1:=ahd_part hA _ _ _ _ _ _ (by omega) hs
    have:=ih _ _ _ (by omega) h
    omega
  ·cases h;simp only;omega
theorem more_sh (d:Int) (a l:List Int) (fo:Bool) (S S':Int→BR SP) (hS:∀ p,0≤p→S' (a.length+p)=shB a.length (S p)) (hA:Ahd S) (m:Nat):∀ (f:Int→Prop) (p:Int),0≤p →
  moreP d (a ++ l) fo S' m f (a.length+p)=shB a.length (moreP d l fo S m f p):=by
 induction m with
 | zero=>intro f p _;rfl
 | succ m ih =>
  intro f p h
  unfold moreP
  rw [says_sh a l _ _ h]
  simp only [shB_ite,Int.add_assoc]
  have e:(((a ++ l).length:Int) - (a.length+(p+2))).toNat+1=((l.length:Int) - (p+2)).toNat+1:=by simp;omega
  rw [e,part_sh d a l S S' hS hA _ _ _ _ _ (by omega)]
  cases hx:partP d l S false (((l.length:Int) - (p+2)).toNat+1) 0 (fun _=>False) (p+2) with
  | error e=>rfl
  | ok r =>
   have:=ahd_part hA _ _ _ _ _ _ (by omega) hx
   simp only [shB]
   rw [ih _ _ (by omega)]
   rfl
/-- behind the ^: what is left of an expression -/
def tailP (d:Int) (l:List Int) (fo:Bool) (S:Int→BR SP) (a:Int):BR SP :=
 match partP d l S true (((l.length:Int) - a).toNat+1) 0 (fun _=>False) a with
 | .error e=>.error e
 | .ok r=>moreP d l fo S (((l.length:Int) - r.2).toNat+1) (foldQ fo r.1) r.2
def turnB (nt:Bool):BR SP→BR SP
 | .error e=>.error e
 | .ok r=>.ok (if nt=true then (fun p=>0≤p∧p≤1114111∧¬ r.1 p) else r.1,r.2)
theorem whole_tail (d:Int) (l:List Int) (fo:Bool) (S:Int→BR SP) (p:Int):wholeP d l fo S p=turnB (saysB l p [94]) (tailP d l fo S (if saysB l p [94]=true then p+1 else p)):=by
 unfold wholeP tailP
 simp only
 cases partP d l S true (((l.length:Int) - (if saysB l p [94]=true then p+1 else p)).toNat+1) 0 (fun _=>False) (if saysB l p [94]=true then p+1 else p) with
 | error e=>rfl
 | ok r =>
  simp only
  cases moreP d l fo S (((l.length:Int) - r.2).toNat+1) (foldQ fo r.1) r.2 with
  | error e=>rfl
  | ok r=>rfl
theorem tail_sh (d:Int) (a l:List Int) (fo:Bool) (S S':Int→BR SP) (hS:∀ p,0≤p→S' (a.length+p)=shB a.length (S p)) (hA:Ahd S) (p:Int) (h:0≤p) :
  tailP d (a ++ l) fo S' (a.length+p)=shB a.length (tailP d l fo S p):=by
 unfold tailP
 have e:∀ q:Int,(((a ++ l).length:Int) - (a.length+q)).toNat+1=((l.length:Int) - q).toNat+1:=by intro q;simp;omega
 rw [e,part_sh d a l S S' hS hA _ _ _ _ _ h]
 cases hx:partP d l S true (((l.length:Int) - p).toNat+1) 0 (fun _=>False) p with
 | error e=>rfl
 | ok r =>
  have:=ahd_part hA _ _ _ _ _ _ h hx
  simp only [shB]
  rw [e,more_sh d a l fo S S' hS hA _ _ _ (by omega)]
  rfl
theorem ahd_tail {d:Int} {l:List Int} {fo:Bool} {S:Int→BR SP} (hA:Ahd S):Ahd (tailP d l fo S):=by
 intro p r h0 h
 unfold tailP at h
 split at h
 ·cases h
 ·rename_i s hs
  have h1:=ahd_part hA _ _ _ _ _ _ h0 hs
  have h2:=ahd_more hA _ _ _ _ (by omega) h
  omega
theorem ahd_whole {d:Int} {l:List Int} {fo:Bool} {S:Int→BR SP} (hA:Ahd S):Ahd (wholeP d l fo S):=by
 intro p r h0 h
 rw [whole_tail] at h
 cases hx:tailP d l fo S (if saysB l p [94]=true then p+1 else p) with
 | error e=>rw [hx] at h;cases h
 | ok s =>
  rw [hx] at h
  cases h
  have:=ahd_tail hA _ _ (by split<;>omega) hx
  simp only
  split at this<;>omega
theorem whole_sh (d:Int) (a l:List Int) (fo:Bool) (S S':Int→BR SP) (hS:∀ p,0≤p→S' (a.length+p)=shB a.length (S p)) (hA:Ahd S) (p:Int) (h:0≤p) :
  wholeP d (a ++ l) fo S' (a.length+p)=shB a.length (wholeP d l fo S p):=by
 rw [whole_tail,whole_tail,says_sh a l _ _ h]
 have e:(if saysB l p [94]=true then (a.length:Int)+p+1 else a.length+p)=a.length+(if saysB l p [94]=true then p+1 else p):=by split<;>omega
 rw [e,tail_sh d a l fo S S' hS hA _ (by split<;>omega)]
 cases tailP d l fo S (if saysB l p [94]=true then p+1 else p) with
 | error e=>rfl
 | ok r=>rfl
theorem in_ahd (d:Int) (l:List Int) (fo:Bool) (k:Nat):Ahd (inP d l fo k):=by
 induction k with
 | zero=>intro p r _ h;cases h
 | succ k ih =>
  intro p r h0 h
  unfold inP at h
  have:=ahd_whole (ahd_span (d:=d) (l:=l) (I:=itemP d l (inP d l fo k)) fun q s hq hs=>ahd_item ih hq hs) _ _ (show 0≤p+1 by omega) h
  omega
theorem in_sh (d:Int) (a l:List Int) (fo:Bool) (k:Nat):∀ p,0≤p→inP d (a ++ l) fo k (a.length+p)=shB a.length (inP d l fo k p):=by
 induction k with
 | zero=>intro p _;rfl
 | succ k ih =>
  intro p h
  unfold inP
  rw [Int.add_assoc]
  exact whole_sh d a l fo _ _ (span_sh d a l _ _ (item_sh d a l _ _ ih) fun q s hq hs=>ahd_item (in_ahd d l fo k) hq hs) (ahd_span fun q s hq hs=>ahd_item (in_ahd d l fo k) hq hs) _ (by omega)
/-- an expression, its [ read -/
def allP (d:Int) (l:List Int) (fo:Bool) (p:Int):BR SP:=wholeP d l fo (spanP d l (itemP d l (inP d l fo 20))) p
theorem in_all (d:Int) (l:List Int) (fo:Bool) (p:Int):allP d l fo p=inP d l fo 21 (p - 1):=by
 show _=wholeP d l fo (spanP d l (itemP d l (inP d l fo 20))) (p - 1+1)
 rw [show p - 1+1=p by omega];rfl
/-- what is turned over: the same place, and all but what was -/
theorem all_turned (d:Int) (l:List Int) (fo:Bool) (h:saysB l 0 [94]=false):allP d (94 :: l) fo 0=turnB true (shB 1 (allP d l fo 0)):=by
 unfold allP
 rw [whole_tail,whole_tail,h]
 have h1:saysB (94 :: l) 0 [94]=true:=by simp [saysB,ptAt]
 rw [h1]
 simp only [if_true]
 have hI:=ahd_span (d:=d) (l:=l) (I:=itemP d l (inP d l fo 20)) fun q s hq hs=>ahd_item (in_ahd d l fo 20) hq hs
 have:=tail_sh d [94] l fo _ _ (span_sh d [94] l _ _ (item_sh d [94] l _ _ (in_sh d [94] l fo 20)) fun q s hq hs=>ahd_item (in_ahd d l fo 20) hq hs) hI 0 (Int.le_refl _)
 refine Eq.trans (congrArg (turnB true) this) ?_
 cases hx:tailP d l fo (spanP d l (itemP d l (inP d l fo 20))) 0 with
 | error e=>simp [hx];rfl
 | ok r=>simp [hx];rfl
end Go.Proofs.YtbiahhojnjchnaaGreat
namespace Go.Proofs.YtbiahhojnjchnaaGreat
def NZ {α:Type} (r:BR α):Prop:=∀ q,r=.error q→q.1≠0
theorem nz_ok {α:Type} {x:α}:NZ (.ok x:BR α):=fun q h=>by cases h
theorem nz_bad {α:Type} {e at_:Int} (h:e≠0):NZ (.error (e,at_):BR α):=fun q k=>by cases k;exact h
theorem nz_ite {α:Type} {c:Prop} [Decidable c] {x y:BR α} (h1:c→NZ x) (h2:¬ c→NZ y):NZ (if c then x else y):=by
 split
 ·rename_i h;exact h1 h
 ·rename_i h;exact h2 h
section
variable {d:Int} {l:List Int}
theorem nz_named {p:Int} {r:BR Itm} (h:bNamedP d l p=some r):NZ r:=by
 unfold bNamedP at h
 split at h
 ·simp only at h
  generalize (if (decide (d=1) && saysB l (p+2) [94])=true then p+3 else p+2)=q at h
  split at h
  ·cases h;exact nz_bad (by decide)
  ·split at h
   ·cases h;exact nz_bad (by decide)
   ·cases h;exact nz_ok
 ·cases h
theorem nz_item {W:Int→BR SP} (hW:∀ p,0≤p→NZ (W p)) {p:Int} (h0:0≤p):NZ (itemP d l W p):=by
 unfold itemP
 split
 ·rename_i r hr;exact nz_named hr
 ·refine nz_ite (fun _=>nz_bad (by decide)) fun _=>nz_ite (fun _=>?_) fun _=>nz_ite (fun _=>?_) fun _=>nz_ok
  ·have:=hW p h0
   cases hr:W p with
   | error q=>rw [hr] at this;exact fun q' h=>by cases h;exact this q rfl
   | ok r=>exact nz_ok
  ·unfold escP
   cases ht:tokenP d l p with
   | error x=>exact nz_bad (token_er d l p x ht)
   | ok t=>exact nz_ite (fun _=>nz_ok) fun _=>nz_ite (fun _=>nz_ok) fun _=>nz_bad (by decide)
theorem nz_span {I:Int→BR Itm} (hA:AhdI I) (hI:∀ p,0≤p→NZ (I p)) {p:Int} (h0:0≤p):NZ (spanP d l I p):=by
 unfold spanP
 cases hr:I p with
 | error q=>exact fun q' h=>by cases h;exact hI p h0 q hr
 | ok a =>
  have:=hA p a h0 hr
  refine nz_ite (fun _=>nz_ok) fun _=>nz_ite (fun _=>nz_bad (by decide)) fun _=>nz_ite (fun _=>nz_bad (by decide)) fun _=>?_
  cases hb:I (a.nx+1) with
  | error q=>exact fun q' h=>by cases h;exact hI _ (by omega) q hb
  | ok b=>exact nz_ite (fun _=>nz_bad (by decide)) fun _=>nz_ite (fun _=>nz_bad (by decide)) fun _=>nz_ok
theorem item_out {W:Int→BR SP} {p:Int} (h:(l.length:Int)≤p):itemP d l W p=.error (1,p):=by
 have hp:ptAt l p=-1:=ptAt_out l (by omega)
 have hb:bNamedP d l p=none:=by unfold bNamedP;rw [if_neg (by simp [saysB,hp])]
 unfold itemP
 rw [hb]
 show (if (l.length:Int)≤p then _ else _)=_
 rw [if_pos h]
theorem nz_part {S:Int→BR SP} (hA:Ahd S) (hS:∀ p,0≤p→NZ (S p)) (ho:∀ p r,(l.length:Int)≤p→S p≠.ok r) (first:Bool):∀ (m n:Nat) (acc:Int→Prop) (p:Int),0≤p→((l.length:Int) - p).toNat < m→NZ (partP d l S first m n acc p):=by
 intro m
 induction m with
 | zero=>intro n acc p _ h;omega
 | succ m ih =>
  intro n acc p h0 h
  unfold partP
  refine nz_ite (fun _=>nz_ite (fun _=>nz_bad (by decide)) fun _=>nz_ok) fun _=>nz_ite (fun _=>nz_ite (fun _=>nz_bad (by decide)) fun _=>nz_ok) fun _=>?_
  cases hr:S p with
  | error q=>exact fun q' h=>by cases h;exact hS p h0 q hr
  | ok r =>
   have h1:=hA p r h0 hr
   have h2:p < l.length:=by
    rcases Int.lt_or_le p l.length with h|h
    ·exact h
    ·exact absurd hr (ho p r h)
   exact ih _ _ _ (by omega) (by omega)
theorem nz_more {fo:Bool} {S:Int→BR SP} (hA:Ahd S) (hS:∀ p,0≤p→NZ (S p)) (ho:∀ p r,(l.length:Int)≤p→S p≠.ok r):∀ (m:Nat) (f:Int→Prop) (p:Int),0≤p→((l.length:Int) - p).toNat < m→NZ (moreP d l fo S m f p):=by
 intro m
 induction m with
 | zero=>intro f p _ h;omega
 | succ m ih =>
  intro f p h0 h
  unfold moreP
  refine nz_ite (fun hs=>?_) fun _=>nz_ok
  have hp:p < l.length:=by
   rcases Int.lt_or_le p l.length with h|h
   ·exact h
   ·have:ptAt l p=-1:=ptAt_out l (by omega)
    rw [show saysB l p [38,38]=(decide (ptAt l p=38) && saysB l (p+1) [38]) from rfl,this] at hs
    cases hs
  cases hr:partP d l S false (((l.length:Int) - (p+2)).toNat+1) 0 (fun _=>False) (p+2) with
  | error q=>exact fun q' h=>by cases h;exact nz_part hA hS ho _ _ _ _ _ (by omega) (Nat.lt_succ_self _) q hr
  | ok r =>
   have:=ahd_part hA _ _ _ _ _ _ (by omega) hr
   exact ih _ _ (by omega) (by omega)
theorem nz_whole {fo:Bool} {S:Int→BR SP} (hA:Ahd S) (hS:∀ p,0≤p→NZ (S p)) (ho:∀ p r,(l.length:Int)≤p→S p≠.ok r) {p:Int} (h0:0≤p):NZ (wholeP d l fo S p):=by
 rw [whole_tail]
 have h1:0≤(if saysB l p [94]=true then p+1 else p):=by split<;>omega
 generalize (if saysB l p [94]=true then p+1 else p)=a at h1
 have:NZ (tailP d l fo S a):=by
  unfold tailP
  cases hr:partP d l S true (((l.length:Int) - a).toNat+1) 0 (fun _=>False) a with
  | error q=>exact fun q' h=>by cases h;exact nz_part hA hS ho _ _ _ _ _ h1 (Nat.lt_succ_self _) q hr
  | ok r =>
   have:=ahd_part hA _ _ _ _ _ _ h1 hr
   exact nz_more hA hS ho _ _ _ (by omega) (Nat.lt_succ_self _)
 cases hr:tailP d l fo S a with
 | error q=>exact fun q' h=>by cases h;exact this q hr
 | ok r=>exact nz_ok
theorem span_out {W:Int→BR SP} (p:Int) (r:SP) (h:(l.length:Int)≤p):spanP d l (itemP d l W) p≠.ok r:=by
 unfold spanP
 rw [item_out h]
 exact fun h=>by cases h
theorem nz_in (fo:Bool) (k:Nat):∀ p,0≤p→NZ (inP d l fo k p):=by
 induction k with
 | zero=>intro p _;exact nz_bad (by decide)
 | succ k ih =>
  intro p h0
  have hAI:AhdI (itemP d l (inP d l fo k)):=fun p r h0 h=>ahd_item (in_ahd d l fo k) h0 h
  exact nz_whole (ahd_span hAI) (fun p h0=>nz_span hAI (fun p h0=>nz_item ih h0) h0) span_out (by omega)
theorem nz_all (fo:Bool) {p:Int} (h0:0≤p):NZ (allP d l fo p):=by
 have hAI:AhdI (itemP d l (inP d l fo 20)):=fun p r h0 h=>ahd_item (in_ahd d l fo 20) h0 h
 exact nz_whole (ahd_span hAI) (fun p h0=>nz_span hAI (fun p h0=>nz_item (nz_in fo 20) h0) h0) span_out h0
end
end Go.Proofs.YtbiahhojnjchnaaGreat
namespace Go.Proofs.YtbiahhojnjchnaaGreat
/-! ### lengths -/
theorem nodup_lenB:∀ (a b:List Int),a.Nodup→(∀ x ∈ a,x ∈ b)→a.length≤b.length:=by
 intro a
 induction a with
 | nil=>intro b _ _;exact Nat.zero_le _
 | cons x a ih =>
  intro b hn hs
  have hx:=hs x (.head _)
  have hn':=List.nodup_cons.1 hn
  have:=ih (b.erase x) hn'.2 fun y hy=>(List.mem_erase_of_ne (fun e=>by subst e;exact hn'.1 hy)).2 (hs y (.tail _ hy))
  rw [List.length_erase_of_mem hx] at this
  have:=List.length_pos_of_mem hx
  simp;omega
theorem Can.starts {a:List (Int × Int)} (h:Can a):(a.map (·.1)).Nodup:=by
 rw [List.nodup_iff_pairwise_ne,List.pairwise_map]
 exact h.2.imp_of_mem fun {r s} hr hs hrs=>by have:=(okR_iff r).1 (h.1 r hr);omega
theorem Can.start {a:List (Int × Int)} (h:Can a) {r:Int × Int} (hr:r ∈ a):¬ mem a (r.1 - 1):=by
 rintro ⟨t,ht,h1,h2⟩
 have hrr:=(okR_iff r).1 (h.1 r hr)
 obtain ⟨i,hi,rfl⟩:=List.mem_iff_getElem.1 hr
 obtain ⟨j,hj,rfl⟩:=List.mem_iff_getElem.1 ht
 rcases Nat.lt_trichotomy i j with hij|rfl|hij
 ·have:=(List.pairwise_iff_getElem.1 h.2) i j hi hj hij;omega
 ·omega
 ·have:=(List.pairwise_iff_getElem.1 h.2) j i hj hi hij;omega
/-- a set that is the union of some ranges has no more than these; below a bound as many as there are points -/
theorem set_len {a B:List (Int × Int)} {f:Int→Prop} {K:Nat} (h:IsSet a f) (hf:∀ x:Int,(K:Int)≤x→(f x↔mem B x)):a.length≤K+1+B.length:=by
 have key:∀ x ∈ a.map (·.1),x ∈ (List.range (K+1)).map (fun i:Nat=>(i:Int)) ++ B.map (·.1):=by
  intro x hx
  obtain ⟨r,hr,rfl⟩:=List.mem_map.1 hx
  have hrr:=(okR_iff r).1 (h.1.1 r hr)
  by_cases hk:r.1≤K
  ·exact List.mem_append_left _ (List.mem_map.2 ⟨r.1.toNat,List.mem_range.2 (by omega),by omega⟩)
  ·refine List.mem_append_right _ ?_
   have hm:f r.1:=(h.2 r.1).1 ⟨r,hr,Int.le_refl _,hrr.2.1⟩
   obtain ⟨s,hs,s1,s2⟩:=(hf r.1 (by omega)).1 hm
   have hno:¬ mem B (r.1 - 1):=fun hb=>h.1.start hr ((h.2 _).2 ((hf _ (by omega)).2 hb))
   refine List.mem_map.2 ⟨s,hs,?_⟩
   rcases Int.lt_or_le s.1 r.1 with hlt|hge
   ·exact absurd ⟨s,hs,by omega,by omega⟩ hno
   ·omega
 have:=nodup_lenB _ _ h.1.starts key
 simpa using this
theorem set_len' {a B:List (Int × Int)} (h:IsSet a (mem B)):a.length≤B.length:=by
 have key:∀ x ∈ a.map (·.1),x ∈ B.map (·.1):=by
  intro x hx
  obtain ⟨r,hr,rfl⟩:=List.mem_map.1 hx
  have hrr:=(okR_iff r).1 (h.1.1 r hr)
  obtain ⟨s,hs,s1,s2⟩:=(h.2 r.1).1 ⟨r,hr,Int.le_refl _,hrr.2.1⟩
  refine List.mem_map.2 ⟨s,hs,?_⟩
  rcases Int.lt_or_le s.1 r.1 with hlt|hge
  ·exact absurd ((h.2 (r.1 - 1)).2 ⟨s,hs,by omega,by omega⟩) (h.1.start hr)
  ·omega
 have:=nodup_lenB _ _ h.1.starts key
 simpa using this
end Go.Proofs.YtbiahhojnjchnaaGreat
namespace Go.Proofs.YtbiahhojnjchnaaGreat
/-! ### how often a set changes -/
/-- from T on, what is so of a point is so of the one before, but for z points at most -/
def Ch (T:Int) (f:Int→Prop) (z:Int):Prop:=∃ L:List Int,(L.length:Int)≤z∧∀ x,T≤x→x≤1114111→(f x↔f (x - 1))∨x ∈ L
theorem Ch.mono {T:Int} {f:Int→Prop} {z y:Int} (h:Ch T f z) (hz:z≤y):Ch T f y:=by
 obtain ⟨L,hL,h⟩:=h;exact ⟨L,by omega,h⟩
theorem ch_not {T:Int} {f:Int→Prop} {z:Int} (h:Ch T f z):Ch T (fun p=>0≤p∧p≤1114111∧¬ f p) (z+1):=by
 obtain ⟨L,hL,h⟩:=h
 refine ⟨0 :: L,by simp;omega,fun x h0 h1=>?_⟩
 by_cases hx:x=0
 ·right;simp [hx]
 ·rcases h x h0 h1 with k|k
  ·by_cases h2:0≤x
   ·left
    constructor
    ·rintro ⟨_,_,h3⟩;exact ⟨by omega,by omega,fun h4=>h3 (k.2 h4)⟩
    ·rintro ⟨_,_,h3⟩;exact ⟨by omega,by omega,fun h4=>h3 (k.1 h4)⟩
   ·left
    constructor
    ·rintro ⟨h3,_⟩;omega
    ·rintro ⟨h3,_⟩;omega
  ·right;exact List.mem_cons_of_mem _ k
theorem ch_or {T:Int} {f g:Int→Prop} {z y:Int} (h:Ch T f z) (k:Ch T g y):Ch T (fun p=>f p∨g p) (z+y):=by
 obtain ⟨L,hL,h⟩:=h
 obtain ⟨M,hM,k⟩:=k
 refine ⟨L ++ M,by simp;omega,fun x h0 h1=>?_⟩
 rcases h x h0 h1 with h|h
 ·rcases k x h0 h1 with k|k
  ·left;simp only [h,k]
  ·right;simp [k]
 ·right;simp [h]
theorem ch_and {T:Int} {f g:Int→Prop} {z y:Int} (h:Ch T f z) (k:Ch T g y):Ch T (fun p=>f p∧g p) (z+y):=by
 obtain ⟨L,hL,h⟩:=h
 obtain ⟨M,hM,k⟩:=k
 refine ⟨L ++ M,by simp;omega,fun x h0 h1=>?_⟩
 rcases h x h0 h1 with h|h
 ·rcases k x h0 h1 with k|k
  ·left;simp only [h,k]
  ·right;simp [k]
 ·right;simp [h]
theorem ch_one (T p:Int):Ch T (fun q=>q=p) 2 :=
 ⟨[p,p+1],by simp,fun x h0 h1=>by
  by_cases h:x=p
  ·right;simp [h]
  ·by_cases h2:x=p+1
   ·right;simp [h2]
   ·left;constructor<;>intro h3<;>omega⟩
theorem ch_rng (T a b:Int):Ch T (fun q=>a≤q∧q≤b) 2 :=
 ⟨[a,b+1],by simp,fun x h0 h1=>by
  by_cases h:x=a
  ·right;simp [h]
  ·by_cases h2:x=b+1
   ·right;simp [h2]
   ·left;constructor<;>intro h3<;>omega⟩
theorem ch_none (T:Int):Ch T (fun _=>False) 0:=⟨[],by simp,fun x _ _=>.inl Iff.rfl⟩
theorem ch_list (T:Int) (B:List (Int × Int)):Ch T (mem B) (2 * B.length):=by
 induction B with
 | nil=>exact ⟨[],by simp,fun x _ _=>.inl (by simp [mem])⟩
 | cons r B ih =>
  have e:mem (r :: B)=fun p=>(r.1≤p∧p≤r.2)∨mem B p:=by
   funext p
   simp [mem]
  rw [e]
  exact (ch_or (ch_rng T r.1 r.2) ih).mono (by simp;omega)
/-- what is known of classes and of folds -/
structure Wts (T:Int) (cw fw wt:Int) (fo:Bool):Prop where
 cls_:∀ t L nt,cls t=some L→Ch T (clsF L nt) cw
 nil_:∀ nt,Ch T (clsF [] nt) cw
 fold_:∀ f z,Ch T f z→Ch T (foldQ fo f) (z+fw)
 c0:cw≤wt
 c2:2≤wt
 f1:fw+1≤wt
 f0:0≤fw
section
variable {T cw fw wt d:Int} {fo:Bool} {l:List Int}
theorem wt_mul {w x y:Int} (hw:0≤w) (h:x≤y):w * x≤w * y:=Int.mul_le_mul_of_nonneg_left h hw
theorem wt_one {w x:Int} (hw:0≤w) (h:1≤x):w≤w * x:=by have:=wt_mul hw h;omega
theorem wt_add (w a b c:Int):w * (c - a)=w * (b - a)+w * (c - b):=by rw [← Int.mul_add];congr 1;omega
theorem ch_named (H:Wts T cw fw wt fo) {p:Int} {r:Itm} (h:bNamedP d l p=some (.ok r)):Ch T r.f (wt * (r.nx - p)):=by
 have hw:0≤wt:=by have:=H.c2;omega
 have hn:=ahd_named h
 have h1:=wt_one hw (show 1≤r.nx - p by omega)
 have:=H.c0
 unfold bNamedP at h
 split at h
 ·simp only at h
  generalize (if (decide (d=1) && saysB l (p+2) [94])=true then p+3 else p+2)=q at h
  split at h
  ·cases h
  ·split at h
   ·cases h
   ·rename_i L hL
    cases h
    exact (H.cls_ _ _ _ hL).mono (by simp only at h1 ⊢;omega)
 ·cases h
theorem ch_item (H:Wts T cw fw wt fo) {W:Int→BR SP} (hA:Ahd W) (hW:∀ p r,0≤p→W p=.ok r→Ch T r.1 (wt * (r.2 - p))) {p:Int} {r:Itm} (h0:0≤p) (h:itemP d l W p=.ok r):Ch T r.f (wt * (r.nx - p)):=by
 have hw:0≤wt:=by have:=H.c2;omega
 have hn:=ahd_item hA h0 h
 have h1:=wt_one hw (show 1≤r.nx - p by omega)
 have hc:=H.c0
 have hc2:=H.c2
 unfold itemP at h
 split at h
 ·rename_i q hq
  subst h
  exact ch_named H hq
 ·split at h
  ·cases h
  ·split at h
   ·split at h
    ·cases h
    ·rename_i s hs
     cases h
     exact hW _ _ h0 hs
   ·split at h
    ·unfold escP at h
     split at h
     ·cases h
     ·rename_i t nx ht
      split at h
      ·cases h;exact (ch_one T _).mono (by simp only at h1 ⊢;omega)
      ·split at h
       ·cases h
        cases hL:cls t.text with
        | none=>exact (H.nil_ _).mono (by simp only at h1 ⊢;omega)
        | some L=>exact (H.cls_ _ _ _ hL).mono (by simp only at h1 ⊢;omega)
       ·cases h
    ·cases h
     exact (ch_one T _).mono (by simp only at h1 ⊢;omega)
theorem ch_span (H:Wts T cw fw wt fo) {I:Int→BR Itm} (hA:AhdI I) (hI:∀ p r,0≤p→I p=.ok r→Ch T r.f (wt * (r.nx - p))) {p:Int} {r:SP} (h0:0≤p) (h:spanP d l I p=.ok r):Ch T r.1 (wt * (r.2 - p)):=by
 have hw:0≤wt:=by have:=H.c2;omega
 have hn:=ahd_span hA p r h0 h
 have h1:=wt_one hw (show 1≤r.2 - p by omega)
 have hc2:=H.c2
 unfold spanP at h
 split at h
 ·cases h
 ·rename_i a ha
  split at h
  ·cases h;exact hI p a h0 ha
  ·split at h
   ·cases h
   ·split at h
    ·cases h
    ·cases hb:I (a.nx+1) with
     | error e=>rw [hb] at h;cases h
     | ok b =>
      rw [hb] at h
      unfold pairP at h
      simp only at h
      split at h
      ·cases h
      ·split at h
       ·cases h
       ·cases h;exact (ch_rng T _ _).mono (by simp only at h1 ⊢;omega)
theorem ch_part (H:Wts T cw fw wt fo) {S:Int→BR SP} (hA:Ahd S) (hS:∀ p r,0≤p→S p=.ok r→Ch T r.1 (wt * (r.2 - p))) (first:Bool) (m:Nat):∀ (n:Nat) (acc:Int→Prop) (z p:Int) (r:SP),0≤p→Ch T acc z →
  partP d l S first m n acc p=.ok r→Ch T r.1 (z+wt * (r.2 - p)):=by
 induction m with
 | zero=>intro n acc z p r _ _ h;cases h
 | succ m ih =>
  intro n acc z p r h0 hz h
  unfold partP at h
  split at h
  ·split at h
   ·cases h
   ·cases h;exact hz.mono (by simp)
  ·split at h
   ·split at h
    ·cases h
    ·cases h;exact hz.mono (by simp)
   ·split at h
    ·cases h
    ·rename_i s hs
     have h1:=hA p s h0 hs
     have:=ih _ _ _ _ _ (by omega) (ch_or hz (hS p s h0 hs)) h
     rw [wt_add wt p s.2 r.2]
     exact this.mono (by omega)
theorem ch_more (H:Wts T cw fw wt fo) {S:Int→BR SP} (hA:Ahd S) (hS:∀ p r,0≤p→S p=.ok r→Ch T r.1 (wt * (r.2 - p))) (m:Nat):∀ (f:Int→Prop) (z p:Int) (r:SP),0≤p→Ch T f z →
  moreP d l fo S m f p=.ok r→Ch T r.1 (z+wt * (r.2 - 1 - p)):=by
 induction m with
 | zero=>intro f z p r _ _ h;cases h
 | succ m ih =>
  intro f z p r h0 hz h
  unfold moreP at h
  split at h
  ·split at h
   ·cases h
   ·rename_i s hs
    have h1:=ahd_part hA _ _ _ _ _ _ (by omega) hs
    have c1:=ch_part H hA hS _ _ _ _ _ _ _ (by omega) (ch_none T) hs
    have c2:=ih _ _ _ _ (by omega) (ch_and hz (H.fold_ _ _ c1)) h
    have hf:=H.f1
    have hw:0≤wt:=by have:=H.c2;omega
    have e:=wt_add wt (p+2) s.2 (r.2 - 1)
    have e2:=wt_add wt p (p+2) (r.2 - 1)
    have e3:=wt_one hw (show 1≤p+2 - p by omega)
    exact c2.mono (by omega)
  ·cases h;exact hz.mono (by simp)
theorem ch_tail (H:Wts T cw fw wt fo) {S:Int→BR SP} (hA:Ahd S) (hS:∀ p r,0≤p→S p=.ok r→Ch T r.1 (wt * (r.2 - p))) {p:Int} {r:SP} (h0:0≤p) (h:tailP d l fo S p=.ok r):Ch T r.1 (wt * (r.2 - 1 - p)+fw):=by
 unfold tailP at h
 split at h
 ·cases h
 ·rename_i s hs
  have h1:=ahd_part hA _ _ _ _ _ _ h0 hs
  have c1:=ch_part H hA hS _ _ _ _ _ _ _ h0 (ch_none T) hs
  have c2:=ch_more H hA hS _ _ _ _ _ (by omega) (H.fold_ _ _ c1) h
  have e:=wt_add wt p s.2 (r.2 - 1)
  exact c2.mono (by omega)
theorem ch_whole (H:Wts T cw fw wt fo) {S:Int→BR SP} (hA:Ahd S) (hS:∀ p r,0≤p→S p=.ok r→Ch T r.1 (wt * (r.2 - p))) {p:Int} {r:SP} (h0:0≤p) (h:wholeP d l fo S p=.ok r):Ch T r.1 (wt * (r.2 - p)):=by
 have hw:0≤wt:=by have:=H.c2;omega
 have hf:=H.f1
 rw [whole_tail] at h
 cases hx:tailP d l fo S (if saysB l p [94]=true then p+1 else p) with
 | error e=>rw [hx] at h;cases h
 | ok s =>
  rw [hx] at h
  cases h
  have c:=ch_tail H hA hS (by split<;>omega) hx
  have hn:=ahd_tail hA _ _ (by split<;>omega) hx
  have e:=wt_add wt p (s.2 - 1) s.2
  have e1:wt * (s.2 - (s.2 - 1))=wt:=by rw [show s.2 - (s.2 - 1)=1 by omega,Int.mul_one]
  simp only
  split
  ·rename_i hv
   rw [if_pos hv] at c hn
   have e2:=wt_mul hw (show s.2 - 1 - (p+1)≤s.2 - 1 - p by omega)
   exact (ch_not c).mono (by omega)
  ·rename_i hv
   rw [if_neg hv] at c hn
   exact c.mono (by omega)
theorem ch_in (H:Wts T cw fw wt fo) (k:Nat):∀ p r,0≤p→inP d l fo k p=.ok r→Ch T r.1 (wt * (r.2 - p)):=by
 induction k with
 | zero=>intro p r _ h;cases h
 | succ k ih =>
  intro p r h0 h
  unfold inP at h
  have hw:0≤wt:=by have:=H.c2;omega
  have c:=ch_whole H (ahd_span fun q s hq hs=>ahd_item (in_ahd d l fo k) hq hs) (fun q s hq hs=>ch_span H (fun q s hq hs=>ahd_item (in_ahd d l fo k) hq hs) (fun q s hq hs=>ch_item H (in_ahd d l fo k) ih hq hs) hq hs) (show 0≤p+1 by omega) h
  exact c.mono (wt_mul hw (by omega))
end
/-- no more ranges than changes, and points below -/
theorem ch_len {T z:Int} {a:List (Int × Int)} {f:Int→Prop} (h:IsSet a f) (c:Ch T f z):(a.length:Int)≤z+T.toNat:=by
 obtain ⟨L,hL,c⟩:=c
 have key:∀ x ∈ a.map (·.1),x ∈ (List.range T.toNat).map (fun i:Nat=>(i:Int)) ++ L:=by
  intro x hx
  obtain ⟨r,hr,rfl⟩:=List.mem_map.1 hx
  have hrr:=(okR_iff r).1 (h.1.1 r hr)
  by_cases hk:r.1 < T
  ·exact List.mem_append_left _ (List.mem_map.2 ⟨r.1.toNat,List.mem_range.2 (by omega),by omega⟩)
  ·refine List.mem_append_right _ ?_
   have hm:f r.1:=(h.2 r.1).1 ⟨r,hr,Int.le_refl _,hrr.2.1⟩
   rcases c r.1 (by omega) (by omega) with k|k
   ·exact absurd ((h.2 _).2 (k.1 hm)) (h.1.start hr)
   ·exact k
 have:=nodup_lenB _ _ h.1.starts key
 simp at this
 omega
end Go.Proofs.YtbiahhojnjchnaaGreat
namespace Go.Proofs.YtbiahhojnjchnaaGreat
def clsOk (l:List (Int × Int)):Bool:=decide (l.length≤60) && l.all fun r=>decide (r.2 < 13000) || (decide (r.1≤13000) && decide (1114111≤r.2))
theorem cls_okL {t:List UInt8} {l:List (Int × Int)} (h:cls t=some l):clsOk l=true:=by
 unfold cls at h
 by_cases e:t=[97,110,121]
 ·rw [if_pos e] at h;injection h with h;subst h;decide
 rw [if_neg e] at h
 clear e
 by_cases e:t=[97,115,99,105,105]
 ·rw [if_pos e] at h;injection h with h;subst h;decide
 rw [if_neg e] at h
 clear e
 by_cases e:t=[99,110,116,114,108]
 ·rw [if_pos e] at h;injection h with h;subst h;decide
 rw [if_neg e] at h
 clear e
 by_cases e:t=[100,105,103,105,116]
 ·rw [if_pos e] at h;injection h with h;subst h;decide
 rw [if_neg e] at h
 clear e
 by_cases e:t=[120,100,105,103,105,116]
 ·rw [if_pos e] at h;injection h with h;subst h;decide
 rw [if_neg e] at h
 clear e
 by_cases e:t=[98,108,97,110,107]
 ·rw [if_pos e] at h;injection h with h;subst h;decide
 rw [if_neg e] at h
 clear e
 by_cases e:t=[115,112,97,99,101]
 ·rw [if_pos e] at h;injection h with h;subst h;decide
 rw [if_neg e] at h
 clear e
 by_cases e:t=[112,117,110,99,116]
 ·rw [if_pos e] at h;injection h with h;subst h;decide
 rw [if_neg e] at h
 clear e
 by_cases e:t=[97,108,112,104,97]
 ·rw [if_pos e] at h;injection h with h;subst h;decide
 rw [if_neg e] at h
 clear e
 by_cases e:t=[117,112,112,101,114]
 ·rw [if_pos e] at h;injection h with h;subst h;decide
 rw [if_neg e] at h
 clear e
 by_cases e:t=[108,111,119,101,114]
 ·rw [if_pos e] at h;injection h with h;subst h;decide
 rw [if_neg e] at h
 clear e
 by_cases e:t=[97,108,110,117,109]
 ·rw [if_pos e] at h;injection h with h;subst h;decide
 rw [if_neg e] at h
 clear e
 by_cases e:t=[119,111,114,100]
 ·rw [if_pos e] at h;injection h with h;subst h;decide
 rw [if_neg e] at h
 clear e
 by_cases e:t=[103,114,97,112,104]
 ·rw [if_pos e] at h;injection h with h;subst h;decide
 rw [if_neg e] at h
 clear e
 cases h
theorem ch_clsF {T:Int} {L:List (Int × Int)} {z:Int} (nt:Bool) (c:Ch T (mem L) z):Ch T (clsF L nt) (z+1):=by
 cases nt
 ·have e:clsF L false=mem L:=by funext p;simp [clsF]
  rw [e];exact c.mono (by omega)
 ·have e:clsF L true=fun p=>0≤p∧p≤1114111∧¬ mem L p:=by funext p;simp [clsF]
  rw [e];exact ch_not c
theorem ch_cls0 {t:List UInt8} {L:List (Int × Int)} (h:cls t=some L) (nt:Bool):Ch 0 (clsF L nt) 121:=by
 have hl:L.length≤60:=by
  have:=cls_okL h
  simp only [clsOk,Bool.and_eq_true,decide_eq_true_eq] at this
  exact this.1
 exact (ch_clsF nt (ch_list 0 L)).mono (by omega)
theorem ch_cls1 {t:List UInt8} {L:List (Int × Int)} (h:cls t=some L) (nt:Bool):Ch 13001 (clsF L nt) 1:=by
 have hl:=cls_okL h
 simp only [clsOk,Bool.and_eq_true,List.all_eq_true] at hl
 refine (ch_clsF (z:=0) nt ⟨[],by simp,fun x h0 h1=>.inl ?_⟩).mono (by omega)
 constructor
 ·rintro ⟨r,hr,a,b⟩
  have:=hl.2 r hr
  simp at this
  exact ⟨r,hr,by omega,by omega⟩
 ·rintro ⟨r,hr,a,b⟩
  have:=hl.2 r hr
  simp at this
  exact ⟨r,hr,by omega,by omega⟩
theorem ch_cls_nil (T:Int) (nt:Bool):Ch T (clsF [] nt) 1:=(ch_clsF (z:=0) nt ((ch_list T []).mono (by simp))).mono (by omega)
theorem tblLow:∀ r ∈ tbl,decide (r.t+r.b < 8500) && decide (1≤r.b) && decide (0≤r.f)=true:=by decide
theorem besLow {p x:Int} (h:x ∈ besP p):0≤p∧p < 8500∧x≠p:=by
 obtain ⟨r,hr,h⟩:=(mem_besP p x).1 h
 have:=tblLow r hr
 simp at this
 rcases h with ⟨h,_⟩|⟨h,_⟩<;>rw [hit_iff] at h<;>omega
theorem orb_bes {p q:Int} (hp:∃ x,x ∈ besP p) (hq:q ∈ orb p):∃ x,x ∈ besP q:=by
 obtain ⟨x,hx⟩:=hp
 have h0:=besLow hx
 have e:=((orb_facts p h0.1 (by omega)).2 q hq).2
 cases hb:besP q with
 | cons y l=>exact ⟨y,by simp⟩
 | nil =>
  rw [orb_alone hb] at e
  have h1:=besP_orb hx
  have h2:=self_orb p
  rw [← e,List.mem_singleton] at h1 h2
  exact absurd (h1.trans h2.symm) h0.2.2
theorem foldQ_same (fo:Bool) {f:Int→Prop} {x:Int} (h:¬ ∃ q,q ∈ besP x):foldQ fo f x↔f x:=by
 cases fo
 ·simp [foldQ]
 ·unfold foldQ
  rw [if_pos rfl]
  constructor
  ·rintro (h1|⟨p,hp,h1,h2⟩)
   ·exact h1
   ·exact absurd (orb_bes hp h2) h
  ·exact .inl
theorem ch_fold0 (fo:Bool) {f:Int→Prop} {z:Int} (c:Ch 0 f z):Ch 0 (foldQ fo f) (z+800):=by
 obtain ⟨L,hL,c⟩:=c
 have hl:=letL_len
 refine ⟨L ++ (letL tbl ++ (letL tbl).map (·+1)),by simp;omega,fun x h0 h1=>?_⟩
 rcases c x h0 h1 with k|k
 ·by_cases m1:x ∈ letL tbl
  ·right;simp [m1]
  ·by_cases m2:x - 1 ∈ letL tbl
   ·right
    refine List.mem_append_right _ (List.mem_append_right _ (List.mem_map.2 ⟨x - 1,m2,by omega⟩))
   ·left
    rw [foldQ_same fo (fun h=>m1 ((mem_letL x).2 h)),foldQ_same fo (fun h=>m2 ((mem_letL _).2 h))]
    exact k
 ·right;simp [k]
theorem ch_fold1 (fo:Bool) {f:Int→Prop} {z:Int} (c:Ch 13001 f z):Ch 13001 (foldQ fo f) (z+0):=by
 obtain ⟨L,hL,c⟩:=c
 refine ⟨L,by omega,fun x h0 h1=>?_⟩
 have no:∀ y:Int,13000≤y→¬ ∃ q,q ∈ besP y:=fun y hy ⟨q,hq⟩=>by have:=besLow hq;omega
 rw [foldQ_same fo (no x (by omega)),foldQ_same fo (no (x - 1) (by omega))]
 exact c x h0 h1
theorem wts0 (fo:Bool):Wts 0 121 800 1600 fo :=
 ⟨fun t L nt h=>ch_cls0 h nt,fun nt=>(ch_cls_nil 0 nt).mono (by omega),fun f z c=>ch_fold0 fo c,by omega,by omega,by omega,by omega⟩
theorem wts1 (fo:Bool):Wts 13001 1 0 2 fo :=
 ⟨fun t L nt h=>ch_cls1 h nt,fun nt=>ch_cls_nil 13001 nt,fun f z c=>ch_fold1 fo c,by omega,by omega,by omega,by omega⟩
end Go.Proofs.YtbiahhojnjchnaaGreat
