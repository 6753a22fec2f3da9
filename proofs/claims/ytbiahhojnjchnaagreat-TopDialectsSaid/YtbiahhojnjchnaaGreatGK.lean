/-
  Orbits, plain: what hangs together in the program's table. What the reference calls beside, plain: one way of the program's pairs.
-/
import Derived.Test.YtbiahhojnjchnaaGreatGJ
set_option linter.unusedVariables false
set_option linter.unusedSimpArgs false
namespace Go.Proofs.YtbiahhojnjchnaaGreat
def ins (x:Int):List Int→List Int
 | []=>[x]
 | y :: l=>if x≤y then x :: y :: l else y :: ins x l
def isort:List Int→List Int
 | []=>[]
 | x :: l=>ins x (isort l)
def nub:List Int→List Int
 | []=>[]
 | x :: l=>if hasB' l x then nub l else x :: nub l
where hasB' (l:List Int) (x:Int):Bool:=l.any fun y=>y == x
theorem mem_ins (x y:Int) (l:List Int):y ∈ ins x l↔y=x∨y ∈ l:=by
 induction l with
 | nil=>simp [ins]
 | cons z l ih =>
  unfold ins
  split
  ·simp
  ·simp only [List.mem_cons,ih]
   constructor
   ·rintro (h|h|h)
    ·exact .inr (.inl h)
    ·exact .inl h
    ·exact .inr (.inr h)
   ·rintro (h|h|h)
    ·exact .inr (.inl h)
    ·exact .inl h
    ·exact .inr (.inr h)
theorem mem_isort (y:Int) (l:List Int):y ∈ isort l↔y ∈ l:=by
 induction l with
 | nil=>simp [isort]
 | cons x l ih=>simp [isort,mem_ins,ih]
theorem mem_nub (y:Int) (l:List Int):y ∈ nub l↔y ∈ l:=by
 induction l with
 | nil=>simp [nub]
 | cons x l ih =>
  unfold nub
  split
  ·rename_i h
   rw [ih,List.mem_cons]
   constructor
   ·exact .inr
   ·rintro (rfl|h2)
    ·simpa [nub.hasB'] using h
    ·exact h2
  ·simp [ih]
theorem nub_nodup (l:List Int):(nub l).Nodup:=by
 induction l with
 | nil=>simp [nub]
 | cons x l ih =>
  unfold nub
  split
  ·exact ih
  ·rename_i h
   refine List.nodup_cons.2 ⟨fun hm=>h ?_,ih⟩
   rw [mem_nub] at hm
   simpa [nub.hasB'] using hm
theorem ins_lt (x:Int):∀ (l:List Int),l.Pairwise (· < ·)→x ∉ l→(ins x l).Pairwise (· < ·)
 | [],_,_=>by simp [ins]
 | y :: l,h,hx=>by
  unfold ins
  have h1:=List.pairwise_cons.1 h
  split
  ·rename_i hxy
   have hne:x≠y:=fun e=>hx (by simp [e])
   refine List.pairwise_cons.2 ⟨fun z hz=>?_,h⟩
   rcases List.mem_cons.1 hz with rfl|hz
   ·omega
   ·have:=h1.1 z hz;omega
  ·refine List.pairwise_cons.2 ⟨fun z hz=>?_,ins_lt x l h1.2 (fun hm=>hx (.tail _ hm))⟩
   rcases (mem_ins x z l).1 hz with rfl|hz
   ·omega
   ·exact h1.1 z hz
theorem isort_lt:∀ (l:List Int),l.Nodup→(isort l).Pairwise (· < ·)
 | [],_=>.nil
 | x :: l,h=>ins_lt x _ (isort_lt l (List.nodup_cons.1 h).2) (fun hm=>(List.nodup_cons.1 h).1 ((mem_isort x l).1 hm))
/-- two lists that rise, and have the same members, are one -/
theorem rise_ext:∀ {a b:List Int},a.Pairwise (· < ·)→b.Pairwise (· < ·)→(∀ x,x ∈ a↔x ∈ b)→a=b
 | [],[],_,_,_=>rfl
 | [],y :: b,_,_,h=>absurd ((h y).2 (.head _)) (by simp)
 | x :: a,[],_,_,h=>absurd ((h x).1 (.head _)) (by simp)
 | x :: a,y :: b,ha,hb,h=>by
  have h1:=List.pairwise_cons.1 ha
  have h2:=List.pairwise_cons.1 hb
  have e:x=y:=by
   rcases List.mem_cons.1 ((h x).1 (.head _)) with e|hx
   ·exact e
   ·rcases List.mem_cons.1 ((h y).2 (.head _)) with e|hy
    ·exact e.symm
    ·have:=h1.1 y hy;have:=h2.1 x hx;omega
  subst e
  rw [rise_ext h1.2 h2.2 fun z=>?_]
  constructor
  ·intro hz
   rcases List.mem_cons.1 ((h z).1 (.tail _ hz)) with e|hz'
   ·have:=h1.1 z hz;omega
   ·exact hz'
  ·intro hz
   rcases List.mem_cons.1 ((h z).2 (.tail _ hz)) with e|hz'
   ·have:=h2.1 z hz;omega
   ·exact hz'
def orb (p:Int):List Int:=isort (nub (p :: (besP p ++ (besP p).flatMap besP)))
theorem orb_lt (p:Int):(orb p).Pairwise (· < ·):=isort_lt _ (nub_nodup _)
theorem mem_orb (p x:Int):x ∈ orb p↔x=p∨x ∈ besP p∨∃ y ∈ besP p,x ∈ besP y:=by
 unfold orb;rw [mem_isort,mem_nub];simp
/-! the same over natural numbers, which the kernel reckons fast -/
structure PrN where
 f:Nat
 t:Nat
 b:Nat
 s:Nat
def tblN:List PrN:=[⟨65,90,32,1⟩,⟨192,214,32,1⟩,⟨216,222,32,1⟩,⟨256,302,1,2⟩,⟨913,929,32,1⟩,⟨931,939,32,1⟩,⟨1024,1039,80,1⟩,⟨1040,1071,32,1⟩,⟨962,962,1,1⟩,⟨181,181,775,1⟩,⟨107,107,8383,1⟩,⟨229,229,8262,1⟩,⟨223,223,7615,1⟩]
def hitN (r:PrN) (n:Nat):Bool:=bif Nat.ble r.f n then (bif Nat.ble n r.t then Nat.beq ((n - r.f) % r.s) 0 else false) else false
def bes1N (r:PrN) (n:Nat) (l:List Nat):List Nat :=
 bif hitN r n then (n+r.b) :: (bif hitN r (n - r.b) then (n - r.b) :: l else l) else (bif hitN r (n - r.b) then (n - r.b) :: l else l)
def besN' (n:Nat):List PrN→List Nat
 | []=>[]
 | r :: l=>bes1N r n (besN' n l)
def besN (n:Nat):List Nat:=besN' n tblN
def insN (x:Nat):List Nat→List Nat
 | []=>[x]
 | y :: l=>bif Nat.ble x y then x :: y :: l else y :: insN x l
def isortN:List Nat→List Nat
 | []=>[]
 | x :: l=>insN x (isortN l)
def hasN (x:Nat):List Nat→Bool
 | []=>false
 | y :: l=>bif Nat.beq y x then true else hasN x l
def nubN:List Nat→List Nat
 | []=>[]
 | x :: l=>bif hasN x l then nubN l else x :: nubN l
def catN:List Nat→List Nat
 | []=>[]
 | x :: l=>besN x ++ catN l
def orbN (n:Nat):List Nat:=isortN (nubN (n :: (besN n ++ catN (besN n))))
def eqN:List Nat→List Nat→Bool
 | [],[]=>true
 | x :: a,y :: b=>bif Nat.beq x y then eqN a b else false
 | _,_=>false
def allN (f:Nat→Bool):List Nat→Bool
 | []=>true
 | x :: l=>bif f x then allN f l else false
def orbOkN (n:Nat):Bool :=
 match besN n with
 | []=>true
 | _=>let o:=orbN n;bif Nat.ble o.length 4 then allN (fun x=>bif Nat.ble x 8500 then eqN (orbN x) o else false) o else false
def upN (f:Nat→Bool):Nat→Bool
 | 0=>true
 | n+1=>bif f n then upN f n else false
set_option maxRecDepth 100000 in
theorem orbOk_all:upN orbOkN 8501=true:=by decide +kernel
/-! and back -/
def cst (l:List Nat):List Int:=l.map fun (n:Nat)=>(n:Int)
def PrN.up (r:PrN):Pr:=⟨r.f,r.t,r.b,r.s⟩
theorem bif_if {α:Type} (b:Bool) (x y:α):(bif b then x else y)=if b=true then x else y:=by cases b<;>rfl
theorem hit_cast (r:PrN) (n:Nat):hit r.up (n:Int)=hitN r n:=by
 unfold hit hitN PrN.up
 by_cases h1:r.f≤n
 ·by_cases h2:n≤r.t
  ·have e1:Nat.ble r.f n=true:=Nat.ble_eq_true_of_le h1
   have e2:Nat.ble n r.t=true:=Nat.ble_eq_true_of_le h2
   rw [e1,e2]
   simp only [cond_true]
   rw [decide_eq_true (by simp;omega),decide_eq_true (by simp;omega)]
   rw [← Int.ofNat_sub h1,← Int.natCast_emod]
   rw [Bool.true_and,Bool.true_and,Bool.eq_iff_iff,Nat.beq_eq,beq_iff_eq]
   omega
  ·have e1:Nat.ble r.f n=true:=Nat.ble_eq_true_of_le h1
   have e2:Nat.ble n r.t=false:=by rw [Bool.eq_false_iff,ne_eq,Nat.ble_eq];exact h2
   rw [e1,e2,decide_eq_false (show ¬ (n:Int)≤(r.t:Int) by omega)]
   simp
 ·have e1:Nat.ble r.f n=false:=by rw [Bool.eq_false_iff,ne_eq,Nat.ble_eq];exact h1
  rw [e1,decide_eq_false (show ¬ (r.f:Int)≤(n:Int) by omega)]
  simp
theorem hit_back (r:PrN) (n:Nat) (hf:1≤r.f):hit r.up ((n:Int) - r.b)=hitN r (n - r.b):=by
 by_cases h:r.b≤n
 ·rw [← Int.ofNat_sub h,hit_cast]
 ·have e:n - r.b=0:=by omega
  rw [e]
  have e1:Nat.ble r.f 0=false:=by rw [Bool.eq_false_iff,ne_eq,Nat.ble_eq];omega
  unfold hit hitN PrN.up
  rw [e1,decide_eq_false (show ¬ (r.f:Int)≤(n:Int) - (r.b:Int) by omega)]
  simp
theorem bes1_cast (r:PrN) (n:Nat) (l:List Nat) (hf:1≤r.f):bes1 r.up (n:Int) ++ cst l=cst (bes1N r n l):=by
 unfold bes1 bes1N
 rw [hit_cast,show (n:Int) - r.up.b=(n:Int) - r.b from rfl,hit_back r n hf]
 have e2:hitN r (n - r.b)=true→((n - r.b:Nat):Int)=(n:Int) - r.b:=fun h=>by
  have:r.b≤n:=by
   rcases Nat.lt_or_ge n r.b with k|k
   ·have e:n - r.b=0:=by omega
    have e1:Nat.ble r.f 0=false:=by rw [Bool.eq_false_iff,ne_eq,Nat.ble_eq];omega
    rw [e] at h;unfold hitN at h;rw [e1] at h;cases h
   ·exact k
  omega
 cases h1:hitN r n<;>cases h2:hitN r (n - r.b)<;>simp [cst,PrN.up]<;>(try exact (e2 h2).symm)
theorem besN_cast (n:Nat) (l:List PrN) (hl:∀ r ∈ l,1≤r.f):(l.map PrN.up).flatMap (fun r=>bes1 r (n:Int))=cst (besN' n l):=by
 induction l with
 | nil=>rfl
 | cons r l ih =>
  rw [List.map_cons,List.flatMap_cons,ih fun r hr=>hl r (.tail _ hr),bes1_cast r n _ (hl r (.head _))]
  rfl
theorem besP_cast (n:Nat):besP (n:Int)=cst (besN n):=besN_cast n tblN (by decide)
theorem ins_cast (x:Nat) (l:List Nat):ins (x:Int) (cst l)=cst (insN x l):=by
 induction l with
 | nil=>rfl
 | cons y l ih =>
  unfold insN
  rw [bif_if]
  show ins (x:Int) ((y:Int) :: cst l)=_
  unfold ins
  by_cases h:x≤y
  ·rw [if_pos (by omega),if_pos (Nat.ble_eq_true_of_le h)];rfl
  ·rw [if_neg (by omega),if_neg (by rw [Nat.ble_eq];exact h),ih];rfl
theorem isort_cast (l:List Nat):isort (cst l)=cst (isortN l):=by
 induction l with
 | nil=>rfl
 | cons x l ih =>
  show ins (x:Int) (isort (cst l))=cst (insN x (isortN l))
  rw [ih,ins_cast]
theorem has_cast (x:Nat) (l:List Nat):nub.hasB' (cst l) (x:Int)=hasN x l:=by
 induction l with
 | nil=>rfl
 | cons y l ih =>
  unfold hasN
  rw [← ih]
  unfold nub.hasB'
  simp only [cst,List.map_cons,List.any_cons]
  by_cases h:y=x
  ·subst h;simp [Nat.beq_refl]
  ·have e:Nat.beq y x=false:=by rw [Bool.eq_false_iff,ne_eq,Nat.beq_eq];exact h
   have e2:((y:Int) == (x:Int))=false:=beq_eq_false_iff_ne.2 (by omega)
   rw [e,e2];rfl
theorem nub_cast (l:List Nat):nub (cst l)=cst (nubN l):=by
 induction l with
 | nil=>rfl
 | cons x l ih =>
  show nub ((x:Int) :: cst l)=_
  unfold nub nubN
  rw [has_cast,bif_if,ih]
  split<;>rfl
theorem cat_cast (l:List Nat):(cst l).flatMap besP=cst (catN l):=by
 induction l with
 | nil=>rfl
 | cons x l ih =>
  show besP (x:Int) ++ (cst l).flatMap besP=cst (besN x ++ catN l)
  rw [ih,besP_cast];simp [cst]
theorem orb_cast (n:Nat):orb (n:Int)=cst (orbN n):=by
 unfold orb orbN
 rw [besP_cast,cat_cast,← isort_cast,← nub_cast]
 congr 2
 simp [cst]
theorem eqN_eq:∀ (a b:List Nat),eqN a b=true→a=b
 | [],[],_=>rfl
 | [],_ :: _,h=>by simp [eqN] at h
 | _ :: _,[],h=>by simp [eqN] at h
 | x :: a,y :: b,h=>by
  unfold eqN at h
  rw [bif_if] at h
  split at h
  ·rename_i h1
   rw [Nat.beq_eq] at h1
   rw [h1,eqN_eq a b h]
  ·cases h
theorem allN_all (f:Nat→Bool):∀ (l:List Nat),allN f l=true→∀ x ∈ l,f x=true
 | [],_,_,hx=>by simp at hx
 | y :: l,h,x,hx=>by
  unfold allN at h
  rw [bif_if] at h
  split at h
  ·rename_i h1
   rcases List.mem_cons.1 hx with rfl|hx
   ·exact h1
   ·exact allN_all f l h x hx
  ·cases h
theorem upN_all (f:Nat→Bool):∀ (k:Nat),upN f k=true→∀ n,n < k→f n=true
 | 0,_,n,hn=>by omega
 | k+1,h,n,hn=>by
  unfold upN at h
  rw [bif_if] at h
  split at h
  ·rename_i h1
   rcases Nat.lt_or_ge n k with q|q
   ·exact upN_all f k h n q
   ·have:n=k:=by omega
    subst this;exact h1
  ·cases h
theorem besN_big (n:Nat) (hn:8500 < n):besN n=[]:=by
 have key:∀ (l:List PrN),(∀ r ∈ l,r.t+r.b≤8500)→besN' n l=[]:=by
  intro l
  induction l with
  | nil=>intro _;rfl
  | cons r l ih =>
   intro h
   have hr:=h r (.head _)
   have f1:hitN r n=false:=by
    unfold hitN
    have e2:Nat.ble n r.t=false:=by rw [Bool.eq_false_iff,ne_eq,Nat.ble_eq];omega
    rw [e2];cases Nat.ble r.f n<;>rfl
   have f2:hitN r (n - r.b)=false:=by
    unfold hitN
    have e2:Nat.ble (n - r.b) r.t=false:=by rw [Bool.eq_false_iff,ne_eq,Nat.ble_eq];omega
    rw [e2];cases Nat.ble r.f (n - r.b)<;>rfl
   show bes1N r n (besN' n l)=[]
   unfold bes1N
   rw [f1,f2,ih fun r hr=>h r (.tail _ hr)]
   rfl
 exact key tblN (by decide)
theorem orb_alone {p:Int} (h:besP p=[]):orb p=[p]:=by unfold orb;rw [h];rfl
/-- What is known of the orbits of all points. -/
theorem orb_facts (p:Int) (h0:0≤p) (h1:p≤1114111):(orb p).length≤4∧∀ x ∈ orb p,(0≤x∧x≤1114111)∧orb x=orb p:=by
 obtain ⟨n,rfl⟩:=Int.eq_ofNat_of_zero_le h0
 have alone:besN n=[]→(orb (n:Int)).length≤4∧∀ x ∈ orb (n:Int),(0≤x∧x≤1114111)∧orb x=orb (n:Int):=fun hb=>by
  have e:=orb_alone (p:=(n:Int)) (by rw [besP_cast,hb];rfl)
  rw [e]
  refine ⟨by simp,fun x hx=>?_⟩
  rw [List.mem_singleton.1 hx]
  exact ⟨⟨h0,h1⟩,e⟩
 rcases Nat.lt_or_ge 8500 n with hn|hn
 ·exact alone (besN_big n hn)
 ·have h:=upN_all orbOkN 8501 orbOk_all n (by omega)
  unfold orbOkN at h
  split at h
  ·rename_i hb;exact alone hb
  ·replace h:(bif Nat.ble (orbN n).length 4 then allN (fun x=>bif Nat.ble x 8500 then eqN (orbN x) (orbN n) else false) (orbN n) else false)=true:=h
   rw [bif_if] at h
   split at h
   ·rename_i hl
    rw [Nat.ble_eq] at hl
    rw [orb_cast]
    refine ⟨by simpa [cst] using hl,fun x hx=>?_⟩
    obtain ⟨m,hm,rfl⟩:=List.mem_map.1 hx
    have:=allN_all _ _ h m hm
    rw [bif_if] at this
    split at this
    ·rename_i hm2
     rw [Nat.ble_eq] at hm2
     exact ⟨by omega,by rw [orb_cast,eqN_eq _ _ this]⟩
    ·cases this
   ·cases h
theorem self_orb (p:Int):p ∈ orb p:=(mem_orb p p).2 (.inl rfl)
theorem besP_orb {p q:Int} (h:q ∈ besP p):q ∈ orb p:=(mem_orb p q).2 (.inr (.inl h))
/-- closed: whatever is beside a member is a member -/
theorem orb_closed {p x q:Int} (h0:0≤p) (h1:p≤1114111) (hx:x ∈ orb p) (hq:q ∈ besP x):q ∈ orb p:=by
 rw [← ((orb_facts p h0 h1).2 x hx).2];exact besP_orb hq
/-- the least of all closed sets that have p -/
theorem orb_least {p:Int} {S:Int→Prop} (hp:S p) (hc:∀ x,S x→∀ q ∈ besP x,S q) {x:Int} (hx:x ∈ orb p):S x:=by
 rcases (mem_orb p x).1 hx with rfl|h|⟨y,hy,h⟩
 ·exact hp
 ·exact hc p hp x h
 ·exact hc y (hc p hp y hy) x h
end Go.Proofs.YtbiahhojnjchnaaGreat
namespace Go.Proofs.YtbiahhojnjchnaaGreat
def c1 (p:Int):Bool:=decide ((65≤p∧p≤90)∨(192≤p∧p≤214)∨(216≤p∧p≤222)∨(913≤p∧p≤929)∨(931≤p∧p≤939)∨(1040≤p∧p≤1071))
theorem c1_of {p:Int} (h:(65≤p∧p≤90)∨(192≤p∧p≤214)∨(216≤p∧p≤222)∨(913≤p∧p≤929)∨(931≤p∧p≤939)∨(1040≤p∧p≤1071)):c1 p=true:=decide_eq_true h
theorem c1_no {p:Int} (h:¬ ((65≤p∧p≤90)∨(192≤p∧p≤214)∨(216≤p∧p≤222)∨(913≤p∧p≤929)∨(931≤p∧p≤939)∨(1040≤p∧p≤1071))):¬ c1 p=true:=by rw [show c1 p=false from decide_eq_false h];simp
def fwd (p:Int):List Int:=if c1 p then [p+32] else if (256≤p∧p≤302∧p % 2=0)∨p=962 then [p+1] else if 1024≤p∧p≤1039 then [p+80] else if p=181 then [956] else if p=8490 then [107] else if p=8491 then [229] else if p=7838 then [223] else []
def near (x:Int):List Int:=[x - 32,x - 1,x - 80,181,8490,8491,7838]
theorem hit_iff (r:Pr) (p:Int):hit r p=true↔r.f≤p∧p≤r.t∧(p - r.f) % r.s=0:=by simp [hit,and_assoc]
theorem mem_bes1 (r:Pr) (p q:Int):q ∈ bes1 r p↔(hit r p=true∧q=p+r.b)∨(hit r (p - r.b)=true∧q=p - r.b):=by
 unfold bes1;rw [List.mem_append]
 constructor
 ·rintro (h|h)
  ·split at h
   ·exact .inl ⟨‹_›,by simpa using h⟩
   ·simp at h
  ·split at h
   ·exact .inr ⟨‹_›,by simpa using h⟩
   ·simp at h
 ·rintro (⟨h,rfl⟩|⟨h,rfl⟩)
  ·exact .inl (by rw [if_pos h];simp)
  ·exact .inr (by rw [if_pos h];simp)
theorem mem_besP (p q:Int):q ∈ besP p↔∃ r ∈ tbl,(hit r p=true∧q=p+r.b)∨(hit r (p - r.b)=true∧q=p - r.b):=by
 unfold besP;rw [List.mem_flatMap];simp only [mem_bes1]
theorem besP_sym {p q:Int} (h:q ∈ besP p):p ∈ besP q:=by
 obtain ⟨r,hr,h|h⟩:=(mem_besP p q).1 h
 ·exact (mem_besP q p).2 ⟨r,hr,.inr ⟨by rw [h.2,show p+r.b - r.b=p by omega];exact h.1,by omega⟩⟩
 ·exact (mem_besP q p).2 ⟨r,hr,.inl ⟨by rw [h.2];exact h.1,by omega⟩⟩
theorem fwd_bes {p q:Int} (h:q ∈ fwd p):q ∈ besP p:=by
 unfold fwd at h
 split at h
 ·rename_i hc
  have hc':=of_decide_eq_true hc
  have e:q=p+32:=by simpa using h
  rcases hc' with k|k|k|k|k|k
  ·exact (mem_besP p q).2 ⟨⟨65,90,32,1⟩,by decide,.inl ⟨(hit_iff _ _).2 ⟨k.1,k.2,Int.emod_one _⟩,e⟩⟩
  ·exact (mem_besP p q).2 ⟨⟨192,214,32,1⟩,by decide,.inl ⟨(hit_iff _ _).2 ⟨k.1,k.2,Int.emod_one _⟩,e⟩⟩
  ·exact (mem_besP p q).2 ⟨⟨216,222,32,1⟩,by decide,.inl ⟨(hit_iff _ _).2 ⟨k.1,k.2,Int.emod_one _⟩,e⟩⟩
  ·exact (mem_besP p q).2 ⟨⟨913,929,32,1⟩,by decide,.inl ⟨(hit_iff _ _).2 ⟨k.1,k.2,Int.emod_one _⟩,e⟩⟩
  ·exact (mem_besP p q).2 ⟨⟨931,939,32,1⟩,by decide,.inl ⟨(hit_iff _ _).2 ⟨k.1,k.2,Int.emod_one _⟩,e⟩⟩
  ·exact (mem_besP p q).2 ⟨⟨1040,1071,32,1⟩,by decide,.inl ⟨(hit_iff _ _).2 ⟨k.1,k.2,Int.emod_one _⟩,e⟩⟩
 split at h
 ·rename_i hc
  have e:q=p+1:=by simpa using h
  rcases hc with k|k
  ·exact (mem_besP p q).2 ⟨⟨256,302,1,2⟩,by decide,.inl ⟨(hit_iff _ _).2 ⟨k.1,k.2.1,show (p - 256) % 2=0 by omega⟩,e⟩⟩
  ·exact (mem_besP p q).2 ⟨⟨962,962,1,1⟩,by decide,.inl ⟨(hit_iff _ _).2 ⟨by simp;omega,by simp;omega,Int.emod_one _⟩,e⟩⟩
 split at h
 ·rename_i k
  have e:q=p+80:=by simpa using h
  exact (mem_besP p q).2 ⟨⟨1024,1039,80,1⟩,by decide,.inl ⟨(hit_iff _ _).2 ⟨k.1,k.2,Int.emod_one _⟩,e⟩⟩
 split at h
 ·rename_i k;subst k;rw [List.mem_singleton.1 h];decide
 split at h
 ·rename_i k;subst k;rw [List.mem_singleton.1 h];decide
 split at h
 ·rename_i k;subst k;rw [List.mem_singleton.1 h];decide
 split at h
 ·rename_i k;subst k;rw [List.mem_singleton.1 h];decide
 simp at h
theorem hit_fwd {r:Pr} (hr:r ∈ tbl) {p:Int} (h:hit r p=true):(p+r.b ∈ fwd p∧p ∈ near (p+r.b))∨(p ∈ fwd (p+r.b)∧p+r.b ∈ near p):=by
 obtain ⟨h1,h2,h3⟩:=(hit_iff r p).1 h
 simp only [tbl,List.mem_cons,List.not_mem_nil,or_false] at hr
 rcases hr with rfl|rfl|rfl|rfl|rfl|rfl|rfl|rfl|rfl|rfl|rfl|rfl|rfl<;>simp only at h1 h2 h3 ⊢
 ·left;unfold fwd;rw [if_pos (c1_of (by omega))];exact ⟨by simp,by simp only [near,List.mem_cons];omega⟩
 ·left;unfold fwd;rw [if_pos (c1_of (by omega))];exact ⟨by simp,by simp only [near,List.mem_cons];omega⟩
 ·left;unfold fwd;rw [if_pos (c1_of (by omega))];exact ⟨by simp,by simp only [near,List.mem_cons];omega⟩
 ·left;unfold fwd;rw [if_neg (c1_no (by omega)),if_pos (by omega)];exact ⟨by simp,by simp only [near,List.mem_cons];omega⟩
 ·left;unfold fwd;rw [if_pos (c1_of (by omega))];exact ⟨by simp,by simp only [near,List.mem_cons];omega⟩
 ·left;unfold fwd;rw [if_pos (c1_of (by omega))];exact ⟨by simp,by simp only [near,List.mem_cons];omega⟩
 ·left;unfold fwd;rw [if_neg (c1_no (by omega)),if_neg (by omega),if_pos (by omega)];exact ⟨by simp,by simp only [near,List.mem_cons];omega⟩
 ·left;unfold fwd;rw [if_pos (c1_of (by omega))];exact ⟨by simp,by simp only [near,List.mem_cons];omega⟩
 ·obtain rfl:p=962:=by omega
  left;decide
 ·obtain rfl:p=181:=by omega
  left;decide
 ·obtain rfl:p=107:=by omega
  right;decide
 ·obtain rfl:p=229:=by omega
  right;decide
 ·obtain rfl:p=223:=by omega
  right;decide
/-- what is beside a point is what the reference says one way, or the other way and near -/
theorem bes_fwd {x q:Int} (h:q ∈ besP x):q ∈ fwd x∨(q ∈ near x∧x ∈ fwd q):=by
 obtain ⟨r,hr,⟨h1,h2⟩|⟨h1,h2⟩⟩:=(mem_besP x q).1 h
 ·rcases hit_fwd hr h1 with k|k
  ·exact .inl (by rw [h2];exact k.1)
  ·exact .inr ⟨by rw [h2];exact k.2,by rw [h2];exact k.1⟩
 ·have e:q+r.b=x:=by omega
  rcases hit_fwd hr h1 with k|k
  ·rw [← h2,e] at k;exact .inr ⟨k.2,k.1⟩
  ·rw [← h2,e] at k;exact .inl k.1
theorem fwd_len (p:Int):(fwd p).length≤1:=by
 unfold fwd;split
 ·simp
 split
 ·simp
 split
 ·simp
 split
 ·simp
 split
 ·simp
 split
 ·simp
 split<;>simp
end Go.Proofs.YtbiahhojnjchnaaGreat
