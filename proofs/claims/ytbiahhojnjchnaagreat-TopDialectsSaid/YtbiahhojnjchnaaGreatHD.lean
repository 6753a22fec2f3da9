/-
  Sets of points as lists of ranges, in plain Lean: a list of ranges that rise with gaps between them is known by the points that it has. The plain law of the reference's SetOf: sorted ends, and segments between them that are joined where they touch.
-/
set_option linter.unusedVariables false
set_option linter.unusedSimpArgs false
namespace Go.Proofs.YtbiahhojnjchnaaGreat
/-- A range that is right by itself. -/
def okR (r:Int × Int):Bool:=decide (0≤r.1) && decide (r.1≤1114111) && (decide (0≤r.2) && decide (r.2≤1114111)) && decide (r.1≤r.2)
theorem okR_iff (r:Int × Int):okR r=true↔0≤r.1∧r.1≤r.2∧r.2≤1114111:=by
 simp [okR];omega
def mem (a:List (Int × Int)) (p:Int):Prop:=∃ r ∈ a,r.1≤p∧p≤r.2
def memB (a:List (Int × Int)) (p:Int):Bool:=a.any fun r=>decide (r.1≤p) && decide (p≤r.2)
theorem memB_iff (a:List (Int × Int)) (p:Int):memB a p=true↔mem a p:=by
 simp [memB,mem]
theorem mem_nil (p:Int):¬ mem [] p:=by simp [mem]
theorem mem_cons (r:Int × Int) (a:List (Int × Int)) (p:Int):mem (r :: a) p↔(r.1≤p∧p≤r.2)∨mem a p:=by
 simp [mem]
theorem mem_append (a b:List (Int × Int)) (p:Int):mem (a ++ b) p↔mem a p∨mem b p:=by
 simp only [mem,List.mem_append]
 constructor
 ·rintro ⟨r,h|h,k⟩
  ·exact .inl ⟨r,h,k⟩
  ·exact .inr ⟨r,h,k⟩
 ·rintro (⟨r,h,k⟩|⟨r,h,k⟩)
  ·exact ⟨r,.inl h,k⟩
  ·exact ⟨r,.inr h,k⟩
theorem mem_perm {a b:List (Int × Int)} (h:a.Perm b) (p:Int):mem a p↔mem b p:=by
 simp only [mem,h.mem_iff]
/-- Right ranges that rise, with a gap between any two. -/
def Can (a:List (Int × Int)):Prop:=(∀ r ∈ a,okR r=true)∧a.Pairwise fun r s=>r.2+2≤s.1
theorem Can.nil:Can []:=⟨by simp,.nil⟩
theorem Can.tail {r:Int × Int} {a:List (Int × Int)} (h:Can (r :: a)):Can a:=⟨fun s hs=>h.1 s (.tail _ hs),(List.pairwise_cons.1 h.2).2⟩
theorem Can.head {r:Int × Int} {a:List (Int × Int)} (h:Can (r :: a)):okR r=true∧∀ s ∈ a,r.2+2≤s.1:=⟨h.1 r (.head _),(List.pairwise_cons.1 h.2).1⟩
theorem Can.snoc {a:List (Int × Int)} {r:Int × Int} (h:Can a) (hr:okR r=true) (hg:∀ s ∈ a,s.2+2≤r.1):Can (a ++ [r]):=by
 refine ⟨fun s hs=>?_,?_⟩
 ·rcases List.mem_append.1 hs with hs|hs
  ·exact h.1 s hs
  ·rw [List.mem_singleton.1 hs];exact hr
 ·rw [List.pairwise_append]
  exact ⟨h.2,List.pairwise_singleton _ _,fun s hs t ht=>by rw [List.mem_singleton.1 ht];exact hg s hs⟩
theorem Can.init {a:List (Int × Int)} {r:Int × Int} (h:Can (a ++ [r])):Can a∧okR r=true∧∀ s ∈ a,s.2+2≤r.1:=by
 have h2:=List.pairwise_append.1 h.2
 exact ⟨⟨fun s hs=>h.1 s (List.mem_append_left _ hs),h2.1⟩,h.1 r (by simp),fun s hs=>h2.2.2 s hs r (by simp)⟩
theorem Can.le_head {r:Int × Int} {a:List (Int × Int)} (h:Can (r :: a)) {p:Int} (hp:mem a p):r.2+2≤p:=by
 obtain ⟨s,hs,h1,_⟩:=hp
 have:=h.head.2 s hs
 omega
theorem Can.ext:∀ {a b:List (Int × Int)},Can a→Can b→(∀ p,mem a p↔mem b p)→a=b:=by
 intro a
 induction a with
 | nil =>
  intro b _ hb h
  cases b with
  | nil=>rfl
  | cons s b =>
   have hs:=(okR_iff s).1 hb.head.1
   exact absurd ((h s.1).2 ((mem_cons s b s.1).2 (.inl (by omega)))) (mem_nil _)
 | cons r a ih =>
  intro b ha hb h
  cases b with
  | nil =>
   have hr:=(okR_iff r).1 ha.head.1
   exact absurd ((h r.1).1 ((mem_cons r a r.1).2 (.inl (by omega)))) (mem_nil _)
  | cons s b =>
   have hr:=(okR_iff r).1 ha.head.1
   have hs:=(okR_iff s).1 hb.head.1
   have e1:r.1=s.1:=by
    have h1:=(mem_cons s b r.1).1 ((h r.1).1 ((mem_cons r a r.1).2 (.inl (by omega))))
    have h2:=(mem_cons r a s.1).1 ((h s.1).2 ((mem_cons s b s.1).2 (.inl (by omega))))
    rcases h1 with h1|h1
    ·rcases h2 with h2|h2
     ·omega
     ·have:=ha.le_head h2;omega
    ·have:=hb.le_head h1
     rcases h2 with h2|h2
     ·omega
     ·have:=ha.le_head h2;omega
   have e2:r.2=s.2:=by
    rcases Int.lt_trichotomy r.2 s.2 with hlt|heq|hgt
    ·have h1:=(mem_cons r a (r.2+1)).1 ((h (r.2+1)).2 ((mem_cons s b (r.2+1)).2 (.inl (by omega))))
     rcases h1 with h1|h1
     ·omega
     ·have:=ha.le_head h1;omega
    ·exact heq
    ·have h1:=(mem_cons s b (s.2+1)).1 ((h (s.2+1)).1 ((mem_cons r a (s.2+1)).2 (.inl (by omega))))
     rcases h1 with h1|h1
     ·omega
     ·have:=hb.le_head h1;omega
   have ers:r=s:=by cases r;cases s;simp at e1 e2;simp [e1,e2]
   subst ers
   rw [ih ha.tail hb.tail fun p=>?_]
   constructor
   ·intro hp
    have hge:=ha.le_head hp
    rcases (mem_cons r b p).1 ((h p).1 ((mem_cons r a p).2 (.inr hp))) with k|k
    ·omega
    ·exact k
   ·intro hp
    have hge:=hb.le_head hp
    rcases (mem_cons r a p).1 ((h p).2 ((mem_cons r b p).2 (.inr hp))) with k|k
    ·omega
    ·exact k
/-- 'The list is the set of the points for which f holds.' -/
def IsSet (a:List (Int × Int)) (f:Int→Prop):Prop:=Can a∧∀ p,mem a p↔f p
theorem IsSet.eq {a b:List (Int × Int)} {f g:Int→Prop} (h:IsSet a f) (k:IsSet b g) (hfg:∀ p,f p↔g p):a=b :=
 Can.ext h.1 k.1 fun p=>(h.2 p).trans ((hfg p).trans (k.2 p).symm)
theorem Can.mem_range {a:List (Int × Int)} (h:Can a) {p:Int} (hp:mem a p):0≤p∧p≤1114111:=by
 obtain ⟨r,hr,h1,h2⟩:=hp
 have:=(okR_iff r).1 (h.1 r hr)
 omega
/-! ### what is wrong with a set -/
def gapB:List (Int × Int)→Bool
 | r :: s :: l=>decide (r.2+2≤s.1) && gapB (s :: l)
 | _=>true
theorem gapB_iff:∀ (a:List (Int × Int)),gapB a=true↔∀ i,(h:i+1 < a.length)→(a[i]).2+2≤(a[i+1]).1
 | []=>by simp [gapB]
 | [r]=>by simp [gapB]
 | r :: s :: l=>by
  simp only [gapB,Bool.and_eq_true,decide_eq_true_eq,gapB_iff (s :: l)]
  constructor
  ·rintro ⟨h1,h2⟩ i hi
   cases i with
   | zero=>exact h1
   | succ i=>exact h2 i (by simpa using hi)
  ·intro h
   exact ⟨h 0 (by simp),fun i hi=>h (i+1) (by simpa using hi)⟩
def rangesE (a:List (Int × Int)):Int:=if 400 < a.length then 2 else if a.all okR=false then 3 else 0
def chk (a:List (Int × Int)):Int:=if 400 < a.length then 2 else if a.all okR=false then 3 else if gapB a=false then 4 else 0
theorem gap_pairwise:∀ (a:List (Int × Int)),(∀ r ∈ a,okR r=true)→gapB a=true→a.Pairwise fun r s=>r.2+2≤s.1
 | [],_,_=>.nil
 | [r],_,_=>List.pairwise_singleton _ _
 | r :: s :: l,hok,hg=>by
  simp only [gapB,Bool.and_eq_true,decide_eq_true_eq] at hg
  have ih:=gap_pairwise (s :: l) (fun t ht=>hok t (.tail _ ht)) hg.2
  refine List.pairwise_cons.2 ⟨fun t ht=>?_,ih⟩
  rcases List.mem_cons.1 ht with rfl|ht
  ·exact hg.1
  ·have h1:=(List.pairwise_cons.1 ih).1 t ht
   have h2:=(okR_iff s).1 (hok s (by simp))
   omega
theorem pairwise_gap:∀ (a:List (Int × Int)),a.Pairwise (fun r s=>r.2+2≤s.1)→gapB a=true
 | [],_=>rfl
 | [r],_=>rfl
 | r :: s :: l,h=>by
  have h1:=List.pairwise_cons.1 h
  simp only [gapB,Bool.and_eq_true,decide_eq_true_eq]
  exact ⟨h1.1 s (by simp),pairwise_gap (s :: l) h1.2⟩
theorem chk_ok (a:List (Int × Int)):chk a=0↔a.length≤400∧Can a:=by
 unfold chk Can
 split
 ·constructor
  ·intro h;omega
  ·rintro ⟨h,_⟩;omega
 ·split
  ·rename_i h1 h2
   constructor
   ·intro h;omega
   ·rintro ⟨_,h3,_⟩
    rw [List.all_eq_true.2 h3] at h2;cases h2
  ·rename_i h1 h2
   have h2':a.all okR=true:=by simpa using h2
   have hok:=List.all_eq_true.1 h2'
   split
   ·rename_i h3
    constructor
    ·intro h;omega
    ·rintro ⟨_,_,h4⟩
     rw [pairwise_gap a h4] at h3;cases h3
   ·rename_i h3
    exact ⟨fun _=>⟨by omega,hok,gap_pairwise a hok (by simpa using h3)⟩,fun _=>rfl⟩
theorem rangesE_ok (a:List (Int × Int)):rangesE a=0↔a.length≤400∧∀ r ∈ a,okR r=true:=by
 unfold rangesE
 split
 ·constructor
  ·intro h;omega
  ·rintro ⟨h,_⟩;omega
 ·split
  ·rename_i h1 h2
   constructor
   ·intro h;omega
   ·rintro ⟨_,h3⟩
    rw [List.all_eq_true.2 h3] at h2;cases h2
  ·rename_i h1 h2
   exact ⟨fun _=>⟨by omega,List.all_eq_true.1 (by simpa using h2)⟩,fun _=>rfl⟩
/-! ### Raw: of ranges whose beginnings rise -/
/-- One range more: it joins the last one, or stands behind it. -/
def rawStep (out:List (Int × Int)) (r:Int × Int):List (Int × Int) :=
 match out.getLast? with
 | some s=>if r.1≤s.2+1 then out.dropLast ++ [(s.1,max s.2 r.2)] else out ++ [r]
 | none=>[r]
theorem snoc_cases (l:List (Int × Int)):l=[]∨∃ i x,l=i ++ [x]:=by
 rcases List.eq_nil_or_concat l with h|⟨i,x,h⟩
 ·exact .inl h
 ·exact .inr ⟨i,x,by rw [h,List.concat_eq_append]⟩
/-- What holds after some ranges: the set of their points; each beginning so far is no more than the next. -/
theorem rawStep_set {out l:List (Int × Int)} {r:Int × Int} (h:IsSet out (mem l)) (hr:okR r=true) (hle:∀ s ∈ out,s.1≤r.1):IsSet (rawStep out r) (mem (l ++ [r]))∧∀ s ∈ rawStep out r,s.1≤r.1:=by
 have hr':=(okR_iff r).1 hr
 have hm:∀ p,mem (l ++ [r]) p↔mem out p∨(r.1≤p∧p≤r.2):=fun p=>by
  rw [mem_append,h.2 p,mem_cons]
  have:=mem_nil p
  constructor
  ·rintro (k|k|k)
   ·exact .inl k
   ·exact .inr k
   ·exact absurd k this
  ·rintro (k|k)
   ·exact .inl k
   ·exact .inr (.inl k)
 rcases snoc_cases out with rfl|⟨i,s,rfl⟩
 ·simp only [rawStep,List.getLast?_nil]
  refine ⟨⟨Can.nil.snoc hr (by simp),fun p=>?_⟩,by simp⟩
  rw [hm,mem_cons]
  have:=mem_nil p
  simp only [this,or_false,false_or]
 ·have hc:=h.1.init
  have hs:=(okR_iff s).1 hc.2.1
  have hsr:=hle s (by simp)
  simp only [rawStep,List.getLast?_append,List.getLast?_singleton,Option.some_or,List.dropLast_concat]
  by_cases hj:r.1≤s.2+1
  ·simp only [hj,if_true]
   have hmax:okR (s.1,max s.2 r.2)=true:=by rw [okR_iff];simp;omega
   refine ⟨⟨hc.1.snoc hmax hc.2.2,fun p=>?_⟩,?_⟩
   ·rw [hm,mem_append,mem_append,mem_cons,mem_cons]
    have:=mem_nil p
    simp only [this,or_false]
    constructor
    ·rintro (k|k)
     ·exact .inl (.inl k)
     ·by_cases hp:p≤s.2
      ·exact .inl (.inr ⟨k.1,hp⟩)
      ·exact .inr ⟨by omega,by have:=k.2;omega⟩
    ·rintro ((k|k)|k)
     ·exact .inl k
     ·exact .inr ⟨k.1,by omega⟩
     ·exact .inr ⟨by omega,by omega⟩
   ·intro t ht
    rcases List.mem_append.1 ht with ht|ht
    ·exact hle t (List.mem_append_left _ ht)
    ·rw [List.mem_singleton.1 ht];exact hsr
  ·simp only [hj,if_false]
   refine ⟨⟨h.1.snoc hr fun t ht=>?_,fun p=>?_⟩,?_⟩
   ·rcases List.mem_append.1 ht with ht|ht
    ·have:=hc.2.2 t ht;omega
    ·rw [List.mem_singleton.1 ht];omega
   ·rw [hm,mem_append,mem_cons]
    have:=mem_nil p
    simp only [this,or_false]
   ·intro t ht
    rcases List.mem_append.1 ht with ht|ht
    ·exact hle t ht
    ·rw [List.mem_singleton.1 ht];omega
end Go.Proofs.YtbiahhojnjchnaaGreat
namespace Go.Proofs.YtbiahhojnjchnaaGreat
/-- the ends so far: they rise, are points, the first one is 0. -/
structure Ends (L es:List Int):Prop where
 sorted:L.Pairwise (· < ·)
 range:∀ p ∈ L,0≤p∧p≤1114111
 zero:∃ l,L=0 :: l
 all:∀ p ∈ es,0≤p→p≤1114111→p ∈ L
 len:L.length≤es.length+1
theorem Ends.start:Ends [0] []:=⟨by simp,by simp,⟨[],rfl⟩,by simp,by simp⟩
theorem Ends.skip {L es:List Int} {x:Int} (h:Ends L es) (hx:(0≤x→x≤1114111→x ∈ L)):Ends L (es ++ [x]) :=
 ⟨h.sorted,h.range,h.zero,fun p hp h0 h1=>by
  rcases List.mem_append.1 hp with hp|hp
  ·exact h.all p hp h0 h1
  ·rw [List.mem_singleton.1 hp] at h0 h1 ⊢;exact hx h0 h1,by have:=h.len;simp;omega⟩
theorem Ends.put {L es:List Int} {x:Int} (h:Ends L es) (h0:0≤x) (h1:x≤1114111) (at_:Nat) (hat:at_≤L.length) (hlo:∀ j,(hj:j < L.length)→j < at_→L[j] < x) (hhi:∀ (hj:at_ < L.length),x < L[at_]) :
  1≤at_∧Ends (L.take at_ ++ ([x] ++ L.drop at_)) (es ++ [x]):=by
 obtain ⟨l,hl⟩:=h.zero
 have h1at:1≤at_:=by
  rcases Nat.eq_zero_or_pos at_ with h|h
  ·subst h
   have:=hhi (by rw [hl];simp)
   simp [hl] at this
   omega
  ·exact h
 have hs:=List.pairwise_iff_getElem.1 h.sorted
 have hdrop:∀ p ∈ L.drop at_,x < p:=by
  intro p hp
  obtain ⟨i,hi,rfl⟩:=List.mem_iff_getElem.1 hp
  rw [List.getElem_drop]
  have hlt:at_ < L.length:=by simp at hi;omega
  have:=hhi hlt
  rcases Nat.eq_zero_or_pos i with hz|hz
  ·subst hz;simpa using this
  ·have:=hs at_ (at_+i) hlt (by simp at hi;omega) (by omega);omega
 have htake:∀ p ∈ L.take at_,p < x:=by
  intro p hp
  obtain ⟨i,hi,rfl⟩:=List.mem_iff_getElem.1 hp
  rw [List.getElem_take]
  simp at hi
  exact hlo i (by omega) (by omega)
 refine ⟨h1at,⟨?_,?_,?_,?_,?_⟩⟩
 ·rw [List.pairwise_append]
  refine ⟨h.sorted.sublist (List.take_sublist _ _),?_,?_⟩
  ·rw [List.singleton_append,List.pairwise_cons]
   exact ⟨hdrop,h.sorted.sublist (List.drop_sublist _ _)⟩
  ·intro p hp q hq
   have hp':=htake p hp
   rcases List.mem_append.1 hq with hq|hq
   ·rw [List.mem_singleton.1 hq];exact hp'
   ·have:=hdrop q hq;omega
 ·intro p hp
  rcases List.mem_append.1 hp with hp|hp
  ·exact h.range p (List.mem_of_mem_take hp)
  ·rcases List.mem_append.1 hp with hp|hp
   ·rw [List.mem_singleton.1 hp];exact ⟨h0,h1⟩
   ·exact h.range p (List.mem_of_mem_drop hp)
 ·refine ⟨l.take (at_ - 1) ++ ([x] ++ L.drop at_),?_⟩
  rw [hl]
  obtain ⟨a,rfl⟩:∃ a,at_=a+1:=⟨at_ - 1,by omega⟩
  simp
 ·intro p hp h0 h1
  have hm:p ∈ L→p ∈ L.take at_ ++ ([x] ++ L.drop at_):=fun hp=>by
   rw [← List.take_append_drop at_ L] at hp
   rcases List.mem_append.1 hp with hp|hp
   ·exact List.mem_append_left _ hp
   ·exact List.mem_append_right _ (List.mem_append_right _ hp)
  rcases List.mem_append.1 hp with hp|hp
  ·exact hm (h.all p hp h0 h1)
  ·rw [List.mem_singleton.1 hp];simp
 ·have:=h.len
  simp
  omega
/-- where the segment at place i ends: just ahead of the next end. -/
def upTo (L:List Int) (i:Nat):Int:=if h:i < L.length then L[i] else 1114112
theorem upTo_lt {L:List Int} {i:Nat} (h:i < L.length):upTo L i=L[i]:=by simp [upTo,h]
theorem upTo_end (L:List Int):upTo L L.length=1114112:=by simp [upTo]
theorem Ends.next {L es:List Int} (h:Ends L es) (i:Nat) (hi:i < L.length):L[i]+1≤upTo L (i+1)∧upTo L (i+1)≤1114112:=by
 by_cases h1:i+1 < L.length
 ·rw [upTo_lt h1]
  have:=List.pairwise_iff_getElem.1 h.sorted i (i+1) hi h1 (by omega)
  have:=h.range _ (List.getElem_mem h1)
  omega
 ·have e:i+1=L.length:=by omega
  rw [e,upTo_end]
  have:=h.range _ (List.getElem_mem hi)
  omega
/-- between two ends f does not change. -/
theorem Ends.const {L es:List Int} (h:Ends L es) {f:Int→Bool} (hf:∀ p,0 < p→p≤1114111→p ∉ es→f p=f (p - 1)) (i:Nat) (hi:i < L.length) :
  ∀ (n:Nat),L[i]+n < upTo L (i+1)→f (L[i]+n)=f L[i]:=by
 intro n
 induction n with
 | zero=>intro _;simp
 | succ n ih =>
  intro hn
  have hr:=h.range _ (List.getElem_mem hi)
  have hu:=(h.next i hi).2
  have hno:L[i]+((n+1:Nat):Int) ∉ es:=by
   intro hm
   have:=h.all _ hm (by omega) (by omega)
   obtain ⟨j,hj,he⟩:=List.mem_iff_getElem.1 this
   have hp:=List.pairwise_iff_getElem.1 h.sorted
   rcases Nat.lt_trichotomy j i with k|k|k
   ·have:=hp j i hj hi k;omega
   ·subst k;omega
   ·rcases Nat.lt_or_ge (i+1) j with k2|k2
    ·have h1:i+1 < L.length:=by omega
     rw [upTo_lt h1] at hn
     have:=hp (i+1) j h1 hj k2
     omega
    ·have:j=i+1:=by omega
     subst this
     rw [upTo_lt hj] at hn
     omega
  rw [hf _ (by omega) (by omega) hno,show L[i]+((n+1:Nat):Int) - 1=L[i]+(n:Int) from by omega]
  exact ih (by omega)
def segStep (out:List (Int × Int)) (x to:Int):List (Int × Int) :=
 match out.getLast? with
 | some s=>if s.2=x - 1 then out.dropLast ++ [(s.1,to)] else out ++ [(x,to)]
 | none=>[(x,to)]
theorem segStep_nil (x to:Int):segStep [] x to=[(x,to)]:=rfl
theorem segStep_snoc (i:List (Int × Int)) (s:Int × Int) (x to:Int):segStep (i ++ [s]) x to=if s.2=x - 1 then i ++ [(s.1,to)] else i ++ [s] ++ [(x,to)]:=by
 simp [segStep]
theorem segStep_set {out:List (Int × Int)} {f:Int→Bool} {x to:Int} (h:IsSet out fun p=>0≤p∧p < x∧f p=true) (h0:0≤x) (h1:x≤to) (h2:to≤1114111) (hf:∀ p,x≤p→p≤to→f p=true) :
  IsSet (segStep out x to) fun p=>0≤p∧p < to+1∧f p=true:=by
 have hm:∀ p,(0≤p∧p < to+1∧f p=true)↔mem out p∨(x≤p∧p≤to):=fun p=>by
  rw [h.2 p]
  constructor
  ·rintro ⟨a,b,c⟩
   by_cases hp:p < x
   ·exact .inl ⟨a,hp,c⟩
   ·exact .inr ⟨by omega,by omega⟩
  ·rintro (⟨a,b,c⟩|⟨a,b⟩)
   ·exact ⟨a,by omega,c⟩
   ·exact ⟨by omega,by omega,hf p a b⟩
 have hnew:okR (x,to)=true:=by rw [okR_iff];simp;omega
 rcases snoc_cases out with rfl|⟨i,s,rfl⟩
 ·rw [segStep_nil]
  refine ⟨Can.nil.snoc hnew (by simp),fun p=>?_⟩
  refine Iff.trans ?_ (hm p).symm
  rw [mem_cons]
  have:=mem_nil p
  simp only [this,or_false,false_or]
 ·have hc:=h.1.init
  have hs:=(okR_iff s).1 hc.2.1
  have hlast:s.2 < x:=((h.2 s.2).1 ((mem_append i [s] s.2).2 (.inr ((mem_cons s [] s.2).2 (.inl (by omega)))))).2.1
  rw [segStep_snoc]
  split
  ·rename_i he
   have hj:okR (s.1,to)=true:=by rw [okR_iff];simp;omega
   refine ⟨hc.1.snoc hj hc.2.2,fun p=>?_⟩
   refine Iff.trans ?_ (hm p).symm
   rw [mem_append,mem_append,mem_cons,mem_cons]
   have:=mem_nil p
   simp only [this,or_false]
   constructor
   ·rintro (k|k)
    ·exact .inl (.inl k)
    ·by_cases hp:p≤s.2
     ·exact .inl (.inr ⟨k.1,hp⟩)
     ·exact .inr ⟨by omega,k.2⟩
   ·rintro ((k|k)|k)
    ·exact .inl k
    ·exact .inr ⟨k.1,by omega⟩
    ·exact .inr ⟨by omega,k.2⟩
  ·rename_i he
   refine ⟨h.1.snoc hnew fun t ht=>?_,fun p=>?_⟩
   ·rcases List.mem_append.1 ht with ht|ht
    ·have:=hc.2.2 t ht;simp;omega
    ·rw [List.mem_singleton.1 ht];simp;omega
   ·refine Iff.trans ?_ (hm p).symm
    rw [mem_append,mem_cons]
    have:=mem_nil p
    simp only [this,or_false]
/-- one segment on, when f does not hold of it. -/
theorem seg_skip {out:List (Int × Int)} {f:Int→Bool} {x y:Int} (h:IsSet out fun p=>0≤p∧p < x∧f p=true) (hxy:x≤y) (hf:∀ p,x≤p→p < y→f p=false):IsSet out fun p=>0≤p∧p < y∧f p=true :=
 ⟨h.1,fun p=>by
  rw [h.2 p]
  constructor
  ·rintro ⟨a,b,c⟩;exact ⟨a,by omega,c⟩
  ·rintro ⟨a,b,c⟩
   refine ⟨a,?_,c⟩
   rcases Int.lt_or_le p x with k|k
   ·exact k
   ·rw [hf p k b] at c;cases c⟩
end Go.Proofs.YtbiahhojnjchnaaGreat
