/-
  Letters of the program: walked. RawFold and Fold of the program: walked.
-/
import Derived.Test.YtbiahhojnjchnaaGreatGK
import Derived.Test.YtbiahhojnjchnaaGreatGO
import Derived.Test.YtbiahhojnjchnaaGreatGI
set_option linter.unusedVariables false
set_option linter.unusedSimpArgs false
namespace Go.Proofs.YtbiahhojnjchnaaGreat
open Go.RowKit
def letK (r:Pr):Nat→List Int
 | 0=>[]
 | j+1=>letK r j ++ [r.f+r.s * j,r.f+r.s * j+r.b]
def cntP (r:Pr):Nat:=((r.t - r.f) / r.s).toNat+1
def letL (l:List Pr):List Int:=l.flatMap fun r=>letK r (cntP r)
theorem letK_len (r:Pr) (k:Nat):(letK r k).length=2 * k:=by
 induction k with
 | zero=>rfl
 | succ k ih=>simp [letK,ih];omega
theorem mem_letK (r:Pr) (k:Nat) (x:Int):x ∈ letK r k↔∃ j,j < k∧(x=r.f+r.s * (j:Int)∨x=r.f+r.s * (j:Int)+r.b):=by
 induction k with
 | zero=>simp [letK]
 | succ k ih =>
  simp only [letK,List.mem_append,ih,List.mem_cons,List.not_mem_nil,or_false]
  constructor
  ·rintro (⟨j,h1,h2⟩|h)
   ·exact ⟨j,by omega,h2⟩
   ·exact ⟨k,by omega,h⟩
  ·rintro ⟨j,h1,h2⟩
   by_cases e:j=k
   ·subst e;exact .inr h2
   ·exact .inl ⟨j,by omega,h2⟩
def fine (r:Pr):Bool:=(r.s == 1 || r.s == 2) && decide (r.f≤r.t) && decide (cntP r≤40)
theorem tbl_fine:∀ r ∈ tbl,fine r=true:=by decide
theorem fine_iff {r:Pr} (h:fine r=true):(r.s=1∨r.s=2)∧r.f≤r.t∧cntP r≤40:=by simpa [fine,and_assoc] using h
theorem hit_cnt {r:Pr} (h:fine r=true) (x:Int):hit r x=true↔∃ j,j < cntP r∧x=r.f+r.s * (j:Int):=by
 obtain ⟨hs,hf,_⟩:=fine_iff h
 obtain ⟨f,t,b,s⟩:=r
 simp only at hs hf
 rw [hit_iff]
 simp only [cntP]
 rcases hs with rfl|rfl
 ·constructor
  ·rintro ⟨h1,h2,h3⟩;exact ⟨(x - f).toNat,by omega,by omega⟩
  ·rintro ⟨j,h1,h2⟩;omega
 ·constructor
  ·rintro ⟨h1,h2,h3⟩;exact ⟨((x - f) / 2).toNat,by omega,by omega⟩
  ·rintro ⟨j,h1,h2⟩;omega
theorem cnt_in {r:Pr} (h:fine r=true) {j:Nat} (hp:r.f+r.s * (j:Int)≤r.t):j < cntP r:=by
 obtain ⟨hs,hf,_⟩:=fine_iff h
 obtain ⟨f,t,b,s⟩:=r
 simp only [cntP] at *
 rcases hs with rfl|rfl<;>omega
theorem cnt_out {r:Pr} (h:fine r=true) {j:Nat} (hp:r.t < r.f+r.s * (j:Int)) (hj:j≤cntP r):j=cntP r:=by
 obtain ⟨hs,hf,_⟩:=fine_iff h
 obtain ⟨f,t,b,s⟩:=r
 simp only [cntP] at *
 rcases hs with rfl|rfl<;>omega
/-- the letters: who has another one in its orbit -/
theorem mem_letL (x:Int):x ∈ letL tbl↔∃ q,q ∈ besP x:=by
 simp only [letL,List.mem_flatMap,mem_besP]
 constructor
 ·rintro ⟨r,hr,hx⟩
  obtain ⟨j,h1,h2⟩:=(mem_letK r _ x).1 hx
  have hh:hit r (r.f+r.s * (j:Int))=true:=(hit_cnt (tbl_fine r hr) _).2 ⟨j,h1,rfl⟩
  rcases h2 with h2|h2
  ·exact ⟨x+r.b,r,hr,.inl ⟨by rw [h2];exact hh,rfl⟩⟩
  ·exact ⟨x - r.b,r,hr,.inr ⟨by rw [show x - r.b=r.f+r.s * (j:Int) by omega];exact hh,rfl⟩⟩
 ·rintro ⟨q,r,hr,h⟩
  refine ⟨r,hr,(mem_letK r _ x).2 ?_⟩
  rcases h with ⟨h,_⟩|⟨h,_⟩
  ·obtain ⟨j,h1,h2⟩:=(hit_cnt (tbl_fine r hr) _).1 h
   exact ⟨j,h1,.inl h2⟩
  ·obtain ⟨j,h1,h2⟩:=(hit_cnt (tbl_fine r hr) _).1 h
   exact ⟨j,h1,.inr (by omega)⟩
set_option maxRecDepth 100000 in
theorem letL_len:(letL tbl).length≤400:=by decide +kernel
theorem letL_snoc (k:Nat) (h:k < tbl.length):letL (tbl.take (k+1))=letL (tbl.take k) ++ letK tbl[k] (cntP tbl[k]):=flat_take2 _ _ _ h
theorem letL_take (k:Nat):(letL (tbl.take k)).length≤400:=by
 have h:letL tbl=letL (tbl.take k) ++ letL (tbl.drop k):=by
  unfold letL;rw [← List.flatMap_append,List.take_append_drop]
 have:=letL_len
 rw [h,List.length_append] at this
 omega
theorem mem_upTo (d:Array Int) (m:Nat) (x:Int):x ∈ Lib.compactUpTo d m↔∃ j,j < m∧d[j]! = x:=by
 induction m with
 | zero=>simp [Lib.compactUpTo]
 | succ m ih =>
  rw [Lib.compactUpTo_succ,List.mem_append,ih]
  constructor
  ·rintro (⟨j,h1,h2⟩|h)
   ·exact ⟨j,by omega,h2⟩
   ·split at h
    ·exact ⟨m,by omega,(List.mem_singleton.1 h).symm⟩
    ·cases h
  ·rintro ⟨j,h1,h2⟩
   by_cases e:j=m
   ·subst e
    cases hk:Lib.keeps d j
    ·left
     simp only [Lib.keeps,decide_eq_false_iff_not,not_or,Decidable.not_not] at hk
     exact ⟨j - 1,by omega,by rw [← hk.2];exact h2⟩
    ·right;simp [h2]
   ·exact .inl ⟨j,by omega,h2⟩
theorem mem_compact (l:List Int) (x:Int):x ∈ Lib.compact l↔x ∈ l:=by
 rw [Lib.compact,mem_upTo,List.mem_iff_getElem]
 constructor
 ·rintro ⟨j,h1,h2⟩;exact ⟨j,h1,by rw [← h2];simp [h1]⟩
 ·rintro ⟨j,h1,h2⟩;exact ⟨j,h1,by rw [← h2];simp [h1]⟩
theorem BsRow.moreg {w W w3:World} {v v3:Value} {t t3 g:Nat} {l l3:List Int} {cs:Obj} (h:BsRow w W v t l g) (ho:w3.ownsRow w.heap.size 3 1 v3 t3 (ints l3)) (hg:(W.alloc cs).grownBy w3 v.ownBlock)
  (ha:v3.ownBlock=v.ownBlock∨v3.ownBlock=some (W.heap.size+1)):BsRow w w3 v3 t3 l3 g:=by
 obtain ⟨h1,h2,h3,h4,h5⟩:=h
 have hs:=hg.size
 simp at hs
 refine ⟨ho,(h2.alloc h2.size _).grown hg (by simp;have:=h2.size;omega) (fun k hk=>(h1.lt k hk).1),(((h3.alloc (Nat.le_refl _) cs).grown_ne hg h5).more (by omega)),by omega,?_⟩
 rcases ha with e|e
 ·rw [e];exact h5
 ·rw [e];intro e';injection e' with e';omega
/-- inner loop: the pairs of r up to p -/
def LetSt (r:Pr) (j:Nat) (p:Int):Prop:=j≤cntP r∧p=r.f+r.s * (j:Int)
theorem LetSt.next {r:Pr} {j:Nat} {p:Int} (h:LetSt r j p) (hf:fine r=true) (hp:p≤r.t):LetSt r (j+1) (p+r.s)∧letK r (j+1)=letK r j ++ [p,p+r.b]∧j < 40:=by
 obtain ⟨h1,h2⟩:=h
 have h3:=cnt_in hf (j:=j) (by omega)
 have h4:=(fine_iff hf).2.2
 refine ⟨⟨h3,?_⟩,by rw [h2];rfl,by omega⟩
 rw [show (((j+1:Nat)):Int)=(j:Int)+1 from rfl,Int.mul_add,Int.mul_one];omega
theorem LetSt.done {r:Pr} {j:Nat} {p:Int} (h:LetSt r j p) (hf:fine r=true) (hp:¬ p≤r.t):j=cntP r:=cnt_out hf (by have:=h.2;omega) h.1
set_option maxRecDepth 100000 in
set_option maxHeartbeats 4000000 in
theorem letters140 (w:World):Calls Tryz.prog 72 #[] w fun e w'=>∃ L,(∀ x,x ∈ L↔∃ q,q ∈ besP x)∧L.length≤400∧OwnInts w L e w':=by
 go_enter Tryz.func72,Tryz.ntmps72
 go_wp2_with fail
 refine (table157 w).mono ?_
 rintro e w1 ⟨g,rfl,hr,hb⟩
 have hg1:g < w1.heap.size:=by
  obtain ⟨b1,_,_,h,hb,_⟩:=hr.pr_at (k:=0) (by decide)
  injection h with h
  injection h with h1 h2
  omega
 have RT:=Lib.hid hr
 clear hr
 go_wp2_with fail
 go_loopw [1,7] (fun v i wr=>∃ k t:Nat,k≤13∧i=.int .i64 k∧BsRow w wr v t (letL (tbl.take k)) g) (fun _ i _=>13 - (intOf i).toNat)
 case atStart=>exact ⟨0,0,Nat.zero_le _,rfl,World.ownsRow_nil _ _ _ _,hb,RT.out,hg1,by simp [Value.ownBlock]⟩
 case round =>
  obtain ⟨k,t,hk,rfl,hown⟩:=hrel
  have HB0:=Lib.hid hown
  obtain ⟨Av,cv,rfl,hmc,hcv⟩:=own_slice hown.1
  have HTL:=Lib.hid (own_ints_len hown.1)
  unfold maxLen at hcv
  by_cases hlt:k < 13
  ·obtain ⟨b1,off1,hl1,hA,hb1,hc1,hc2,hc3,hc4⟩:=hown.2.2.1.pr_at hlt
   injection hA with hA
   injection hA with e1 e2
   subst e1 e2
   have hsz:=hown.2.1.size
   clear hown
   have HT:=Lib.hid (letL_snoc k hl1)
   have HF:=Lib.hid (tbl_fine tbl[k] (List.getElem_mem hl1))
   have hok:=tbl_ok tbl[k] (List.getElem_mem hl1)
   obtain ⟨r,hr⟩:∃ r,r=tbl[k]:=⟨_,rfl⟩
   rw [← hr] at hc1 hc2 hc3 hc4 HT HF hok
   clear hr
   obtain ⟨f,u,b,s⟩:=r
   simp only [okPr,Bool.and_eq_true,decide_eq_true_eq] at hok
   obtain ⟨⟨⟨⟨⟨⟨f0,f1⟩,u0⟩,u1⟩,b0⟩,bb⟩,hs⟩:=hok
   have hs2:1≤s∧s≤2:=by simp at hs;omega
   obtain ⟨s1,s2⟩:=hs2
   clear hs
   simp only [Nat.zero_add] at hc1 hc2 hc3 hc4
   have i1:(0:Int)≤(k:Int):=by omega
   have i2:(k:Int) < 13:=by omega
   have n1:=World.new_ne wr
   have HLT:=Lib.hid (fun q (hq:(Value.slice Av t cv).ownBlock=some q)=>(HB0.out.1.lt q hq).2)
   go_wp2_with fail
   have HB1:=Lib.hid (HB0.out.alloc (.cells #[.int .i64 f,.int .i64 u,.int .i64 b,.int .i64 s] 138))
   have HX:=Lib.hid (Box4.new wr f u b s 138)
   obtain ⟨wo,hwo⟩:∃ wo,wo=wr:=⟨_,rfl⟩
   have HZ:=Lib.hid (show (wr.alloc (.cells #[.int .i64 f,.int .i64 u,.int .i64 b,.int .i64 s] 138)).heap.size=wr.heap.size+1 by simp)
   generalize hbn:wr.heap.size=bn at *
   go_loopw [1,4] (fun v i wr=>∃ (j t:Nat) (p:Int),i=.int .i64 p∧LetSt ⟨f,u,b,s⟩ j p∧f≤p∧BsRow w wr v t (letL (tbl.take k) ++ letK ⟨f,u,b,s⟩ j) g∧Box4 wr bn f u b s∧bn < wr.heap.size∧some bn≠v.ownBlock) (fun _ i _=>(u+3 - intOf i).toNat)
   case atStart=>exact ⟨0,t,f,rfl,⟨Nat.zero_le _,by simp⟩,Int.le_refl _,by simpa [letK] using HB1.out,HX.out,by rw [HZ.out];omega,fun e=>by have:=HLT.out _ e.symm;omega⟩
   case round =>
    clear hc1 hc2 hc3 hc4 n1 HX HB1 HZ
    obtain ⟨j,t2,p,rfl,hst,hfp,hB,hX,hbz,hne⟩:=hrel
    have HST:=Lib.hid hst
    have HB:=Lib.hid hB
    have HNE:=Lib.hid hne
    obtain ⟨x1,x2,x3,x4⟩:=hX
    obtain ⟨A2,c2,rfl,hmc2,hcv2⟩:=own_slice hB.1
    have HTL2:=Lib.hid (own_ints_len hB.1)
    have hz:=hB.2.1.size
    unfold maxLen at hcv2
    clear hst hB hne
    by_cases hpu:p≤u
    ·have HNX:=Lib.hid (HST.out.next HF.out hpu)
     have ht2:t2≤500:=by
      have h1:=HTL2.out
      have h2:=letL_take k
      have h3:=HNX.out.2.2
      rw [List.length_append,letK_len] at h1
      omega
     have R:=Lib.hid (Rds.new wr 1 2 #[.int .i64 p,.int .i64 (p+b)] 3 (ints [p,p+b]) rfl rfl)
     have n2:=World.new_ne wr
     go_wp2_with (at_builtin;refine app_ints (.tmp 21) (.tmp 27) (base:=w.heap.size) (HB.out.1.alloc _) R.out (by omega) (by simp;omega) rfl rfl rfl rfl ?_;intro v3 w3 hown3 hg3 hat3;obtain ⟨y1,y2,y3,y4⟩:=(Box4.alloc ⟨x1,x2,x3,x4⟩ hbz (.cells #[.int .i64 p,.int .i64 (p+b)] 3)).grown hg3 HNE.out)
     have hs3:=hg3.size
     simp at hs3 hat3
     have HX3:=Lib.hid (show Box4 w3 bn f u b s from ⟨y1,y2,y3,y4⟩)
     have HB3:=Lib.hid (show BsRow w w3 v3 (t2+2) _ g from HB.out.moreg (by simpa using hown3) hg3 (by simpa using hat3))
     clear x1 x2 x3 x4
     go_roundw
     case rel=>exact ⟨j+1,t2+2,p+s,rfl,HNX.out.1,by omega,by rw [HNX.out.2.1];exact HB3.out,HX3.out,by omega,fun e=>by
      rcases hat3 with h|h
      ·rw [h] at e;exact HNE.out e
      ·rw [h] at e;injection e with e;omega⟩
     case measure=>simp [intOf];omega
    ·have HD:=Lib.hid (HST.out.done HF.out hpu)
     go_wp2
     go_roundw
     case rel=>exact ⟨k+1,t2,by omega,by go_num,by have:=HB.out;rw [HD.out] at this;rw [HT.out];exact this⟩
     case measure=>simp [intOf];omega
  ·obtain rfl:k=13:=by omega
   have HL:=Lib.hid (show tbl.take 13=tbl from rfl)
   have h1:=HB0.out.1
   have h2:=HB0.out.2.1
   rw [HL.out] at h1
   have H1:=Lib.hid h1
   have hz:=h2.size
   have hl:=letL_len
   have hn:t≤400:=by rw [own_ints_len h1];exact hl
   clear h1 hown
   go_wp2_with fail
   refine (sort139 (letL tbl) Av t cv w.heap.size wr (by omega) H1.out hz).mono ?_
   rintro e w2 ⟨rfl,hown2,hb2⟩
   have H2:=Lib.hid hown2
   have hz2:=hb2.size
   go_wp2_with fail
   refine (compact160 (srt (letL tbl)) Av t cv w.heap.size w2 (by omega) H2.out (by omega)).mono ?_
   rintro e w3 ⟨m,rfl,hown3,hb3⟩
   go_wp2
   go_ret
   refine ⟨Lib.compact (srt (letL tbl)),fun x=>?_,?_,ownInts_of rfl hown3 ((h2.trans hb2).trans hb3)⟩
   ·rw [mem_compact,(srt_perm _).mem_iff,mem_letL]
   ·have a:=compact_le (srt (letL tbl));rw [srt_len] at a;omega
end Go.Proofs.YtbiahhojnjchnaaGreat
namespace Go.Proofs.YtbiahhojnjchnaaGreat
open Go.RowKit
set_option maxHeartbeats 1000000 in
theorem orbit60o (p:Int) (w:World) (h0:0≤p) (h1:p≤1114111):Calls Tryz.prog 73 #[.int .i64 p] w fun e w'=>∃ A n c,e=.returned (.tuple #[.slice A n c,.int .i64 0])∧n≤c∧c≤maxLen∧Hid (w'.ownsRow w.heap.size 3 1 (.slice A n c) n (ints (orb p)))∧Below w.heap.size w w':=by
 have HP:=Lib.hid (show (decide (0≤p) && decide (p≤1114111))=true by simp;omega)
 go_enter Tryz.func73,Tryz.ntmps73
 go_wp2_with fail
 refine (isPoint107 p true _ HP.out).mono ?_
 rintro e w' ⟨rfl,rfl⟩
 go_wp2_with fail
 refine (orbit108 p _ h0 h1).mono ?_
 rintro e w1 ⟨A,n,c,rfl,hown,hb⟩
 have HO:=Lib.hid hown
 obtain ⟨_,_,hv,q1,q2⟩:=own_slice hown
 injection hv with e1 e2 e3
 subst e1 e3
 clear e2 hown
 go_wp2
 go_ret2
 exact ⟨A,n,c,rfl,q1,q2,HO,hb⟩
/-! plain -/
def ones (l:List Int):List (Int × Int):=l.map fun q=>(q,q)
theorem ones_snoc (l:List Int) (k:Nat) (h:k < l.length):ones (l.take (k+1))=ones (l.take k) ++ [(l[k],l[k])]:=by
 unfold ones;rw [take_snoc' l k h,List.map_append];rfl
theorem mem_ones (l:List Int) (q:Int):mem (ones l) q↔q ∈ l:=by
 simp only [mem,ones,List.mem_map]
 constructor
 ·rintro ⟨r,⟨x,hx,rfl⟩,h1,h2⟩;simp only at h1 h2;rw [show q=x by omega];exact hx
 ·intro h;exact ⟨(q,q),⟨q,h,rfl⟩,Int.le_refl _,Int.le_refl _⟩
def foldL (a:List (Int × Int)) (L:List Int):List (Int × Int):=a ++ L.flatMap fun p=>if memB a p then ones (orb p) else []
theorem foldL_nil (a:List (Int × Int)):foldL a []=a:=by simp [foldL]
theorem foldL_snoc (a:List (Int × Int)) (L:List Int) (k:Nat) (h:k < L.length):foldL a (L.take (k+1))=foldL a (L.take k) ++ (if memB a L[k] then ones (orb L[k]) else []):=by
 unfold foldL;rw [take_snoc' L k h,List.flatMap_append,List.append_assoc];simp only [List.flatMap_cons,List.flatMap_nil,List.append_nil]
/-- what a set is, folded -/
def FoldP (a:List (Int × Int)) (q:Int):Prop:=mem a q∨∃ p,(∃ x,x ∈ besP p)∧mem a p∧q ∈ orb p
theorem mem_foldL (a:List (Int × Int)) (L:List Int) (q:Int):mem (foldL a L) q↔mem a q∨∃ p,p ∈ L∧mem a p∧q ∈ orb p:=by
 rw [foldL,mem_append]
 constructor
 ·rintro (h|⟨r,hr,h⟩)
  ·exact .inl h
  ·obtain ⟨p,hp,hr⟩:=List.mem_flatMap.1 hr
   by_cases hm:memB a p=true
   ·rw [if_pos hm] at hr
    exact .inr ⟨p,hp,(memB_iff a p).1 hm,(mem_ones _ q).1 ⟨r,hr,h⟩⟩
   ·rw [if_neg hm] at hr;cases hr
 ·rintro (h|⟨p,hp,hm,hq⟩)
  ·exact .inl h
  ·right
   obtain ⟨r,hr,h⟩:=(mem_ones (orb p) q).2 hq
   exact ⟨r,List.mem_flatMap.2 ⟨p,hp,by rw [if_pos ((memB_iff a p).2 hm)];exact hr⟩,h⟩
theorem bes_rng {p x:Int} (h:x ∈ besP p):0≤p∧p≤1114111:=by
 obtain ⟨r,hr,h⟩:=(mem_besP p x).1 h
 have:=tbl_ok r hr
 simp [okPr] at this
 rcases h with ⟨h,_⟩|⟨h,_⟩<;>rw [hit_iff] at h<;>omega
theorem foldL_ok {a:List (Int × Int)} (ha:∀ r ∈ a,okR r=true) {L:List Int} (hL:∀ x ∈ L,∃ q,q ∈ besP x):∀ r ∈ foldL a L,okR r=true:=fun r hr=>by
 rcases List.mem_append.1 hr with h|h
 ·exact ha r h
 ·obtain ⟨p,hp,hr⟩:=List.mem_flatMap.1 h
  split at hr
  ·obtain ⟨x,hx,rfl⟩:=List.mem_map.1 hr
   obtain ⟨q,hq⟩:=hL p hp
   have:=((orb_facts p (bes_rng hq).1 (bes_rng hq).2).2 x hx).1
   exact (okR_iff _).2 ⟨this.1,Int.le_refl _,this.2⟩
  ·cases hr
theorem mem_same {L:List Int} (hL:∀ x,x ∈ L↔∃ q,q ∈ besP x) (a:List (Int × Int)) (q:Int):mem (foldL a L) q↔FoldP a q:=by
 rw [mem_foldL]
 constructor
 ·rintro (h|⟨p,hp,h⟩)
  ·exact .inl h
  ·exact .inr ⟨p,(hL p).1 hp,h⟩
 ·rintro (h|⟨p,hp,h⟩)
  ·exact .inl h
  ·exact .inr ⟨p,(hL p).2 hp,h⟩
set_option maxRecDepth 100000 in
set_option maxHeartbeats 4000000 in
theorem rawFold112 (a:List (Int × Int)) (A:Option Addr) (n c:Nat) (w:World) (hn:n≤90000) (hcan:Can a) (ha:Rds w w.heap.size 2 A n (rngs a)) :
  Calls Tryz.prog 38 #[.slice A n c] w fun e w'=>∃ out,IsSet out (FoldP a)∧out.length≤n+1600∧OwnRngs w out e w':=by
 have HA:=Lib.hid ha.rngs_len
 have HC:=Lib.hid hcan
 clear hcan
 go_enter Tryz.func38,Tryz.ntmps38
 go_wp2_with fail
 refine (clone117 a A n c _ (by omega) ha).mono ?_
 rintro e w1 ⟨A1,n1,c1,rfl,hown,hb1⟩
 have hn1:n1=n:=by rw [own_rngs_len hown,HA.out]
 subst hn1
 have HO1:=Lib.hid hown
 have R1:=Lib.hid (ha.next hb1)
 clear hown
 go_wp2_with fail
 refine (letters140 w1).mono ?_
 rintro e w2 ⟨L,hL,hLl,AL,nl,cl,rfl,hownL,hb2⟩
 have HL:=Lib.hid hL
 have HNL:=Lib.hid (own_ints_len hownL)
 have hnl:nl≤400:=by rw [own_ints_len hownL];exact hLl
 have HO2:=Lib.hid (own_below HO1.out hb2 (Nat.le_refl _))
 have R2:=Lib.hid (R1.out.next hb2)
 have HOL:=Lib.hid (own_mono hownL hb1.size)
 have B2:=Lib.hid (below_next hb1 hb2)
 clear hL hLl hownL hb1 hb2 HO1 R1
 go_wp2_with fail
 go_loopw [3,14] (fun v i wr=>∃ k t:Nat,k≤nl∧i=.int .i64 k∧t≤n1+4 * k∧wr.ownsRow w.heap.size 67 2 v t (rngs (foldL a (L.take k)))∧wr.ownsRow w.heap.size 3 1 (.slice AL nl cl) nl (ints L)∧Below w.heap.size w wr) (fun _ i _=>nl - (intOf i).toNat)
 case atStart=>exact ⟨0,n1,Nat.zero_le _,rfl,by omega,by simpa [foldL_nil] using HO2.out,HOL.out,B2.out⟩
 case round =>
  obtain ⟨k,t,hk,rfl,ht,hout,hol,hB⟩:=hrel
  have HOUT:=Lib.hid hout
  have HOL':=Lib.hid hol
  obtain ⟨Ao,co,rfl,hoc,hco⟩:=own_slice hout
  unfold maxLen at hco
  have hsz:=hB.size
  by_cases hlt:k < nl
  ·obtain ⟨b1,off1,hl1,hA,hb1,hc1⟩:=(Rds.of_own hol).int_at hlt
   have HAL:=Lib.hid hA
   subst hA
   have HT:=Lib.hid (foldL_snoc a L k hl1)
   have HLET:=Lib.hid ((HL.out _).1 (List.getElem_mem hl1))
   obtain ⟨p,hp⟩:∃ p,p=L[k]:=⟨_,rfl⟩
   rw [← hp] at hc1 HT HLET
   clear hp hout hol
   have k2:(k:Int) < (nl:Int):=by omega
   go_wp2_with fail
   refine (rawHas89 a p A n1 c wr (by omega) HC.out ((ha.below hB (Nat.le_refl _)).more hsz)).mono ?_
   rintro e w3 ⟨rfl,hb3⟩
   have HOUT3:=Lib.hid (own_below HOUT.out hb3 (Nat.le_refl _))
   have HOL3:=Lib.hid (own_below HOL'.out hb3 (Nat.le_refl _))
   have B3:=Lib.hid (hB.trans (hb3.mono hsz))
   have hz3:=B3.out.size
   clear hb3 hB
   cases hm:memB a p
   ·have HM:=Lib.hid hm
    clear hm
    go_wp2
    go_roundw
    case rel=>exact ⟨k+1,t,by omega,by go_num,by omega,by rw [HT.out,HM.out];simpa using HOUT3.out,HOL3.out,B3.out⟩
    case measure=>simp [intOf];omega
   ·have HM:=Lib.hid hm
    clear hm
    obtain ⟨qq,hqq⟩:=HLET.out
    have hr:=bes_rng hqq
    have HF:=Lib.hid (orb_facts p hr.1 hr.2)
    go_wp2_with fail
    refine (orbit60o p w3 hr.1 hr.2).mono ?_
    rintro e w4 ⟨A4,n4,c4,rfl,q3,q4,hown4,hb4⟩
    have HOUT4:=Lib.hid (own_below HOUT3.out hb4 (Nat.le_refl _))
    have HOL4:=Lib.hid (own_below HOL3.out hb4 (Nat.le_refl _))
    have HO4:=Lib.hid (own_mono hown4.out hz3)
    have HN4:=Lib.hid (own_ints_len hown4.out)
    have B4:=Lib.hid (B3.out.trans (hb4.mono hz3))
    have hn4:n4≤4:=by rw [HN4.out];exact HF.out.1
    clear hb4 hown4 hqq hr
    go_wp2_with fail
    go_loopw [3,28] (fun v i wr=>∃ j t:Nat,j≤n4∧i=.int .i64 j∧t≤n1+4 * k+j∧wr.ownsRow w.heap.size 67 2 v t (rngs (foldL a (L.take k) ++ ones ((orb p).take j)))∧wr.ownsRow w.heap.size 3 1 (.slice (some ⟨b1,off1,none⟩) nl cl) nl (ints L)∧wr.ownsRow w.heap.size 3 1 (.slice A4 n4 c4) n4 (ints (orb p))∧Below w.heap.size w wr) (fun _ i _=>n4 - (intOf i).toNat)
    case atStart=>exact ⟨0,t,Nat.zero_le _,rfl,by omega,by simpa [ones] using HOUT4.out,HOL4.out,HO4.out,B4.out⟩
    case round =>
     clear hc1
     obtain ⟨j,t5,hj,rfl,ht5,hout5,hol5,ho5,hB5⟩:=hrel
     have HOUT5:=Lib.hid hout5
     have HOL5:=Lib.hid hol5
     have HO5:=Lib.hid ho5
     obtain ⟨Ap,cp,rfl,hpc,hcp⟩:=own_slice hout5
     unfold maxLen at hcp
     have hsz5:=hB5.size
     have HN1:=Lib.hid (own_ne_type hout5 hol5 (by decide))
     have HN2:=Lib.hid (own_ne_type hout5 ho5 (by decide))
     by_cases hjl:j < n4
     ·obtain ⟨b2,off2,hl2,hA2,hb2,hc2⟩:=(Rds.of_own ho5).int_at hjl
      have HAL2:=Lib.hid hA2
      subst hA2
      have HT2:=Lib.hid (ones_snoc (orb p) j hl2)
      obtain ⟨x,hx⟩:∃ x,x=(orb p)[j]:=⟨_,rfl⟩
      rw [← hx] at hc2 HT2
      clear hx hout5 hol5 ho5
      have j2:(j:Int) < (n4:Int):=by omega
      have R:=Lib.hid (Rds.new wr 2 1 #[.int .i64 x,.int .i64 x] 67 (rngs [(x,x)]) rfl rfl)
      go_wp2_with (at_builtin;refine app_rngs (.tmp 32) (.tmp 36) (base:=w.heap.size) (HOUT5.out.alloc _) R.out (by omega) (by simp;omega) rfl rfl rfl rfl ?_;intro v3 w3 hown3 hg3 hat3)
      go_roundw
      case rel=>exact ⟨j+1,t5+1,by omega,by go_num,by omega,by rw [HT2.out,← List.append_assoc];exact hown3,own_kept (HOL5.out.alloc _) hg3 HN1.out,own_kept (HO5.out.alloc _) hg3 HN2.out,grown_own (hB5.alloc (by omega) _) (HOUT5.out.alloc _) hg3 (Nat.le_refl _) (by simp;omega)⟩
      case measure=>simp [intOf];omega
     ·obtain rfl:j=n4:=by omega
      have HTT:=Lib.hid (show (orb p).take j=orb p from List.take_of_length_le (by rw [← HN4.out];exact Nat.le_refl _))
      go_wp2
      go_roundw
      case rel=>exact ⟨k+1,t5,by omega,by go_num,by omega,by rw [HT.out,HM.out,if_pos rfl];have:=HOUT5.out;rw [HTT.out] at this;exact this,HOL5.out,hB5⟩
      case measure=>simp [intOf];omega
  ·obtain rfl:k=nl:=by omega
   have HTT:=Lib.hid (show L.take k=L from List.take_of_length_le (by rw [← HNL.out];exact Nat.le_refl _))
   have HOK:=Lib.hid (foldL_ok (a:=a) HC.out.1 (L:=L) (fun x hx=>(HL.out x).1 hx))
   go_wp2_with fail
   refine (raw72 (Lib.hid sortC) (foldL a L) Ao t co wr (by omega) HOK.out (by have:=Rds.of_own HOUT.out;rwa [HTT.out] at this)).mono ?_
   rintro e w5 ⟨out,hs,hl,hown⟩
   obtain ⟨A5,n5,c5,rfl,hown,hb5⟩:=hown
   go_wp2
   go_ret
   exact ⟨out,⟨hs.1,fun q=>(hs.2 q).trans (mem_same HL.out a q)⟩,by omega,ownRngs_of rfl (own_mono hown hsz) (hB.trans (hb5.mono hsz))⟩
set_option maxHeartbeats 1000000 in
theorem clo111 (a:List (Int × Int)) (b:Nat) (A:Option Addr) (n c:Nat) (w:World) (hn:n≤90000) (hcan:Can a) (ha:Rds w w.heap.size 2 A n (rngs a)) (hc:w.cell? ⟨b,0,none⟩=some (.slice A n c)) :
  Calls Tryz.prog 37 #[.pointer (some ⟨b,0,none⟩)] w fun e w'=>∃ out,IsSet out (FoldP a)∧out.length≤n+1600∧OwnRngs w out e w':=by
 have HA:=Lib.hid ha.rngs_len
 have HC:=Lib.hid hcan
 clear hcan
 go_enter Tryz.func37,Tryz.ntmps37
 go_wp2_with fail
 refine (rawFold112 a A n c w hn HC.out ha).mono ?_
 rintro e w1 ⟨out,hs,hl,A1,n1,c1,rfl,hown,hb⟩
 go_wp2
 go_ret
 exact ⟨out,hs,hl,A1,n1,c1,rfl,hown,hb⟩
set_option maxRecDepth 100000 in
set_option maxHeartbeats 1000000 in
theorem fold67 (a:List (Int × Int)) (A:Option Addr) (n c:Nat) (w:World) (hnc:n≤c) (hc:c≤maxLen) (ha:Rds w w.heap.size 2 A n (rngs a)) :
  Calls Tryz.prog 19 #[.slice A n c] w (WOut w (FoldP a) (n+1600) (chk a)):=by
 have HA:=Lib.hid ha.rngs_len
 have HX:=Lib.hid (chkL_one a)
 have EG:=Lib.hid (show ∀ args w,(callFunc 37 args).run Tryz.prog w=.ok (.enter 37 args) w from enters_of Tryz.func37 (by kernel_rfl) rfl)
 go_enter Tryz.func19,Tryz.ntmps19
 go_wp2_with fail
 have hb0:Below w.heap.size w ((w.alloc (.cells #[.slice A n c] 23)).alloc (.cells #[.slice A n c] 23)):=by go_grown
 have hz:((w.alloc (.cells #[.slice A n c] 23)).alloc (.cells #[.slice A n c] 23)).heap.size=w.heap.size+1+1:=by simp
 have hbx:((w.alloc (.cells #[.slice A n c] 23)).alloc (.cells #[.slice A n c] 23)).cell? ⟨w.heap.size,0,none⟩=some (.slice A n c):=by
  rw [World.cell?_alloc_lt _ _ _ (by simp)];simp
 have hrow:=(Rds.new (w.alloc (.cells #[.slice A n c] 23)) 1 1 #[.slice A n c] 23 [.slice A n c] rfl rfl)
 rw [show (w.alloc (.cells #[.slice A n c] 23)).heap.size=w.heap.size+1 by simp] at hrow
 refine (with76 [a] [.slice A n c] (chk a) HX.out _ 1 1 _ (by decide) (hrow.more (by omega)) ((sls_one hnc hc ha).below hb0 (Nat.le_refl _) |>.more (by omega))
  37 #[.pointer (some ⟨w.heap.size,0,none⟩)] (FoldP a) (n+1600) EG.out ?_).mono ?_
 ·intro h0 w' hw
  have hk:=(chk_ok a).1 h0
  have hnA:=HA.out
  exact clo111 a _ A n c w' (by omega) hk.2 (((ha.below hb0 (Nat.le_refl _)).below hw (by omega)).more (by have:=hw.size;omega)) (by rw [hw.cell (p:=⟨w.heap.size,0,none⟩) (by show w.heap.size < _;omega)];exact hbx)
 ·rintro e w1 ⟨o0,h0,out,A1,n1,c1,rfl,h1,h2,hown,hb⟩
  have HF:=Lib.hid (show WOut w (FoldP a) (n+1600) (chk a) _ w1 from ⟨o0,h0,out,A1,n1,c1,rfl,h1,h2,own_mono hown (by omega),hb0.trans (hb.mono (by omega))⟩)
  clear h0 h1 h2
  generalize (if chk a=0 then if 400 < o0.length then (2:Int) else 0 else chk a)=E at HF ⊢
  go_wp2
  go_ret2
  exact HF.out
theorem foldS (a:List (Int × Int)) (A:Option Addr) (n c:Nat) (w:World) (hnc:n≤c) (hc:c≤maxLen) (ha:Rds w w.heap.size 2 A n (rngs a)) :
  Calls Tryz.prog 19 #[.slice A n c] w (SRes w (FoldP a) (chk a)):=(fold67 a A n c w hnc hc ha).mono fun _ _ h=>sres_of h
/-- folded twice is folded once -/
theorem foldP_twice {a x:List (Int × Int)} (ha:∀ q,mem a q→0≤q∧q≤1114111) (hx:∀ q,mem x q↔FoldP a q) (q:Int):FoldP x q↔FoldP a q:=by
 constructor
 ·rintro (h|⟨p,hp,hm,hq⟩)
  ·exact (hx q).1 h
  ·rcases (hx p).1 hm with h|⟨p2,hp2,hm2,hq2⟩
   ·exact .inr ⟨p,hp,h,hq⟩
   ·obtain ⟨y,hy⟩:=hp2
    have hr:=bes_rng hy
    have:=((orb_facts p2 hr.1 hr.2).2 p hq2).2
    exact .inr ⟨p2,⟨y,hy⟩,hm2,by rw [← this];exact hq⟩
 ·intro h;exact .inl ((hx q).2 h)
end Go.Proofs.YtbiahhojnjchnaaGreat
