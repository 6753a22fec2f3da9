/-
  Patterns of letters, points, stars and marks of lines: parsed alike in every dialect (plain). What is parsed of such a pattern (plain), and Parse of it.
-/
import Derived.Test.YtbiahhojnjchnaaGreatPoA
import Derived.Test.YtbiahhojnjchnaaGreatPoB
import Derived.Test.YtbiahhojnjchnaaGreatPnT
set_option linter.unusedVariables false
set_option linter.unusedSimpArgs false
namespace Go.Proofs.YtbiahhojnjchnaaGreat
open Go.RowKit
def let7L:List Int:=[97,98,99,46,42,94,36]
def Lets (l:List Int):Prop:=∀ x ∈ l,x ∈ let7L
theorem lets_at {l:List Int} (h:Lets l) (p:Int):ptAt l p=97∨ptAt l p=98∨ptAt l p=99∨ptAt l p=46∨ptAt l p=42∨ptAt l p=94∨ptAt l p=36∨ptAt l p=-1:=by
 rcases ptAt_mem l p with h1|h1
 ·have:=h _ h1
  simp [let7L] at this
  omega
 ·omega
def tokL (p at_:Int):TR:=if p=46 then .ok ({ kind:=2 },at_+1) else if p=94 then .ok (lookT 3,at_+1) else if p=36 then .ok (lookT 4,at_+1) else if p=42 then .ok ({ kind:=6,least:=0,most:=-1,way:=1 },at_+1) else .ok (pointT p,at_+1)
theorem tok_lets {d:Int} {l:List Int} (h:Lets l) (at_:Int):tokenP d l at_=tokL (ptAt l at_) at_:=by
 have rep:repeatP d l (at_+1) 0 (-1)=({ kind:=6,least:=0,most:=-1,way:=1 },at_+1):=by
  have h1:=lets_at h (at_+1)
  unfold repeatP
  rw [if_neg (by omega),if_neg (by omega)]
 have h1:=lets_at h at_
 unfold tokenP
 obtain ⟨p,hp⟩:∃ p,p=ptAt l at_:=⟨_,rfl⟩
 rw [← hp] at h1 ⊢
 unfold tokL
 rcases h1 with h|h|h|h|h|h|h|h<;>rw [h]<;>simp [rep]
theorem next_lets {d:Int} {l:List Int} (h:Lets l) (s:PS):nextS d l s=nextS 1 l s:=by
 unfold nextS;rw [tok_lets h,tok_lets h]
theorem kind_lets {d:Int} {l:List Int} (h:Lets l) {s:PS} {t:Tk} {nx:Int} (hn:nextS d l s=.ok (some (t,nx))):(t.kind=1∨t.kind=2∨t.kind=3∨t.kind=6)∧(t.kind=3→t.num=3∨t.num=4)∧(0≤s.at_→t.kind=1→0≤t.num∧t.num≤1114111)∧nx≤l.length:=by
 unfold nextS at hn
 split at hn
 ·cases hn
 ·rename_i hlt
  rw [tok_lets h] at hn
  have h1:=lets_at h s.at_
  have hneg:ptAt l s.at_=-1→¬ (0≤s.at_):=by
   intro e h0
   have h2:ptAt l s.at_ ∈ l:=by
    unfold ptAt;rw [dif_pos ⟨h0,by omega⟩];exact List.getElem_mem _
   rw [e] at h2
   have:=h _ h2
   revert this;decide
  unfold tokL at hn
  rcases h1 with e|e|e|e|e|e|e|e<;>rw [e] at hn<;>simp at hn<;>obtain ⟨rfl,rfl⟩:=hn<;>simp [pointT,lookT]<;>(try exact ⟨fun h0=>absurd h0 (by have:=hneg e;omega),by omega⟩)<;>omega
section
variable {d d':Int} {l:List Int}
theorem branchL_congr (hN:∀ s,nextS d l s=nextS d' l s) (atomS:PS→Tk→Int→FR (Tr × PS)):∀ (m:Nat) (s:PS) (ts:List Tr) (can:Bool) (ti:Int),branchL atomS d l m s ts can ti=branchL atomS d' l m s ts can ti:=by
 intro m
 induction m with
 | zero=>intros;rfl
 | succ m ih=>intro s ts can ti;simp only [branchL,hN,ih]
theorem patternL_congr (hN:∀ s,nextS d l s=nextS d' l s) (atomS:PS→Tk→Int→FR (Tr × PS)) (was:Bool):∀ (m:Nat) (s:PS) (ts:List Tr),patternL atomS d l was m s ts=patternL atomS d' l was m s ts:=by
 intro m
 induction m with
 | zero=>intros;rfl
 | succ m ih=>intro s ts;simp only [patternL,hN,ih,branchS,branchL_congr hN]
theorem patternS_congr (hN:∀ s,nextS d l s=nextS d' l s) (atomS:PS→Tk→Int→FR (Tr × PS)):patternS atomS d l=patternS atomS d' l:=by
 funext s
 simp only [patternS,branchS,branchL_congr hN,patternL_congr hN]
theorem openS_congr (hN:∀ s,nextS d l s=nextS d' l s) (pat:PS→FR (Tr × PS)):openS pat d l=openS pat d' l:=by
 funext s t frm
 simp only [openS,hN]
theorem parK_congr (hN:∀ s,nextS d l s=nextS d' l s) (canL:(Int→Prop)→List (Int × Int)) (FQ:(Int→Prop)→Int→Prop) (oth:PS→Tk→Int→FR (Tr × PS)) (k:Nat):parK canL FQ oth d l k=parK canL FQ oth d' l k:=by
 induction k with
 | zero=>rfl
 | succ k ih=>simp only [parK,ih,patternS_congr hN,openS_congr hN]
end
def othD (s:PS) (t:Tk) (nx:Int):FR (Tr × PS):=if t.kind=2 then .ok (setT anyS,{ s with at_:=nx }) else if t.kind=3 then .ok (.mk t.num [] [] 0 0 0 0 false,{ s with at_:=nx }) else .error (0,0)
theorem oth_lets {d:Int} {l:List Int} (h:Lets l) (b n c:Nat) (A:Option Addr):OthC b n c d A l othD:=by
 refine ⟨fun s V1 V2 t nx w hp hn h1 h6 h7 h8 h9=>?_,fun s t nx p h0 hn h1 h6 h7 h8 h9 hok=>?_,fun s t nx h0 hn hk=>(kind_lets h hn).2.2.1 h0 hk⟩
 ·have hk:=kind_lets h hn
  have hmv:=next_mv hn hp.lo
  have hl:=hp.len
  have hlo:=hp.lo
  unfold othD
  by_cases h2:t.kind=2
  ·rw [if_pos h2];exact atom_any h2 ⟨by omega,by omega⟩ hp
  ·have h3:t.kind=3:=by have:=hk.1;omega
   rw [if_neg h2,if_pos h3];exact atom_look h3 ⟨by omega,by omega⟩ hp
 ·have hmv:=next_mv hn h0
  unfold othD at hok
  split at hok
  ·cases hok;exact ⟨rfl,rfl,rfl,Int.le_refl _,by simp only [setT,sizeT_eq,Tr.kids,sizeL];omega⟩
  ·split at hok
   ·cases hok;exact ⟨rfl,rfl,rfl,Int.le_refl _,by simp only [sizeT_eq,Tr.kids,sizeL];omega⟩
   ·cases hok
end Go.Proofs.YtbiahhojnjchnaaGreat
namespace Go.Proofs.YtbiahhojnjchnaaGreat
open Go.RowKit
theorem agTs_append (a b:List Tr):agTs (a ++ b)=(agTs a || agTs b):=by
 induction a with
 | nil=>simp [agTs]
 | cons x a ih=>simp [agTs,ih,Bool.or_assoc]
theorem agTs_all {ts:List Tr}:agTs ts=false↔∀ t ∈ ts,agT t=false:=by
 induction ts with
 | nil=>simp [agTs]
 | cons x a ih=>simp [agTs,ih]
theorem agT_kids {t:Tr} (h:agT t=false):agTs t.kids=false:=by rw [agT_eq] at h;simp at h;exact h.2
theorem agTs_flat {f:Tr→List Tr} (hf:∀ t,agT t=false→agTs (f t)=false) {ts:List Tr} (h:agTs ts=false):agTs (ts.flatMap f)=false:=by
 rw [agTs_all] at h ⊢
 intro t ht
 obtain ⟨u,hu,ht⟩:=List.mem_flatMap.1 ht
 exact agTs_all.1 (hf u (h u hu)) t ht
theorem agT_row {ts:List Tr} (h:agTs ts=false):agT (rowT ts)=false:=by
 have h1:agTs (ts.flatMap flatRow)=false:=agTs_flat (fun t ht=>by
  unfold flatRow
  split
  ·rfl
  ·split
   ·exact agT_kids ht
   ·simp [agTs,ht]) h
 unfold rowT rowOf
 match ts.flatMap flatRow,h1 with
 | [],_=>rfl
 | [t],h1=>simpa [agTs] using h1
 | a :: b :: us,h1=>rw [agT_eq];simp only [Tr.kind,Tr.kids];rw [h1];rfl
theorem agT_ei {ts:List Tr} (h:agTs ts=false):agT (eiT ts)=false:=by
 have h1:agTs (ts.flatMap flatEi)=false:=agTs_flat (fun t ht=>by
  unfold flatEi
  split
  ·exact agT_kids ht
  ·simp [agTs,ht]) h
 unfold eiT
 match ts,h,h1 with
 | [],_,_=>rfl
 | [t],h,_=>simpa [agTs] using h
 | a :: b :: us,_,h1=>simp only;rw [agT_eq];simp only [Tr.kind,Tr.kids];rw [h1];rfl
theorem agTs_rep {ts:List Tr} {t:Tk} (h:agTs ts=false):agTs (repL ts t)=false:=by
 unfold repL
 cases hl:ts.getLast? with
 | none=>exact h
 | some x =>
  have hx:x ∈ ts:=List.mem_of_getLast? hl
  simp only
  rw [agTs_append]
  have h1:agTs ts.dropLast=false:=agTs_all.2 fun u hu=>agTs_all.1 h u (List.dropLast_subset _ hu)
  have h2:agT x=false:=agTs_all.1 h x hx
  rw [h1]
  simp only [agTs,repT,agT,Bool.or_false,Bool.false_or,h2]
  rfl
/-- a parser that met no group -/
structure P0 (l:List Int) (s:PS):Prop where
 ag:s.ags=[]
 nm:s.names=[]
 gr:s.groups=0
 lo:0≤s.at_
 hi:s.at_≤l.length
section
variable {d:Int} {l:List Int} {canL:(Int→Prop)→List (Int × Int)} {FQ:(Int→Prop)→Int→Prop}
theorem atom_inv (h:Lets l) {k:Nat} {s:PS} {t:Tk} {nx:Int} {p:Tr × PS} (hs:P0 l s) (hn:nextS d l s=.ok (some (t,nx))) (h6:t.kind≠6) (ha:parK canL FQ othD d l k s t nx=.ok p):P0 l p.2∧agT p.1=false:=by
 have hk:=kind_lets h hn
 have hmv:=next_mv hn hs.lo
 have hat:∀ opn:PS→Tk→Int→FR (Tr × PS),atomS canL FQ opn othD s t nx=.ok p→P0 l p.2∧agT p.1=false:=by
  intro opn ha
  unfold atomS at ha
  split at ha
  ·cases ha;exact ⟨⟨hs.ag,hs.nm,hs.gr,by simp only;have:=hs.lo;omega,by simp only;omega⟩,rfl⟩
  ·rename_i h1
   rw [if_neg (by have:=hk.1;omega)] at ha
   unfold othD at ha
   split at ha
   ·cases ha;exact ⟨⟨hs.ag,hs.nm,hs.gr,by simp only;have:=hs.lo;omega,by simp only;omega⟩,rfl⟩
   ·split at ha
    ·rename_i h3
     cases ha
     refine ⟨⟨hs.ag,hs.nm,hs.gr,by simp only;have:=hs.lo;omega,by simp only;omega⟩,?_⟩
     rw [agT_eq]
     simp only [Tr.kind,Tr.kids,agTs,Bool.or_false]
     rw [beq_eq_false_iff_ne]
     have:=hk.2.1 h3
     omega
    ·cases ha
 cases k with
 | zero=>exact hat _ ha
 | succ k=>exact hat _ ha
theorem branch_inv (h:Lets l) {k:Nat}:∀ (m:Nat) (s:PS) (ts:List Tr) (can:Bool) (ti:Int) (p:Tr × PS),P0 l s→agTs ts=false→branchL (parK canL FQ othD d l k) d l m s ts can ti=.ok p→P0 l p.2∧agT p.1=false∧nextS d l p.2=.ok none:=by
 intro m
 induction m with
 | zero=>intro s ts can ti p _ _ e;cases e
 | succ m ih =>
  intro s ts can ti p hs ht e
  rw [branchL] at e
  cases hn:nextS d l s with
  | error q=>rw [hn] at e;cases e
  | ok o =>
   rw [hn] at e
   cases o with
   | none=>cases e;exact ⟨hs,agT_row ht,hn⟩
   | some q =>
    obtain ⟨t,nx⟩:=q
    have hk:=kind_lets h hn
    have hmv:=next_mv hn hs.lo
    simp only at e
    rw [if_neg (by have:=hk.1;omega)] at e
    split at e
    ·split at e
     ·cases e
     ·split at e
      ·cases e
      ·exact ih _ _ _ _ p (P0.mk hs.ag hs.nm hs.gr (by simp only;have:=hs.lo;omega) (by simp only;omega):P0 l { s with at_:=nx }) (agTs_rep ht) e
    ·rename_i h6
     cases ha:parK canL FQ othD d l k s t nx with
     | error q=>rw [ha] at e;cases e
     | ok q =>
      rw [ha] at e
      obtain ⟨a1,a2⟩:=atom_inv h hs hn h6 ha
      exact ih _ _ _ _ p a1 (by rw [agTs_append,ht];simp [agTs,a2]) e
theorem next_fold (s:PS) (f:Bool):nextS d l { s with fold:=f }=nextS d l s:=rfl
theorem pattern_inv (h:Lets l) {k:Nat} {s:PS} {p:Tr × PS} (hs:P0 l s) (e:patternS (parK canL FQ othD d l k) d l s=.ok p):P0 l p.2∧agT p.1=false∧nextS d l p.2=.ok none:=by
 unfold patternS at e
 cases hb:branchS (parK canL FQ othD d l k) d l s with
 | error q=>rw [hb] at e;cases e
 | ok q =>
  rw [hb] at e
  obtain ⟨a1,a2,a3⟩:=branch_inv h _ _ _ _ _ q hs rfl hb
  simp only [patternL] at e
  rw [a3] at e
  simp only at e
  cases e
  exact ⟨⟨a1.ag,a1.nm,a1.gr,a1.lo,a1.hi⟩,agT_ei (ts:=[q.1]) (by simp [agTs,a2]),a3⟩
end
theorem P0.start (l:List Int) (fo:Bool):P0 l (ps0 fo):=⟨rfl,rfl,rfl,Int.le_refl _,(by show (0:Int)≤(l.length:Int);omega)⟩
theorem lets_ok {l:List Int} (h:Lets l) {x:Int} (hx:x ∈ l):0≤x∧x≤1114111:=by
 have:=h x hx
 simp [let7L] at this
 omega
theorem right_lets {d:Int} {l:List Int} (h:Lets l) (hd:1≤d∧d≤3) (hl:l.length≤300):rightE d l=0:=by
 unfold rightE
 rw [if_neg (by omega),if_neg (by omega),if_pos]
 rw [List.all_eq_true]
 intro x hx
 have:=lets_ok h hx
 simp [okPt]
 omega
theorem tokC_lets {d:Int} {l:List Int} (h:Lets l):TokC d l:=tokC_plain fun p=>by have:=lets_at h p;omega
theorem zero_at (w:World):NodeAt w w.heap.size (.mk 0 [] [] 0 0 0 0 false) ⟨0,none,0,0,none,0,0,0,0,0,0,false⟩ :=
 NodeOf.node (ds:=[]) ⟨rfl,rfl,rfl,rfl,rfl,rfl,nil_rds _ _ _,Nat.le_refl _,Nat.zero_le _,nil_rds _ _ _,Nat.le_refl _,Nat.zero_le _,KidsAt.nil⟩
def zeroT:Tr:=.mk 0 [] [] 0 0 0 0 false
/-- what Parse hands back, told by what is parsed -/
def trR:FR (Tr × PS)→Tr
 | .ok p=>p.1
 | .error _=>zeroT
def erR:FR (Tr × PS)→Int × Int
 | .ok _=>(0,0)
 | .error q=>q
def ParsedAs (R:FR (Tr × PS)) (w:World) (e:Ending) (w':World):Prop:=∃ (dd:ND) (A2:Option Addr) (c2:Nat),e=.returned (.tuple #[.agg #[.int .i64 dd.kind,.slice dd.sA dd.sn dd.sc,.slice dd.kA dd.kn dd.kc,.int .i64 dd.num,.int .i64 dd.least,.int .i64 dd.most,.int .i64 dd.way,.bool dd.fold,.int .i64 0,.slice A2 0 c2],.agg #[.int .i64 (erR R).1,.int .i64 (erR R).2]]) ∧
 Hid (NodeAt w' w'.heap.size (trR R) dd)∧Below w.heap.size w w'
theorem parse22_lets {d:Int} {l:List Int} {fo:Bool} {A:Option Addr} {n c:Nat} {w:World} {canL:(Int→Prop)→List (Int × Int)} {FQ:(Int→Prop)→Int→Prop} (h:Lets l) (hd:1≤d∧d≤3)
  (HC:Hid (∀ f out,IsSet out f→canL f=out)) (HF:Hid (FoldC FQ)) (hn:n≤100) (hnc:n≤c) (hcm:c≤maxLen) (ha:Rds w w.heap.size 1 A n (ints l)) :
  Calls Tryz.prog 22 #[.int .i64 d,.slice A n c,.bool fo] w (ParsedAs (patternS (parK canL FQ othD 1 l 20) 1 l (ps0 fo)) w):=by
 have hlen:l.length=n:=ha.ints_len
 obtain ⟨R,hR⟩:∃ R,R=patternS (parK canL FQ othD 1 l 20) 1 l (ps0 fo):=⟨_,rfl⟩
 have hRd:patternS (parK canL FQ othD d l 20) d l (ps0 fo)=R:=by
  rw [hR,parK_congr (next_lets h) canL FQ othD 20,patternS_congr (next_lets h)]
 rw [← hR]
 cases R with
 | error q =>
  refine (parse22_bad (Lib.hid (tokC_lets h)) (fun b=>oth_lets h b n c A) HC HF (by omega) hnc hcm ha (right_lets h hd (by omega)) hRd).mono fun e w' he=>?_
  obtain ⟨rfl,hb⟩:=he
  exact ⟨⟨0,none,0,0,none,0,0,0,0,0,0,false⟩,none,0,rfl,Lib.hid (zero_at w'),hb⟩
 | ok p =>
  obtain ⟨tr,s1⟩:=p
  obtain ⟨k1,k2,k3⟩:=pattern_inv h (P0.start l fo) hRd
  have hsz:=(pattern_ok (parK_go (oth_lets (d:=d) h 0 0 0 none) 20) (s:=ps0 fo) ⟨by simp [ps0],by simp [ps0],by simp [ps0]⟩ (by simp [ps0]) hRd).2.2
  have hhi:=k1.hi
  have hat:(n:Int)≤s1.at_:=by
   unfold nextS at k3
   split at k3
   ·simp only at *;omega
   ·exfalso;revert k3;cases tokenP d l _<;>simp
  refine (parse22_ok (Lib.hid (tokC_lets h)) (fun b=>oth_lets h b n c A) HC HF (by omega) hnc hcm ha (right_lets h hd (by omega)) hRd hat k1.ag k2 (by simp [ps0] at hsz;simp only at hhi;omega)).mono fun e w' he=>?_
  obtain ⟨dd,A2,c2,he,hnd,_,hb⟩:=he
  rw [k1.gr,k1.nm] at he
  exact ⟨dd,A2,c2,he,hnd,hb⟩
end Go.Proofs.YtbiahhojnjchnaaGreat
