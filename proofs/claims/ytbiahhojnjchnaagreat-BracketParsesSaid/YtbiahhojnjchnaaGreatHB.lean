/-
  A bracket expression in general, at any depth: its contracts joined. A bracket expression at any depth: by induction. Parse in one form; bracketBegun: walked.
-/
import Derived.Test.YtbiahhojnjchnaaGreatBgO
import Derived.Test.YtbiahhojnjchnaaGreatGX
import Derived.Test.YtbiahhojnjchnaaGreatBgQ
import Derived.Test.YtbiahhojnjchnaaGreatBgPart
import Derived.Test.YtbiahhojnjchnaaGreatGZ
import Derived.Test.YtbiahhojnjchnaaGreatGS
import Derived.Test.YtbiahhojnjchnaaGreatGT
import Derived.Test.YtbiahhojnjchnaaGreatHE
import Derived.Test.YtbiahhojnjchnaaGreatGC
import Derived.Test.YtbiahhojnjchnaaGreatHA
set_option linter.unusedVariables false
set_option linter.unusedSimpArgs false
namespace Go.Proofs.YtbiahhojnjchnaaGreat
open Go.RowKit
/-! classes -/
set_option maxRecDepth 100000 in
set_option maxHeartbeats 2000000 in
theorem class131o (s:ByteArray) (l:List (Int × Int)) (h:cls s.toList=some l):ClassC s l:=fun w=>by
 have C:=Lib.hid (class_some s l w h)
 clear h
 go_enter Tryz.func131,Tryz.ntmps131
 go_wp2_with fail
 refine C.out.mono ?_
 rintro e w1 ⟨out,A,n,c,rfl,hs,hl,hown,hb⟩
 have S:=Lib.hid hs
 have L:=Lib.hid hl
 have O:=Lib.hid hown
 clear hown hs hl
 go_wp2
 go_ret2
 exact ⟨out,A,n,c,rfl,S,L,O,hb⟩
theorem class131n (s:ByteArray) (h:cls s.toList=none):ClassN s:=fun w=>class56_none s w h
theorem arr_list (nm:List UInt8):(⟨nm.toArray⟩:ByteArray).toList=nm:=by rw [ByteArray.toList_eq]
/-! a token behind a backslash, in DialectRuby -/
def Gd (r:TR):Prop:=∀ t n,r=.ok (t,n)→(t.kind=1→0≤t.num∧t.num≤1114111)∧(t.kind=4→(cls t.text).isSome=true)
theorem gd_ite {c:Prop} [Decidable c] {x y:TR} (h1:c→Gd x) (h2:¬ c→Gd y):Gd (if c then x else y):=by
 split
 ·rename_i h;exact h1 h
 ·rename_i h;exact h2 h
theorem gd_bad {e:Int}:Gd (.error e):=fun t n h=>by cases h
theorem gd_ok {t:Tk} {n:Int} (h1:t.kind=1→0≤t.num∧t.num≤1114111) (h4:t.kind=4→(cls t.text).isSome=true):Gd (.ok (t,n)):=fun t' n' h=>by cases h;exact ⟨h1,h4⟩
theorem gd_other {t:Tk} {n:Int} (h1:t.kind≠1) (h4:t.kind≠4):Gd (.ok (t,n)):=gd_ok (fun h=>absurd h h1) fun h=>absurd h h4
theorem gd_pt {p n:Int} (h0:0≤p) (h1:p≤1114111):Gd (.ok (pointT p,n)):=gd_ok (fun _=>⟨h0,h1⟩) fun h=>by cases h
theorem gd_scalarEnd {l:List Int} (n:Int) (h:∀ p ∈ l,isHexP p=true) (hl:l.length≤6):Gd (scalarEnd l n) :=
 gd_ite (fun _=>gd_bad) fun _=>gd_ite (fun _=>gd_bad) fun h2=>gd_pt (hexN_lt l h hl).1 (by omega)
theorem runPts_short {f:Int→Bool} (l:List Int) (p:Int) (m:Nat):(runPts l p (runLen f l p m)).length≤m:=by rw [runPts_length];exact runLen_le f l m p
theorem gd_scalar (l:List Int) (p q:Int):Gd (scalarP l p q) :=
 gd_ite (fun _=>gd_ite (fun _=>gd_bad) fun _=>gd_scalarEnd _ (runPts_all _ _ _ _) (Nat.le_trans (runPts_short _ _ _) (by decide))) fun _ =>
  gd_ite (fun _=>gd_ite (fun _=>gd_bad) fun _=>gd_scalarEnd _ (runPts_all _ _ _ _) (runPts_short _ _ _)) fun _=>gd_scalarEnd _ (runPts_all _ _ _ _) (Nat.le_trans (runPts_short _ _ _) (by decide))
theorem gd_num (b:Bool) (l:List Int) (p:Int):Gd (numP b l p):=gd_ite (fun _=>gd_bad) fun _=>gd_ite (fun _=>gd_bad) fun _=>gd_ite (fun _=>gd_bad) fun _=>gd_other (by simp) (by simp)
theorem gd_named (l:List Int) (p:Int):Gd (namedP l p):=gd_ite (fun _=>gd_bad) fun _=>gd_ite (fun _=>gd_ite (fun _=>gd_num _ _ _) fun _=>gd_num _ _ _) fun _=>gd_ite (fun _=>gd_other (by simp) (by simp)) fun _=>gd_bad
theorem ctrl_rng {p c:Int} (h:ctrlT p=some c):0≤c∧c≤1114111:=by
 unfold ctrlT at h
 iterate 7 (split at h;(injection h with h;omega))
 cases h
theorem classT_known {p:Int} {t:Tk} (h:classT p=some t):t.kind=4∧(cls t.text).isSome=true:=by
 unfold classT at h
 iterate 8 (split at h;(injection h with h;subst h;exact ⟨rfl,by decide⟩))
 cases h
theorem gd_escaped {l:List Int} (p:Int) (hl:ptAt l p≤1114111):Gd (escapedP 1 l p):=by
 unfold escapedP
 refine gd_ite (fun _=>gd_bad) fun h0=>?_
 rw [if_neg (by decide),if_neg (by decide)]
 split
 ·rename_i t ht
  have:=classT_known ht
  exact gd_ok (fun h=>by rw [this.1] at h;cases h) fun _=>this.2
 ·refine gd_ite (fun _=>gd_other (by decide) (by decide)) fun _=>gd_ite (fun _=>gd_other (by decide) (by decide)) fun _=>gd_ite (fun _=>gd_other (by decide) (by decide)) fun _=>gd_ite (fun _=>gd_other (by decide) (by decide)) fun _=>?_
  split
  ·rename_i c hc
   have:=ctrl_rng hc
   exact gd_pt this.1 this.2
  ·exact gd_ite (fun _=>gd_scalar _ _ _) fun _=>gd_ite (fun _=>gd_named _ _) fun _=>gd_ite (fun _=>gd_other (by simp) (by simp)) fun _=>gd_ite (fun _=>gd_bad) fun _=>gd_pt (by omega) hl
/-! an item -/
/-- what token.Raw tells of a backslash, in DialectRuby -/
def TokC (l:List Int):Prop:=∀ (at_:Int) (A:Option Addr) (n c:Nat) (w:World),ptAt l at_=92→0≤at_→at_ < n→n≤1000→n≤c→Rds w w.heap.size 1 A n (ints l) →
 Calls Tryz.prog 113 #[.int .i64 1,.slice A n c,.int .i64 at_] w fun e w'=>ROutT (tokenP 1 l at_) e∧Below w.heap.size w w'
section
variable {b n c:Nat} {d dp:Int} {fo:Bool} {A:Option Addr} {l:List Int}
theorem cls_contract (nm:List UInt8):Hid (match cls nm with|none=>ClassN ⟨nm.toArray⟩|some L=>ClassC ⟨nm.toArray⟩ L):=by
 cases h:cls nm with
 | none=>exact Lib.hid (class131n _ (by rw [arr_list];exact h))
 | some L=>exact Lib.hid (class131o _ L (by rw [arr_list];exact h))
theorem item_named (HN:Hid RawNotC) {p:Int} {w:World} {Wf:Int→BR SP} (h:BSt b n c d fo dp A l p w) (hb:saysB l p [91,58]=true) :
  Calls Tryz.prog 143 #[.pointer (some ⟨b,0,none⟩)] w (IOut b n c d fo dp A l 480000 (itemP d l Wf p) w):=by
 obtain ⟨nt,hnt⟩:∃ x,x=(decide (d=1) && saysB l (p+2) [94]):=⟨_,rfl⟩
 obtain ⟨a,ha⟩:∃ x,x=if nt=true then p+3 else p+2:=⟨_,rfl⟩
 obtain ⟨K,hK⟩:∃ x,x=runLen isLow l a ((l.length:Int) - a).toNat:=⟨_,rfl⟩
 obtain ⟨nm,hnm⟩:∃ x,x=bytesP (runPts l a K):=⟨_,rfl⟩
 have hB:bNamedP d l p=if K=0∨saysB l (a+K) [58,93]=false then some (.error (1,a+K)) else match cls nm with
   | none=>some (.error (5,p))
   | some L=>some (.ok ⟨clsF L nt,-1,a+K+2⟩):=by
  unfold bNamedP
  rw [if_pos hb]
  subst hnm hK ha hnt
  rfl
 have C:=fun W (hW:BSt b n c d fo dp A l p W)=>named_any (C:=cls nm) HN hW hb hnt.symm ha hK hnm (cls_contract nm)
 unfold itemP
 by_cases hbad:K=0∨saysB l (a+K) [58,93]=false
 ·rw [hB,if_pos hbad]
  exact one_named_bad (q:=(1,a+K)) h fun W hW=>(C W hW).mono fun e w' ⟨hk,hx⟩=>⟨hk,by rw [if_pos hbad] at hx;exact hx⟩
 ·rw [hB,if_neg hbad]
  cases hc:cls nm with
  | none=>exact one_named_bad (q:=(5,p)) h fun W hW=>(C W hW).mono fun e w' ⟨hk,hx⟩=>⟨hk,by rw [if_neg hbad,hc] at hx;exact hx⟩
  | some L=>exact one_named_ok h (by decide) fun W hW=>(C W hW).mono fun e w' ⟨hk,hx⟩=>⟨hk,by rw [if_neg hbad,hc] at hx;exact hx⟩
theorem item_esc (HN:Hid RawNotC) (HT:TokC l) (hl:∀ q:Int,ptAt l q≤1114111) {p:Int} {w:World} {Wf:Int→BR SP} (h:BSt b n c 1 fo dp A l p w) (hp:ptAt l p=92) :
  Calls Tryz.prog 143 #[.pointer (some ⟨b,0,none⟩)] w (IOut b n c 1 fo dp A l 480000 (itemP 1 l Wf p) w):=by
 have hlen:=h.len
 have hin:=pt_hi hlen (show 0≤ptAt l p by omega)
 have hB:bNamedP 1 l p=none:=by unfold bNamedP;rw [if_neg (by simp [saysB,hp])]
 have hI:itemP 1 l Wf p=escP 1 l p:=by
  unfold itemP
  rw [hB]
  show (if (l.length:Int)≤p then _ else _)=_
  rw [if_neg (by omega),if_neg (fun x=>by rw [hp] at x;exact absurd x.2 (by decide)),if_pos ⟨rfl,hp⟩]
 have hsm:=h.small
 have CT:∀ W,Rds W W.heap.size 1 A n (ints l)→Calls Tryz.prog 113 #[.int .i64 1,.slice A n c,.int .i64 p] W fun e w'=>ROutT (tokenP 1 l p) e∧Below W.heap.size W w':=fun W hW=>HT p A n c W hp h.lo (by omega) (by omega) h.cap hW
 have hmv:=token_mv 1 l p (by omega)
 have her:=token_er 1 l p
 have hgd:Gd (tokenP 1 l p):=by
  have e:tokenP 1 l p=escapedP 1 l (p+1):=by simp [tokenP,hp]
  rw [e];exact gd_escaped _ (hl _)
 rw [hI]
 unfold escP
 cases ht:tokenP 1 l p with
 | error x =>
  rw [ht] at CT
  exact one_tok_bad h hp (by omega) (her x ht) fun W hW=>(CT W hW).mono fun e w' he=>he
 | ok q =>
  obtain ⟨t,nx⟩:=q
  rw [ht] at CT
  have h1:=hmv t nx ht
  have h2:=hgd t nx ht
  obtain ⟨kd,num,tx,nt,le,mo,wy,fd⟩:=t
  simp only at h2 ⊢
  by_cases hk1:kd=1
  ·subst hk1
   rw [if_pos rfl]
   exact one_tok_point h hp (by omega) (by omega) (by omega) (by decide) (h2.1 rfl).1 (h2.1 rfl).2 fun W hW=>(CT W hW).mono fun e w' he=>he
  ·rw [if_neg hk1]
   by_cases hk4:kd=4
   ·subst hk4
    rw [if_pos rfl]
    obtain ⟨L,hL⟩:=Option.isSome_iff_exists.1 (h2.2 rfl)
    rw [hL]
    exact one_tok_class h hp (by omega) (by omega) (by omega) (by decide) (fun W=>classed187 HN (Lib.hid (class131o _ L (by rw [arr_list];exact hL))) nt W) fun W hW=>(CT W hW).mono fun e w' he=>he
   ·rw [if_neg hk4]
    exact one_tok_else h hp (by omega) hk1 hk4 fun W hW=>(CT W hW).mono fun e w' he=>he
theorem item_any (HN:Hid RawNotC) (HT:d=1→TokC l) (hl:∀ x ∈ l,0≤x∧x≤1114111) {p:Int} {w:World} {Wf:Int→BR SP} (h:BSt b n c d fo dp A l p w)
  (hW:d=1→∀ W,BSt b n c d fo dp A l p W→ptAt l p=91→Calls Tryz.prog 185 #[.pointer (some ⟨b,0,none⟩)] W (BOut b n c d fo dp A l 480000 (Wf p) W)) :
  Calls Tryz.prog 143 #[.pointer (some ⟨b,0,none⟩)] w (IOut b n c d fo dp A l 480000 (itemP d l Wf p) w):=by
 have hlen:=h.len
 have hq:∀ q:Int,ptAt l q≤1114111:=fun q=>by
  unfold ptAt
  split
  ·exact (hl _ (List.getElem_mem _)).2
  ·omega
 cases hb:saysB l p [91,58] with
 | true=>exact item_named HN h hb
 | false =>
  have hB:bNamedP d l p=none:=by unfold bNamedP;rw [if_neg (by rw [hb];decide)]
  by_cases hend:(l.length:Int)≤p
  ·have hI:itemP d l Wf p=.error (1,p):=by unfold itemP;rw [hB];simp only;rw [if_pos hend]
   rw [hI]
   exact one_end h (by rw [← hlen];exact hend)
  ·by_cases h91:d=1∧ptAt l p=91
   ·obtain ⟨rfl,hp⟩:=h91
    have hI:itemP 1 l Wf p=match Wf p with|.error e=>.error e|.ok r=>.ok ⟨r.1,-1,r.2⟩:=by unfold itemP;rw [hB];show (if (l.length:Int)≤p then _ else _)=_;rw [if_neg hend,if_pos ⟨rfl,hp⟩];rfl
    rw [hI]
    cases hr:Wf p with
    | error q=>exact one_within_bad h hp hb (by omega) fun W hS=>by have:=hW rfl W hS hp;rw [hr] at this;exact this
    | ok r=>exact one_within_ok h hp hb (by omega) fun W hS=>by have:=hW rfl W hS hp;rw [hr] at this;exact this
   ·by_cases h92:d=1∧ptAt l p=92
    ·obtain ⟨rfl,hp⟩:=h92
     exact item_esc HN (HT rfl) hq h hp
    ·have hI:itemP d l Wf p=.ok ⟨fun q=>q=ptAt l p,ptAt l p,p+1⟩:=by unfold itemP;rw [hB];simp only;rw [if_neg hend,if_neg h91,if_neg h92]
     rw [hI]
     have hlo:=h.lo
     have hpp:0≤ptAt l p:=by
      unfold ptAt
      rw [dif_pos ⟨hlo,by omega⟩]
      exact (hl _ (List.getElem_mem _)).1
     refine (one_plain h (ptAt l p) rfl hpp hb (fun e k=>h91 ⟨e,k⟩) (fun e k=>h92 ⟨e,k⟩)).mono ?_
     rintro e w' ⟨g,rfl,hg,hge,hS,hk⟩
     exact ⟨hk,[(ptAt l p,ptAt l p)],_,1,1,one_set hpp (hq p),Nat.le_of_ble_eq_true rfl,rfl,one_rds hg,hS⟩
end
end Go.Proofs.YtbiahhojnjchnaaGreat
namespace Go.Proofs.YtbiahhojnjchnaaGreat
open Go.RowKit
theorem tokC_of {l:List Int} (hl:∀ q:Int,ptAt l q≤1114111):TokC l:=fun at_ A n c w hp h0 h1 hn hc hr =>
 raw15 1 at_ l (fun b n c A w hat h=>token27e rfl hp hl hat h) A n c w h0 h1 hn hc hr
theorem pts_hi {l:List Int} (hl:∀ x ∈ l,0≤x∧x≤1114111) (q:Int):ptAt l q≤1114111:=by
 unfold ptAt
 split
 ·exact (hl _ (List.getElem_mem _)).2
 ·omega
theorem foldC_true:FoldC (foldQ true):=fun a A n c w hn hcan ha=>(rawFold112 a A n c w hn hcan ha).mono fun e w' ⟨out,hs,_,ho⟩=>⟨out,by
 have e:foldQ true (mem a)=FoldP a:=by funext q;simp [foldQ,FoldP]
 rw [e];exact hs,ho⟩
theorem fold_false (f:Int→Prop):foldQ false f=f:=by funext q;simp [foldQ]
theorem rawMeetC:RawMeetC:=fun a b A B n c m d w hn hca hcb ha hb=>(rawMeet82 a b A B n c m d w hn hca hcb ha hb).mono fun e w' ⟨out,hs,_,ho⟩=>⟨out,hs,ho⟩
theorem rawNotC:RawNotC:=fun a A n c w hn hcan ha=>rawNot78 a A n c w hn hcan ha
theorem more_eq (d:Int) (l:List Int) (fo:Bool) (S:Int→BR SP) (m:Nat):∀ (f:Int→Prop) (p:Int),moreG d l (foldQ fo) S m f p=moreP d l fo S m f p:=by
 induction m with
 | zero=>intro f p;rfl
 | succ m ih =>
  intro f p
  unfold moreG moreP
  split
  ·cases partP d l S false (((l.length:Int) - (p+2)).toNat+1) 0 (fun _=>False) (p+2) with
   | error e=>rfl
   | ok r=>exact ih _ _
  ·rfl
theorem all_eq (d:Int) (l:List Int) (fo:Bool) (S:Int→BR SP) (a:Int):allG d l (foldQ fo) S a=tailP d l fo S a:=by
 unfold allG tailP
 cases partP d l S true (((l.length:Int) - a).toNat+1) 0 (fun _=>False) a with
 | error e=>rfl
 | ok r=>exact more_eq _ _ _ _ _ _ _
theorem whole_eq (d:Int) (l:List Int) (fo:Bool) (S:Int→BR SP) (p:Int):turnG (saysB l p [94]) (allG d l (foldQ fo) S (if saysB l p [94]=true then p+1 else p))=wholeP d l fo S p:=by
 rw [whole_tail,all_eq]
 cases tailP d l fo S (if saysB l p [94]=true then p+1 else p)<;>rfl
theorem named_pt {d:Int} {l:List Int} {p:Int} {r:Itm} (h:bNamedP d l p=some (.ok r)):r.pt=-1:=by
 unfold bNamedP at h
 split at h
 ·simp only at h
  generalize (if (decide (d=1) && saysB l (p+2) [94])=true then p+3 else p+2)=q at h
  split at h
  ·cases h
  ·split at h
   ·cases h
   ·cases h;rfl
 ·cases h
theorem item_pt {d:Int} {l:List Int} (hl:∀ q:Int,ptAt l q≤1114111) {Wf:Int→BR SP} {p:Int} {i:Itm} (h:itemP d l Wf p=.ok i):i.pt≤1114111:=by
 unfold itemP at h
 split at h
 ·rename_i r hr
  rw [h] at hr
  rw [named_pt hr]
  omega
 ·split at h
  ·cases h
  ·split at h
   ·split at h
    ·cases h
    ·cases h;show (-1:Int)≤1114111;omega
   ·split at h
    ·rename_i h1
     unfold escP at h
     split at h
     ·cases h
     ·rename_i t nx ht
      split at h
      ·rename_i hk
       cases h
       obtain ⟨rfl,hp⟩:=h1
       have e:tokenP 1 l p=escapedP 1 l (p+1):=by simp [tokenP,hp]
       rw [e] at ht
       exact ((gd_escaped _ (hl _)) t nx ht).1 hk |>.2
      ·split at h
       ·cases h;show (-1:Int)≤1114111;omega
       ·cases h
    ·cases h;exact hl _
section
variable {b n c:Nat} {d:Int} {fo:Bool} {A:Option Addr} {l:List Int}
def AtAll (b n c:Nat) (d:Int) (fo:Bool) (dp:Int) (A:Option Addr) (l:List Int) (k:Nat):Prop:=∀ p w,BSt b n c d fo dp A l p w→Calls Tryz.prog 58 #[.pointer (some ⟨b,0,none⟩)] w (BOut b n c d fo dp A l 480000 (wholeP d l fo (spanP d l (itemP d l (inP d l fo k))) p) w)
theorem parts_of (hl:∀ x ∈ l,0≤x∧x≤1114111) {dp:Int} {k:Nat} (hlen:l.length=n) (hsm:n≤300)
  (hW:d=1→∀ p W,BSt b n c d fo dp A l p W→ptAt l p=91→Calls Tryz.prog 185 #[.pointer (some ⟨b,0,none⟩)] W (BOut b n c d fo dp A l 480000 (inP d l fo k p) W)) :
  PartsC b n c d fo dp A l (foldQ fo) (spanP d l (itemP d l (inP d l fo k))) (fun f p=>Ch 13001 f (2 * p)):=by
 have hq:=pts_hi hl
 have hAW:=in_ahd d l fo k
 have hAI:AhdI (itemP d l (inP d l fo k)):=fun p r h0 h=>ahd_item hAW h0 h
 have hAS:=ahd_span (d:=d) (l:=l) hAI
 have c0:∀ p r,0≤p→spanP d l (itemP d l (inP d l fo k)) p=.ok r→Ch 0 r.1 (1600 * (r.2 - p)):=fun p r h0 h=>ch_span (wts0 fo) hAI (fun p r h0 h=>ch_item (wts0 fo) hAW (ch_in (wts0 fo) k) h0 h) h0 h
 have c1:∀ p r,0≤p→spanP d l (itemP d l (inP d l fo k)) p=.ok r→Ch 13001 r.1 (2 * (r.2 - p)):=fun p r h0 h=>ch_span (wts1 fo) hAI (fun p r h0 h=>ch_item (wts1 fo) hAW (ch_in (wts1 fo) k) h0 h) h0 h
 have cp:∀ (first:Bool) (p:Int) (r:SP),0≤p→partP d l (spanP d l (itemP d l (inP d l fo k))) first (((l.length:Int) - p).toNat+1) 0 (fun _=>False) p=.ok r→Ch 13001 r.1 (2 * (r.2 - p)):=fun first p r h0 h=>(ch_part (wts1 fo) hAS c1 _ _ _ _ _ _ _ h0 (ch_none _) h).mono (by omega)
 have cf:∀ (first:Bool) (p:Int) (r:SP),0≤p→partP d l (spanP d l (itemP d l (inP d l fo k))) first (((l.length:Int) - p).toNat+1) 0 (fun _=>False) p=.ok r→Ch 13001 (foldQ fo r.1) (2 * (r.2 - p)):=fun first p r h0 h=>((wts1 fo).fold_ _ _ (cp first p r h0 h)).mono (by omega)
 refine ⟨fun first p W hS=>?_,fun first p r h0 h=>ahd_part hAS _ _ _ _ _ _ h0 h,fun first p r out h0 h1 h2 h hs=>?_,fun p r h0 h=>(cf true p r h0 h).mono (by omega),fun f p r h0 hg h=>?_,fun f p out hg h1 hs=>?_,fun p r h0 h=>(cf false p r h0 h).mono (by omega)⟩
 ·refine part90 (Lib.hid sortC) hS hAS (fun p W hS=>?_) fun p r out h0 h hs=>?_
  ·refine span32_any hS (by decide) (fun p W hS=>item_any (Lib.hid rawNotC) (fun _=>tokC_of hq) hl hS fun e W hS hp=>hW e p W hS hp) fun p i h0 h=>⟨item_pt hq h,?_⟩
   have:=hAI p i h0 h
   omega
  ·have:=ch_len hs (c0 p r h0 h)
   simpa using this
 ·have:=ch_len hs (cp first p r h0 h)
  simp at this
  omega
 ·exact (ch_and hg (cf false (p+2) r (by omega) h)).mono (by omega)
 ·have:=ch_len hs hg
  simp at this
  omega
theorem all_any (hl:∀ x ∈ l,0≤x∧x≤1114111) {dp:Int} {k:Nat}
  (hW:d=1→∀ p W,BSt b n c d fo dp A l p W→ptAt l p=91→Calls Tryz.prog 185 #[.pointer (some ⟨b,0,none⟩)] W (BOut b n c d fo dp A l 480000 (inP d l fo k p) W)):AtAll b n c d fo dp A l k:=fun p w h=>by
 have P:=Lib.hid (parts_of hl h.len h.small hW)
 rw [← whole_eq]
 cases fo with
 | true=>exact all58_true (Lib.hid foldC_true) (Lib.hid rawMeetC) (Lib.hid rawNotC) P h rfl rfl
 | false=>exact all58_false (Lib.hid fold_false) (Lib.hid rawMeetC) (Lib.hid rawNotC) P h rfl rfl
theorem in_within (hl:∀ x ∈ l,0≤x∧x≤1114111) (k:Nat):∀ dp:Int,dp+k=20→0≤dp→∀ p W,BSt b n c d fo dp A l p W→ptAt l p=91→Calls Tryz.prog 185 #[.pointer (some ⟨b,0,none⟩)] W (BOut b n c d fo dp A l 480000 (inP d l fo k p) W):=by
 induction k with
 | zero =>
  intro dp hk h0 p W hS hp
  obtain rfl:dp=20:=by omega
  exact (within_full hS).mono fun e w' ⟨he,hk⟩=>⟨hk,he⟩
 | succ k ih =>
  intro dp hk h0 p W hS hp
  have hin:=pt_hi hS.len (show 0≤ptAt l p by omega)
  exact within50 hS (by omega) h0 (by omega) (by omega) fun W hS=>all_any hl (fun _=>ih (dp+1) (by omega) (by omega)) (p+1) W hS
theorem allP_any (hl:∀ x ∈ l,0≤x∧x≤1114111) (p:Int) (w:World) (h:BSt b n c d fo 0 A l p w) :
  Calls Tryz.prog 58 #[.pointer (some ⟨b,0,none⟩)] w (BOut b n c d fo 0 A l 480000 (allP d l fo p) w):=all_any hl (k:=20) (fun _=>in_within hl 20 0 (by omega) (by omega)) p w h
end
end Go.Proofs.YtbiahhojnjchnaaGreat
namespace Go.Proofs.YtbiahhojnjchnaaGreat
open Go.RowKit
def PTell (d:Int) (l:List Int) (fo:Bool) (at_:Int) (A:Option Addr) (n:Nat) (v x y:Int) (w':World):Prop :=
 (parseE d l at_≠0∧A=none∧n=0∧v=0∧x=parseE d l at_∧y=0)∨(parseE d l at_=0∧Tell (allP d l fo at_) A n v x y w')
theorem parseP (d at_:Int) (fo:Bool) (l:List Int) (A:Option Addr) (n c:Nat) (w:World) (hn:n≤maxLen) (hc:n≤c) (ha:Rds w w.heap.size 1 A n (ints l)) :
  Calls Tryz.prog 12 #[.int .i64 d,.slice A n c,.int .i64 at_,.bool fo] w fun e w'=>∃ A' n' v x y,e=.returned (.tuple #[.slice A' n' n',.int .i64 v,.agg #[.int .i64 x,.int .i64 y]])∧Hid (PTell d l fo at_ A' n' v x y w')∧Below w.heap.size w w':=by
 by_cases hx:parseE d l at_=0
 ·have hl:∀ x ∈ l,0≤x∧x≤1114111:=by
   unfold parseE at hx
   by_cases h:rightE d l=0
   ·exact (rightE_okb h).2.1
   ·rw [if_pos h] at hx;exact absurd hx h
  exact (parse12_good hx hc ha fun b W hS=>allP_any hl at_ W hS).mono fun e w' h=>by
   obtain ⟨A',n',v,x,y,he,ht,hb⟩:=h.tell
   exact ⟨A',n',v,x,y,he,Lib.hid (.inr ⟨hx,ht⟩),hb⟩
 ·exact (parse12_bad rfl hx hn ha).mono fun e w' ⟨he,hb⟩=>⟨none,0,0,parseE d l at_,0,he,Lib.hid (.inl ⟨hx,rfl,rfl,rfl,rfl,rfl⟩),hb⟩
theorem parseE_at {d:Int} {l:List Int} {at_:Int} (h:parseE d l at_=0):rightE d l=0∧0≤at_∧at_≤l.length:=by
 unfold parseE at h
 by_cases hr:rightE d l=0
 ·rw [if_neg (by simpa using hr)] at h
  by_cases h1:at_ < 0∨(l.length:Int) < at_
  ·rw [if_pos h1] at h;cases h
  ·exact ⟨hr,by omega,by omega⟩
 ·rw [if_pos hr] at h;exact absurd h hr
theorem PTell.row {d:Int} {l:List Int} {fo:Bool} {at_:Int} {A:Option Addr} {n:Nat} {v x y:Int} {w':World} (h:PTell d l fo at_ A n v x y w'):(n≤400∧0≤v∧v≤300)∧∃ out,Rds w' w'.heap.size 2 A n (rngs out) ∧
  (x=0→∃ f,allP d l fo at_=.ok (f,v)∧IsSet out f∧out.length≤400):=by
 rcases h with ⟨h0,rfl,rfl,rfl,rfl,rfl⟩|⟨h0,h⟩
 ·exact ⟨⟨by omega,by omega,by omega⟩,[],⟨rfl,fun h=>absurd h (by omega)⟩,fun h=>absurd h h0⟩
 ·cases hr:allP d l fo at_ with
  | error q =>
   rw [hr] at h
   obtain ⟨rfl,rfl,rfl,rfl,rfl⟩:=h
   exact ⟨⟨by omega,by omega,by omega⟩,[],⟨rfl,fun h=>absurd h (by omega)⟩,fun h=>absurd h (nz_all fo (parseE_at h0).2.1 q hr)⟩
  | ok q =>
   rw [hr] at h
   obtain ⟨out,hs,hq,⟨hl,rfl,rfl,rfl,hr⟩|⟨hl,rfl,rfl,rfl,rfl,rfl⟩⟩:=h
   ·exact ⟨⟨by have:=hr.rngs_len;omega,hq⟩,out,hr,fun _=>⟨q.1,rfl,hs,hl⟩⟩
   ·exact ⟨⟨by omega,by omega,by omega⟩,[],⟨rfl,fun h=>absurd h (by omega)⟩,fun h=>by omega⟩
theorem begun_all:allP 1 [97,45,99,93] false 0=.ok (fun p=>False∨(97≤p∧p≤99),4):=by kernel_rfl
theorem begun_tell {A:Option Addr} {n:Nat} {v x y:Int} {w:World} (h:PTell 1 [97,45,99,93] false 0 A n v x y w):x=0∧v=4∧n=1∧Rds w w.heap.size 2 A n (rngs [(97,99)]):=by
 rcases h with ⟨h0,_⟩|⟨h0,h⟩
 ·exact absurd (show parseE 1 [97,45,99,93] 0=0 by decide) h0
 ·rw [begun_all] at h
  obtain ⟨out,hs,-,h⟩:=h
  have ho:out=[(97,99)]:=IsSet.eq hs (show IsSet [(97,99)] (mem [(97,99)]) from ⟨by simp [Can];decide,fun _=>Iff.rfl⟩) fun p=>by simp [mem]
  subst ho
  rcases h with ⟨hl,rfl,rfl,rfl,hr⟩|⟨hl,_⟩
  ·exact ⟨rfl,rfl,by have:=hr.rngs_len;simpa using this.symm,hr⟩
  ·simp at hl
set_option maxHeartbeats 4000000 in
set_option maxRecDepth 100000 in
theorem begun15 (w:World):Calls Tryz.prog 15 #[] w fun e w'=>e=.returned (.bool true)∧Below w.heap.size w w':=by
 obtain ⟨W,hW⟩:∃ X,X=w.alloc (.cells #[.int .i64 97,.int .i64 45,.int .i64 99,.int .i64 93] 3):=⟨_,rfl⟩
 have hB:Below w.heap.size w W:=by rw [hW];exact (Below.refl _ _).alloc (Nat.le_refl _) _
 have hA:Rds W W.heap.size 1 (some ⟨w.heap.size,0,none⟩) 4 (ints [97,45,99,93]):=by
  have:=Rds.new w 1 4 #[.int .i64 97,.int .i64 45,.int .i64 99,.int .i64 93] 3 (ints [97,45,99,93]) rfl rfl
  rw [hW];simpa using this
 have C:=Lib.hid (parseP 1 0 false _ _ 4 4 W (by unfold maxLen;omega) (by omega) hA)
 have HB:=Lib.hid hB
 have HSZ:=Lib.hid (show W.heap.size=w.heap.size+1 by rw [hW];simp)
 rw [hW] at C
 have HWW:=Lib.hid hW
 clear hA hB hW
 go_enter Tryz.func15,Tryz.ntmps15
 go_upto_region 2 with (go_at_call 12;(with_reducible refine C.out.mono ?_);rintro e w2 ⟨A',n',v,x,y,rfl,ht,hb⟩;rw [← HWW.out] at hb;have HT:=Lib.hid (begun_tell ht.out);have HB2:=Lib.hid (HB.out.trans (hb.mono (by have:=HSZ.out;omega)));clear ht hb)
 obtain ⟨rfl,rfl,rfl,hr⟩:=HT.out
 have HR2:=Lib.hid hr
 clear HT hr
 obtain ⟨X,hX⟩:∃ X,X=w2.alloc (.cells #[.int .i64 0,.int .i64 y] 26):=⟨_,rfl⟩
 have hbx:Below w2.heap.size w2 X:=by rw [hX];exact (Below.refl _ _).alloc (Nat.le_refl _) _
 have HBX:=Lib.hid (HB2.out.trans (hbx.mono HB2.out.size))
 have HRX:=Lib.hid ((HR2.out.below hbx (Nat.le_refl _)).more (B':=X.heap.size) hbx.size)
 have hz:=(show X.heap[w2.heap.size]?=some (.cells #[.int .i64 0,.int .i64 y] 26 (0,0)) by rw [hX];exact heap_alloc_new w2 _)
 have f0:=cell_of_row _ _ 0 _ _ _ hz
 rw [← hX]
 clear hX hbx HR2 HB2 hz
 go_wp2_with (go_at_call 16;(with_reducible refine (sameSet_any [(97,99)] [(97,99)] A' (some ⟨X.heap.size,0,none⟩) 1 1 1 1 (X.alloc (.cells #[.int .i64 97,.int .i64 99] 67)) X.heap.size (X.heap.size+1) (by unfold maxLen;omega) (by unfold maxLen;omega) (HRX.out.alloc (Nat.le_refl _) _) (by have:=Rds.new X 2 1 #[.int .i64 97,.int .i64 99] 67 (rngs [(97,99)]) rfl rfl;simpa using this)).mono ?_);rintro e w5 ⟨rfl,q5,rfl⟩)
 go_ret
 exact ⟨ret_bool (by simp [sameS]),below_drewN (HBX.out.alloc HBX.out.size _) _⟩
end Go.Proofs.YtbiahhojnjchnaaGreat
