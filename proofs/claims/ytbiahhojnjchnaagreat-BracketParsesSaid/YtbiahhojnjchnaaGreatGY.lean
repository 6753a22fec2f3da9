/-
  A class as an item of a bracket expression: walked, over what fold.Class and set.RawNot tell. A named class of a bracket expression: walked.
-/
import Derived.Test.YtbiahhojnjchnaaGreatGU
import Derived.Test.YtbiahhojnjchnaaGreatGV
import Derived.Test.YtbiahhojnjchnaaGreatGP
set_option linter.unusedVariables false
set_option linter.unusedSimpArgs false
namespace Go.Proofs.YtbiahhojnjchnaaGreat
open Go.RowKit
def ClassC (s:ByteArray) (L:List (Int × Int)):Prop:=∀ w:World,Calls Tryz.prog 131 #[.string s] w fun e w'=>∃ out A n c,e=.returned (.tuple #[.slice A n c,.int .i64 0])∧Hid (IsSet out (mem L))∧Hid (out.length≤200)∧Hid (w'.ownsRow w.heap.size 67 2 (.slice A n c) n (rngs out))∧Below w.heap.size w w'
def RawNotC:Prop:=∀ (a:List (Int × Int)) (A:Option Addr) (n c:Nat) (w:World),n≤100000→Can a→Rds w w.heap.size 2 A n (rngs a) →
 Calls Tryz.prog 69 #[.slice A n c] w fun e w'=>∃ out,(IsSet out fun p=>0≤p∧p≤1114111∧¬ mem a p)∧out.length≤n+1∧OwnRngs w out e w'
def ClsItm (w:World) (f:Int→Prop) (e:Ending) (w':World):Prop:=∃ out A n c,e=.returned (.agg #[.slice A n c,.int .i64 (-1)])∧IsSet out f∧out.length≤201∧w'.ownsRow w.heap.size 67 2 (.slice A n c) n (rngs out)∧Below w.heap.size w w'
theorem clsF_eq {L out:List (Int × Int)} (h:IsSet out (mem L)):IsSet out (clsF L false):=⟨h.1,fun p=>by simpa [clsF] using h.2 p⟩
theorem clsF_not {L out o2:List (Int × Int)} (h:IsSet out (mem L)) (k:IsSet o2 fun p=>0≤p∧p≤1114111∧¬ mem out p):IsSet o2 (clsF L true):=⟨k.1,fun p=>by have:mem o2 p↔0≤p∧p≤1114111∧¬ mem out p:=k.2 p;rw [h.2 p] at this;rw [this];simp [clsF]⟩
set_option maxRecDepth 100000 in
set_option maxHeartbeats 4000000 in
theorem classed187 {s:ByteArray} {L:List (Int × Int)} (HN:Hid RawNotC) (HC:Hid (ClassC s L)) (nt:Bool) (w:World):Calls Tryz.prog 187 #[.string s,.bool nt] w (ClsItm w (clsF L nt)):=by
 have HC1:=Lib.hid (fun w=>HC.out w)
 clear HC
 go_enter Tryz.func187,Tryz.ntmps187
 go_upto_region 1 with (fail)
 obtain ⟨W,hW⟩:∃ X,X=w.alloc (.cells #[.slice none 0 0,.int .i64 0] 167):=⟨_,rfl⟩
 have HB0:=Lib.hid (show Below w.heap.size w W by rw [hW];exact (Below.refl _ _).alloc (Nat.le_refl _) _)
 have HZ0:=Lib.hid (show W.heap[w.heap.size]?=some (.cells #[.slice none 0 0,.int .i64 0] 167 (0,0)) by rw [hW];exact heap_alloc_new w _)
 have hs0:W.heap.size=w.heap.size+1:=by rw [hW];simp
 rw [← hW]
 clear hW
 go_upto_region 2 with (first
  | (go_at_call 131;(with_reducible refine (HC1.out _).mono ?_);rintro e w1 ⟨out,A,n,c,rfl,hset,hln,hr,hb⟩;have HZ1:=Lib.hid (row_next HZ0.out hb);have HB1:=Lib.hid (HB0.out.trans (hb.mono (Nat.le_of_lt (lt_heap HZ0.out))));clear hb))
 cases nt with
 | false =>
  have f0:=frozen_row (o:=0) HZ1.out
  have f1:=frozen_row (o:=1) HZ1.out
  have z0:=cell_of_row _ _ 0 _ _ _ HZ1.out
  have z1:=cell_of_row _ _ 1 _ _ _ HZ1.out
  go_upto_region 4 with (fail)
  repeat (first|go_values|go_skip|go_guarded|go_step|go_upon|(simp only []))
  (try simp only [Exit.inBlock,Exit.then])
  refine bodyPost_ret (v:=.agg #[.slice A n c,.int .i64 (-1)]) ?_ rfl ?_
  ·rw [results_cell_one rfl]
   go_simp
  ·refine ⟨out,A,n,c,rfl,clsF_eq hset.out,Nat.le_succ_of_le hln.out,?_,(HB1.out.setCell (Nat.le_refl _) _).setCell (Nat.le_refl _) _⟩
   exact own_mono (own_keptb hr.out (((Kept.refl w.heap.size w1).set 0 _).set 1 _) (by omega)) (by omega)
 | true =>
  have HN2:=Lib.hid (HN.out out A n c w1 (by have:=own_rngs_len hr.out;have:=hln.out;omega) hset.out.1 (Rds.of_own hr.out))
  clear HN
  go_upto_region 4 with (first
   | (go_at_call 69;(with_reducible refine HN2.out.mono ?_);rintro e w2 ⟨o2,hset2,hln2,A2,n2,c2,rfl,hown2,hb2⟩))
  have HZ2:=Lib.hid (row_next HZ1.out hb2)
  have HB2:=Lib.hid (HB1.out.trans (hb2.mono (Nat.le_of_lt (lt_heap HZ1.out))))
  have HO2:=Lib.hid hown2
  have hlt1:=lt_heap HZ1.out
  have HSET2:=Lib.hid hset2
  have HLN2:=Lib.hid hln2
  have f0:=frozen_row (o:=0) HZ2.out
  have f1:=frozen_row (o:=1) HZ2.out
  have z0:=cell_of_row _ _ 0 _ _ _ HZ2.out
  have z1:=cell_of_row _ _ 1 _ _ _ HZ2.out
  clear hown2 hb2 hset2 hln2
  repeat (first|go_values|go_skip|go_guarded|go_step|go_upon|(simp only []))
  (try simp only [Exit.inBlock,Exit.then])
  refine bodyPost_ret (v:=.agg #[.slice A2 n2 c2,.int .i64 (-1)]) ?_ rfl ?_
  ·rw [results_cell_one rfl]
   go_simp
  ·refine ⟨o2,A2,n2,c2,rfl,clsF_not hset.out HSET2.out,?_,?_,(HB2.out.setCell (Nat.le_refl _) _).setCell (Nat.le_refl _) _⟩
   ·have:=own_rngs_len hr.out;have:=hln.out;have:=HLN2.out;omega
   ·exact own_mono (own_keptb HO2.out (((Kept.refl w.heap.size w2).set 0 _).set 1 _) (by omega)) (by omega)
end Go.Proofs.YtbiahhojnjchnaaGreat
namespace Go.Proofs.YtbiahhojnjchnaaGreat
open Go.RowKit
theorem says_fit {l:List Int} {n:Nat} (hl:l.length=n):∀ (cs:List Int) (p:Int),0≤p→cs≠[]→(∀ x ∈ cs,0≤x)→saysB l p cs=true→p+cs.length≤n:=by
 intro cs
 induction cs with
 | nil=>intro p _ h;exact absurd rfl h
 | cons x cs ih =>
  intro p h0 _ hx h
  have h1:ptAt l p=x∧saysB l (p+1) cs=true:=by simpa [saysB] using h
  have h2:=pt_hi hl (show 0≤ptAt l p by rw [h1.1];exact hx x (.head _))
  cases cs with
  | nil=>simp;omega
  | cons y cs =>
   have:=ih (p+1) (by omega) (by simp) (fun z hz=>hx z (.tail _ hz)) h1.2
   simp at this ⊢;omega
def ClassN (s:ByteArray):Prop:=∀ w:World,Calls Tryz.prog 131 #[.string s] w fun e w'=>e=.returned (.tuple #[.slice none 0 0,.int .i64 5])∧w=w'
theorem low_at {x:Int} (h:isLow x=true):97≤x∧x≤122:=by simpa [isLow] using h
theorem enc_low {x:Int} (h:isLow x=true):Utf8.encode x=⟨#[UInt8.ofNat x.toNat]⟩:=by
 have:=low_at h
 have hv:Utf8.valid x=true:=by rw [validRune_eq];simp [validRune];omega
 unfold Utf8.encode
 rw [if_pos hv,if_pos (by omega)]
theorem name_more (l:List Int) (a:Int) (j:Nat):(⟨(bytesP (runPts l a j)).toArray⟩:ByteArray) ++ ⟨#[UInt8.ofNat (ptAt l (a+j)).toNat]⟩=⟨(bytesP (runPts l a (j+1))).toArray⟩:=by
 have:bytesP (runPts l a (j+1))=bytesP (runPts l a j) ++ [UInt8.ofNat (ptAt l (a+j)).toNat]:=by simp [bytesP,runPts,List.range_succ]
 rw [this,← ByteArray.mk_append_mk]
theorem name_size (l:List Int) (a:Int) (j:Nat):(bytesP (runPts l a j)).length=j:=by simp [bytesP,runPts]
def sizeOfS:Value→Nat
 | .string s=>s.size
 | _=>0
def NOut (b n c:Nat) (d:Int) (fo:Bool) (dp:Int) (A:Option Addr) (l:List Int) (C:Option (List (Int × Int))) (nt:Bool) (at_ a:Int) (K:Nat) (w:World) (e:Ending) (w':World):Prop :=
 Kept b w w'∧(if K=0∨saysB l (a+K) [58,93]=false then e=.panicked (faultV 1 (a+K)) else match C with
  | none=>e=.panicked (faultV 5 at_)
  | some L=>∃ out A' n' c',e=.returned (.tuple #[.agg #[.slice A' n' c',.int .i64 (-1)],.bool true])∧IsSet out (clsF L nt)∧out.length≤201∧w'.ownsRow w.heap.size 67 2 (.slice A' n' c') n' (rngs out)∧BSt b n c d fo dp A l (a+K+2) w')
theorem NOut.bad {b n c:Nat} {d dp at_ a:Int} {fo nt:Bool} {A:Option Addr} {l:List Int} {C:Option (List (Int × Int))} {K:Nat} {w w':World} (h:K=0∨saysB l (a+K) [58,93]=false) (hk:Kept b w w'):NOut b n c d fo dp A l C nt at_ a K w (.panicked (faultV 1 (a+K))) w' :=
 ⟨hk,by rw [if_pos h]⟩
set_option maxRecDepth 100000 in
set_option maxHeartbeats 8000000 in
theorem named_any {b n c:Nat} {d dp at_:Int} {fo:Bool} {A:Option Addr} {l:List Int} {w:World} {C:Option (List (Int × Int))} {nt:Bool} {a:Int} {K:Nat} {nm:List UInt8}
  (HN:Hid RawNotC) (h:BSt b n c d fo dp A l at_ w) (hv:saysB l at_ [91,58]=true) (hnt:(decide (d=1) && saysB l (at_+2) [94])=nt) (ha:a=if nt=true then at_+3 else at_+2)
  (hK:K=runLen isLow l a ((l.length:Int) - a).toNat) (hnm:nm=bytesP (runPts l a K)) (HC:Hid (match C with|none=>ClassN ⟨nm.toArray⟩|some L=>ClassC ⟨nm.toArray⟩ L)) :
  Calls Tryz.prog 184 #[.pointer (some ⟨b,0,none⟩)] w (NOut b n c d fo dp A l C nt at_ a K w):=by
 have hlen:=h.len
 have hlo:=h.lo
 have hlt:=h.lt
 have hsm:=h.small
 have hf2:=says_fit hlen [91,58] at_ hlo (by simp) (by simp) hv
 have ha2:at_+2≤a∧a≤n:=by
  cases nt with
  | false=>simp at ha hf2;omega
  | true =>
   simp only [Bool.and_eq_true] at hnt
   have:=says_fit hlen [94] (at_+2) (by omega) (by simp) (by simp) hnt.2
   simp at ha this;omega
 have HB0:Below w.heap.size w (w.alloc (.cells #[.slice none 0 0,.int .i64 0] 167)):=(Below.refl _ _).alloc (Nat.le_refl _) _
 have HS0:=Lib.hid (h.next HB0)
 have HK0:=Lib.hid (Kept.of (b:=b) HB0)
 have HZ0:=Lib.hid (heap_alloc_new w (.cells #[.slice none 0 0,.int .i64 0] 167))
 obtain ⟨W,hW⟩:∃ X,X=w.alloc (.cells #[.slice none 0 0,.int .i64 0] 167):=⟨_,rfl⟩
 have hs0:W.heap.size=w.heap.size+1:=by rw [hW];simp
 rw [← hW] at HS0 HK0 HZ0
 have HV:=Lib.hid hv
 have HNT:=Lib.hid hnt
 have HA:=Lib.hid ha
 have HKK:=Lib.hid hK
 have HNM:=Lib.hid hnm
 have HS00:=Lib.hid hs0
 clear h hv hnt ha hK hnm HB0 hf2 hs0
 obtain ⟨c0,c1,c2,c3,f2⟩:=HS0.out.rd.cells
 go_enter Tryz.func184,Tryz.ntmps184
 go_upto_region 1 with (fail)
 rw [← hW]
 clear hW
 go_upto_region 4 with (first
  | (go_at_call 89;(with_reducible refine (may_yes (cc:=2) (m:=2) (cs:=[91,58]) (HS0.out.next ((Below.refl _ _).alloc (Nat.le_refl _) _)) HV.out (runes_new W [91,58] #[.int .i32 91,.int .i32 58] 2 rfl rfl) (by simp) (by decide) (by omega)).mono ?_);rintro e w2 ⟨rfl,hS,hk⟩;have HS2:=Lib.hid (show BSt b n c d fo dp A l (at_+2) w2 from hS);have HK2:=Lib.hid ((HK0.out.trans (Kept.of ((Below.refl _ _).alloc (Nat.le_refl _) _))).trans hk);have HZ2:=Lib.hid ((hk.block w.heap.size (by have:=HS00.out;rw [World.alloc];simp;omega) (by omega)).trans (hz_alloc HZ0.out));clear hS hk))
 clear c0 c1 c2 c3 f2
 obtain ⟨c0,c1,c2,c3,f2⟩:=HS2.out.rd.cells
 go_cut [5] from 18 to 27 (fun v wc=>v=.bool nt∧Hid (BSt b n c d fo dp A l a wc)∧Hid (Kept b w wc)∧Hid (wc.heap[w.heap.size]?=some (.cells #[.slice none 0 0,.int .i64 0] 167 (0,0))))
 ·by_cases hd:d=1
  ·subst hd
   have hs:saysB l (at_+2) [94]=nt:=by simpa using HNT.out
   have HSY:=Lib.hid hs
   have hlt2:w.heap.size < w2.heap.size:=lt_heap HZ2.out
   clear hs HNT
   cases nt with
   | true =>
    go_wp2_with (first
     | (go_at_call 89;(with_reducible refine (may_yes (cc:=1) (m:=1) (cs:=[94]) (HS2.out.next ((Below.refl _ _).alloc (Nat.le_refl _) _)) HSY.out (runes_new w2 [94] #[.int .i32 94] 1 rfl rfl) (by simp) (by decide) (by have:=says_fit HS2.out.len [94] (at_+2) (by omega) (by simp) (by simp) HSY.out;simpa using this)).mono ?_);rintro e w3 ⟨rfl,hS,hk⟩;have HS3:=Lib.hid (show BSt b n c 1 fo dp A l a w3 by have e:a=at_+2+((1:Nat):Int):=(by have:=HA.out;simp at this;omega);rw [e];exact hS);have HK3:=Lib.hid ((HK2.out.trans (Kept.of ((Below.refl _ _).alloc (Nat.le_refl _) _))).trans hk);have HZ3:=Lib.hid ((hk.block w.heap.size (by rw [World.alloc];simp;omega) (by omega)).trans (hz_alloc HZ2.out));clear hS hk))
    go_meet
    exact ⟨rfl,HS3,HK3,HZ3⟩
   | false =>
    have e:a=at_+2:=by have:=HA.out;simpa using this
    have EA:=Lib.hid e
    clear e
    go_wp2_with (first
     | (go_at_call 89;(with_reducible refine (may_no (cc:=1) (m:=1) (cs:=[94]) (HS2.out.next ((Below.refl _ _).alloc (Nat.le_refl _) _)) HSY.out (runes_new w2 [94] #[.int .i32 94] 1 rfl rfl) (by simp) (by decide)).mono ?_);rintro e w3 ⟨rfl,q3,hq3⟩;have hb3:Below w2.heap.size w2 w3:=(by rw [hq3];exact below_drewN ((Below.refl _ _).alloc (Nat.le_refl _) _) _);have HS3:=Lib.hid (show BSt b n c 1 fo dp A l a w3 by rw [EA.out];exact HS2.out.next hb3);have HK3:=Lib.hid (HK2.out.trans (Kept.of hb3));have HZ3:=Lib.hid (row_next HZ2.out hb3);clear hq3 hb3))
    go_meet
    exact ⟨rfl,HS3,HK3,HZ3⟩
  ·have hdb:(d == 1)=false:=by simpa using hd
   have hn:nt=false:=by rw [← HNT.out];simp [hd]
   subst hn
   have e:a=at_+2:=by have:=HA.out;simpa using this
   have EA:=Lib.hid e
   clear e
   go_wp2_with fail
   go_meet
   exact ⟨rfl,Lib.hid (by rw [EA.out];exact HS2.out),HK2,HZ2⟩
 ·obtain ⟨rfl,HS3,HK3,HZ3⟩:=hcut
  clear HS2 HK2 HZ2 c0 c1 c2 c3 f2 HS0 HK0 HZ0 HS00
  have HLE:=Lib.hid (runLen_fit (f:=isLow) (by decide) (l:=l) (m:=((l.length:Int) - a).toNat) (at_:=a) (by omega) (by omega))
  have HMORE:=Lib.hid (fun k=>runLen_more (f:=isLow) (l:=l) (m:=((l.length:Int) - a).toNat) (at_:=a) (k:=k))
  have HEND:=Lib.hid (fun k=>runLen_end (f:=isLow) (l:=l) (m:=((l.length:Int) - a).toNat) (at_:=a) (k:=k))
  rw [← HKK.out] at HLE HMORE HEND
  go_wp2_with fail
  go_loopw [6] (fun v wr=>∃ j:Nat,j≤K∧v=.string ⟨(bytesP (runPts l a j)).toArray⟩∧Hid (BSt b n c d fo dp A l (a+j) wr)∧Hid (Kept b w wr)∧Hid (wr.heap[w.heap.size]?=some (.cells #[.slice none 0 0,.int .i64 0] 167 (0,0)))) (fun v _=>n - sizeOfS v)
  case atStart=>exact ⟨0,by omega,rfl,by simpa using HS3,HK3,HZ3⟩
  case round =>
   obtain ⟨j,hj,rfl,HS4,HK4,HZ4⟩:=hrel
   have hfit:=HLE.out
   rw [hlen] at hfit
   obtain ⟨c0,c1,c2,c3,f2⟩:=HS4.out.rd.cells
   obtain ⟨a',rfl⟩:=Int.eq_ofNat_of_zero_le (show 0≤a by omega)
   obtain ⟨g,hg⟩:∃ g,g=(decide ((a':Int)+j < n) && isLow (ptAt l ((a':Int)+j))):=⟨_,rfl⟩
   have HG:=Lib.hid hg
   clear hg
   go_upto_region 6 with (fail)
   go_cut [63] from 28 to 63 (fun z wc=>z=.bool g∧∃ q,wc=wr.drewN q)
   ·by_cases hin:a'+j < n
    ·obtain ⟨b1,off1,hl1,hA1,hb1,hc1⟩:=HS4.out.row.int_at hin
     have hp:=ptAt_in l hl1
     obtain ⟨x,hx⟩:∃ x,x=l[a'+j]:=⟨_,rfl⟩
     rw [← hx] at hc1 hp
     have HP:=Lib.hid hp
     clear hx hp
     subst hA1
     have e1:(decide ((a':Int)+(j:Int) < (n:Int)))=true:=decide_eq_true (by omega)
     have i3:(0:Int)≤(a':Int)+(j:Int):=by omega
     have i4:(a':Int)+(j:Int) < (n:Int):=by omega
     have i5:((a':Int)+(j:Int)).toNat=a'+j:=by omega
     have hG:g=isLow x:=by rw [HG.out,e1,show ((a':Int)+(j:Int))=((a'+j:Nat):Int) by omega,HP.out];rfl
     have HGG:=Lib.hid hG
     clear hG
     by_cases h97:97≤x
     ·have e2:(decide (97≤x))=true:=decide_eq_true h97
      go_quiet (fail)
      go_wp2_with fail
      all_goals (go_meet;first|exact ⟨congrArg Value.bool (by rw [HGG.out];simp_all [isLow]),_,rfl⟩|exact ⟨congrArg Value.bool (by rw [HGG.out];simp [isLow,h97]),_,rfl⟩)
     ·have e2:(decide (97≤x))=false:=decide_eq_false h97
      go_quiet (fail)
      go_wp2_with fail
      all_goals (go_meet;exact ⟨congrArg Value.bool (by rw [HGG.out];simp [isLow,h97];try omega),_,rfl⟩)
    ·have e1:(decide ((a':Int)+(j:Int) < (n:Int)))=false:=decide_eq_false (by omega)
     have hG:g=false:=by rw [HG.out,e1];rfl
     have HGG:=Lib.hid hG
     clear hG
     go_quiet (fail)
     go_wp2_with fail
     all_goals (go_meet;exact ⟨congrArg Value.bool (by rw [HGG.out]),_,rfl⟩)
   ·obtain ⟨rfl,q,hq⟩:=hcut
    have hb4:Below wr.heap.size wr wc:=by rw [hq];exact below_drewN (Below.refl _ _) _
    have HS5:=Lib.hid (HS4.out.next hb4)
    have HK5:=Lib.hid (HK4.out.trans (Kept.of hb4))
    have HZ5:=Lib.hid (row_next HZ4.out hb4)
    clear hq hb4 HS4 HK4 HZ4 c0 c1 c2 c3 f2
    obtain ⟨c0,c1,c2,c3,f2⟩:=HS5.out.rd.cells
    cases g with
    | true =>
     have hg2:=HG.out.symm
     simp only [Bool.and_eq_true,decide_eq_true_eq] at hg2
     have hin:a'+j < n:=by omega
     have hlow:=hg2.2
     have hle:j+1≤K:=HMORE.out j hj (by rw [hlen];omega) hlow
     obtain ⟨b1,off1,hl1,hA1,hb1,hc1⟩:=HS5.out.row.int_at hin
     have hp:=ptAt_in l hl1
     obtain ⟨x,hx⟩:∃ x,x=l[a'+j]:=⟨_,rfl⟩
     rw [← hx] at hc1 hp
     rw [show ((a':Int)+j)=((a'+j:Nat):Int) by omega,hp] at hlow
     have hl2:=low_at hlow
     have W1:IntKind.i32.wrap x=x:=by unfold IntKind.wrap;simp [IntKind.bits,IntKind.signed];omega
     obtain ⟨u,hu⟩:∃ u,u=Utf8.encode x:=⟨_,rfl⟩
     have E1:=hu.symm
     have u1:u.size=1:=by rw [hu,enc_low hlow];rfl
     obtain ⟨s,hs⟩:∃ s,s=(⟨(bytesP (runPts l a' j)).toArray⟩:ByteArray):=⟨_,rfl⟩
     have s1:s.size=j:=by rw [hs];exact name_size l a' j
     have hc77:¬ (9223372036854775807 < j+1):=by omega
     have W2:IntKind.i64.wrap ((a':Int)+(j:Int)+1)=(a':Int)+(j:Int)+1:=IntWalk.i64_in _ (by omega)
     have NM1:=Lib.hid (name_more l a' j)
     rw [show ((a':Int)+j)=((a'+j:Nat):Int) by omega,hp] at NM1
     rw [← hs,← enc_low hlow,E1] at NM1
     rw [← hs]
     clear hx hp hlow hg2 hl2 hs hu
     subst hA1
     have i3:(0:Int)≤(a':Int)+(j:Int):=by omega
     have i4:(a':Int)+(j:Int) < (n:Int):=by omega
     have i5:((a':Int)+(j:Int)).toNat=a'+j:=by omega
     go_upto_region 7 with (fail)
     go_quiet (fail)
     go_upto_region 8 with (fail)
     go_wp2_with fail
     go_roundw
     case rel =>
      refine ⟨j+1,hle,by rw [← NM1.out],Lib.hid ?_,Lib.hid ((HK5.out.drewN _).set 2 _),Lib.hid (hz_set (show (wc.drewN nq).heap[w.heap.size]?=_ from HZ5.out) (show w.heap.size≠b by omega))⟩
      rw [show (a':Int)+((j+1:Nat):Int)=(a':Int)+(j:Int)+1 by omega]
      exact (HS5.out.next (below_drewN (Below.refl _ _) _)).moved _ (by omega) (by omega)
     case measure =>
      have h1:(s ++ u).size=j+1:=by simp;omega
      have h2:(⟨(bytesP (runPts l a' j)).toArray⟩:ByteArray).size=j:=name_size l a' j
      simp only [sizeOfS]
      omega
    | false =>
     have hjK:j=K:=HEND.out j hj fun h=>by
      have:=HG.out.symm
      have e1:(decide ((a':Int)+(j:Int) < (n:Int)))=true:=decide_eq_true (by omega)
      rw [e1] at this
      simpa using this
     subst hjK
     have HNMS:=Lib.hid HNM.out.symm
     rw [HNMS.out]
     have hnl:nm.length=j:=by rw [HNM.out];exact name_size l a' j
     have HNL:=Lib.hid hnl
     clear hnl HMORE HEND HG HLE
     by_cases hk0:j=0
     ·have hne:nm.isEmpty=true:=by rw [List.isEmpty_iff];exact List.eq_nil_of_length_eq_zero (by rw [HNL.out];exact hk0)
      have HK0:=Lib.hid hk0
      clear hk0
      go_wp2_with (go_at_call 59;(with_reducible refine (fail21 1 ((a':Int)+j) _).mono ?_);rintro e w' ⟨rfl,rfl⟩)
      exact ⟨rfl,NOut.bad (.inl HK0.out) HK5.out⟩
     ·have hne:nm.isEmpty=false:=by
       cases hnm:nm with
       | nil=>have:=HNL.out;rw [hnm] at this;simp at this;omega
       | cons x t=>rfl
      have HK0:=Lib.hid hk0
      clear hk0
      cases hs:saysB l ((a':Int)+j) [58,93] with
      | false =>
       have N1:=Lib.hid hs
       clear hs
       go_wp2_with (first
        | (go_at_call 89;(with_reducible refine (may_no (cc:=2) (m:=2) (cs:=[58,93]) (HS5.out.next ((Below.refl _ _).alloc (Nat.le_refl _) _)) N1.out (runes_new wc [58,93] #[.int .i32 58,.int .i32 93] 2 rfl rfl) (by simp) (by decide)).mono ?_);rintro e w3 ⟨rfl,q3,hq3⟩;have hb3:Below wc.heap.size wc w3:=(by rw [hq3];exact below_drewN ((Below.refl _ _).alloc (Nat.le_refl _) _) _);have HS6:=Lib.hid (HS5.out.next hb3);have HK6:=Lib.hid (HK5.out.trans (Kept.of hb3));clear hq3 hb3;obtain ⟨d0,d1,d2,d3,g2⟩:=HS6.out.rd.cells)
        | (go_at_call 59;(with_reducible refine (fail21 1 ((a':Int)+j) _).mono ?_);rintro e w' ⟨rfl,rfl⟩))
       exact ⟨rfl,NOut.bad (.inr N1.out) HK6.out⟩
      | true =>
       have N1:=Lib.hid hs
       clear hs
       go_upto_region 11 with (first
        | (go_at_call 89;(with_reducible refine (may_yes (cc:=2) (m:=2) (cs:=[58,93]) (HS5.out.next ((Below.refl _ _).alloc (Nat.le_refl _) _)) N1.out (runes_new wc [58,93] #[.int .i32 58,.int .i32 93] 2 rfl rfl) (by simp) (by decide) (by have:=says_fit HS5.out.len [58,93] ((a':Int)+j) (by omega) (by simp) (by simp) N1.out;simpa using this)).mono ?_);rintro e w3 ⟨rfl,hS,hk⟩;have HS6:=Lib.hid (show BSt b n c d fo dp A l ((a':Int)+j+2) w3 from hS);have HK6:=Lib.hid ((HK5.out.trans (Kept.of ((Below.refl _ _).alloc (Nat.le_refl _) _))).trans hk);have HZ6:=Lib.hid ((hk.block w.heap.size (by have:=lt_heap HZ5.out;rw [World.alloc];simp;omega) (by omega)).trans (hz_alloc HZ5.out));clear hS hk))
       have HNO:=Lib.hid (show ¬ (j=0∨saysB l ((a':Int)+j) [58,93]=false) from fun h=>h.elim HK0.out (fun e=>by rw [N1.out] at e;cases e))
       clear c0 c1 c2 c3 f2 HS5 HK5 HZ5
       cases C with
       | none =>
        have HC1:=Lib.hid (fun w=>(show ClassN _ from HC.out) w)
        clear HC HN
        obtain ⟨c0,c1,c2,c3,f2⟩:=HS6.out.rd.cells
        go_wp2_with (first
         | (go_at_call 131;(with_reducible refine (HC1.out _).mono ?_);rintro e w4 ⟨rfl,rfl⟩)
         | (go_at_call 59;(with_reducible refine (fail21 5 at_ _).mono ?_);rintro e w' ⟨rfl,rfl⟩))
        refine ⟨rfl,HK6.out,?_⟩
        rw [if_neg HNO.out]
       | some L =>
        have HC1:=Lib.hid (fun w=>(show ClassC _ _ from HC.out) w)
        have HC2:=Lib.hid (fun w=>classed187 HN (Lib.hid (show ClassC _ _ from HC.out)) nt w)
        clear HC HN
        go_upto_region 14 with (first
         | (go_at_call 131;(with_reducible refine (HC1.out _).mono ?_);rintro e w4 ⟨out,A4,n4,c4,rfl,hset,hln,hr,hb⟩;have HS7:=Lib.hid (HS6.out.next hb);have HZ7:=Lib.hid (row_next HZ6.out hb);have HK7:=Lib.hid (HK6.out.trans (Kept.of hb));clear hb hset hln hr))
        clear HC1 HS6 HK6 HZ6
        go_upto_region 14 with (fail)
        go_wp2_with (first
         | (go_at_call 187;(with_reducible refine (HC2.out _).mono ?_);rintro e w5 ⟨o2,A5,n5,c5,rfl,hset,hln,hr,hb⟩;have HS8:=Lib.hid (HS7.out.next hb);have HZ8:=Lib.hid (row_next HZ7.out hb);have HK8:=Lib.hid (HK7.out.trans (Kept.of hb));have z0:=cell_of_row _ _ 0 _ _ _ HZ8.out;have z1:=cell_of_row _ _ 1 _ _ _ HZ8.out;have f0:=frozen_row (o:=0) HZ8.out;have f1:=frozen_row (o:=1) HZ8.out;have HSET:=Lib.hid hset;have HLN:=Lib.hid hln;have HR:=Lib.hid hr;clear hb hset hln hr))
        have hz8:=lt_heap HZ7.out
        refine bodyPost_ret (v:=.tuple #[.agg #[.slice A5 n5 c5,.int .i64 (-1)],.bool true]) ?_ rfl ?_
        ·rw [results_cell_tmp rfl]
         go_simp
        ·have hlt8:b≠w.heap.size:=by omega
         refine ⟨(HK8.out.setNew (p:=⟨w.heap.size,0,none⟩) (Nat.le_refl _) _).setNew (p:=⟨w.heap.size,1,none⟩) (Nat.le_refl _) _,?_⟩
         rw [if_neg HNO.out]
         exact ⟨o2,A5,n5,c5,rfl,HSET.out,HLN.out,own_mono (own_keptb HR.out (((Kept.refl w.heap.size w5).set 0 _).set 1 _) hz8) (Nat.le_of_lt hz8),⟨hz_set (hz_set HS8.out.rd hlt8) hlt8,(HS8.out.row.setCell (show b≤w.heap.size by omega) _).setCell (show b≤w.heap.size by omega) _,HS8.out.lo,HS8.out.hi,HS8.out.small,HS8.out.cap⟩⟩
end Go.Proofs.YtbiahhojnjchnaaGreat
