/-
  A pattern: walked, over what its atoms tell.
-/
import Derived.Test.YtbiahhojnjchnaaGreatPnG
set_option linter.unusedVariables false
set_option linter.unusedSimpArgs false
namespace Go.Proofs.YtbiahhojnjchnaaGreat
open Go.RowKit
/-- the fold of before, put back -/
theorem back76 {q r b:Nat} {was:Bool} {x:Value} {w:World} (u:FrameMode) (hq:w.cell? ⟨q,0,none⟩=some (.bool was)) (hr:w.cell? ⟨r,0,none⟩=some (.pointer (some ⟨b,0,none⟩))) (hb:w.cell? ⟨b,3,none⟩=some x) (hf:w.frozen? ⟨b,3,none⟩=false) :
  CallsD Tryz.prog 76 #[.pointer (some ⟨q,0,none⟩),.pointer (some ⟨r,0,none⟩)] u w fun e u' w'=>u'=u∧e=.returned (.tuple #[])∧w'=w.setCell ⟨b,3,none⟩ (.bool was):=by
 go_enter_d Tryz.func76,Tryz.ntmps76
 go_wp2
 go_end0
 exact ⟨rfl,rfl⟩
def patternL (atomS:PS→Tk→Int→FR (Tr × PS)) (d:Int) (l:List Int) (was:Bool):Nat→PS→List Tr→FR (Tr × PS)
 | 0,_,_=>.error (0,0)
 | m+1,s,ts=>match nextS d l s with
  | .error q=>.error q
  | .ok none=>.ok (eiT ts,{ s with fold:=was })
  | .ok (some (t,nx)) =>
   if t.kind≠9 then .ok (eiT ts,{ s with fold:=was })
   else match branchS atomS d l { s with at_:=nx } with
    | .error q=>.error q
    | .ok p=>patternL atomS d l was m p.2 (ts ++ [p.1])
def patternS (atomS:PS→Tk→Int→FR (Tr × PS)) (d:Int) (l:List Int) (s:PS):FR (Tr × PS):=match branchS atomS d l s with
 | .error q=>.error q
 | .ok p=>patternL atomS d l s.fold (((l.length:Int) - p.2.at_).toNat+1) p.2 [p.1]
theorem pm_none {b B k:Nat} {V1 V2:Value} (h:∀ k,pm b V1 V2 k=true→k < B) (hk:B≤k):pm b V1 V2 k=false:=by
 cases e:pm b V1 V2 k
 ·rfl
 ·have:=h k e;omega
theorem PBad.set {b:Nat} {M:Nat→Bool} {w w1:World} (h:PBad b M w w1) (hb:M b=true) (v:Value):PBad b M w (w1.setCell ⟨b,3,none⟩ v):=by
 obtain ⟨M',cs,hm,hbb,hcs⟩:=h
 have hk:=(Kept.refl b w1).set 3 v
 refine ⟨fun _=>false,cs.setIfInBounds 3 v,⟨hk.os.trans hm.os,hk.tape.trans hm.tape,hk.output.trans hm.output,Nat.le_trans hm.size hk.size,fun k h1 h2=>(hk.block k (Nat.lt_of_lt_of_le h1 hm.size) fun e=>?_).trans (hm.keep k h1 h2),fun _ _ h=>(by cases h)⟩,row_set' hbb,by rw [Array.size_setIfInBounds];exact hcs⟩
 rw [e,hb] at h2;cases h2
theorem pat_start {b n c:Nat} {d:Int} {A:Option Addr} {l:List Int} {s2:PS} {U1 U2:Value} {M0:Nat→Bool} {W w1:World} {tr:Tr} {dd:ND} (hnd:Nd (fun k=>pm b U1 U2 k || decide (k < W.heap.size)) w1 tr dd) (hps:PsAt b n c d A l s2 U1 U2 w1) (hm:Mvd M0 (pm b U1 U2) W w1) :
  (w1.alloc (.cells #[.int .i64 dd.kind,.slice dd.sA dd.sn dd.sc,.slice dd.kA dd.kn dd.kc,.int .i64 dd.num,.int .i64 dd.least,.int .i64 dd.most,.int .i64 dd.way,.bool dd.fold] 42)).ownsRow W.heap.size 42 8 (.slice (some ⟨w1.heap.size,0,none⟩) 1 1) [dd].length (nds [dd])∧Kds (LM b W.heap.size U1 U2 (.slice (some ⟨w1.heap.size,0,none⟩) 1 1)) (w1.alloc (.cells #[.int .i64 dd.kind,.slice dd.sA dd.sn dd.sc,.slice dd.kA dd.kn dd.kc,.int .i64 dd.num,.int .i64 dd.least,.int .i64 dd.most,.int .i64 dd.way,.bool dd.fold] 42)) [tr] [dd]∧PsAt b n c d A l s2 U1 U2 (w1.alloc (.cells #[.int .i64 dd.kind,.slice dd.sA dd.sn dd.sc,.slice dd.kA dd.kn dd.kc,.int .i64 dd.num,.int .i64 dd.least,.int .i64 dd.most,.int .i64 dd.way,.bool dd.fold] 42))∧Mvd M0 (pm b U1 U2) W (w1.alloc (.cells #[.int .i64 dd.kind,.slice dd.sA dd.sn dd.sc,.slice dd.kA dd.kn dd.kc,.int .i64 dd.num,.int .i64 dd.least,.int .i64 dd.most,.int .i64 dd.way,.bool dd.fold] 42))∧∀ g,(Value.slice (some ⟨w1.heap.size,0,none⟩) 1 1).ownBlock=some g→pm b U1 U2 g=false:=by
 have hB:Below w1.heap.size w1 (w1.alloc (.cells #[.int .i64 dd.kind,.slice dd.sA dd.sn dd.sc,.slice dd.kA dd.kn dd.kc,.int .i64 dd.num,.int .i64 dd.least,.int .i64 dd.most,.int .i64 dd.way,.bool dd.fold] 42)):=(Below.refl _ _).alloc (Nat.le_refl _) _
 refine ⟨own_new w1 W.heap.size 42 8 1 #[.int .i64 dd.kind,.slice dd.sA dd.sn dd.sc,.slice dd.kA dd.kn dd.kc,.int .i64 dd.num,.int .i64 dd.least,.int .i64 dd.most,.int .i64 dd.way,.bool dd.fold] hm.size rfl (by unfold maxLen;omega),Kds.one (hnd.mv (Mvd.of_below hB fun k hk hL=>?_)),hps.next hB,hm.trans (Mvd.below hB),fun g hg=>?_⟩
 ·simp only [LM,Bool.or_eq_true,own1_iff,decide_eq_true_eq] at hL ⊢
  rcases hL with h|h|h
  ·exact .inl h
  ·exact .inr h
  ·simp [Value.ownBlock] at h;omega
 ·simp [Value.ownBlock] at hg
  subst hg
  exact pm_none (fun k hk=>pm_lt hps hk) (Nat.le_refl _)
theorem pat_end {b n c r B:Nat} {d:Int} {A:Option Addr} {l:List Int} {s1:PS} {V1 V2 U1 U2 v:Value} {w w2 w4:World} {tr:Tr} {dd:ND} (hP:PsAt b n c d A l s1 U1 U2 w2) (hV:Mvd (pm b V1 V2) (pm b U1 U2) w w2) (hr0:w.heap.size≤r) (hrB:r < B) (hwB:w.heap.size≤B) (hnr:pm b U1 U2 r=false) (hb:b < w.heap.size) (hnd:Nd (LM b B U1 U2 v) w2 tr dd) (cs:Array Value) (f:Bool) (hw4:w4=(w2.setRow r cs).setCell ⟨b,3,none⟩ (.bool f)) :
  Nd (fun k=>pm b U1 U2 k || decide (k < w.heap.size)) w4 tr dd∧PsAt b n c d A l { s1 with fold:=f } U1 U2 w4∧Mvd (pm b V1 V2) (pm b U1 U2) w w4:=by
 have hno:=pm_no hnr
 have h3:PsAt b n c d A l s1 U1 U2 (w2.setRow r cs):=hP.mvd (F:=fun i=>i == r) (F':=fun i=>i == r) (mvd_store cs (by simp) fun _ _ h=>h) fun i _ hi=>by
  have hi:i=r:=by simpa using hi
  subst hi
  exact ⟨hno.1,by omega,hno.2.1,hno.2.2⟩
 have hk:Kept b (w2.setRow r cs) ((w2.setRow r cs).setCell ⟨b,3,none⟩ (.bool f)):=(Kept.refl b _).set 3 _
 subst hw4
 refine ⟨(hnd.mv (mvd_store (M':=fun k=>pm b U1 U2 k || decide (k < w.heap.size)) cs (by simp [LM];exact .inr (.inl hrB)) fun k _ hk=>?_)).mv (Mvd.kept hk (by simp [pm])),h3.set (j:=3) rfl rfl rfl ⟨h3.lo,h3.hi⟩ h3.dp h3.gr,(hV.over (F:=fun i=>i == r) (F':=fun i=>i == r) (mvd_store cs (by simp) fun _ _ h=>h) fun i hi=>by simp;omega).trans (Mvd.kept hk (pm_b _ _ _))⟩
 simp only [LM,Bool.or_eq_true,decide_eq_true_eq] at hk ⊢
 rcases hk with h|h
 ·exact .inl h
 ·exact .inr (.inl (by omega))
theorem flat_sizeE (ts:List Tr):(ts.flatMap flatEi).length≤sizeL ts:=by
 induction ts with
 | nil=>simp
 | cons t ts ih =>
  rw [List.flatMap_cons,List.length_append,sizeL]
  have:(flatEi t).length≤sizeT t:=by
   unfold flatEi
   split
   ·rw [sizeT_eq];have:=sizeL_len t.kids;omega
   ·simp;exact sizeT_pos t
  omega
theorem flat_sizeL (ts:List Tr):sizeL (ts.flatMap flatRow)≤sizeL ts:=by
 induction ts with
 | nil=>simp
 | cons t ts ih =>
  rw [List.flatMap_cons,sizeL_append,sizeL]
  have:sizeL (flatRow t)≤sizeT t:=by
   unfold flatRow
   split
   ·simp [sizeL]
   ·split
    ·rw [sizeT_eq];omega
    ·simp [sizeL]
  omega
theorem row_size (ts:List Tr):sizeT (rowT ts)≤1+sizeL ts:=by
 have h:=flat_sizeL ts
 unfold rowT
 generalize ts.flatMap flatRow=us at h
 match us,h with
 | [],_=>simp only [rowOf,emptyT,sizeT_eq,Tr.kids,sizeL];omega
 | [t],h=>simp only [rowOf];simp [sizeL] at h;omega
 | a :: b :: us,h=>simp only [rowOf,sizeT_eq,Tr.kids];omega
theorem rep_size (ts:List Tr) (t:Tk):sizeL (repL ts t)≤sizeL ts+1:=by
 rcases List.eq_nil_or_concat ts with rfl|⟨us,x,rfl⟩
 ·simp [repL]
 ·rw [List.concat_eq_append,repL_snoc,size_snoc,size_snoc,repT,sizeT_eq]
  simp [Tr.kids,sizeL]
  omega
theorem branch_ok {d:Int} {l:List Int} {G:PS→Prop} {atomS:PS→Tk→Int→FR (Tr × PS)} (HG:AtomG d l G atomS):∀ (m:Nat) (s:PS) (ts:List Tr) (can:Bool) (ti:Int) (p:Tr × PS),G s→0≤s.at_→branchL atomS d l m s ts can ti=.ok p →
  G p.2∧s.at_≤p.2.at_∧(sizeT p.1:Int)≤1+sizeL ts+2 * (p.2.at_ - s.at_):=by
 intro m
 induction m with
 | zero=>intro s ts can ti p _ _ h;cases h
 | succ m ih =>
  intro s ts can ti p hg h0 h
  have hend:∀ p,(Except.ok (rowT ts,s):FR (Tr × PS))=.ok p→G p.2∧s.at_≤p.2.at_∧(sizeT p.1:Int)≤1+sizeL ts+2 * (p.2.at_ - s.at_):=by
   intro p h
   cases h
   have:=row_size ts
   exact ⟨hg,Int.le_refl _,by simp only;omega⟩
  rw [branchL] at h
  cases hn:nextS d l s with
  | error q=>rw [hn] at h;cases h
  | ok o =>
   rw [hn] at h
   cases o with
   | none=>exact hend p h
   | some q =>
    obtain ⟨t,nx⟩:=q
    have hmv:=next_mv hn h0
    simp only at h
    split at h
    ·exact hend p h
    ·rename_i hk
     split at h
     ·split at h
      ·cases h
      ·split at h
       ·cases h
       ·obtain ⟨k1,k2,k3⟩:=ih _ _ _ _ p (HG.rep s t nx hg hn) (by simp only;omega) h
        have:=rep_size ts t
        simp only at k2 k3
        exact ⟨k1,by omega,by omega⟩
     ·rename_i h6
      cases ha:atomS s t nx with
      | error q=>rw [ha] at h;cases h
      | ok q =>
       rw [ha] at h
       obtain ⟨a1,a2,a3⟩:=HG.go s t nx q hg h0 hn h6 (fun e=>hk (.inr e)) (fun e=>hk (.inl e)) ha
       obtain ⟨k1,k2,k3⟩:=ih _ _ _ _ p a1 (by omega) h
       rw [size_snoc] at k3
       exact ⟨k1,by omega,by push_cast at k3;omega⟩
set_option maxRecDepth 100000 in
set_option maxHeartbeats 16000000 in
theorem pattern44 {b n c:Nat} {d:Int} {A:Option Addr} {l:List Int} {G:PS→Prop} {atomS:PS→Tk→Int→FR (Tr × PS)} {s:PS} {V1 V2:Value} {w:World} (HT:Hid (TokC d l)) (HA:Hid (AtomC b n c d A l G atomS)) (HG:Hid (AtomG d l G atomS)) (h:PsAt b n c d A l s V1 V2 w) (hg:G s) :
  Calls Tryz.prog 44 #[.pointer (some ⟨b,0,none⟩)] w (POut b n c d A l (pm b V1 V2) w (patternS atomS d l s)):=by
 have hmf:∀ (fn:Fn) (first cap:Array Value) (w:World),(Instr.makeFunc fn first cap).run Tryz.prog w=.ok (.func fn first cap) w:=fun _ _ _ _=>rfl
 have hlen:=h.len
 have hsm:=h.small
 have hlt:=h.lt
 have hs0:=h.lo
 obtain ⟨W1,hW1⟩:∃ X,X=(w.alloc (.cells #[.pointer (some ⟨b,0,none⟩)] 74)).alloc (.cells #[.int .i64 0,.slice none 0 0,.slice none 0 0,.int .i64 0,.int .i64 0,.int .i64 0,.int .i64 0,.bool false] 42):=⟨_,rfl⟩
 have hB1:Below w.heap.size w W1:=by rw [hW1];exact ((Below.refl _ _).alloc (Nat.le_refl _) _).alloc (by simp) _
 have hs1:W1.heap.size=w.heap.size+2:=by rw [hW1];simp
 have hx1:W1.heap[w.heap.size]?=some (.cells #[.pointer (some ⟨b,0,none⟩)] 74 (0,0)):=by rw [hW1];exact hz_alloc (heap_alloc_new w _)
 have hz1:W1.heap[w.heap.size+1]?=some Z42:=by rw [hW1];have:=z42_new (w:=w.alloc (.cells #[.pointer (some ⟨b,0,none⟩)] 74));simpa using this
 obtain ⟨W,hW⟩:∃ X,X=W1.alloc (.cells #[.bool s.fold] 4):=⟨_,rfl⟩
 have hB2:Below W1.heap.size W1 W:=by rw [hW];exact (Below.refl _ _).alloc (Nat.le_refl _) _
 have hB:Below w.heap.size w W:=hB1.trans (hB2.mono hB1.size)
 have HB:=Lib.hid hB
 have HX:=Lib.hid (row_next hx1 hB2)
 have HZ:=Lib.hid (row_next hz1 hB2)
 have HF:=Lib.hid (show W.heap[w.heap.size+2]?=some (.cells #[.bool s.fold] 4 (0,0)) by rw [hW,← hs1];exact heap_alloc_new W1 _)
 have HSZ:=Lib.hid (show W.heap.size=w.heap.size+3 by rw [hW];simp [hs1])
 have HS1:=Lib.hid hs1
 have HPM:=Lib.hid (fun k hk=>pm_lt (k:=k) h hk)
 have HS:=Lib.hid (h.next hB)
 have hp1:=h.next hB1
 obtain ⟨p0,p1,p2,p3,p4,p5,p6,p7,pf⟩:=hp1.cells
 have xb:=cell_of_row _ _ 0 _ _ _ hx1
 simp at xb
 obtain ⟨R,hR⟩:∃ R,R=patternS atomS d l s:=⟨_,rfl⟩
 rw [← hR]
 unfold patternS at hR
 have HR:=Lib.hid hR
 have CB:=Lib.hid (branch77 HT HA HG (h.next hB) hg)
 have HGB:=Lib.hid (fun p (hp:branchS atomS d l s=.ok p)=>branch_ok HG.out _ s [] false 0 p hg hs0 hp)
 clear h hR hB hg hp1 hx1 hz1 hB1 hB2 hs1
 go_enter_defers Tryz.func44,Tryz.ntmps44
 go_upto_region 1 with (fail)
 rw [← hW1]
 clear hW1
 go_upto_region 2 with (fail)
 rw [HS1.out]
 rw [← hW]
 clear hW xb p0 p1 p2 p3 p4 p5 p6 p7 pf
 have hsz:=HSZ.out
 have hr0:w.heap.size < W.heap.size:=by omega
 have hr2:w.heap.size+2 < W.heap.size:=by omega
 have xb:=cell_of_row _ _ 0 _ _ _ HX.out
 simp at xb
 go_upto_region 3 with (fail)
 cases hbr:branchS atomS d l s with
 | error q =>
  have HER:=Lib.hid (show R=.error q by rw [HR.out,hbr])
  rw [hbr] at CB
  clear hbr HR HGB
  go_wp2_with (go_at_call 77;(with_reducible refine CB.out.mono ?_);rintro e w1 ⟨he,hbad⟩;obtain rfl:=(show e=.panicked (faultV q.1 q.2) from he);have HBAD:=Lib.hid hbad;clear he hbad)
  obtain ⟨M',cs,hm,hbb,hcs⟩:=HBAD.out
  have k0:=(hm.keep _ hr0 (pm_none HPM.out (Nat.le_refl _))).trans HX.out
  have k2:=(hm.keep _ hr2 (pm_none HPM.out (by omega))).trans HF.out
  refine leaves_cons (f:=76) (args:=#[.pointer (some ⟨w.heap.size+2,0,none⟩),.pointer (some ⟨w.heap.size,0,none⟩)]) (by simp) (by simp [go_sem]) ?_
  refine (back76 _ (was:=s.fold) (b:=b) (x:=cs[3]'(by omega)) (cell_of_row _ _ 0 _ _ _ k2) (cell_of_row _ _ 0 _ _ _ k0) (by rw [cell_of_row _ _ 3 _ _ _ hbb];exact Array.getElem?_eq_getElem _) (frozen_row hbb)).mono ?_
  rintro e u' w' ⟨rfl,rfl,rfl⟩
  show POut b n c d A l (pm b V1 V2) w R (.panicked (faultV q.1 q.2)) _
  rw [HER.out]
  exact ⟨rfl,(PBad.of (Mvd.of_below (M':=pm b V1 V2) HB.out fun _ _ h=>h) HBAD.out).set (pm_b _ _ _) _⟩
 | ok p =>
  obtain ⟨tr,s2⟩:=p
  have HR2:=Lib.hid (show patternL atomS d l s.fold (((l.length:Int) - s2.at_).toNat+1) s2 [tr]=R by rw [HR.out,hbr])
  have HG2:=Lib.hid (HGB.out _ hbr)
  rw [hbr] at CB
  clear hbr HR HGB
  go_wp2_with (go_at_call 77;(with_reducible refine CB.out.mono ?_);rintro e w1 ⟨dd,U1,U2,he,hnd,hps,hmv⟩;obtain rfl:=(show e=.returned (.agg #[.int .i64 dd.kind,.slice dd.sA dd.sn dd.sc,.slice dd.kA dd.kn dd.kc,.int .i64 dd.num,.int .i64 dd.least,.int .i64 dd.most,.int .i64 dd.way,.bool dd.fold]) from he);have HST:=Lib.hid (pat_start hnd hps hmv);clear he hnd hps hmv)
  obtain ⟨was,hwas⟩:∃ x,x=s.fold:=⟨_,rfl⟩
  have HWAS:=Lib.hid hwas
  rw [← hwas] at HF HR2
  clear hwas CB
  obtain ⟨a0,ha0⟩:∃ a0,a0=s.at_:=⟨_,rfl⟩
  have ha00:0≤a0:=by rw [ha0];exact hs0
  rw [← ha0] at HG2
  clear ha0
  go_loopw [4] (fun v wr=>∃ (m:Nat) (s1:PS) (ts:List Tr) (ds:List ND) (U1 U2:Value),Hid (patternL atomS d l was (m+1) s1 ts=R)∧Hid ((n:Int) - s1.at_≤m)∧Hid (wr.ownsRow W.heap.size 42 8 v ds.length (nds ds))∧Hid (Kds (LM b W.heap.size U1 U2 v) wr ts ds)∧Hid (PsAt b n c d A l s1 U1 U2 wr)∧Hid (Mvd (pm b V1 V2) (pm b U1 U2) W wr)∧Hid (∀ g,v.ownBlock=some g→pm b U1 U2 g=false)∧Hid (G s1)∧Hid ((sizeL ts:Int)≤3 * (s1.at_ - a0)+1)) (fun _ wr=>n - placeOf b wr)
  case atStart =>
   obtain ⟨k1,k2,k3,k4,k5⟩:=HST.out
   have hg:=HG2.out
   exact ⟨((l.length:Int) - s2.at_).toNat,s2,[tr],[dd],U1,U2,HR2,Lib.hid (by rw [hlen];omega),Lib.hid k1,Lib.hid k2,Lib.hid k3,Lib.hid k4,Lib.hid k5,Lib.hid hg.1,Lib.hid (by have h1:=hg.2.2;have h2:=hg.2.1;simp [sizeL] at h1 ⊢;omega)⟩
  case round =>
   clear HST HR2 HG2 HS
   obtain ⟨m,s1,ts,ds,U1,U2,HE,HMM,HO,HK,HP,HV,HOB,HG1,HSI⟩:=hrel
   have hr1:w.heap.size+1 < W.heap.size:=by omega
   have CN:=Lib.hid (next78 HT HP.out)
   obtain ⟨at1,hat1⟩:∃ x,x=s1.at_:=⟨_,rfl⟩
   have HAT:=Lib.hid hat1
   have hlo1:=HP.out.lo
   have hhi1:=HP.out.hi
   rw [← hat1] at hlo1 hhi1
   have HPL:=Lib.hid (show placeOf b wr=at1.toNat by unfold placeOf;rw [HP.out.cells.2.2.1,← hat1];rfl)
   rw [← hat1] at CN
   clear hat1
   have xbr:=(HV.out.keep _ hr0 (pm_none HPM.out (Nat.le_refl _))).trans HX.out
   clear xb
   have xb:=cell_of_row _ _ 0 _ _ _ xbr
   simp at xb
   clear xbr
   cases hnx:nextS d l s1 with
   | error q =>
    have HER:=Lib.hid (show R=.error q by rw [← HE.out,patternL,hnx])
    rw [hnx] at CN
    clear hnx HE
    go_wp2_with (go_at_call 78;(with_reducible refine CN.out.mono ?_);rintro e w1 ⟨he,hb⟩;obtain rfl:=(show e=.panicked (faultV q.1 q.2) from he);have HB1:=Lib.hid hb;clear he hb)
    have HP1:=Lib.hid (HP.out.next HB1.out)
    have HV1:=Lib.hid (HV.out.trans (Mvd.below HB1.out))
    have K0:=Lib.hid ((HV1.out.keep _ hr0 (pm_none HPM.out (Nat.le_refl _))).trans HX.out)
    have K2:=Lib.hid ((HV1.out.keep _ hr2 (pm_none HPM.out (by omega))).trans HF.out)
    obtain ⟨y3,hy3⟩:∃ y3,y3=Value.bool s1.fold:=⟨_,rfl⟩
    have KB:=Lib.hid (show w1.cell? ⟨b,3,none⟩=some y3∧w1.frozen? ⟨b,3,none⟩=false from ⟨by rw [hy3];exact HP1.out.cells.2.2.2.1,HP1.out.cells.2.2.2.2.2.2.2.2 3⟩)
    clear hy3
    refine leaves_cons (f:=76) (args:=#[.pointer (some ⟨w.heap.size+2,0,none⟩),.pointer (some ⟨w.heap.size,0,none⟩)]) (by simp) (by simp [go_sem]) ?_
    refine (back76 _ (was:=was) (b:=b) (x:=y3) (cell_of_row _ _ 0 _ _ _ K2.out) (cell_of_row _ _ 0 _ _ _ K0.out) KB.out.1 KB.out.2).mono ?_
    rintro e u' w' ⟨rfl,rfl,rfl⟩
    show POut b n c d A l (pm b V1 V2) w R (.panicked (faultV q.1 q.2)) _
    rw [HER.out]
    exact ⟨rfl,(HP1.out.bad ((Mvd.of_below (M:=pm b V1 V2) (M':=pm b V1 V2) HB.out fun _ _ h=>h).trans HV1.out)).set (pm_b _ _ _) _⟩
   | ok q =>
    cases q with
    | none =>
     have HER:=Lib.hid (show R=.ok (eiT ts,{ s1 with fold:=was }) by rw [← HE.out,patternL,hnx])
     rw [hnx] at CN
     clear hnx HE
     go_upto_region 6 with (go_at_call 78;(with_reducible refine CN.out.mono ?_);rintro e w1 ⟨he,hb⟩;obtain rfl:=(show e=.returned (.tuple #[.agg #[.int .i64 0,.int .i64 0,.string ⟨#[]⟩,.bool false,.int .i64 0,.int .i64 0,.int .i64 0,.int .i64 0],.int .i64 at1,.bool false]) from he);have HB1:=Lib.hid hb;clear he hb)
     have hbX:Below wr.heap.size wr (w1.alloc (.cells #[.int .i64 0,.int .i64 0,.string ⟨#[]⟩,.bool false,.int .i64 0,.int .i64 0,.int .i64 0,.int .i64 0] 108)):=HB1.out.alloc HB1.out.size _
     have HTX:=Lib.hid (show (w1.alloc (.cells #[.int .i64 0,.int .i64 0,.string ⟨#[]⟩,.bool false,.int .i64 0,.int .i64 0,.int .i64 0,.int .i64 0] 108)).heap[w1.heap.size]?=some (.cells #[.int .i64 0,.int .i64 0,.string ⟨#[]⟩,.bool false,.int .i64 0,.int .i64 0,.int .i64 0,.int .i64 0] 108 (0,0)) from heap_alloc_new w1 _)
     obtain ⟨X,hX⟩:∃ X,X=w1.alloc (.cells #[.int .i64 0,.int .i64 0,.string ⟨#[]⟩,.bool false,.int .i64 0,.int .i64 0,.int .i64 0,.int .i64 0] 108):=⟨_,rfl⟩
     rw [← hX] at hbX HTX ⊢
     have HOX:=Lib.hid (own_below HO.out hbX (Nat.le_refl _))
     have HKX:=Lib.hid (HK.out.mv (Mvd.below hbX))
     have HPX:=Lib.hid (HP.out.next hbX)
     have HVX:=Lib.hid (HV.out.trans (Mvd.below hbX))
     have HNR:=Lib.hid (show pm b U1 U2 (w.heap.size+1)=false by
      cases e:pm b U1 U2 (w.heap.size+1)
      ·rfl
      ·have:=HPM.out _ (HV.out.sub _ hr1 e);omega)
     have HZX:=Lib.hid (show X.heap[w.heap.size+1]?=some Z42 from (HVX.out.keep _ hr1 (pm_none HPM.out (by omega))).trans HZ.out)
     clear hX hbX HO HK HP HV HB1 xb
     obtain ⟨A3,c3,hv3,hc3,hm3⟩:=own_slice HOX.out
     subst hv3
     have HLE:=Lib.hid (show ds.length≤1000 by have h1:=HKX.out.len;have h2:=sizeL_len ts;have h3:=HSI.out;have h4:=HPX.out.hi;omega)
     have CR:=Lib.hid (either79 (c:=c3) (M:=LM b W.heap.size U1 U2 (.slice A3 ds.length c3)) (w:=X) (fun k hk=>by
      simp [LM] at hk
      rcases hk with hk|hk|hk
      ·exact pm_lt HPX.out hk
      ·exact Nat.lt_of_lt_of_le hk HVX.out.size
      ·exact (World.ownsRow.lt HOX.out k (own1_iff.1 hk)).2) HKX.out (Rds.of_own HOX.out) (by have:=HLE.out;omega) (by have h1:=flat_sizeE ts;have h3:=HSI.out;have h4:=HPX.out.hi;omega))
     clear hc3 hm3
     go_wp2_with (first
      | (go_at_call 79;(with_reducible refine CR.out.mono ?_);rintro e w2 ⟨⟨dd,he,hnd⟩,hb2⟩;obtain rfl:=(show e=.returned (.agg #[.int .i64 dd.kind,.slice dd.sA dd.sn dd.sc,.slice dd.kA dd.kn dd.kc,.int .i64 dd.num,.int .i64 dd.least,.int .i64 dd.most,.int .i64 dd.way,.bool dd.fold]) from he);have HND:=Lib.hid hnd;have HB2:=Lib.hid hb2;have HZ2:=Lib.hid (row_next HZX.out hb2);clear he hnd hb2)
      | ((with_reducible apply store42 (g:=w.heap.size+1));rfl;(with_reducible rfl);rfl;rfl;(exact HZ2.out);rfl;rfl))
     have HP2:=Lib.hid (HPX.out.next HB2.out)
     have HV2:=Lib.hid (HVX.out.trans (Mvd.below HB2.out))
     obtain ⟨F,hF⟩:∃ F,F=w2.setRow (w.heap.size+1) #[.int .i64 dd.kind,.slice dd.sA dd.sn dd.sc,.slice dd.kA dd.kn dd.kc,.int .i64 dd.num,.int .i64 dd.least,.int .i64 dd.most,.int .i64 dd.way,.bool dd.fold]:=⟨_,rfl⟩
     have hnoR:=pm_no HNR.out
     have hkF:∀ k,k≠w.heap.size+1→F.heap[k]?=w2.heap[k]?:=fun k hk=>by rw [hF];exact setRow_ne w2 _ _ k hk
     have HRF:=Lib.hid (show F.heap[w.heap.size+1]?=some (.cells #[.int .i64 dd.kind,.slice dd.sA dd.sn dd.sc,.slice dd.kA dd.kn dd.kc,.int .i64 dd.num,.int .i64 dd.least,.int .i64 dd.most,.int .i64 dd.way,.bool dd.fold] 42 (0,0)) by rw [hF];exact row42 HZ2.out)
     have K0:=Lib.hid ((hkF _ (by omega)).trans ((HV2.out.keep _ hr0 (pm_none HPM.out (Nat.le_refl _))).trans HX.out))
     have K2:=Lib.hid ((hkF _ (by omega)).trans ((HV2.out.keep _ hr2 (pm_none HPM.out (by omega))).trans HF.out))
     have hbF:=(hkF b (by omega)).trans HP2.out.hp
     obtain ⟨y3,hy3⟩:∃ y3,y3=Value.bool s1.fold:=⟨_,rfl⟩
     have KB:=Lib.hid (show F.cell? ⟨b,3,none⟩=some y3∧F.frozen? ⟨b,3,none⟩=false from ⟨by rw [hy3,cell_of_row _ _ 3 _ _ _ hbF];rfl,frozen_row hbF⟩)
     have HEN:=Lib.hid (pat_end (r:=w.heap.size+1) (B:=W.heap.size) (f:=was) HP2.out ((Mvd.of_below (M:=pm b V1 V2) (M':=pm b V1 V2) HB.out fun _ _ h=>h).trans HV2.out) (by omega) hr1 (by omega) HNR.out hlt HND.out #[.int .i64 dd.kind,.slice dd.sA dd.sn dd.sc,.slice dd.kA dd.kn dd.kc,.int .i64 dd.num,.int .i64 dd.least,.int .i64 dd.most,.int .i64 dd.way,.bool dd.fold] rfl)
     rw [← hF] at HEN ⊢
     clear hF hkF hbF hy3 hnoR
     refine leaves_cons (f:=76) (args:=#[.pointer (some ⟨w.heap.size+2,0,none⟩),.pointer (some ⟨w.heap.size,0,none⟩)]) (by simp) (by simp [go_sem]) ?_
     refine (back76 _ (was:=was) (b:=b) (x:=y3) (cell_of_row _ _ 0 _ _ _ K2.out) (cell_of_row _ _ 0 _ _ _ K0.out) KB.out.1 KB.out.2).mono ?_
     rintro e u' w' ⟨rfl,rfl,rfl⟩
     have hrw:(F.setCell ⟨b,3,none⟩ (.bool was)).heap[w.heap.size+1]?=some (.cells #[.int .i64 dd.kind,.slice dd.sA dd.sn dd.sc,.slice dd.kA dd.kn dd.kc,.int .i64 dd.num,.int .i64 dd.least,.int .i64 dd.most,.int .i64 dd.way,.bool dd.fold] 42 (0,0)):=hz_set (p:=⟨b,3,none⟩) HRF.out (by simp only;omega)
     obtain ⟨k1,k2,k3⟩:=HEN.out
     obtain ⟨Y,hY⟩:∃ Y,Y=F.setCell ⟨b,3,none⟩ (.bool was):=⟨_,rfl⟩
     rw [← hY] at hrw k1 k2 k3 ⊢
     clear hY
     refine ⟨_,results42 Tryz.results44 _ _ (w.heap.size+1) _ ?_ hrw rfl,?_⟩
     ·rfl
     ·rw [HER.out]
      exact ⟨dd,U1,U2,rfl,k1,k2,k3⟩
    | some q =>
     obtain ⟨t,nx⟩:=q
     have hmv:=next_mv hnx (by rw [HAT.out] at hlo1;exact hlo1)
     have HMV:=Lib.hid hmv
     rw [hnx] at CN
     have HNX:=Lib.hid hnx
     go_upto_region 5 with (go_at_call 78;(with_reducible refine CN.out.mono ?_);rintro e w1 ⟨he,hb⟩;obtain rfl:=(show e=.returned (.tuple #[.agg #[.int .i64 t.kind,.int .i64 t.num,.string ⟨t.text.toArray⟩,.bool t.not_,.int .i64 t.least,.int .i64 t.most,.int .i64 t.way,.int .i64 t.fold],.int .i64 nx,.bool true]) from he);have HB1:=Lib.hid hb;clear he hb)
     clear hnx hmv CN
     have hbX:Below wr.heap.size wr (w1.alloc (.cells #[.int .i64 t.kind,.int .i64 t.num,.string ⟨t.text.toArray⟩,.bool t.not_,.int .i64 t.least,.int .i64 t.most,.int .i64 t.way,.int .i64 t.fold] 108)):=HB1.out.alloc HB1.out.size _
     have HTX:=Lib.hid (show (w1.alloc (.cells #[.int .i64 t.kind,.int .i64 t.num,.string ⟨t.text.toArray⟩,.bool t.not_,.int .i64 t.least,.int .i64 t.most,.int .i64 t.way,.int .i64 t.fold] 108)).heap[w1.heap.size]?=some (.cells #[.int .i64 t.kind,.int .i64 t.num,.string ⟨t.text.toArray⟩,.bool t.not_,.int .i64 t.least,.int .i64 t.most,.int .i64 t.way,.int .i64 t.fold] 108 (0,0)) from heap_alloc_new w1 _)
     obtain ⟨X,hX⟩:∃ X,X=w1.alloc (.cells #[.int .i64 t.kind,.int .i64 t.num,.string ⟨t.text.toArray⟩,.bool t.not_,.int .i64 t.least,.int .i64 t.most,.int .i64 t.way,.int .i64 t.fold] 108):=⟨_,rfl⟩
     rw [← hX] at hbX HTX ⊢
     have HOX:=Lib.hid (own_below HO.out hbX (Nat.le_refl _))
     have HKX:=Lib.hid (HK.out.mv (Mvd.below hbX))
     have HPX:=Lib.hid (HP.out.next hbX)
     have HVX:=Lib.hid (HV.out.trans (Mvd.below hbX))
     have HNR:=Lib.hid (show pm b U1 U2 (w.heap.size+1)=false by
      cases e:pm b U1 U2 (w.heap.size+1)
      ·rfl
      ·have:=HPM.out _ (HV.out.sub _ hr1 e);omega)
     have HZX:=Lib.hid (show X.heap[w.heap.size+1]?=some Z42 from (HVX.out.keep _ hr1 (pm_none HPM.out (by omega))).trans HZ.out)
     clear hX hbX HO HK HP HV HB1 xb
     obtain ⟨t0,t1,t2,t3,t4,t5,t6,t7⟩:=cells8 HTX.out
     by_cases hk:t.kind=9
     ·have e1:(t.kind != 9)=false:=by simpa using hk
      have HE2:=Lib.hid (show (match branchS atomS d l { s1 with at_:=nx } with|.error q=>.error q|.ok p=>patternL atomS d l was m p.2 (ts ++ [p.1]))=R by rw [← HE.out,patternL,HNX.out];simp only;rw [if_neg (fun x=>x hk)])
      clear hk HE
      have xbr:=(HVX.out.keep _ hr0 (pm_none HPM.out (Nat.le_refl _))).trans HX.out
      have xb:=cell_of_row _ _ 0 _ _ _ xbr
      simp at xb
      obtain ⟨p0,p1,p2,p3,p4,p5,p6,p7,pf⟩:=HPX.out.cells
      clear xbr
      go_upto_region 8 with (fail)
      have hm:=HMV.out
      have hlx:=HPX.out.lo
      have HPB:=Lib.hid (show PsAt b n c d A l { s1 with at_:=nx } U1 U2 (X.setCell ⟨b,2,none⟩ (.int .i64 nx)) from HPX.out.set (j:=2) rfl rfl rfl ⟨by simp only;omega,by simp only;omega⟩ HPX.out.dp HPX.out.gr)
      have hkb:Kept b X (X.setCell ⟨b,2,none⟩ (.int .i64 nx)):=(Kept.refl b X).set 2 _
      have HOB2:=Lib.hid (own_keptb HOX.out hkb (by omega))
      have HKB2:=Lib.hid (HKX.out.mv (Mvd.kept hkb (by simp [LM,pm])))
      have HVB:=Lib.hid (HVX.out.trans (Mvd.kept hkb (pm_b _ _ _)))
      obtain ⟨X2,hX2⟩:∃ X2,X2=X.setCell ⟨b,2,none⟩ (.int .i64 nx):=⟨_,rfl⟩
      rw [← hX2] at HPB HOB2 HKB2 HVB ⊢
      have HNU:=Lib.hid (show ∀ k,w.heap.size≤k→k < W.heap.size→pm b U1 U2 k=false by
       intro k h1 h2
       cases e:pm b U1 U2 k
       ·rfl
       ·have:=HPM.out _ (HVX.out.sub _ h2 e);omega)
      have xbr:=(HVB.out.keep _ hr0 (pm_none HPM.out (Nat.le_refl _))).trans HX.out
      clear xb
      have xb:=cell_of_row _ _ 0 _ _ _ xbr
      simp at xb
      have hms:=HMV.out
      have CB2:=Lib.hid (branch77 HT HA HG HPB.out (HG.out.rep s1 t nx HG1.out HNX.out))
      have HGB:=Lib.hid (fun p (hp:branchS atomS d l { s1 with at_:=nx }=.ok p)=>branch_ok HG.out _ { s1 with at_:=nx } [] false 0 p (HG.out.rep s1 t nx HG1.out HNX.out) (by simp only;omega) hp)
      clear hX2 hm hms hlx hkb xbr HOX HKX HVX HPX HZX HNR p0 p1 p2 p3 p4 p5 p6 p7 pf t0 t1 t2 t3 t4 t5 t6 t7 HTX
      cases hbr:branchS atomS d l { s1 with at_:=nx } with
      | error q =>
       have HER:=Lib.hid (show R=.error q by rw [← HE2.out,hbr])
       rw [hbr] at CB2
       clear hbr HE2 HGB
       go_wp2_with (go_at_call 77;(with_reducible refine CB2.out.mono ?_);rintro e w3 ⟨he,hbad⟩;obtain rfl:=(show e=.panicked (faultV q.1 q.2) from he);have HBAD:=Lib.hid hbad;clear he hbad)
       obtain ⟨M',cs,hm,hbb,hcs⟩:=HBAD.out
       have hXs:=HVB.out.size
       have K0:=Lib.hid ((hm.keep _ (by omega) (HNU.out _ (Nat.le_refl _) hr0)).trans ((HVB.out.keep _ hr0 (pm_none HPM.out (Nat.le_refl _))).trans HX.out))
       have K2:=Lib.hid ((hm.keep _ (by omega) (HNU.out _ (by omega) hr2)).trans ((HVB.out.keep _ hr2 (pm_none HPM.out (by omega))).trans HF.out))
       obtain ⟨y3,hy3⟩:∃ y3,y3=cs[3]'(by omega):=⟨_,rfl⟩
       have KB:=Lib.hid (show w3.cell? ⟨b,3,none⟩=some y3∧w3.frozen? ⟨b,3,none⟩=false from ⟨by rw [hy3,cell_of_row _ _ 3 _ _ _ hbb];exact Array.getElem?_eq_getElem _,frozen_row hbb⟩)
       clear hy3 hm hbb hcs
       refine leaves_cons (f:=76) (args:=#[.pointer (some ⟨w.heap.size+2,0,none⟩),.pointer (some ⟨w.heap.size,0,none⟩)]) (by simp) (by simp [go_sem]) ?_
       refine (back76 _ (was:=was) (b:=b) (x:=y3) (cell_of_row _ _ 0 _ _ _ K2.out) (cell_of_row _ _ 0 _ _ _ K0.out) KB.out.1 KB.out.2).mono ?_
       rintro e u' w' ⟨rfl,rfl,rfl⟩
       show POut b n c d A l (pm b V1 V2) w R (.panicked (faultV q.1 q.2)) _
       rw [HER.out]
       exact ⟨rfl,(PBad.of ((Mvd.of_below (M:=pm b V1 V2) (M':=pm b V1 V2) HB.out fun _ _ h=>h).trans HVB.out) HBAD.out).set (pm_b _ _ _) _⟩
      | ok p =>
       obtain ⟨tr2,s3⟩:=p
       have HE3:=Lib.hid (show patternL atomS d l was m s3 (ts ++ [tr2])=R by rw [← HE2.out,hbr])
       have HG3:=Lib.hid (HGB.out _ hbr)
       rw [hbr] at CB2
       clear hbr HE2 HGB
       obtain ⟨A3,c3,hv3,hc3,hm3⟩:=own_slice HOB2.out
       subst hv3
       have HLD:=Lib.hid (show ds.length≤1000 by have h1:=HKB2.out.len;have h2:=sizeL_len ts;have h3:=HSI.out;have h4:=HMV.out;omega)
       clear hc3 hm3
       obtain ⟨N,hN⟩:∃ N,N=ds.length:=⟨_,rfl⟩
       have HNN:=Lib.hid hN
       rw [← hN] at HOB2 HKB2 HOB HLD ⊢
       clear hN
       go_wp2_with (first
        | (go_at_call 77;(with_reducible refine CB2.out.mono ?_);rintro e w3 ⟨dd,Q1,Q2,he,hnd,hps,hmv3⟩;obtain rfl:=(show e=.returned (.agg #[.int .i64 dd.kind,.slice dd.sA dd.sn dd.sc,.slice dd.kA dd.kn dd.kc,.int .i64 dd.num,.int .i64 dd.least,.int .i64 dd.most,.int .i64 dd.way,.bool dd.fold]) from he);have HND3:=Lib.hid hnd;have HPS3:=Lib.hid hps;have HMV3:=Lib.hid hmv3;have HOY:=Lib.hid (atom_own dd HOB2.out HOB.out hmv3);have HRY:=Lib.hid (show Rds (w3.alloc (.cells #[.int .i64 dd.kind,.slice dd.sA dd.sn dd.sc,.slice dd.kA dd.kn dd.kc,.int .i64 dd.num,.int .i64 dd.least,.int .i64 dd.most,.int .i64 dd.way,.bool dd.fold] 42)) (w3.heap.size+1) 8 (some ⟨w3.heap.size,0,none⟩) 1 (nds [dd]) from Rds.new w3 8 1 _ 42 (nds [dd]) rfl rfl);have hsY:W.heap.size≤(w3.alloc (.cells #[.int .i64 dd.kind,.slice dd.sA dd.sn dd.sc,.slice dd.kA dd.kn dd.kc,.int .i64 dd.num,.int .i64 dd.least,.int .i64 dd.most,.int .i64 dd.way,.bool dd.fold] 42)).heap.size:=Nat.le_trans (Nat.le_trans HVB.out.size hmv3.size) (by simp);clear he hnd hps hmv3)
        | (at_builtin;refine app_nodes (.tmp 35) (.tmp 38) (base:=W.heap.size) (xs:=ds) (ys:=[dd]) (n:=N) (m:=1) HOY.out HRY.out (by have:=HLD.out;omega) hsY rfl rfl rfl rfl ?_;intro v3 w6 hown3 hg3 hat3;have HO6:=Lib.hid hown3;have HST:=Lib.hid (atom_step HNN.out HOB2.out HKB2.out HVB.out HOB.out HND3.out HPS3.out HMV3.out (by omega) hg3 hat3);clear hown3 hg3 hat3))
       obtain ⟨k1,k2,k3,k4⟩:=HST.out
       have HP6:=Lib.hid k2
       have h3:=HAT.out
       have hmx:=HMV.out
       have hg3:=HG3.out
       have hhi3:=k2.hi
       have h2:=HPL.out
       have h5:=HSI.out
       have hmm:=HMM.out
       simp only [sizeL] at hg3
       go_roundw
       case rel =>
        refine ⟨m - 1,s3,ts ++ [tr2],ds ++ [dd],Q1,Q2,Lib.hid ?_,Lib.hid (by omega),Lib.hid ?_,Lib.hid k1,HP6,Lib.hid k3,Lib.hid k4,Lib.hid hg3.1,Lib.hid ?_⟩
        ·rw [show m - 1+1=m by omega];exact HE3.out
        ·rw [List.length_append,← HNN.out];exact HO6.out
        ·rw [size_snoc];omega
       case measure =>
        have h1:placeOf b w6=s3.at_.toNat:=by unfold placeOf;rw [HP6.out.cells.2.2.1];rfl
        rw [h1,h2]
        omega
     ·have e1:(t.kind != 9)=true:=by simpa using hk
      have HER:=Lib.hid (show R=.ok (eiT ts,{ s1 with fold:=was }) by rw [← HE.out,patternL,HNX.out];simp only;rw [if_pos hk])
      clear hk HE HNX
      go_upto_region 6 with (fail)
      clear t0 t1 t2 t3 t4 t5 t6 t7 e1
      obtain ⟨A3,c3,hv3,hc3,hm3⟩:=own_slice HOX.out
      subst hv3
      have HLE:=Lib.hid (show ds.length≤1000 by have h1:=HKX.out.len;have h2:=sizeL_len ts;have h3:=HSI.out;have h4:=HPX.out.hi;omega)
      have CR:=Lib.hid (either79 (c:=c3) (M:=LM b W.heap.size U1 U2 (.slice A3 ds.length c3)) (w:=X) (fun k hk=>by
       simp [LM] at hk
       rcases hk with hk|hk|hk
       ·exact pm_lt HPX.out hk
       ·exact Nat.lt_of_lt_of_le hk HVX.out.size
       ·exact (World.ownsRow.lt HOX.out k (own1_iff.1 hk)).2) HKX.out (Rds.of_own HOX.out) (by have:=HLE.out;omega) (by have h1:=flat_sizeE ts;have h3:=HSI.out;have h4:=HPX.out.hi;omega))
      clear hc3 hm3
      go_wp2_with (first
       | (go_at_call 79;(with_reducible refine CR.out.mono ?_);rintro e w2 ⟨⟨dd,he,hnd⟩,hb2⟩;obtain rfl:=(show e=.returned (.agg #[.int .i64 dd.kind,.slice dd.sA dd.sn dd.sc,.slice dd.kA dd.kn dd.kc,.int .i64 dd.num,.int .i64 dd.least,.int .i64 dd.most,.int .i64 dd.way,.bool dd.fold]) from he);have HND:=Lib.hid hnd;have HB2:=Lib.hid hb2;have HZ2:=Lib.hid (row_next HZX.out hb2);clear he hnd hb2)
       | ((with_reducible apply store42 (g:=w.heap.size+1));rfl;(with_reducible rfl);rfl;rfl;(exact HZ2.out);rfl;rfl))
      have HP2:=Lib.hid (HPX.out.next HB2.out)
      have HV2:=Lib.hid (HVX.out.trans (Mvd.below HB2.out))
      obtain ⟨F,hF⟩:∃ F,F=w2.setRow (w.heap.size+1) #[.int .i64 dd.kind,.slice dd.sA dd.sn dd.sc,.slice dd.kA dd.kn dd.kc,.int .i64 dd.num,.int .i64 dd.least,.int .i64 dd.most,.int .i64 dd.way,.bool dd.fold]:=⟨_,rfl⟩
      have hnoR:=pm_no HNR.out
      have hkF:∀ k,k≠w.heap.size+1→F.heap[k]?=w2.heap[k]?:=fun k hk=>by rw [hF];exact setRow_ne w2 _ _ k hk
      have HRF:=Lib.hid (show F.heap[w.heap.size+1]?=some (.cells #[.int .i64 dd.kind,.slice dd.sA dd.sn dd.sc,.slice dd.kA dd.kn dd.kc,.int .i64 dd.num,.int .i64 dd.least,.int .i64 dd.most,.int .i64 dd.way,.bool dd.fold] 42 (0,0)) by rw [hF];exact row42 HZ2.out)
      have K0:=Lib.hid ((hkF _ (by omega)).trans ((HV2.out.keep _ hr0 (pm_none HPM.out (Nat.le_refl _))).trans HX.out))
      have K2:=Lib.hid ((hkF _ (by omega)).trans ((HV2.out.keep _ hr2 (pm_none HPM.out (by omega))).trans HF.out))
      have hbF:=(hkF b (by omega)).trans HP2.out.hp
      obtain ⟨y3,hy3⟩:∃ y3,y3=Value.bool s1.fold:=⟨_,rfl⟩
      have KB:=Lib.hid (show F.cell? ⟨b,3,none⟩=some y3∧F.frozen? ⟨b,3,none⟩=false from ⟨by rw [hy3,cell_of_row _ _ 3 _ _ _ hbF];rfl,frozen_row hbF⟩)
      have HEN:=Lib.hid (pat_end (r:=w.heap.size+1) (B:=W.heap.size) (f:=was) HP2.out ((Mvd.of_below (M:=pm b V1 V2) (M':=pm b V1 V2) HB.out fun _ _ h=>h).trans HV2.out) (by omega) hr1 (by omega) HNR.out hlt HND.out #[.int .i64 dd.kind,.slice dd.sA dd.sn dd.sc,.slice dd.kA dd.kn dd.kc,.int .i64 dd.num,.int .i64 dd.least,.int .i64 dd.most,.int .i64 dd.way,.bool dd.fold] rfl)
      rw [← hF] at HEN ⊢
      clear hF hkF hbF hy3 hnoR
      refine leaves_cons (f:=76) (args:=#[.pointer (some ⟨w.heap.size+2,0,none⟩),.pointer (some ⟨w.heap.size,0,none⟩)]) (by simp) (by simp [go_sem]) ?_
      refine (back76 _ (was:=was) (b:=b) (x:=y3) (cell_of_row _ _ 0 _ _ _ K2.out) (cell_of_row _ _ 0 _ _ _ K0.out) KB.out.1 KB.out.2).mono ?_
      rintro e u' w' ⟨rfl,rfl,rfl⟩
      have hrw:(F.setCell ⟨b,3,none⟩ (.bool was)).heap[w.heap.size+1]?=some (.cells #[.int .i64 dd.kind,.slice dd.sA dd.sn dd.sc,.slice dd.kA dd.kn dd.kc,.int .i64 dd.num,.int .i64 dd.least,.int .i64 dd.most,.int .i64 dd.way,.bool dd.fold] 42 (0,0)):=hz_set (p:=⟨b,3,none⟩) HRF.out (by simp only;omega)
      obtain ⟨k1,k2,k3⟩:=HEN.out
      obtain ⟨Y,hY⟩:∃ Y,Y=F.setCell ⟨b,3,none⟩ (.bool was):=⟨_,rfl⟩
      rw [← hY] at hrw k1 k2 k3 ⊢
      clear hY
      refine ⟨_,results42 Tryz.results44 _ _ (w.heap.size+1) _ ?_ hrw rfl,?_⟩
      ·rfl
      ·rw [HER.out]
       exact ⟨dd,U1,U2,rfl,k1,k2,k3⟩
end Go.Proofs.YtbiahhojnjchnaaGreat
