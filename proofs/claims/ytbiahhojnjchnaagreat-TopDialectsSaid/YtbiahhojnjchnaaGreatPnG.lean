/-
  A branch: walked, over what its atoms tell.
-/
import Derived.Test.YtbiahhojnjchnaaGreatIG
set_option linter.unusedVariables false
set_option linter.unusedSimpArgs false
namespace Go.Proofs.YtbiahhojnjchnaaGreat
open Go.RowKit
/-- what a branch's trees lie apart from -/
def LM (b B:Nat) (U1 U2 v:Value) (k:Nat):Bool:=pm b U1 U2 k || (decide (k < B) || own1 v k)
theorem flat_size (ts:List Tr):(ts.flatMap flatRow).length≤sizeL ts:=by
 induction ts with
 | nil=>simp
 | cons t ts ih =>
  rw [List.flatMap_cons,List.length_append,sizeL]
  have:(flatRow t).length≤sizeT t:=by
   unfold flatRow
   split
   ·simp
   ·split
    ·rw [sizeT_eq];have:=sizeL_len t.kids;omega
    ·simp;exact sizeT_pos t
  omega
theorem next_mv {d:Int} {l:List Int} {s:PS} {t:Tk} {nx:Int} (h:nextS d l s=.ok (some (t,nx))) (h0:0≤s.at_):s.at_ < l.length∧s.at_+1≤nx∧nx≤l.length:=by
 unfold nextS at h
 split at h
 ·cases h
 ·split at h
  ·cases h
  ·rename_i h1 _ p hp
   injection h with h;injection h with h
   subst h
   have:=token_mv d l s.at_ (by omega) t nx hp
   exact ⟨by omega,this.1,this.2⟩
/-- what is asked of the atoms, plain -/
structure AtomG (d:Int) (l:List Int) (G:PS→Prop) (atomS:PS→Tk→Int→FR (Tr × PS)):Prop where
 go:∀ s t nx p,G s→0≤s.at_→nextS d l s=.ok (some (t,nx))→t.kind≠6→t.kind≠8→t.kind≠9→atomS s t nx=.ok p→G p.2∧nx≤p.2.at_∧(sizeT p.1:Int)≤2 * (p.2.at_ - s.at_)
 rep:∀ s t nx,G s→nextS d l s=.ok (some (t,nx))→G { s with at_:=nx }
 fo:∀ s f,G s→G { s with fold:=f }
theorem mvd_store {M M':Nat→Bool} {w:World} {r:Nat} (cs:Array Value) (hr:M r=true) (hs:∀ k,k < w.heap.size→M' k=true→M k=true):Mvd M M' w (w.setRow r cs):=by
 have h:=Below.setRow (Below.refl r w) (Nat.le_refl r) cs
 exact ⟨h.os,h.tape,h.output,h.size,fun k _ hm=>setRow_ne w r cs k (fun e=>by rw [e,hr] at hm;cases hm),hs⟩
theorem branch_end {b n c:Nat} {d:Int} {A:Option Addr} {l:List Int} {s1:PS} {V1 V2 U1 U2 v:Value} {w w2:World} {tr:Tr} {dd:ND} (hP:PsAt b n c d A l s1 U1 U2 w2) (hV:Mvd (pm b V1 V2) (pm b U1 U2) w w2) (hnr:pm b U1 U2 w.heap.size=false) (hb:b < w.heap.size) (hnd:Nd (LM b (w.heap.size+1) U1 U2 v) w2 tr dd) (cs:Array Value) :
  Nd (fun k=>pm b U1 U2 k || decide (k < w.heap.size)) (w2.setRow w.heap.size cs) tr dd∧PsAt b n c d A l s1 U1 U2 (w2.setRow w.heap.size cs)∧Mvd (pm b V1 V2) (pm b U1 U2) w (w2.setRow w.heap.size cs):=by
 refine ⟨hnd.mv (mvd_store cs (by simp [LM]) fun k _ hk=>?_),hP.mvd (F:=fun i=>i == w.heap.size) (F':=fun i=>i == w.heap.size) (mvd_store cs (by simp) fun _ _ h=>h) (fun i _ hi=>?_),hV.over (F:=fun i=>i == w.heap.size) (F':=fun i=>i == w.heap.size) (mvd_store cs (by simp) fun _ _ h=>h) fun i hi=>by simp;omega⟩
 ·simp [LM] at hk ⊢
  rcases hk with hk|hk
  ·exact .inl hk
  ·exact .inr (.inl (by omega))
 ·have hi:i=w.heap.size:=by simpa using hi
  subst hi
  have:=pm_no hnr
  exact ⟨this.1,hb,this.2.1,this.2.2⟩
theorem own_at {w:World} {base n c size:Nat} {A:Option Addr} {e:TypeId} {xs:List Value} (h:w.ownsRow base e size (.slice A n c) n xs) (hn:0 < n):∃ g,A=some ⟨g,0,none⟩∧base≤g∧g < w.heap.size∧∀ o,w.frozen? ⟨g,o,none⟩=false:=by
 rcases h.2 with ⟨_,h0⟩|⟨g,cap,cur,hv,hb,hh,_⟩
 ·omega
 ·injection hv with h1
  exact ⟨g,h1,hb,lt_heap hh,fun o=>frozen_row hh⟩
theorem Kds.left {M:Nat→Bool} {w:World} {ts us:List Tr} {ds es:List ND} (hl:ts.length=ds.length) (h:Kds M w (ts ++ us) (ds ++ es)):Kds M w ts ds∧Kds M w us es:=by
 have hlen:=h.len
 rw [List.length_append,List.length_append] at hlen
 refine ⟨KidsAt.of hl fun k h1 h2=>?_,KidsAt.of (by omega) fun k h1 h2=>?_⟩
 ·have:=h.at k (by rw [List.length_append];omega) (by rw [List.length_append];omega)
  rwa [List.getElem_append_left h1,List.getElem_append_left h2] at this
 ·have:=h.at (ts.length+k) (by rw [List.length_append];omega) (by rw [List.length_append];omega)
  rw [List.getElem_append_right (by omega),List.getElem_append_right (by omega)] at this
  simp only [hl,Nat.add_sub_cancel_left] at this
  exact this
def repD (X:World) (t:Tk):ND:=⟨12,none,0,0,some ⟨X.heap.size,0,none⟩,1,1,0,t.least,t.most,t.way,false⟩
/-- the last node of a row made one that repeats it -/
theorem put_last {b n c N c3 b3 K:Nat} {d:Int} {A:Option Addr} {l:List Int} {s1:PS} {U1 U2:Value} {W X:World} {M0:Nat→Bool} {ts0:List Tr} {x:Tr} {ds0:List ND} {y:ND} (t:Tk)
  (hO:X.ownsRow W.heap.size 42 8 (.slice (some ⟨b3,0,none⟩) N c3) N (nds (ds0 ++ [y]))) (hK:Kds (LM b W.heap.size U1 U2 (.slice (some ⟨b3,0,none⟩) N c3)) X (ts0 ++ [x]) (ds0 ++ [y])) (hP:PsAt b n c d A l s1 U1 U2 X) (hV:Mvd M0 (pm b U1 U2) W X)
  (hOB:pm b U1 U2 b3=false) (hbB:b < W.heap.size) (hKK:K=ds0.length) (Z:World) (hZ:Z=(((((((((X.setCell ⟨b3,K * 8,none⟩ (.int .i64 12)).setCell ⟨b3,K * 8+1,none⟩ (.slice none 0 0)).setCell ⟨b3,K * 8+2,none⟩ (.slice (some ⟨X.heap.size,0,none⟩) 1 1)).setCell ⟨b3,K * 8+3,none⟩ (.int .i64 0)).setCell ⟨b3,K * 8+4,none⟩ (.int .i64 t.least)).setCell ⟨b3,K * 8+5,none⟩ (.int .i64 t.most)).setCell ⟨b3,K * 8+6,none⟩ (.int .i64 t.way)).setCell ⟨b3,K * 8+7,none⟩ (.bool false)).alloc (.cells #[.int .i64 y.kind,.slice y.sA y.sn y.sc,.slice y.kA y.kn y.kc,.int .i64 y.num,.int .i64 y.least,.int .i64 y.most,.int .i64 y.way,.bool y.fold] 42)).drew) :
  Z.ownsRow W.heap.size 42 8 (.slice (some ⟨b3,0,none⟩) N c3) N (nds (ds0 ++ [repD X t]))∧Kds (LM b W.heap.size U1 U2 (.slice (some ⟨b3,0,none⟩) N c3)) Z (ts0 ++ [repT x t]) (ds0 ++ [repD X t])∧PsAt b n c d A l s1 U1 U2 Z∧Mvd M0 (pm b U1 U2) W Z:=by
 subst hKK
 have hb3:=World.ownsRow.lt hO b3 rfl
 obtain ⟨Y,hY⟩:∃ Y,Y=((((((((X.setCell ⟨b3,ds0.length * 8,none⟩ (.int .i64 12)).setCell ⟨b3,ds0.length * 8+1,none⟩ (.slice none 0 0)).setCell ⟨b3,ds0.length * 8+2,none⟩ (.slice (some ⟨X.heap.size,0,none⟩) 1 1)).setCell ⟨b3,ds0.length * 8+3,none⟩ (.int .i64 0)).setCell ⟨b3,ds0.length * 8+4,none⟩ (.int .i64 t.least)).setCell ⟨b3,ds0.length * 8+5,none⟩ (.int .i64 t.most)).setCell ⟨b3,ds0.length * 8+6,none⟩ (.int .i64 t.way)).setCell ⟨b3,ds0.length * 8+7,none⟩ (.bool false)):=⟨_,rfl⟩
 have hKY:Kept b3 X Y:=by rw [hY];exact ((((((((Kept.refl b3 X).set _ _).set _ _).set _ _).set _ _).set _ _).set _ _).set _ _).set _ _
 have hYs:Y.heap.size=X.heap.size:=by rw [hY];simp [World.setCell]
 have hOY:Y.ownsRow W.heap.size 42 8 (.slice (some ⟨b3,0,none⟩) N c3) N (nds (ds0 ++ [repD X t])):=by rw [hY];exact own_put_last (repD X t) hO
 rw [← hY] at hZ
 have hBZ:Below Y.heap.size Y Z:=by rw [hZ];exact ((Below.refl _ _).alloc (Nat.le_refl _) _).drew
 have hNZ:Rds Z (Y.heap.size+1) 8 (some ⟨Y.heap.size,0,none⟩) 1 (nds [y]):=by
  rw [hZ]
  exact (Rds.new Y 8 1 #[.int .i64 y.kind,.slice y.sA y.sn y.sc,.slice y.kA y.kn y.kc,.int .i64 y.num,.int .i64 y.least,.int .i64 y.most,.int .i64 y.way,.bool y.fold] 42 (nds [y]) rfl rfl).below (Below.drew (Below.refl _ _)) (Nat.le_refl _)
 have hsZ:Z.heap.size=Y.heap.size+1:=by rw [hZ];simp
 clear hZ hY
 have hML:Mvd (LM b W.heap.size U1 U2 (.slice (some ⟨b3,0,none⟩) N c3)) (LM b W.heap.size U1 U2 (.slice (some ⟨b3,0,none⟩) N c3)) X Z:=(Mvd.kept hKY (by simp [LM,own1,Value.ownBlock])).trans (Mvd.below hBZ)
 have hlK:=hK.len
 obtain ⟨k1,k2⟩:=(hK.mv hML).left (by simpa using hlK)
 have hx:Nd (LM b W.heap.size U1 U2 (.slice (some ⟨b3,0,none⟩) N c3)) Z x y:=k2.at 0 (by simp) (by simp)
 have hno:=pm_no hOB
 refine ⟨own_below hOY hBZ (Nat.le_refl _),k1.append (Kds.one ?_),?_,?_⟩
 ·refine nd_of [y] ⟨rfl,rfl,rfl,rfl,rfl,rfl,nil_rds _ _ _,Nat.le_refl _,Nat.zero_le _,?_,Nat.le_refl _,(show 1≤maxLen by unfold maxLen;omega),Kds.one hx⟩
  refine ⟨rfl,fun _=>?_⟩
  obtain ⟨b4,o4,hA4,-,hc4⟩:=hNZ.2 (Nat.zero_lt_one)
  injection hA4 with hA4
  injection hA4 with h1 h2
  subst h1 h2
  refine ⟨Y.heap.size,0,by show some (⟨X.heap.size,0,none⟩:Addr)=_;rw [hYs],by omega,fun j u hu=>mask_of ?_ (hc4 j u hu)⟩
  rw [hYs]
  simp only [LM,own1,Value.ownBlock]
  have e1:pm b U1 U2 X.heap.size=false:=by
   cases e:pm b U1 U2 X.heap.size
   ·rfl
   ·exact absurd (pm_lt hP e) (Nat.lt_irrefl _)
  rw [e1]
  have:=hV.size
  simp
  omega
 ·exact (hP.mvd (F:=fun i=>i == b3) (F':=fun i=>i == b3) (Mvd.kept hKY (by simp)) fun i _ hi=>by
   have hi:i=b3:=by simpa using hi
   subst hi
   exact ⟨hno.1,by omega,hno.2.1,hno.2.2⟩).next hBZ
 ·exact (hV.over (F:=fun i=>i == b3) (F':=fun i=>i == b3) (Mvd.kept hKY (by simp)) fun i hi=>by simp;omega).trans (Mvd.below hBZ)
theorem atom_own {b n:Nat} {U1 U2 Q1 Q2 v:Value} {W X w3:World} {xs:List Value} (dd:ND) (hO:X.ownsRow W.heap.size 42 8 v n xs) (hOB:∀ g,v.ownBlock=some g→pm b U1 U2 g=false) (hm:Mvd (pm b U1 U2) (pm b Q1 Q2) X w3):(w3.alloc (.cells #[.int .i64 dd.kind,.slice dd.sA dd.sn dd.sc,.slice dd.kA dd.kn dd.kc,.int .i64 dd.num,.int .i64 dd.least,.int .i64 dd.most,.int .i64 dd.way,.bool dd.fold] 42)).ownsRow W.heap.size 42 8 v n xs :=
 own_below (own_keptg hO fun g hg=>hm.keep g (World.ownsRow.lt hO g hg).2 (hOB g hg)) ((Below.refl w3.heap.size w3).alloc (Nat.le_refl _) _) (Nat.le_refl _)
theorem atom_cell {b k:Nat} {U1 U2 Q1 Q2 v:Value} {X w3 w6:World} {o:Obj} (dd:ND) (h:X.heap[k]?=some o) (hm:Mvd (pm b U1 U2) (pm b Q1 Q2) X w3) (hg:(w3.alloc (.cells #[.int .i64 dd.kind,.slice dd.sA dd.sn dd.sc,.slice dd.kA dd.kn dd.kc,.int .i64 dd.num,.int .i64 dd.least,.int .i64 dd.most,.int .i64 dd.way,.bool dd.fold] 42)).grownBy w6 v.ownBlock) (hk:pm b U1 U2 k=false) (hv:v.ownBlock≠some k):w6.heap[k]?=some o:=by
 have h1:w3.heap[k]?=some o:=(hm.keep k (lt_heap h) hk).trans h
 have h2:(w3.alloc (.cells #[.int .i64 dd.kind,.slice dd.sA dd.sn dd.sc,.slice dd.kA dd.kn dd.kc,.int .i64 dd.num,.int .i64 dd.least,.int .i64 dd.most,.int .i64 dd.way,.bool dd.fold] 42)).heap[k]?=some o:=hz_alloc h1
 exact (hg.block k (lt_heap h2) fun e=>hv e.symm).trans h2
theorem atom_step {b n c N:Nat} {d:Int} {A:Option Addr} {l:List Int} {s2:PS} {U1 U2 Q1 Q2 v v3:Value} {W X w3 w6:World} {M0:Nat→Bool} {ts:List Tr} {tr:Tr} {ds:List ND} {dd:ND} (hN:N=ds.length)
  (hO:X.ownsRow W.heap.size 42 8 v N (nds ds)) (hK:Kds (LM b W.heap.size U1 U2 v) X ts ds) (hV:Mvd M0 (pm b U1 U2) W X) (hOB:∀ g,v.ownBlock=some g→pm b U1 U2 g=false)
  (hnd:Nd (fun k=>pm b Q1 Q2 k || decide (k < X.heap.size)) w3 tr dd) (hps:PsAt b n c d A l s2 Q1 Q2 w3) (hm:Mvd (pm b U1 U2) (pm b Q1 Q2) X w3) (hbW:b < W.heap.size)
  (hg:(w3.alloc (.cells #[.int .i64 dd.kind,.slice dd.sA dd.sn dd.sc,.slice dd.kA dd.kn dd.kc,.int .i64 dd.num,.int .i64 dd.least,.int .i64 dd.most,.int .i64 dd.way,.bool dd.fold] 42)).grownBy w6 v.ownBlock) (hat:v3.ownBlock=v.ownBlock∨v3.ownBlock=some (w3.alloc (.cells #[.int .i64 dd.kind,.slice dd.sA dd.sn dd.sc,.slice dd.kA dd.kn dd.kc,.int .i64 dd.num,.int .i64 dd.least,.int .i64 dd.most,.int .i64 dd.way,.bool dd.fold] 42)).heap.size) :
  Kds (LM b W.heap.size Q1 Q2 v3) w6 (ts ++ [tr]) (ds ++ [dd])∧PsAt b n c d A l s2 Q1 Q2 w6∧Mvd M0 (pm b Q1 Q2) W w6∧∀ g,v3.ownBlock=some g→pm b Q1 Q2 g=false:=by
 obtain ⟨Y,hY⟩:∃ Y,Y=w3.alloc (.cells #[.int .i64 dd.kind,.slice dd.sA dd.sn dd.sc,.slice dd.kA dd.kn dd.kc,.int .i64 dd.num,.int .i64 dd.least,.int .i64 dd.most,.int .i64 dd.way,.bool dd.fold] 42):=⟨_,rfl⟩
 rw [← hY] at hg hat
 have hB:Below w3.heap.size w3 Y:=by rw [hY];exact (Below.refl _ _).alloc (Nat.le_refl _) _
 have hsY:Y.heap.size=w3.heap.size+1:=by rw [hY];simp
 clear hY
 have hov:=fun g (h:v.ownBlock=some g)=>World.ownsRow.lt hO g h
 have hXs:=hV.size
 have h3s:=hm.size
 have hvQ:∀ g,v.ownBlock=some g→pm b Q1 Q2 g=false:=fun g h=>by
  cases e:pm b Q1 Q2 g
  ·rfl
  ·rw [← hOB g h];exact (hm.sub g (hov g h).2 e).symm
 have hGL:Mvd (LM b W.heap.size Q1 Q2 v) (LM b W.heap.size Q1 Q2 v3) Y w6:=by
  refine Mvd.grown hg (fun g h=>by simp [LM,own1,h]) fun k hk hL=>?_
  simp only [LM,Bool.or_eq_true,own1_iff] at hL ⊢
  rcases hL with h|h|h
  ·exact .inl h
  ·exact .inr (.inl h)
  ·rcases hat with e|e
   ·exact .inr (.inr (e ▸ h))
   ·rw [h] at e;injection e with e;omega
 have hKY:Kds (LM b W.heap.size Q1 Q2 v) Y ts ds:=(hK.mv (hm.or (fun k=>decide (k < W.heap.size) || own1 v k))).mv (Mvd.below hB)
 have hTY:Nd (LM b W.heap.size Q1 Q2 v) Y tr dd:=(hnd.mv (Mvd.less w3 fun k _ hL=>by
  simp only [LM,Bool.or_eq_true,own1_iff,decide_eq_true_eq] at hL ⊢
  rcases hL with h|h|h
  ·exact .inl h
  ·exact .inr (by omega)
  ·exact .inr (hov k h).2)).mv (Mvd.below hB)
 refine ⟨(hKY.mv hGL).append (Kds.one (hTY.mv hGL)),?_,?_,?_⟩
 ·refine (hps.next hB).mvd (F:=own1 v) (F':=own1 v) (Mvd.grown hg (fun g h=>own1_iff.2 h) fun _ _ h=>h) fun i _ hi=>?_
  have hi:=own1_iff.1 hi
  have h1:=pm_no (hvQ i hi)
  exact ⟨h1.1,by have:=(hov i hi).1;omega,h1.2.1,h1.2.2⟩
 ·refine ((hV.trans hm).trans (Mvd.below hB)).over (F:=own1 v) (F':=own1 v) (Mvd.grown hg (fun g h=>by simp [own1,h]) fun _ _ h=>h) fun i hi=>?_
  cases e:own1 v i
  ·rfl
  ·have:=(hov i (own1_iff.1 e)).1;omega
 ·intro g h
  rcases hat with e|e
  ·exact hvQ g (e ▸ h)
  ·rw [h] at e
   injection e with e
   cases e2:pm b Q1 Q2 g
   ·rfl
   ·have:=pm_lt hps e2;omega
theorem size_snoc (ts:List Tr) (t:Tr):sizeL (ts ++ [t])=sizeL ts+sizeT t:=by
 rw [sizeL_append];simp [sizeL]
set_option maxRecDepth 100000 in
set_option maxHeartbeats 16000000 in
theorem branch77 {b n c:Nat} {d:Int} {A:Option Addr} {l:List Int} {G:PS→Prop} {atomS:PS→Tk→Int→FR (Tr × PS)} {s:PS} {V1 V2:Value} {w:World} (HT:Hid (TokC d l)) (HA:Hid (AtomC b n c d A l G atomS)) (HG:Hid (AtomG d l G atomS)) (h:PsAt b n c d A l s V1 V2 w) (hg:G s) :
  Calls Tryz.prog 77 #[.pointer (some ⟨b,0,none⟩)] w (POut b n c d A l (pm b V1 V2) w (branchS atomS d l s)):=by
 have hlen:=h.len
 have hsm:=h.small
 have hlt:=h.lt
 have hs0:=h.lo
 obtain ⟨W,hW⟩:∃ X,X=w.alloc (.cells #[.int .i64 0,.slice none 0 0,.slice none 0 0,.int .i64 0,.int .i64 0,.int .i64 0,.int .i64 0,.bool false] 42):=⟨_,rfl⟩
 have hB:Below w.heap.size w W:=by rw [hW];exact (Below.refl _ _).alloc (Nat.le_refl _) _
 have HB:=Lib.hid hB
 have HZ:=Lib.hid (show W.heap[w.heap.size]?=some Z42 by rw [hW];exact z42_new)
 have HPM:=Lib.hid (fun k hk=>pm_lt (k:=k) h hk)
 have HPG:=Lib.hid (fun k hk=>pm_ge (k:=k) h hk)
 have HS:=Lib.hid (h.next hB)
 have HSZ:=Lib.hid (show W.heap.size=w.heap.size+1 by rw [hW];simp)
 obtain ⟨R,hR⟩:∃ R,R=branchS atomS d l s:=⟨_,rfl⟩
 rw [← hR]
 unfold branchS at hR
 have HR:=Lib.hid hR
 obtain ⟨a0,ha0⟩:∃ a0,a0=s.at_:=⟨_,rfl⟩
 have HA0:=Lib.hid ha0
 have ha00:0≤a0:=by rw [ha0];exact hs0
 have HGG:=Lib.hid hg
 clear h hR hB hg ha0
 go_enter Tryz.func77,Tryz.ntmps77
 go_upto_region 1 with (fail)
 rw [← hW]
 clear hW
 have hWs:=lt_heap HZ.out
 go_wp2_with fail
 go_loopw [3,4,5] (fun v cn tm wr=>∃ (m:Nat) (s1:PS) (ts:List Tr) (ds:List ND) (cb:Bool) (ti:Int) (U1 U2:Value),cn=.bool cb∧tm=.int .i64 ti∧0≤ti∧ti≤4∧Hid (branchL atomS d l (m+1) s1 ts cb ti=R)∧Hid ((n:Int) - s1.at_≤m)∧Hid (wr.ownsRow W.heap.size 42 8 v ds.length (nds ds))∧Hid (Kds (LM b W.heap.size U1 U2 v) wr ts ds)∧Hid (PsAt b n c d A l s1 U1 U2 wr)∧Hid (Mvd (pm b V1 V2) (pm b U1 U2) W wr)∧Hid (∀ g,v.ownBlock=some g→pm b U1 U2 g=false)∧Hid (G s1)∧Hid (((sizeL ts:Int)≤2 * (s1.at_ - a0))∧(cb=true→ts≠[]))) (fun _ _ _ wr=>n - placeOf b wr)
 case atStart=>exact ⟨((l.length:Int) - s.at_).toNat,s,[],[],false,0,V1,V2,rfl,rfl,by omega,by omega,Lib.hid HR.out.symm,Lib.hid (by rw [hlen];omega),Lib.hid (World.ownsRow_nil _ _ _ _),Lib.hid (Kds.nil _ _),HS,Lib.hid (Mvd.refl _ _),Lib.hid (fun g hg=>by cases hg),HGG,Lib.hid ⟨by rw [HA0.out];simp [sizeL],fun h=>by cases h⟩⟩
 case round =>
  clear HS HR HGG HA0
  obtain ⟨m,s1,ts,ds,cb,ti,U1,U2,rfl,rfl,ht0,ht4,HE,HMM,HO,HK,HP,HV,HOB,HG1,HSI⟩:=hrel
  have CN:=Lib.hid (next78 HT HP.out)
  obtain ⟨at1,hat1⟩:∃ x,x=s1.at_:=⟨_,rfl⟩
  have HAT:=Lib.hid hat1
  have hlo1:=HP.out.lo
  have hhi1:=HP.out.hi
  rw [← hat1] at hlo1 hhi1
  have hpl:placeOf b wr=at1.toNat:=by unfold placeOf;rw [HP.out.cells.2.2.1,← hat1];rfl
  have HPL:=Lib.hid hpl
  rw [← hat1] at CN
  have hsz:=HV.out.size
  clear hat1 hpl
  cases hnx:nextS d l s1 with
  | error q =>
   have HER:=Lib.hid (show R=.error q by rw [← HE.out,branchL,hnx])
   rw [hnx] at CN
   clear hnx HE
   go_wp2_with (go_at_call 78;(with_reducible refine CN.out.mono ?_);rintro e w1 ⟨he,hb⟩;obtain rfl:=(show e=.panicked (faultV q.1 q.2) from he);have HB1:=Lib.hid hb;clear he hb)
   rw [HER.out]
   exact ⟨rfl,rfl,(HP.out.next HB1.out).bad ((Mvd.of_below (M':=pm b V1 V2) HB.out fun _ _ h=>h).trans (HV.out.trans (Mvd.below HB1.out)))⟩
  | ok q =>
   cases q with
   | none =>
    have HER:=Lib.hid (show R=.ok (rowT ts,s1) by rw [← HE.out,branchL,hnx])
    rw [hnx] at CN
    clear hnx HE
    go_upto_region 5 with (go_at_call 78;(with_reducible refine CN.out.mono ?_);rintro e w1 ⟨he,hb⟩;obtain rfl:=(show e=.returned (.tuple #[.agg #[.int .i64 0,.int .i64 0,.string ⟨#[]⟩,.bool false,.int .i64 0,.int .i64 0,.int .i64 0,.int .i64 0],.int .i64 at1,.bool false]) from he);have HB1:=Lib.hid hb;clear he hb)
    have hbX:Below wr.heap.size wr (w1.alloc (.cells #[.int .i64 0,.int .i64 0,.string ⟨#[]⟩,.bool false,.int .i64 0,.int .i64 0,.int .i64 0,.int .i64 0] 108)):=HB1.out.alloc HB1.out.size _
    have HTX:=Lib.hid (show (w1.alloc (.cells #[.int .i64 0,.int .i64 0,.string ⟨#[]⟩,.bool false,.int .i64 0,.int .i64 0,.int .i64 0,.int .i64 0] 108)).heap[w1.heap.size]?=some (.cells #[.int .i64 0,.int .i64 0,.string ⟨#[]⟩,.bool false,.int .i64 0,.int .i64 0,.int .i64 0,.int .i64 0] 108 (0,0)) from heap_alloc_new w1 _)
    obtain ⟨X,hX⟩:∃ X,X=w1.alloc (.cells #[.int .i64 0,.int .i64 0,.string ⟨#[]⟩,.bool false,.int .i64 0,.int .i64 0,.int .i64 0,.int .i64 0] 108):=⟨_,rfl⟩
    rw [← hX] at hbX HTX ⊢
    have HBX:=Lib.hid hbX
    have HOX:=Lib.hid (own_below HO.out hbX (Nat.le_refl _))
    have HKX:=Lib.hid (HK.out.mv (Mvd.below hbX))
    have HPX:=Lib.hid (HP.out.next hbX)
    have HVX:=Lib.hid (HV.out.trans (Mvd.below hbX))
    have HNR:=Lib.hid (show pm b U1 U2 w.heap.size=false by
     cases e:pm b U1 U2 w.heap.size
     ·rfl
     ·exact absurd (HPM.out _ (HV.out.sub _ hWs e)) (Nat.lt_irrefl _))
    have HZX:=Lib.hid (show X.heap[w.heap.size]?=some Z42 from (HVX.out.keep _ hWs (by
     cases e:pm b V1 V2 w.heap.size
     ·rfl
     ·exact absurd (HPM.out _ e) (Nat.lt_irrefl _))).trans HZ.out)
    clear hX hbX HO HK HP HV HB1
    obtain ⟨A3,c3,hv3,hc3,hm3⟩:=own_slice HOX.out
    subst hv3
    have HLE:=Lib.hid (show ds.length≤1000 by have h1:=HKX.out.len;have h2:=sizeL_len ts;have h3:=HSI.out.1;have h4:=HPX.out.hi;omega)
    have CR:=Lib.hid (row111 (c:=c3) (M:=LM b W.heap.size U1 U2 (.slice A3 ds.length c3)) (w:=X) (fun k hk=>by
     simp [LM] at hk
     rcases hk with hk|hk|hk
     ·exact pm_lt HPX.out hk
     ·exact Nat.lt_of_lt_of_le hk HVX.out.size
     ·exact (World.ownsRow.lt HOX.out k (own1_iff.1 hk)).2) HKX.out (Rds.of_own HOX.out) (by have:=HLE.out;omega) (by have h1:=flat_size ts;have h3:=HSI.out.1;have h4:=HPX.out.hi;omega))
    clear hc3 hm3
    go_wp2_with (first
     | (go_at_call 111;(with_reducible refine CR.out.mono ?_);rintro e w2 ⟨⟨dd,he,hnd⟩,hb2⟩;obtain rfl:=(show e=.returned (.agg #[.int .i64 dd.kind,.slice dd.sA dd.sn dd.sc,.slice dd.kA dd.kn dd.kc,.int .i64 dd.num,.int .i64 dd.least,.int .i64 dd.most,.int .i64 dd.way,.bool dd.fold]) from he);have HND:=Lib.hid hnd;have HB2:=Lib.hid hb2;have HZ2:=Lib.hid (row_next HZX.out hb2);clear he hnd hb2)
     | ((with_reducible apply store42 (g:=w.heap.size));rfl;(with_reducible rfl);rfl;rfl;(exact HZ2.out);rfl;rfl))
    (try simp only [Exit.inBlock,Exit.then])
    refine bodyPost_ret (v:=_) (results42 Tryz.results77 _ _ w.heap.size _ ?_ (row42 HZ2.out) ?_) rfl ?_
    ·rfl
    ·rfl
    ·rw [HER.out]
     have hnd:=HND.out
     rw [HSZ.out] at hnd
     obtain ⟨k1,k2,k3⟩:=branch_end (HPX.out.next HB2.out) (((Mvd.of_below (M:=pm b V1 V2) (M':=pm b V1 V2) HB.out fun _ _ h=>h).trans HVX.out).trans (Mvd.below HB2.out)) HNR.out hlt hnd #[.int .i64 dd.kind,.slice dd.sA dd.sn dd.sc,.slice dd.kA dd.kn dd.kc,.int .i64 dd.num,.int .i64 dd.least,.int .i64 dd.most,.int .i64 dd.way,.bool dd.fold]
     exact ⟨dd,U1,U2,rfl,k1,k2,k3⟩
   | some q =>
    obtain ⟨t,nx⟩:=q
    have hmv:=next_mv hnx (by rw [HAT.out] at hlo1;exact hlo1)
    have HMV:=Lib.hid hmv
    rw [hnx] at CN
    have HNX:=Lib.hid hnx
    go_upto_region 4 with (go_at_call 78;(with_reducible refine CN.out.mono ?_);rintro e w1 ⟨he,hb⟩;obtain rfl:=(show e=.returned (.tuple #[.agg #[.int .i64 t.kind,.int .i64 t.num,.string ⟨t.text.toArray⟩,.bool t.not_,.int .i64 t.least,.int .i64 t.most,.int .i64 t.way,.int .i64 t.fold],.int .i64 nx,.bool true]) from he);have HB1:=Lib.hid hb;clear he hb)
    have hw1:=HB1.out.size
    have HGL:=Lib.hid (fun g hg=>(World.ownsRow.lt HO.out g hg).2)
    have HPU:=Lib.hid (fun k hk=>pm_lt (k:=k) HP.out hk)
    clear hnx hmv CN
    have hbX:Below wr.heap.size wr (w1.alloc (.cells #[.int .i64 t.kind,.int .i64 t.num,.string ⟨t.text.toArray⟩,.bool t.not_,.int .i64 t.least,.int .i64 t.most,.int .i64 t.way,.int .i64 t.fold] 108)):=HB1.out.alloc HB1.out.size _
    have HTX:=Lib.hid (show (w1.alloc (.cells #[.int .i64 t.kind,.int .i64 t.num,.string ⟨t.text.toArray⟩,.bool t.not_,.int .i64 t.least,.int .i64 t.most,.int .i64 t.way,.int .i64 t.fold] 108)).heap[w1.heap.size]?=some (.cells #[.int .i64 t.kind,.int .i64 t.num,.string ⟨t.text.toArray⟩,.bool t.not_,.int .i64 t.least,.int .i64 t.most,.int .i64 t.way,.int .i64 t.fold] 108 (0,0)) from heap_alloc_new w1 _)
    obtain ⟨X,hX⟩:∃ X,X=w1.alloc (.cells #[.int .i64 t.kind,.int .i64 t.num,.string ⟨t.text.toArray⟩,.bool t.not_,.int .i64 t.least,.int .i64 t.most,.int .i64 t.way,.int .i64 t.fold] 108):=⟨_,rfl⟩
    rw [← hX] at hbX HTX ⊢
    have HBX:=Lib.hid hbX
    have HOX:=Lib.hid (own_below HO.out hbX (Nat.le_refl _))
    have HKX:=Lib.hid (HK.out.mv (Mvd.below hbX))
    have HPX:=Lib.hid (HP.out.next hbX)
    have HVX:=Lib.hid (HV.out.trans (Mvd.below hbX))
    have HNR:=Lib.hid (show pm b U1 U2 w.heap.size=false by
     cases e:pm b U1 U2 w.heap.size
     ·rfl
     ·exact absurd (HPM.out _ (HV.out.sub _ hWs e)) (Nat.lt_irrefl _))
    have HZX:=Lib.hid (show X.heap[w.heap.size]?=some Z42 from (HVX.out.keep _ hWs (by
     cases e:pm b V1 V2 w.heap.size
     ·rfl
     ·exact absurd (HPM.out _ e) (Nat.lt_irrefl _))).trans HZ.out)
    clear hX hbX HO HK HP HV HB1
    obtain ⟨t0,t1,t2,t3,t4,t5,t6,t7⟩:=cells8 HTX.out
    go_cut [27] from 16 to 27 (fun z wc=>z=.bool (decide (t.kind=9∨t.kind=8))∧wc=X)
    ·by_cases q1:t.kind=9
     ·have e1:(t.kind == 9)=true:=by simpa using q1
      have Q1:=Lib.hid q1
      clear q1
      go_wp2_with fail
      go_meet
      exact ⟨congrArg Value.bool (decide_eq_true (p:=t.kind=9∨t.kind=8) (.inl Q1.out)).symm,rfl⟩
     ·have e1:(t.kind == 9)=false:=by simpa using q1
      go_wp2_with fail
      go_meet
      exact ⟨congrArg Value.bool (by by_cases q2:t.kind=8<;>simp [q1,q2]),rfl⟩
    obtain ⟨rfl,rfl⟩:=hcut
    by_cases hk:t.kind=9∨t.kind=8
    ·have e1:decide (t.kind=9∨t.kind=8)=true:=decide_eq_true hk
     have HER:=Lib.hid (show R=.ok (rowT ts,s1) by rw [← HE.out,branchL,HNX.out];simp only;rw [if_pos hk])
     rw [e1]
     clear hk e1 HE HNX t0 t1 t2 t3 t4 t5 t6 t7
     obtain ⟨X,hX⟩:∃ X,X=wc:=⟨_,rfl⟩
     subst hX
     go_upto_region 5 with (fail)
     obtain ⟨A3,c3,hv3,hc3,hm3⟩:=own_slice HOX.out
     subst hv3
     have HLE:=Lib.hid (show ds.length≤1000 by have h1:=HKX.out.len;have h2:=sizeL_len ts;have h3:=HSI.out.1;have h4:=HPX.out.hi;omega)
     have CR:=Lib.hid (row111 (c:=c3) (M:=LM b W.heap.size U1 U2 (.slice A3 ds.length c3)) (w:=X) (fun k hk=>by
      simp [LM] at hk
      rcases hk with hk|hk|hk
      ·exact pm_lt HPX.out hk
      ·exact Nat.lt_of_lt_of_le hk HVX.out.size
      ·exact (World.ownsRow.lt HOX.out k (own1_iff.1 hk)).2) HKX.out (Rds.of_own HOX.out) (by have:=HLE.out;omega) (by have h1:=flat_size ts;have h3:=HSI.out.1;have h4:=HPX.out.hi;omega))
     clear hc3 hm3
     go_wp2_with (first
      | (go_at_call 111;(with_reducible refine CR.out.mono ?_);rintro e w2 ⟨⟨dd,he,hnd⟩,hb2⟩;obtain rfl:=(show e=.returned (.agg #[.int .i64 dd.kind,.slice dd.sA dd.sn dd.sc,.slice dd.kA dd.kn dd.kc,.int .i64 dd.num,.int .i64 dd.least,.int .i64 dd.most,.int .i64 dd.way,.bool dd.fold]) from he);have HND:=Lib.hid hnd;have HB2:=Lib.hid hb2;have HZ2:=Lib.hid (row_next HZX.out hb2);clear he hnd hb2)
      | ((with_reducible apply store42 (g:=w.heap.size));rfl;(with_reducible rfl);rfl;rfl;(exact HZ2.out);rfl;rfl))
     (try simp only [Exit.inBlock,Exit.then])
     refine bodyPost_ret (v:=_) (results42 Tryz.results77 _ _ w.heap.size _ ?_ (row42 HZ2.out) ?_) rfl ?_
     ·rfl
     ·rfl
     ·rw [HER.out]
      have hnd:=HND.out
      rw [HSZ.out] at hnd
      obtain ⟨k1,k2,k3⟩:=branch_end (HPX.out.next HB2.out) (((Mvd.of_below (M:=pm b V1 V2) (M':=pm b V1 V2) HB.out fun _ _ h=>h).trans HVX.out).trans (Mvd.below HB2.out)) HNR.out hlt hnd #[.int .i64 dd.kind,.slice dd.sA dd.sn dd.sc,.slice dd.kA dd.kn dd.kc,.int .i64 dd.num,.int .i64 dd.least,.int .i64 dd.most,.int .i64 dd.way,.bool dd.fold]
      exact ⟨dd,U1,U2,rfl,k1,k2,k3⟩
    ·have e1:decide (t.kind=9∨t.kind=8)=false:=decide_eq_false hk
     rw [e1]
     clear e1
     obtain ⟨X,hX⟩:∃ X,X=wc:=⟨_,rfl⟩
     subst hX
     obtain ⟨p0,p1,p2,p3,p4,p5,p6,p7,pf⟩:=HPX.out.cells
     rw [← HAT.out] at p2
     by_cases h6:t.kind=6
     ·have e6:(t.kind == 6)=true:=by simpa using h6
      have HE2:=Lib.hid (show (if cb=false then .error (1,s1.at_) else if 4 < ti+1 then .error (2,s1.at_) else branchL atomS d l m { s1 with at_:=nx } (repL ts t) cb (ti+1))=R by rw [← HE.out,branchL,HNX.out];simp only;rw [if_neg hk,if_pos h6])
      have HK6:=Lib.hid h6
      clear hk h6 HE
      go_upto_region 7 with (fail)
      cases cb with
      | false =>
       have HER:=Lib.hid (show R=.error (1,at1) by rw [← HE2.out,if_pos rfl,HAT.out])
       go_wp2_with (go_at_call 45;(with_reducible refine (fail45 _ _ _).mono ?_);rintro e w6 ⟨rfl,rfl⟩)
       rw [HER.out]
       exact ⟨rfl,rfl,HPX.out.bad ((Mvd.of_below (M':=pm b V1 V2) HB.out fun _ _ h=>h).trans HVX.out)⟩
      | true =>
       have W1:IntKind.i64.wrap (ti+1)=ti+1:=IntWalk.i64_in _ (by omega)
       by_cases h4:4 < ti+1
       ·have e4:decide (ti+1 > 4)=true:=decide_eq_true h4
        have HER:=Lib.hid (show R=.error (2,at1) by rw [← HE2.out,if_neg (by decide),if_pos h4,HAT.out])
        clear h4
        go_wp2_with (go_at_call 45;(with_reducible refine (fail45 _ _ _).mono ?_);rintro e w6 ⟨rfl,rfl⟩)
        rw [HER.out]
        exact ⟨rfl,rfl,HPX.out.bad ((Mvd.of_below (M':=pm b V1 V2) HB.out fun _ _ h=>h).trans HVX.out)⟩
       ·have e4:decide (ti+1 > 4)=false:=decide_eq_false h4
        have HE3:=Lib.hid (show branchL atomS d l m { s1 with at_:=nx } (repL ts t) true (ti+1)=R by rw [← HE2.out,if_neg (by decide),if_neg h4])
        have ht5:ti+1≤4:=by omega
        clear h4
        have hne:=HSI.out.2 rfl
        obtain ⟨ts0,x,rfl⟩:∃ ts0 x,ts=ts0 ++ [x]:=⟨ts.dropLast,ts.getLast hne,(List.dropLast_concat_getLast hne).symm⟩
        have hlk:=HKX.out.len
        obtain ⟨ds0,y,rfl⟩:∃ ds0 y,ds=ds0 ++ [y]:=by
         have hd:ds≠[]:=fun e=>by rw [e] at hlk;simp at hlk
         exact ⟨ds.dropLast,ds.getLast hd,(List.dropLast_concat_getLast hd).symm⟩
        obtain ⟨A3,c3,hv3,hc3,hm3⟩:=own_slice HOX.out
        subst hv3
        obtain ⟨K,hK⟩:∃ K,K=ds0.length:=⟨_,rfl⟩
        have HLK:=Lib.hid (show ts0.length=K by rw [hK];simpa using hlk)
        obtain ⟨N,hN⟩:∃ N,N=(ds0 ++ [y]).length:=⟨_,rfl⟩
        have hNK:N=K+1:=by rw [hN,hK];simp
        obtain ⟨b3,o3,hl3,hA3,hb3,q0,q1,q2,q3,q4,q5,q6,q7⟩:=(Rds.of_own HOX.out).node_at (k:=K) (by rw [← hN,hNK];exact Nat.lt_succ_self _)
        have hgy:(ds0 ++ [y])[K]=y:=by subst hK;simp
        rw [hgy] at q0 q1 q2 q3 q4 q5 q6 q7
        rw [← hN] at HOX hc3 HKX HOB ⊢
        obtain ⟨g,hg,hgb,hgs,hfz⟩:=own_at HOX.out (by omega)
        rw [hA3] at hg
        injection hg with hg
        injection hg with hg1 hg2
        subst hA3
        subst hg1 hg2
        simp only [Nat.zero_add] at q0 q1 q2 q3 q4 q5 q6 q7
        have HNK:=Lib.hid hNK
        have HKD:=Lib.hid hK
        have WN:IntKind.i64.wrap ((N:Int) - 1)=(K:Int):=by rw [hNK];push_cast;rw [show (K:Int)+1 - 1=K by omega];exact IntWalk.i64_in _ (by have h1:=sizeL_len (ts0 ++ [x]);have h2:=HSI.out.1;have h3:=HPX.out.hi;have h4:=HLK.out;simp at h1;omega)
        have i0:(0:Int)≤(K:Int):=by omega
        have i1:(K:Int) < (N:Int):=by omega
        clear hne hlk hK hN hNK hgy hl3 HE2
        go_upto_region 13 with (fail)
        have ltx:w1.heap.size < X.heap.size:=lt_heap HTX.out
        have v4:∀ o,(X.alloc o).drew.cell? ⟨w1.heap.size,4,none⟩=some (.int .i64 t.least):=fun o=>(World.cell?_alloc_lt X o ⟨w1.heap.size,4,none⟩ ltx).trans t4
        have v5:∀ o,(X.alloc o).drew.cell? ⟨w1.heap.size,5,none⟩=some (.int .i64 t.most):=fun o=>(World.cell?_alloc_lt X o ⟨w1.heap.size,5,none⟩ ltx).trans t5
        have v6:∀ o,(X.alloc o).drew.cell? ⟨w1.heap.size,6,none⟩=some (.int .i64 t.way):=fun o=>(World.cell?_alloc_lt X o ⟨w1.heap.size,6,none⟩ ltx).trans t6
        have r0:∀ o,(X.alloc o).drew.cell? ⟨b3,K * 8,none⟩=some (.int .i64 y.kind):=fun o=>(World.cell?_alloc_lt X o ⟨b3,K * 8,none⟩ hgs).trans q0
        have r1:∀ o,(X.alloc o).drew.cell? ⟨b3,K * 8+1,none⟩=some (.slice y.sA y.sn y.sc):=fun o=>(World.cell?_alloc_lt X o ⟨b3,K * 8+1,none⟩ hgs).trans q1
        have r2:∀ o,(X.alloc o).drew.cell? ⟨b3,K * 8+2,none⟩=some (.slice y.kA y.kn y.kc):=fun o=>(World.cell?_alloc_lt X o ⟨b3,K * 8+2,none⟩ hgs).trans q2
        have r3:∀ o,(X.alloc o).drew.cell? ⟨b3,K * 8+3,none⟩=some (.int .i64 y.num):=fun o=>(World.cell?_alloc_lt X o ⟨b3,K * 8+3,none⟩ hgs).trans q3
        have r4:∀ o,(X.alloc o).drew.cell? ⟨b3,K * 8+4,none⟩=some (.int .i64 y.least):=fun o=>(World.cell?_alloc_lt X o ⟨b3,K * 8+4,none⟩ hgs).trans q4
        have r5:∀ o,(X.alloc o).drew.cell? ⟨b3,K * 8+5,none⟩=some (.int .i64 y.most):=fun o=>(World.cell?_alloc_lt X o ⟨b3,K * 8+5,none⟩ hgs).trans q5
        have r6:∀ o,(X.alloc o).drew.cell? ⟨b3,K * 8+6,none⟩=some (.int .i64 y.way):=fun o=>(World.cell?_alloc_lt X o ⟨b3,K * 8+6,none⟩ hgs).trans q6
        have r7:∀ o,(X.alloc o).drew.cell? ⟨b3,K * 8+7,none⟩=some (.bool y.fold):=fun o=>(World.cell?_alloc_lt X o ⟨b3,K * 8+7,none⟩ hgs).trans q7
        have rf:∀ o j,(X.alloc o).drew.frozen? ⟨b3,j,none⟩=false:=fun o j=>(World.frozen?_of_block (w:=X) (w':=X.alloc o) (a:=⟨b3,j,none⟩) (heap_alloc_old X o hgs)).trans (hfz j)
        go_region
        obtain ⟨Z,hZ⟩:∃ Z,Z=(((((((((X.setCell ⟨b3,K * 8,none⟩ (.int .i64 12)).setCell ⟨b3,K * 8+1,none⟩ (.slice none 0 0)).setCell ⟨b3,K * 8+2,none⟩ (.slice (some ⟨X.heap.size,0,none⟩) 1 1)).setCell ⟨b3,K * 8+3,none⟩ (.int .i64 0)).setCell ⟨b3,K * 8+4,none⟩ (.int .i64 t.least)).setCell ⟨b3,K * 8+5,none⟩ (.int .i64 t.most)).setCell ⟨b3,K * 8+6,none⟩ (.int .i64 t.way)).setCell ⟨b3,K * 8+7,none⟩ (.bool false)).alloc (.cells #[.int .i64 y.kind,.slice y.sA y.sn y.sc,.slice y.kA y.kn y.kc,.int .i64 y.num,.int .i64 y.least,.int .i64 y.most,.int .i64 y.way,.bool y.fold] 42)).drew:=⟨_,rfl⟩
        obtain ⟨z1,z2,z3,z4⟩:=put_last t HOX.out HKX.out HPX.out HVX.out (HOB.out b3 rfl) (by have:=HSZ.out;omega) HKD.out Z hZ
        have HOZ:=Lib.hid z1
        have HKZ:=Lib.hid z2
        have HPZ:=Lib.hid z3
        have HVZ:=Lib.hid z4
        rw [← hZ]
        clear hZ z1 z2 z3 z4 q0 q1 q2 q3 q4 q5 q6 q7 r0 r1 r2 r3 r4 r5 r6 r7 rf v4 v5 v6 t0 t1 t2 t3 t4 t5 t6 t7 p0 p1 p2 p3 p4 p5 p6 p7 pf hfz
        obtain ⟨p0,p1,p2,p3,p4,p5,p6,p7,pf⟩:=HPZ.out.cells
        have hm:=HMV.out
        have hPZlo:=HPZ.out.lo
        have HPN:=Lib.hid (show PsAt b n c d A l { s1 with at_:=nx } U1 U2 (Z.setCell ⟨b,2,none⟩ (.int .i64 nx)) from HPZ.out.set (j:=2) rfl rfl rfl ⟨by simp only;omega,by simp only;omega⟩ HPZ.out.dp HPZ.out.gr)
        have HKB:=Lib.hid (show Kept b Z (Z.setCell ⟨b,2,none⟩ (.int .i64 nx)) from (Kept.refl b Z).set 2 _)
        have HMX:=Lib.hid hm
        clear hm
        go_wp2_with fail
        go_roundw
        case rel =>
         have hm:=HMX.out
         have hmm:=HMM.out
         refine ⟨m - 1,{ s1 with at_:=nx },ts0 ++ [repT x t],ds0 ++ [repD X t],true,ti+1,U1,U2,rfl,rfl,by omega,ht5,Lib.hid ?_,Lib.hid ?_,Lib.hid ?_,Lib.hid (HKZ.out.mv (Mvd.kept HKB.out (by simp [LM,pm]))),HPN,Lib.hid (HVZ.out.trans (Mvd.kept HKB.out (pm_b _ _ _))),HOB,Lib.hid (HG.out.rep s1 t nx HG1.out HNX.out),Lib.hid ⟨?_,fun _=>by simp⟩⟩
         ·rw [show m - 1+1=m by omega,← repL_snoc];exact HE3.out
         ·simp only;omega
         ·rw [show (ds0 ++ [repD X t]).length=N by rw [HNK.out,HKD.out];simp]
          exact own_keptb HOZ.out HKB.out (by have:=HSZ.out;omega)
         ·have h1:=HSI.out.1
          rw [size_snoc] at h1 ⊢
          have h2:sizeT (repT x t)=1+sizeT x:=by rw [repT,sizeT_eq];simp [Tr.kids,sizeL]
          simp only
          omega
        case measure =>
         have hm:=HMX.out
         have h1:placeOf b (Z.setCell ⟨b,2,none⟩ (.int .i64 nx))=nx.toNat:=by unfold placeOf;rw [HPN.out.cells.2.2.1];rfl
         have h2:=HPL.out
         have h3:=HAT.out
         rw [h1,h2]
         omega
     ·have e6:(t.kind == 6)=false:=by simpa using h6
      have HE2:=Lib.hid (show (match atomS s1 t nx with|.error q=>.error q|.ok p=>branchL atomS d l m p.2 (ts ++ [p.1]) (decide (t.kind≠11)) 0)=R by rw [← HE.out,branchL,HNX.out];simp only;rw [if_neg hk,if_neg h6];rfl)
      have CA:=Lib.hid (HA.out s1 U1 U2 t nx X HG1.out HPX.out HNX.out h6 (fun e=>hk (.inr e)) (fun e=>hk (.inl e)))
      have HGO:=Lib.hid (fun p=>HG.out.go s1 t nx p HG1.out HPX.out.lo HNX.out h6 (fun e=>hk (.inr e)) (fun e=>hk (.inl e)))
      clear hk h6 HE
      go_upto_region 15 with (fail)
      cases hat:atomS s1 t nx with
      | error q =>
       have HER:=Lib.hid (show R=.error q by rw [← HE2.out,hat])
       rw [hat] at CA
       clear hat HE2
       go_wp2_with (go_at_call 112;(with_reducible refine CA.out.mono ?_);rintro e w3 ⟨he,hm⟩;obtain rfl:=(show e=.panicked (faultV q.1 q.2) from he);have HM3:=Lib.hid hm;clear he hm)
       rw [HER.out]
       exact ⟨rfl,rfl,PBad.of ((Mvd.of_below (M':=pm b V1 V2) HB.out fun _ _ h=>h).trans HVX.out) HM3.out⟩
      | ok p =>
       obtain ⟨tr,s2⟩:=p
       have HE3:=Lib.hid (show branchL atomS d l m s2 (ts ++ [tr]) (decide (t.kind≠11)) 0=R by rw [← HE2.out,hat])
       have HG2:=Lib.hid (HGO.out _ hat)
       rw [hat] at CA
       clear hat HE2 HGO p0 p1 p2 p3 p4 p5 p6 p7 pf
       obtain ⟨A3,c3,hv3,hc3,hm3⟩:=own_slice HOX.out
       subst hv3
       have HLD:=Lib.hid (show ds.length≤1000 by have h1:=HKX.out.len;have h2:=sizeL_len ts;have h3:=HSI.out.1;have h4:=HPX.out.hi;omega)
       clear hc3 hm3
       obtain ⟨N,hN⟩:∃ N,N=ds.length:=⟨_,rfl⟩
       have HNN:=Lib.hid hN
       rw [← hN] at HOX HKX HOB HGL HLD ⊢
       clear hN
       go_upto_region 16 with (first
        | (go_at_call 112;(with_reducible refine CA.out.mono ?_);rintro e w3 ⟨dd,Q1,Q2,he,hnd,hps,hmv3⟩;obtain rfl:=(show e=.returned (.agg #[.int .i64 dd.kind,.slice dd.sA dd.sn dd.sc,.slice dd.kA dd.kn dd.kc,.int .i64 dd.num,.int .i64 dd.least,.int .i64 dd.most,.int .i64 dd.way,.bool dd.fold]) from he);have HND3:=Lib.hid hnd;have HPS3:=Lib.hid hps;have HMV3:=Lib.hid hmv3;have HOY:=Lib.hid (atom_own dd HOX.out HOB.out hmv3);have HRY:=Lib.hid (show Rds (w3.alloc (.cells #[.int .i64 dd.kind,.slice dd.sA dd.sn dd.sc,.slice dd.kA dd.kn dd.kc,.int .i64 dd.num,.int .i64 dd.least,.int .i64 dd.most,.int .i64 dd.way,.bool dd.fold] 42)) (w3.heap.size+1) 8 (some ⟨w3.heap.size,0,none⟩) 1 (nds [dd]) from Rds.new w3 8 1 _ 42 (nds [dd]) rfl rfl);have hsY:W.heap.size≤(w3.alloc (.cells #[.int .i64 dd.kind,.slice dd.sA dd.sn dd.sc,.slice dd.kA dd.kn dd.kc,.int .i64 dd.num,.int .i64 dd.least,.int .i64 dd.most,.int .i64 dd.way,.bool dd.fold] 42)).heap.size:=Nat.le_trans (Nat.le_trans HVX.out.size hmv3.size) (by simp);clear he hnd hps hmv3)
        | (at_builtin;refine app_nodes (.tmp 71) (.tmp 76) (base:=W.heap.size) (xs:=ds) (ys:=[dd]) (n:=N) (m:=1) HOY.out HRY.out (by have:=HLD.out;omega) hsY rfl rfl rfl rfl ?_;intro v3 w6 hown3 hg3 hat3;have HO6:=Lib.hid hown3;have HT6:=Lib.hid (atom_cell dd HTX.out HMV3.out hg3 (by cases e:pm b U1 U2 w1.heap.size;exact rfl;exact absurd (HPU.out _ e) (Nat.not_lt.2 hw1)) (fun e=>absurd (HGL.out _ e) (Nat.not_lt.2 hw1)));have HST:=Lib.hid (atom_step HNN.out HOX.out HKX.out HVX.out HOB.out HND3.out HPS3.out HMV3.out (by have:=HSZ.out;omega) hg3 hat3);clear hown3 hg3 hat3 t0 t1 t2 t3 t4 t5 t6 t7;obtain ⟨t0,t1,t2,t3,t4,t5,t6,t7⟩:=cells8 HT6.out))
       obtain ⟨k1,k2,k3,k4⟩:=HST.out
       have HK6:=Lib.hid k1
       have HP6:=Lib.hid k2
       have HV6:=Lib.hid k3
       have HB6:=Lib.hid k4
       clear k1 k2 k3 k4 HST HOY HRY hsY HND3 HPS3 HMV3 HOX HKX HVX HOB HPX
       obtain ⟨cb2,hcb⟩:∃ cb2,cb2=decide (t.kind≠11):=⟨_,rfl⟩
       have HCB:=Lib.hid hcb
       have ecb:(t.kind != 11)=cb2:=by rw [hcb];by_cases q:t.kind=11<;>simp [q]
       rw [← hcb] at HE3
       clear hcb
       go_wp2_with fail
       go_roundw
       case rel =>
        have hm:=HMV.out
        have hmm:=HMM.out
        have hg2:=HG2.out
        have h3:=HAT.out
        refine ⟨m - 1,s2,ts ++ [tr],ds ++ [dd],cb2,0,Q1,Q2,rfl,rfl,by omega,by omega,Lib.hid ?_,Lib.hid ?_,Lib.hid ?_,HK6,HP6,HV6,HB6,Lib.hid hg2.1,Lib.hid ⟨?_,fun _=>by simp⟩⟩
        ·rw [show m - 1+1=m by have:=HP6.out.hi;omega];exact HE3.out
        ·have:=hg2.2.1;omega
        ·rw [List.length_append,← HNN.out];exact HO6.out
        ·have h1:=HSI.out.1
         have h4:=hg2.2.2
         rw [size_snoc]
         omega
       case measure =>
        have hm:=HMV.out
        have h1:placeOf b w6=s2.at_.toNat:=by unfold placeOf;rw [HP6.out.cells.2.2.1];rfl
        have h2:=HPL.out
        have h3:=HAT.out
        have h4:=HG2.out.2.1
        rw [h1,h2]
        omega
end Go.Proofs.YtbiahhojnjchnaaGreat
