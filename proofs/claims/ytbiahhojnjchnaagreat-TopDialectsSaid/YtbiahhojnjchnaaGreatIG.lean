/-
  Branches made one node: walked. The parser's branches, plain; what is told of its parts; rows written in place.
-/
import Derived.Test.YtbiahhojnjchnaaGreatIF
set_option linter.unusedVariables false
set_option linter.unusedSimpArgs false
namespace Go.Proofs.YtbiahhojnjchnaaGreat
open Go.RowKit
set_option maxRecDepth 100000 in
set_option maxHeartbeats 8000000 in
theorem either79 {M:Nat→Bool} {ts:List Tr} {ds:List ND} {A:Option Addr} {n c:Nat} {w:World} (hM:∀ k,M k=true→k < w.heap.size) (hk:Kds M w ts ds) (hr:Rds w w.heap.size 8 A n (nds ds)) (hn:n≤500000) (hz:(ts.flatMap flatEi).length≤500000) :
  Calls Tryz.prog 79 #[.slice A n c] w fun e w'=>NOutT M (eiT ts) e w'∧Below w.heap.size w w':=by
 obtain ⟨W,hW⟩:∃ X,X=w.alloc (.cells #[.int .i64 0,.slice none 0 0,.slice none 0 0,.int .i64 0,.int .i64 0,.int .i64 0,.int .i64 0,.bool false] 42):=⟨_,rfl⟩
 have HB:=Lib.hid (show Below w.heap.size w W by rw [hW];exact (Below.refl _ _).alloc (Nat.le_refl _) _)
 have HZ:=Lib.hid (show W.heap[w.heap.size]?=some Z42 by rw [hW];exact z42_new)
 have HK:=Lib.hid hk
 have HR:=Lib.hid hr
 have HM:=Lib.hid hM
 have HLN:=Lib.hid (show ts.length=n by rw [hk.len];exact nodes_at hr)
 have HZZ:=Lib.hid hz
 clear hk hr hM hz
 go_enter Tryz.func79,Tryz.ntmps79
 go_upto_region 1 with (fail)
 rw [← hW]
 clear hW
 have hWs:=lt_heap HZ.out
 by_cases hn1:n=1
 ·subst hn1
  have HBW:=HB
  obtain ⟨b3,o3,hl3,hA3,hb3,q0,q1,q2,q3,q4,q5,q6,q7⟩:=(HR.out.below HB.out (Nat.le_refl _)).node_at (k:=0) (Nat.zero_lt_one)
  have hl1:=HLN.out
  obtain ⟨t1,rfl⟩:∃ t1,ts=[t1]:=List.length_eq_one_iff.1 hl1
  obtain ⟨x,rfl⟩:∃ x,ds=[x]:=List.length_eq_one_iff.1 (HK.out.len.symm.trans rfl)
  subst hA3
  simp only [Nat.zero_mul,Nat.add_zero,List.getElem_cons_zero] at q0 q1 q2 q3 q4 q5 q6 q7
  have HN7:=Lib.hid (HK.out.at 0 (Nat.zero_lt_one) (Nat.zero_lt_one))
  simp only [List.getElem_cons_zero] at HN7
  clear hl1
  go_wp2_with ((with_reducible apply store42 (g:=w.heap.size));rfl;(with_reducible rfl);rfl;rfl;(exact HZ.out);rfl;rfl)
  (try simp only [Exit.inBlock,Exit.then])
  refine bodyPost_ret (v:=_) (results42 Tryz.results79 _ _ w.heap.size _ ?_ (row42 HZ.out) ?_) rfl ?_
  ·rfl
  ·rfl
  ·have hbf:Below w.heap.size w _:=Below.setRow HBW.out (Nat.le_refl _) #[.int .i64 x.kind,.slice x.sA x.sn x.sc,.slice x.kA x.kn x.kc,.int .i64 x.num,.int .i64 x.least,.int .i64 x.most,.int .i64 x.way,.bool x.fold]
   exact ⟨⟨x,rfl,HN7.out.mv (Mvd.below hbf)⟩,hbf⟩
 have en1:((n:Int) == 1)=false:=beq_eq_false_iff_ne.2 (by omega)
 have HEI:=Lib.hid (show eiT ts=.mk 10 [] (ts.flatMap flatEi) 0 0 0 0 false by
  have h:=HLN.out
  match ts,h with
  | [],_=>rfl
  | [_],h=>simp at h;omega
  | _ :: _ :: _,_=>rfl)
 clear hn1
 go_wp2_with fail
 go_loopw [14,3] (fun i v wr=>∃ (k:Nat) (os:List ND),k≤n∧i=.int .i64 k∧Hid (wr.ownsRow W.heap.size 42 8 v os.length (nds os))∧Hid (Kds M w ((ts.take k).flatMap flatEi) os)∧Hid (Below W.heap.size W wr)) (fun i _ _=>n - (intOf i).toNat)
 case atStart=>exact ⟨0,[],Nat.zero_le _,rfl,Lib.hid (World.ownsRow_nil _ _ _ _),Lib.hid (Kds.nil _ _),Lib.hid (Below.refl _ _)⟩
 case round =>
  obtain ⟨k,os,hkn,rfl,HO,HKS,HBR⟩:=hrel
  have hsz:=HBR.out.size
  by_cases hlt:k < n
  ·have hb0:Below w.heap.size w wr:=HB.out.trans (HBR.out.mono HB.out.size)
   obtain ⟨b2,o2,hl,hA,hb2,q0,q1,q2,q3,q4,q5,q6,q7⟩:=(HR.out.below hb0 (Nat.le_refl _)).node_at hlt
   have hlk:k < ts.length:=by have:=HLN.out;omega
   obtain ⟨d,hd⟩:∃ d,d=ds[k]:=⟨_,rfl⟩
   obtain ⟨t,ht⟩:∃ t,t=ts[k]:=⟨_,rfl⟩
   have HND:=Lib.hid (show Nd M w t d by rw [hd,ht];exact HK.out.at k hlk hl)
   have HSN:=Lib.hid (flat_snoc flatEi ts k hlk)
   have HLE:=Lib.hid (flat_le flatEi ts (k+1))
   rw [← ht] at HSN
   rw [← hd] at q0 q1 q2 q3 q4 q5 q6 q7
   subst hA
   have HB0:=Lib.hid hb0
   clear hd ht hb0
   have i1:(k:Int) < (n:Int):=by omega
   have W1:IntKind.i64.wrap ((k:Int)+1)=(k:Int)+1:=IntWalk.i64_in _ (by omega)
   go_upto_region 7 with (fail)
   obtain ⟨X,hX⟩:∃ X,X=wr.alloc (.cells #[.int .i64 d.kind,.slice d.sA d.sn d.sc,.slice d.kA d.kn d.kc,.int .i64 d.num,.int .i64 d.least,.int .i64 d.most,.int .i64 d.way,.bool d.fold] 42):=⟨_,rfl⟩
   have hXZ:X.heap[wr.heap.size]?=some (.cells #[.int .i64 d.kind,.slice d.sA d.sn d.sc,.slice d.kA d.kn d.kc,.int .i64 d.num,.int .i64 d.least,.int .i64 d.most,.int .i64 d.way,.bool d.fold] 42 (0,0)):=by rw [hX];exact heap_alloc_new wr _
   have HBX:=Lib.hid (show Below wr.heap.size wr X by rw [hX];exact (Below.refl _ _).alloc (Nat.le_refl _) _)
   rw [← hX]
   clear hX q0 q1 q2 q3 q4 q5 q6 q7
   obtain ⟨q0,q1,q2,q3,q4,q5,q6,q7⟩:=cells8 hXZ
   have HOX:=Lib.hid (own_below HO.out HBX.out (Nat.le_refl _))
   have HWX:=Lib.hid (HBR.out.trans (HBX.out.mono hsz))
   have hsX:=HWX.out.size
   clear hXZ HO HBX
   obtain ⟨es,HN0⟩:=HND.out.of
   have HN:=Lib.hid HN0
   have HKD:=Lib.hid (HN0.kind)
   have HEK:=Lib.hid (HN0.kids.bare)
   have hkn2:=HN0.knum
   clear HN0
   by_cases h9:d.kind=10
   ·have HF:=Lib.hid (show flatEi t=t.kids by unfold flatEi;rw [if_pos (HKD.out.symm.trans h9)])
    have e2:(d.kind == 10)=true:=by simpa using h9
    have HES:=Lib.hid (show Rds X w.heap.size 8 d.kA d.kn (nds es) from HEK.out.below (HB.out.trans (HWX.out.mono HB.out.size)) (Nat.le_refl _))
    have HL:=Lib.hid (show os.length+d.kn≤500000 by
     have h1:=HKS.out.len
     have h2:=HLE.out
     rw [HSN.out,HF.out,List.length_append] at h2
     have h3:=HZZ.out
     omega)
    clear h9 hkn2
    go_upto_region 10 with (at_builtin;refine app_nodes (.tmp 21) (.tmp 23) (base:=W.heap.size) (xs:=os) (ys:=es) (n:=os.length) (m:=d.kn) HOX.out HES.out (by have:=HL.out;omega) hsX rfl rfl rfl rfl ?_;intro v3 w6 hown3 hg3 hat3;have HO6:=Lib.hid hown3;have HB6:=Lib.hid (HWX.out.grown hg3 hsX (fun g hg=>(World.ownsRow.lt HOX.out g hg).1));clear hown3 hg3 hat3)
    go_wp2_with fail
    go_roundw
    case rel=>exact ⟨k+1,os ++ es,by omega,by first|rfl|go_num|(congr 1;omega),Lib.hid (by rw [List.length_append,HN.out.knum.2];exact HO6.out),Lib.hid (by rw [HSN.out,HF.out];exact HKS.out.append HN.out.each),HB6⟩
    case measure=>simp [intOf];omega
   ·have HF:=Lib.hid (show flatEi t=[t] by unfold flatEi;rw [if_neg (fun x=>h9 (HKD.out.trans x))])
    have e2:(d.kind == 10)=false:=by simpa using h9
    have hbY:Below X.heap.size X (X.alloc (.cells #[.int .i64 d.kind,.slice d.sA d.sn d.sc,.slice d.kA d.kn d.kc,.int .i64 d.num,.int .i64 d.least,.int .i64 d.most,.int .i64 d.way,.bool d.fold] 42)):=(Below.refl _ _).alloc (Nat.le_refl _) _
    have HOY:=Lib.hid (own_below HOX.out hbY (Nat.le_refl _))
    have HRY:=Lib.hid (show Rds (X.alloc (.cells #[.int .i64 d.kind,.slice d.sA d.sn d.sc,.slice d.kA d.kn d.kc,.int .i64 d.num,.int .i64 d.least,.int .i64 d.most,.int .i64 d.way,.bool d.fold] 42)) (X.heap.size+1) 8 (some ⟨X.heap.size,0,none⟩) 1 (nds [d]) from Rds.new X 8 1 _ 42 (nds [d]) rfl rfl)
    have HWY:=Lib.hid (HWX.out.trans (hbY.mono hsX))
    have hsY:=HWY.out.size
    have HL:=Lib.hid (show os.length+1≤500000 by
     have h1:=HKS.out.len
     have h2:=HLE.out
     rw [HSN.out,HF.out,List.length_append] at h2
     have h3:=HZZ.out
     simp only [List.length_cons,List.length_nil] at h2
     omega)
    clear h9 hkn2 hbY
    go_upto_region 10 with (at_builtin;refine app_nodes (.tmp 25) (.tmp 27) (base:=W.heap.size) (xs:=os) (ys:=[d]) (n:=os.length) (m:=1) HOY.out HRY.out (by have:=HL.out;omega) hsY rfl rfl rfl rfl ?_;intro v3 w6 hown3 hg3 hat3;have HO6:=Lib.hid hown3;have HB6:=Lib.hid (HWY.out.grown hg3 hsY (fun g hg=>(World.ownsRow.lt HOY.out g hg).1));clear hown3 hg3 hat3)
    go_wp2_with fail
    go_roundw
    case rel=>exact ⟨k+1,os ++ [d],by omega,by first|rfl|go_num|(congr 1;omega),Lib.hid (by rw [List.length_append];exact HO6.out),Lib.hid (by rw [HSN.out,HF.out];exact HKS.out.append (Kds.one HND.out)),HB6⟩
    case measure=>simp [intOf];omega
  ·have hkn3:k=n:=by omega
   subst hkn3
   have i1:¬ (k:Int) < (k:Int):=by omega
   have HAL:=Lib.hid (show Kds M w (ts.flatMap flatEi) os by have:=HKS.out;rwa [List.take_of_length_le (by have:=HLN.out;omega)] at this)
   have HZR:=Lib.hid (row_next HZ.out HBR.out)
   have HBW:=Lib.hid (HB.out.trans (HBR.out.mono HB.out.size))
   obtain ⟨A3,c3,hv3,hc3,hm3⟩:=own_slice HO.out
   subst hv3
   obtain ⟨us,hus⟩:∃ us,us=ts.flatMap flatEi:=⟨_,rfl⟩
   have HUS:=Lib.hid hus
   rw [← hus] at HAL
   have hlen:=HAL.out.len
   clear hus HKS hlt HZ HB HR HK
   obtain ⟨m,hmm⟩:∃ m,m=os.length:=⟨_,rfl⟩
   have HMM:=Lib.hid hmm
   rw [← hmm] at HO hc3 ⊢
   clear hlen hmm
   go_wp2_with ((with_reducible apply store42 (g:=w.heap.size));rfl;(with_reducible rfl);rfl;rfl;(exact HZR.out);rfl;rfl)
   (try simp only [Exit.inBlock,Exit.then])
   refine bodyPost_ret (v:=_) (results42 Tryz.results79 _ _ w.heap.size _ ?_ (row42 HZR.out) ?_) rfl ?_
   ·rfl
   ·rfl
   ·have hbf:Below w.heap.size w _:=Below.setRow HBW.out (Nat.le_refl _) #[.int .i64 10,.slice none 0 0,.slice A3 m c3,.int .i64 0,.int .i64 0,.int .i64 0,.int .i64 0,.bool false]
    have hof:=own_keptb HO.out (kept_setRow w.heap.size wr #[.int .i64 10,.slice none 0 0,.slice A3 m c3,.int .i64 0,.int .i64 0,.int .i64 0,.int .i64 0,.bool false]) hWs
    obtain ⟨A4,c4,hv4,hr4⟩:=Rds.own_cover (M:=M) hof (fun g hg=>by
     cases e:M g
     ·rfl
     ·have h1:=HM.out g e
      have h2:=(World.ownsRow.lt HO.out g hg).1
      omega)
    injection hv4 with e1 e2 e3
    subst e1
    refine ⟨?_,hbf⟩
    rw [HEI.out,← HUS.out]
    exact ⟨⟨10,none,0,0,A3,m,c3,0,0,0,0,false⟩,rfl,nd_of os ⟨rfl,rfl,rfl,rfl,rfl,rfl,nil_rds _ _ _,Nat.le_refl _,Nat.zero_le _,hr4,hc3,hm3,HAL.out.mv (Mvd.below hbf)⟩⟩
end Go.Proofs.YtbiahhojnjchnaaGreat
namespace Go.Proofs.YtbiahhojnjchnaaGreat
open Go.RowKit
theorem own_set {w:World} {base n c g i:Nat} {e:TypeId} {size:Nat} {xs:List Value} (h:w.ownsRow base e size (.slice (some ⟨g,0,none⟩) n c) n xs) (u:Value):(w.setCell ⟨g,i,none⟩ u).ownsRow base e size (.slice (some ⟨g,0,none⟩) n c) n (xs.set i u):=by
 refine ⟨by rw [List.length_set];exact h.1,?_⟩
 rcases h.2 with ⟨hv,_⟩|⟨g',cap,cur,hv,hb,hh,hn,hm,hs,ht⟩
 ·cases hv
 ·injection hv with h1 h2 h3
  injection h1 with h1
  injection h1 with h1
  subst h1 h3
  refine .inr ⟨g,c,cur.setIfInBounds i u,rfl,hb,row_set' hh,hn,hm,by rw [Array.size_setIfInBounds];exact hs,?_⟩
  rw [Array.toList_setIfInBounds,List.take_set,ht]
theorem nds_put (i:List ND) (x y:ND):((((((((nds (i ++ [x])).set (i.length * 8) (.int .i64 y.kind)).set (i.length * 8+1) (.slice y.sA y.sn y.sc)).set (i.length * 8+2) (.slice y.kA y.kn y.kc)).set (i.length * 8+3) (.int .i64 y.num)).set (i.length * 8+4) (.int .i64 y.least)).set (i.length * 8+5) (.int .i64 y.most)).set (i.length * 8+6) (.int .i64 y.way)).set (i.length * 8+7) (.bool y.fold)=nds (i ++ [y]):=by
 rw [nds_append,nds_append,← nds_length i]
 generalize nds i=p
 simp [nds,ND.vals,List.set_append]
theorem own_put_last {w:World} {base n c g:Nat} {i:List ND} {x:ND} (y:ND) (h:w.ownsRow base 42 8 (.slice (some ⟨g,0,none⟩) n c) n (nds (i ++ [x]))) :
  ((((((((w.setCell ⟨g,i.length * 8,none⟩ (.int .i64 y.kind)).setCell ⟨g,i.length * 8+1,none⟩ (.slice y.sA y.sn y.sc)).setCell ⟨g,i.length * 8+2,none⟩ (.slice y.kA y.kn y.kc)).setCell ⟨g,i.length * 8+3,none⟩ (.int .i64 y.num)).setCell ⟨g,i.length * 8+4,none⟩ (.int .i64 y.least)).setCell ⟨g,i.length * 8+5,none⟩ (.int .i64 y.most)).setCell ⟨g,i.length * 8+6,none⟩ (.int .i64 y.way)).setCell ⟨g,i.length * 8+7,none⟩ (.bool y.fold)).ownsRow base 42 8 (.slice (some ⟨g,0,none⟩) n c) n (nds (i ++ [y])):=by
 have:=own_set (own_set (own_set (own_set (own_set (own_set (own_set (own_set (i:=i.length * 8) h (.int .i64 y.kind)) (i:=i.length * 8+1) (.slice y.sA y.sn y.sc)) (i:=i.length * 8+2) (.slice y.kA y.kn y.kc)) (i:=i.length * 8+3) (.int .i64 y.num)) (i:=i.length * 8+4) (.int .i64 y.least)) (i:=i.length * 8+5) (.int .i64 y.most)) (i:=i.length * 8+6) (.int .i64 y.way)) (i:=i.length * 8+7) (.bool y.fold)
 rw [nds_put] at this
 exact this
/-- the block of a row -/
def own1 (v:Value) (k:Nat):Bool:=v.ownBlock == some k
theorem own1_iff {v:Value} {k:Nat}:own1 v k=true↔v.ownBlock=some k:=by simp [own1]
/-- what is written above the base is not seen from there -/
theorem Mvd.over {M0 M M' F F':Nat→Bool} {W w w':World} (h:Mvd M0 M W w) (k:Mvd (fun i=>M i || F i) (fun i=>M' i || F' i) w w') (hF:∀ i,i < W.heap.size→F i=false):Mvd M0 M' W w':=by
 refine ⟨k.os.trans h.os,k.tape.trans h.tape,k.output.trans h.output,Nat.le_trans h.size k.size,fun i hi hm=>?_,fun i hi hm=>?_⟩
 ·refine (k.keep i (Nat.lt_of_lt_of_le hi h.size) ?_).trans (h.keep i hi hm)
  cases e:M i
  ·simp [hF i hi]
  ·rw [h.sub i hi e] at hm;cases hm
 ·have:=k.sub i (Nat.lt_of_lt_of_le hi h.size) (by simp [hm])
  simp [hF i hi] at this
  exact h.sub i hi this
/-- seen with fewer hidden -/
theorem Mvd.less {M M':Nat→Bool} (w:World) (h:∀ k,k < w.heap.size→M' k=true→M k=true):Mvd M M' w w:=⟨rfl,rfl,rfl,Nat.le_refl _,fun _ _ _=>rfl,h⟩
/-- given up: the parser's block is a parser's still -/
def PBad (b:Nat) (M:Nat→Bool) (w w':World):Prop:=∃ (M':Nat→Bool) (cs:Array Value),Mvd M M' w w'∧w'.heap[b]?=some (.cells cs 77 (0,0))∧cs.size=8
theorem PBad.of {M M1:Nat→Bool} {b:Nat} {w w1 w2:World} (h:Mvd M M1 w w1) (k:PBad b M1 w1 w2):PBad b M w w2:=by
 obtain ⟨M',cs,h1,h2,h3⟩:=k
 exact ⟨M',cs,h.trans h1,h2,h3⟩
theorem PsAt.bad {b n c:Nat} {d:Int} {A:Option Addr} {l:List Int} {s:PS} {V1 V2:Value} {w:World} {M M':Nat→Bool} {w0:World} (h:PsAt b n c d A l s V1 V2 w) (k:Mvd M M' w0 w):PBad b M w0 w:=⟨M',_,k,h.hp,rfl⟩
/-- a reading of the parser: what is wrong, or a tree made anew and the state behind it -/
def POut (b n c:Nat) (d:Int) (A:Option Addr) (l:List Int) (M:Nat→Bool) (w:World) (r:FR (Tr × PS)) (e:Ending) (w':World):Prop:=match r with
 | .error q=>e=.panicked (faultV q.1 q.2)∧PBad b M w w'
 | .ok p=>∃ (dd:ND) (V1 V2:Value),e=.returned dd.agg∧Nd (fun k=>pm b V1 V2 k || decide (k < w.heap.size)) w' p.1 dd∧PsAt b n c d A l p.2 V1 V2 w'∧Mvd M (pm b V1 V2) w w'
/-- a token that starts something -/
def AtomC (b n c:Nat) (d:Int) (A:Option Addr) (l:List Int) (G:PS→Prop) (atomS:PS→Tk→Int→FR (Tr × PS)):Prop:=∀ (s:PS) (V1 V2:Value) (t:Tk) (nx:Int) (w:World),G s→PsAt b n c d A l s V1 V2 w→nextS d l s=.ok (some (t,nx))→t.kind≠6→t.kind≠8→t.kind≠9 →
 Calls Tryz.prog 112 #[.pointer (some ⟨b,0,none⟩),.agg #[.int .i64 t.kind,.int .i64 t.num,.string ⟨t.text.toArray⟩,.bool t.not_,.int .i64 t.least,.int .i64 t.most,.int .i64 t.way,.int .i64 t.fold],.int .i64 nx] w (POut b n c d A l (pm b V1 V2) w (atomS s t nx))
def repT (x:Tr) (t:Tk):Tr:=.mk 12 [] [x] 0 t.least t.most t.way false
def repL (ts:List Tr) (t:Tk):List Tr:=match ts.getLast? with
 | none=>ts
 | some x=>ts.dropLast ++ [repT x t]
def branchL (atomS:PS→Tk→Int→FR (Tr × PS)) (d:Int) (l:List Int):Nat→PS→List Tr→Bool→Int→FR (Tr × PS)
 | 0,_,_,_,_=>.error (0,0)
 | m+1,s,ts,can,times=>match nextS d l s with
  | .error q=>.error q
  | .ok none=>.ok (rowT ts,s)
  | .ok (some (t,nx)) =>
   if t.kind=9∨t.kind=8 then .ok (rowT ts,s)
   else if t.kind=6 then
    if can=false then .error (1,s.at_)
    else if 4 < times+1 then .error (2,s.at_)
    else branchL atomS d l m { s with at_:=nx } (repL ts t) can (times+1)
   else match atomS s t nx with
    | .error q=>.error q
    | .ok p=>branchL atomS d l m p.2 (ts ++ [p.1]) (decide (t.kind≠11)) 0
def branchS (atomS:PS→Tk→Int→FR (Tr × PS)) (d:Int) (l:List Int) (s:PS):FR (Tr × PS):=branchL atomS d l (((l.length:Int) - s.at_).toNat+1) s [] false 0
theorem repL_snoc (ts:List Tr) (x:Tr) (t:Tk):repL (ts ++ [x]) t=ts ++ [repT x t]:=by simp [repL]
theorem own_keptg {w w':World} {base n size:Nat} {e:TypeId} {v:Value} {xs:List Value} (h:w.ownsRow base e size v n xs) (hk:∀ g,v.ownBlock=some g→w'.heap[g]?=w.heap[g]?):w'.ownsRow base e size v n xs:=by
 refine ⟨h.1,?_⟩
 rcases h.2 with hn|⟨g,cap,cur,rfl,hb,hgg,rest⟩
 ·exact .inl hn
 ·exact .inr ⟨g,cap,cur,rfl,hb,(hk g rfl).trans hgg,rest⟩
theorem pm_lt {b n c:Nat} {d:Int} {A:Option Addr} {l:List Int} {s:PS} {V1 V2:Value} {w:World} (h:PsAt b n c d A l s V1 V2 w) {k:Nat} (hk:pm b V1 V2 k=true):k < w.heap.size:=by
 simp [pm] at hk
 rcases hk with hk|hk|hk
 ·rw [hk];exact h.lt
 ·exact (World.ownsRow.lt h.names k hk).2
 ·exact (World.ownsRow.lt h.ags k hk).2
theorem pm_ge {b n c:Nat} {d:Int} {A:Option Addr} {l:List Int} {s:PS} {V1 V2:Value} {w:World} (h:PsAt b n c d A l s V1 V2 w) {k:Nat} (hk:pm b V1 V2 k=true):b≤k:=by
 simp [pm] at hk
 rcases hk with hk|hk|hk
 ·omega
 ·have:=(World.ownsRow.lt h.names k hk).1;omega
 ·have:=(World.ownsRow.lt h.ags k hk).1;omega
end Go.Proofs.YtbiahhojnjchnaaGreat
