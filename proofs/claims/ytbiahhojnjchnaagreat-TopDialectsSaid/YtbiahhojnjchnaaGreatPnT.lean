/-
  One pattern, parsed: counted out; and walked.
-/
import Derived.Test.YtbiahhojnjchnaaGreatPnO
import Derived.Test.YtbiahhojnjchnaaGreatPnQ
import Derived.Test.YtbiahhojnjchnaaGreatIC
set_option linter.unusedVariables false
set_option linter.unusedSimpArgs false
namespace Go.Proofs.YtbiahhojnjchnaaGreat
open Go.RowKit
def L0:List Int:=[97,40,63,60,120,62,98,124,99,41,42]
def oth0 (s:PS) (t:Tk) (nx:Int):FR (Tr × PS):=.error (0,0)
def tr0:Tr:=.mk 9 [] [.mk 2 [(97,97)] [] 0 0 0 0 false,.mk 12 [] [.mk 11 [] [.mk 10 [] [.mk 2 [(98,98)] [] 0 0 0 0 false,.mk 2 [(99,99)] [] 0 0 0 0 false] 0 0 0 0 false] 1 0 0 0 false] 0 0 (-1) 1 false] 0 0 0 0 false
def se0:PS:={ at_:=11,fold:=false,deep:=0,groups:=1,names:=[([120],1)],ags:=[] }
theorem parse_L0 (canL:(Int→Prop)→List (Int × Int)) (FQ:(Int→Prop)→Int→Prop):patternS (parK canL FQ oth0 1 L0 20) 1 L0 (ps0 false)=.ok (tr0,se0):=by rfl
theorem toks_L0 {at_:Int} (h0:0≤at_) (h1:at_ < 11):∃ t nx,tokenP 1 L0 at_=.ok (t,nx)∧(t.kind=1∨t.kind=6∨t.kind=7∨t.kind=8∨t.kind=9)∧(t.kind=1→0≤t.num∧t.num≤1114111):=by
 obtain ⟨k,rfl⟩:∃ k:Nat,at_=k:=⟨at_.toNat,by omega⟩
 match k,h1 with
 | 0,_=>exact ⟨_,_,rfl,by decide,by decide⟩
 | 1,_=>exact ⟨_,_,rfl,by decide,by decide⟩
 | 2,_=>exact ⟨_,_,rfl,by decide,by decide⟩
 | 3,_=>exact ⟨_,_,rfl,by decide,by decide⟩
 | 4,_=>exact ⟨_,_,rfl,by decide,by decide⟩
 | 5,_=>exact ⟨_,_,rfl,by decide,by decide⟩
 | 6,_=>exact ⟨_,_,rfl,by decide,by decide⟩
 | 7,_=>exact ⟨_,_,rfl,by decide,by decide⟩
 | 8,_=>exact ⟨_,_,rfl,by decide,by decide⟩
 | 9,_=>exact ⟨_,_,rfl,by decide,by decide⟩
 | 10,_=>exact ⟨_,_,rfl,by decide,by decide⟩
theorem next_L0 {s:PS} {t:Tk} {nx:Int} (h0:0≤s.at_) (h:nextS 1 L0 s=.ok (some (t,nx))):(t.kind=1∨t.kind=6∨t.kind=7∨t.kind=8∨t.kind=9)∧(t.kind=1→0≤t.num∧t.num≤1114111):=by
 unfold nextS at h
 split at h
 ·cases h
 ·rename_i hlt
  have:(L0.length:Int)=11:=rfl
  obtain ⟨t',nx',e,k1,k2⟩:=toks_L0 h0 (by omega)
  rw [e] at h
  cases h
  exact ⟨k1,k2⟩
theorem oth_L0 (b n c:Nat) (A:Option Addr):OthC b n c 1 A L0 oth0 :=
 ⟨fun s V1 V2 t nx w hp hn h1 h6 h7 h8 h9=>by rcases (next_L0 hp.lo hn).1 with h|h|h|h|h<;>contradiction,
  fun s t nx p h0 hn h1 h6 h7 h8 h9 _=>by rcases (next_L0 h0 hn).1 with h|h|h|h|h<;>contradiction,
  fun s t nx h0 hn hk=>(next_L0 h0 hn).2 hk⟩
theorem ptAt_mem (l:List Int) (p:Int):ptAt l p ∈ l∨ptAt l p=-1:=by
 unfold ptAt
 split
 ·exact .inl (List.getElem_mem _)
 ·exact .inr rfl
theorem tok_L0:TokC 1 L0:=tokC_plain fun p=>by
 rcases ptAt_mem L0 p with h|h
 ·constructor
  ·intro e;rw [e] at h;revert h;decide
  ·intro e;rw [e] at h;revert h;decide
 ·rw [h];decide
theorem right_L0:rightE 1 L0=0:=by rfl
theorem can_some:∃ canL:(Int→Prop)→List (Int × Int),∀ f out,IsSet out f→canL f=out:=by
 classical
 refine ⟨fun f=>if h:∃ out,IsSet out f then h.choose else [],fun f out h=>?_⟩
 have hx:∃ out,IsSet out f:=⟨out,h⟩
 simp only [dif_pos hx]
 exact IsSet.eq hx.choose_spec h fun _=>Iff.rfl
theorem n1_L0 {w:World} {B n:Nat} {v:Value} (h:w.ownsRow B 3 1 v n (ints L0)):n=11:=by
 have:=h.1
 have e:(ints L0).length=11:=rfl
 omega
abbrev S0:ByteArray:=⟨#[97,40,63,60,120,62,98,124,99,41,42]⟩
set_option maxRecDepth 100000 in
set_option maxHeartbeats 8000000 in
theorem parseBegun21 {FQ:(Int→Prop)→Int→Prop} (HF:Hid (FoldC FQ)) (w:World):Calls Tryz.prog 21 #[] w fun e w'=>e=.returned (.bool true)∧Below w.heap.size w w':=by
 obtain ⟨canL,hcan⟩:=can_some
 have C42:=Lib.hid (pointsOf42 S0 w (by decide))
 rw [show ptsOf S0=L0 from rfl] at C42
 have C22:=Lib.hid (fun (A:Option Addr) (n c:Nat) (W:World) (hn:n≤300) (hc:n≤c) (hm:c≤maxLen) (hr:Rds W W.heap.size 1 A n (ints L0)) (h11:n=11) =>
  parse22_ok (Lib.hid tok_L0) (fun b=>oth_L0 b n c A) (Lib.hid hcan) HF hn hc hm hr right_L0 (parse_L0 canL FQ) (by rw [h11];exact Int.le_refl _) rfl rfl (by decide))
 have HCAN:=Lib.hid hcan
 clear hcan
 go_enter Tryz.func21,Tryz.ntmps21
 go_upto_region 2 with (first
  | (go_at_call 42;(with_reducible refine C42.out.mono ?_);rintro e w1 ⟨A1,n1,c1,rfl,ho,hb⟩;obtain ⟨A1',c1',e1,hnc,hcm⟩:=own_slice ho;cases e1;have h11:n1=11:=n1_L0 ho;subst h11;have HNC:=Lib.hid hnc;have HCM:=Lib.hid hcm;clear hnc hcm;have HR1:=Lib.hid (Rds.of_own ho);have HB1:=Lib.hid hb;clear ho hb)
  | (go_at_call 22;(with_reducible refine (C22.out A1 11 c1 w1 (by omega) HNC.out HCM.out HR1.out rfl).mono ?_);rintro e w2 ⟨dd,A2,c2,rfl,hnd,hnm,hb⟩;have HB2:=Lib.hid hb;have HND:=hnd;have HNM:=hnm;clear hb hnd hnm))
 have hk9:dd.kind=9:=by obtain ⟨ds,h⟩:=NodeAt.of HND.out;exact h.kind
 have hk2:dd.kn=2:=by obtain ⟨ds,h⟩:=NodeAt.of HND.out;have h1:=nodes_at h.kids;have h2:=KidsAt.len h.each;rw [← h1,← h2];rfl
 rw [hk9,hk2,show se0.groups=1 from rfl,show se0.names.length=1 from rfl]
 obtain ⟨Y,hY⟩:∃ Y,Y=((w2.alloc (Obj.cells #[Value.int IntKind.i64 9,Value.slice dd.sA dd.sn dd.sc,Value.slice dd.kA 2 dd.kc,Value.int IntKind.i64 dd.num,Value.int IntKind.i64 dd.least,Value.int IntKind.i64 dd.most,Value.int IntKind.i64 dd.way,Value.bool dd.fold,Value.int IntKind.i64 1,Value.slice A2 1 c2] 45)).alloc (Obj.cells #[Value.int IntKind.i64 0,Value.int IntKind.i64 0] 26)):=⟨_,rfl⟩
 have z0:Y.heap[w2.heap.size]?=some (.cells #[Value.int IntKind.i64 9,Value.slice dd.sA dd.sn dd.sc,Value.slice dd.kA 2 dd.kc,Value.int IntKind.i64 dd.num,Value.int IntKind.i64 dd.least,Value.int IntKind.i64 dd.most,Value.int IntKind.i64 dd.way,Value.bool dd.fold,Value.int IntKind.i64 1,Value.slice A2 1 c2] 45 (0,0)):=by rw [hY];exact hz_alloc (heap_alloc_new w2 _)
 have z1:Y.heap[w2.heap.size+1]?=some (.cells #[.int .i64 0,.int .i64 0] 26 (0,0)):=by rw [hY];have:=heap_alloc_new (w2.alloc (Obj.cells #[Value.int IntKind.i64 9,Value.slice dd.sA dd.sn dd.sc,Value.slice dd.kA 2 dd.kc,Value.int IntKind.i64 dd.num,Value.int IntKind.i64 dd.least,Value.int IntKind.i64 dd.most,Value.int IntKind.i64 dd.way,Value.bool dd.fold,Value.int IntKind.i64 1,Value.slice A2 1 c2] 45)) (.cells #[.int .i64 0,.int .i64 0] 26);simpa using this
 have hBY:Below w2.heap.size w2 Y:=by rw [hY];exact ((Below.refl _ _).alloc (Nat.le_refl _) _).alloc (by simp) _
 have HBY:=Lib.hid ((HB1.out.trans (HB2.out.mono HB1.out.size)).trans (hBY.mono (Nat.le_trans HB1.out.size HB2.out.size)))
 have HNY:=Lib.hid ((HNM.out.below hBY (Nat.le_refl _)).more hBY.size)
 rw [show nameVs se0.names=nms [(⟨#[120]⟩,1)] from rfl] at HNY
 have C26:=Lib.hid (number26 ⟨9,dd.sA,dd.sn,dd.sc,dd.kA,2,dd.kc,dd.num,dd.least,dd.most,dd.way,dd.fold⟩ 1 A2 1 c2 [(⟨#[120]⟩,1)] ⟨#[120]⟩ Y HNY.out (by unfold maxLen;omega))
 unfold patV at C26
 rw [show numF ⟨#[120]⟩ [(⟨#[120]⟩,1)]=(1,0) from rfl] at C26
 have HZ0:=Lib.hid z0
 have HZ1:=Lib.hid z1
 rw [← hY]
 clear hY z0 z1 hBY HND HNM HNY hk9 hk2
 have f0:=cell_of_row _ _ 0 _ _ _ HZ0.out
 have f1:=cell_of_row _ _ 1 _ _ _ HZ0.out
 have f2:=cell_of_row _ _ 2 _ _ _ HZ0.out
 have f3:=cell_of_row _ _ 3 _ _ _ HZ0.out
 have f4:=cell_of_row _ _ 4 _ _ _ HZ0.out
 have f5:=cell_of_row _ _ 5 _ _ _ HZ0.out
 have f6:=cell_of_row _ _ 6 _ _ _ HZ0.out
 have f7:=cell_of_row _ _ 7 _ _ _ HZ0.out
 have f8:=cell_of_row _ _ 8 _ _ _ HZ0.out
 have f9:=cell_of_row _ _ 9 _ _ _ HZ0.out
 simp only [List.getElem?_toArray,List.getElem?_cons_zero,List.getElem?_cons_succ] at f0 f1 f2 f3 f4 f5 f6 f7 f8 f9
 go_upto_region 3 with (go_at_call 26;(with_reducible refine C26.out.mono ?_);rintro e w3 ⟨rfl,hb⟩;have HB3:=Lib.hid hb;clear hb)
 have HZ0':=Lib.hid (row_next HZ0.out HB3.out)
 have HZ1':=Lib.hid (row_next HZ1.out HB3.out)
 have HBF:=Lib.hid (HBY.out.trans (HB3.out.mono HBY.out.size))
 clear f0 f1 f2 f3 f4 f5 f6 f7 f8 f9 HZ0 HZ1 C26 HB3 HBY C22 C42 HB1 HB2
 have g0:=cell_of_row _ _ 0 _ _ _ HZ0'.out
 have g2:=cell_of_row _ _ 2 _ _ _ HZ0'.out
 have g8:=cell_of_row _ _ 8 _ _ _ HZ0'.out
 have e0:=cell_of_row _ _ 0 _ _ _ HZ1'.out
 simp only [List.getElem?_toArray,List.getElem?_cons_zero,List.getElem?_cons_succ] at g0 g2 g8 e0
 go_wp2_with fail
 go_ret
 exact ⟨ret_bool (by simp),HBF.out⟩
end Go.Proofs.YtbiahhojnjchnaaGreat
