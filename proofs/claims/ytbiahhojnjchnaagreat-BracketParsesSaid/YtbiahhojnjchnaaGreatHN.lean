/-
  The reference's reader of bracket expressions in its block; what is wrong: walked. An item of a bracket expression, of the reference: a class by name: walked. An item of a bracket expression, of the reference: its other ways: walked.
-/
import Derived.Test.YtbiahhojnjchnaaGreatHI
import Derived.Test.YtbiahhojnjchnaaGreatGV
import Derived.Deep.QuietTactic
import Derived.BigQuiet
import Derived.Test.YtbiahhojnjchnaaGreatGN
import Derived.Test.YtbiahhojnjchnaaGreatGZ
import Derived.Test.YtbiahhojnjchnaaGreatGS
set_option linter.unusedVariables false
set_option linter.unusedSimpArgs false
namespace Go.Proofs.YtbiahhojnjchnaaGreat
open Go.RowKit
structure Rb (b n c:Nat) (d:Int) (fo:Bool) (A:Option Addr) (l:List Int) (at_ dp e x:Int) (w:World):Prop where
 hp:w.heap[b]?=some (.cells #[.int .i64 d,.slice A n c,.int .i64 at_,.bool fo,.int .i64 dp,.int .i64 e,.int .i64 x] 63 (0,0))
 row:Pts b n c A l w
 small:n≤300
/-- it stands within, and nothing is wrong -/
structure Rs (b n c:Nat) (d:Int) (fo:Bool) (dp:Int) (A:Option Addr) (l:List Int) (at_:Int) (w:World):Prop where
 rb:Rb b n c d fo A l at_ dp 0 0 w
 lo:0≤at_
 hi:at_≤n
/-- this is wrong -/
def Rf (b n c:Nat) (d:Int) (fo:Bool) (A:Option Addr) (l:List Int) (q:Int × Int) (w:World):Prop:=∃ a p,Rb b n c d fo A l a p q.1 q.2 w
section
variable {b n c:Nat} {d at_ dp e x:Int} {fo:Bool} {A:Option Addr} {l:List Int} {w w':World}
theorem Rb.lt (h:Rb b n c d fo A l at_ dp e x w):b < w.heap.size:=lt_heap h.hp
theorem Rb.len (h:Rb b n c d fo A l at_ dp e x w):l.length=n:=h.row.len
theorem Rb.next (h:Rb b n c d fo A l at_ dp e x w) (hb:Below w.heap.size w w'):Rb b n c d fo A l at_ dp e x w' :=
 ⟨row_next h.hp hb,⟨h.row.row.below hb (Nat.le_of_lt h.lt),h.row.small⟩,h.small⟩
theorem Rb.below {C:Nat} (h:Rb b n c d fo A l at_ dp e x w) (hb:Below C w w') (hC:b < C):Rb b n c d fo A l at_ dp e x w' :=
 ⟨(hb.block b hC).trans h.hp,⟨h.row.row.below hb (Nat.le_of_lt hC),h.row.small⟩,h.small⟩
theorem Rb.set (h:Rb b n c d fo A l at_ dp e x w) {j:Nat} {v:Value} {a p f y:Int} (hv:(#[.int .i64 d,.slice A n c,.int .i64 at_,.bool fo,.int .i64 dp,.int .i64 e,.int .i64 x]:Array Value).setIfInBounds j v=#[.int .i64 d,.slice A n c,.int .i64 a,.bool fo,.int .i64 p,.int .i64 f,.int .i64 y]) :
  Rb b n c d fo A l a p f y (w.setCell ⟨b,j,none⟩ v):=⟨put1 (i:=j) h.hp hv,⟨h.row.row.setCell (Nat.le_refl _) _,h.row.small⟩,h.small⟩
theorem Rb.cells (h:Rb b n c d fo A l at_ dp e x w):w.cell? ⟨b,0,none⟩=some (.int .i64 d)∧w.cell? ⟨b,1,none⟩=some (.slice A n c)∧w.cell? ⟨b,2,none⟩=some (.int .i64 at_)∧w.cell? ⟨b,3,none⟩=some (.bool fo)∧w.cell? ⟨b,4,none⟩=some (.int .i64 dp)∧w.cell? ⟨b,5,none⟩=some (.int .i64 e)∧w.cell? ⟨b,6,none⟩=some (.int .i64 x) ∧
  w.frozen? ⟨b,2,none⟩=false∧w.frozen? ⟨b,4,none⟩=false:=by
 refine ⟨?_,?_,?_,?_,?_,?_,?_,frozen_row h.hp,frozen_row h.hp⟩<;>rw [cell_of_row _ _ _ _ _ _ h.hp]<;>rfl
theorem Rb.says (h:Rb b n c d fo A l at_ dp e x w) {p:Int} {v:Bool} {s:ByteArray} (hp:0≤p∧p≤2000) (hs:s.size≤100) (hv:saysP l p s.data.toList=v) :
  ∀ x,Calls Tryz.prog 61 #[.slice A n c,.int .i64 p,.string s] (w.drewN x) fun e w'=>e=.returned (.bool v)∧∃ q,w'=w.drewN q:=fun x=>by
 have hr:=(h.row.row.below (below_drewN (Below.refl w.heap.size w) x) (Nat.le_of_lt h.lt))
 refine (says18 l p s A n c b (w.drewN x) (by have:=h.small;unfold maxLen;omega) hs (by omega) (by omega) hr).mono ?_
 rintro e w' ⟨rfl,q,rfl⟩
 exact ⟨by rw [hv],x+q,by rw [World.drewN_drewN]⟩
theorem Rb.says0 (h:Rb b n c d fo A l at_ dp e x w) {p:Int} {v:Bool} {s:ByteArray} (hp:0≤p∧p≤2000) (hs:s.size≤100) (hv:saysP l p s.data.toList=v) :
  Calls Tryz.prog 61 #[.slice A n c,.int .i64 p,.string s] w fun e w'=>e=.returned (.bool v)∧∃ q,w'=w.drewN q:=h.says hp hs hv 0
theorem Rs.next (h:Rs b n c d fo dp A l at_ w) (hb:Below w.heap.size w w'):Rs b n c d fo dp A l at_ w':=⟨h.rb.next hb,h.lo,h.hi⟩
theorem Rs.below {C:Nat} (h:Rs b n c d fo dp A l at_ w) (hb:Below C w w') (hC:b < C):Rs b n c d fo dp A l at_ w':=⟨h.rb.below hb hC,h.lo,h.hi⟩
theorem Rs.move (h:Rs b n c d fo dp A l at_ w) {y:Int} (h0:0≤y) (h1:y≤n):Rs b n c d fo dp A l y (w.setCell ⟨b,2,none⟩ (.int .i64 y)):=⟨h.rb.set (j:=2) rfl,h0,h1⟩
theorem Rs.deepen (h:Rs b n c d fo dp A l at_ w) (y:Int):Rs b n c d fo y A l at_ (w.setCell ⟨b,4,none⟩ (.int .i64 y)):=⟨h.rb.set (j:=4) rfl,h.lo,h.hi⟩
set_option maxRecDepth 100000 in
set_option maxHeartbeats 4000000 in
theorem wrong33 (h:Rb b n c d fo A l at_ dp 0 0 w) (f y:Int) :
  Calls Tryz.prog 33 #[.pointer (some ⟨b,0,none⟩),.int .i64 f,.int .i64 y] w fun e w'=>e=.returned (.tuple #[])∧Kept b w w'∧Rb b n c d fo A l at_ dp f y w':=by
 have HR:=Lib.hid h
 obtain ⟨c0,c1,c2,c3,c4,c5,c6,f2,f4⟩:=h.cells
 have f5:w.frozen? ⟨b,5,none⟩=false:=frozen_row h.hp
 have f6:w.frozen? ⟨b,6,none⟩=false:=frozen_row h.hp
 clear h
 go_enter Tryz.func33,Tryz.ntmps33
 go_wp2
 go_end0
 refine ⟨rfl,((Kept.refl b w).set 5 _).set 6 _,?_⟩
 exact (HR.out.set (j:=5) (a:=at_) (p:=dp) (f:=f) (y:=0) rfl).set (j:=6) rfl
end
end Go.Proofs.YtbiahhojnjchnaaGreat
namespace Go.Proofs.YtbiahhojnjchnaaGreat
open Go.RowKit
def RIsC:Prop:=∀ (s:ByteArray) (v:Bool) (w:World),(cls s.toList).isSome=v→Calls Tryz.prog 120 #[.string s] w fun e w'=>e=.returned (.bool v)∧Below w.heap.size w w'
def RClsC:Prop:=∀ (s:ByteArray) (L:List (Int × Int)) (w:World),cls s.toList=some L→Calls Tryz.prog 121 #[.string s] w fun e w'=>∃ out,IsSet out (mem L)∧out.length≤13001∧OwnRngs w out e w'
def RNotC:Prop:=∀ (a:List (Int × Int)) (A:Option Addr) (n c:Nat) (w:World),n≤500000→c≤maxLen→(∀ r ∈ a,okR r=true)→Rds w w.heap.size 2 A n (rngs a)→Calls Tryz.prog 65 #[.slice A n c] w fun e w'=>∃ out,IsSet out (fun p=>0≤p∧p≤1114111∧¬ mem a p)∧OwnRngs w out e w'
def RI (b n c:Nat) (d:Int) (fo:Bool) (dp:Int) (A:Option Addr) (l:List Int) (r:BR Itm) (w:World) (e:Ending) (w':World):Prop :=
 Kept b w w'∧match r with
 | .error q=>(∃ v z,e=.returned (.tuple #[v,.int .i64 z]))∧Rf b n c d fo A l q w'
 | .ok q=>∃ out A' n' c',IsSet out q.f∧e=.returned (.tuple #[.slice A' n' c',.int .i64 q.pt])∧Rds w' w'.heap.size 2 A' n' (rngs out)∧Rs b n c d fo dp A l q.nx w'
theorem saysP_b1 (l:List Int) (p:Int) (x:UInt8):saysP l p [x]=saysB l p [(x.toNat:Int)]:=by rw [saysP_one];simp [saysB]
theorem saysP_b2 (l:List Int) (p:Int) (x y:UInt8):saysP l p [x,y]=saysB l p [(x.toNat:Int),(y.toNat:Int)]:=by rw [saysP_two];simp [saysB]
/-- a class, turned over if asked -/
theorem nmStr_bytes (l:List Int) (p:Int) (k:Nat):nmStr l p k=⟨(bytesP (runPts l p k)).toArray⟩:=rfl
theorem low_end {l:List Int} {n K:Nat} {a:Int} (hlen:l.length=n) (hKn:a+K≤n) (hK:K=runLen isLow l a ((l.length:Int) - a).toNat):isLow (ptAt l (a+(K:Int)))=false:=by
 rcases Nat.lt_or_ge K ((l.length:Int) - a).toNat with h1|h1
 ·have:=runLen_no isLow l ((l.length:Int) - a).toNat a (by rw [← hK];exact h1)
  rwa [← hK] at this
 ·cases h:isLow (ptAt l (a+(K:Int)))
  ·rfl
  ·have:=in_pt hlen (p:=a+(K:Int)) (fun x=>by rw [x] at h;cases h)
   omega
theorem pts_cell {B n c:Nat} {A:Option Addr} {l:List Int} {w:World} (h:Pts B n c A l w) {p:Int} (h0:0≤p) (h1:p < n) :
  ∃ b2 o2,A=some ⟨b2,o2,none⟩∧w.cell? ⟨b2,o2+p.toNat,none⟩=some (.int .i64 (ptAt l p)):=by
 obtain ⟨b2,off2,hl2,hA2,hb2,hc2⟩:=h.row.int_at (k:=p.toNat) (by omega)
 refine ⟨b2,off2,hA2,?_⟩
 have:=ptAt_in l hl2
 rw [show ((p.toNat:Nat):Int)=p by omega] at this
 rw [hc2,this]
theorem btwT (x:Int) {v:Bool} (w:World) (h:isLow x=v):Calls Tryz.prog 119 #[.int .i64 x,.int .i64 97,.int .i64 122] w fun e w'=>e=.returned (.bool v)∧w=w':=by
 have:=between31 x 97 122 w
 unfold isLow at h
 rwa [h] at this
theorem clsF_no (L:List (Int × Int)):clsF L false=mem L:=by funext p;simp [clsF]
theorem clsF_yes (L:List (Int × Int)):clsF L true=fun p=>0≤p∧p≤1114111∧¬ mem L p:=by funext p;simp [clsF]
theorem mem_fun' {a:List (Int × Int)} {f:Int→Prop} (h:IsSet a f):mem a=f:=funext fun p=>propext (h.2 p)
theorem own_slice_cap {w:World} {base:Nat} {e:TypeId} {size n m c:Nat} {A:Option Addr} {xs:List Value} (h:w.ownsRow base e size (.slice A m c) n xs):c≤maxLen:=by
 obtain ⟨A',c',e,_,h2⟩:=own_slice h
 injection e with _ _ e;omega
section
variable {b n c:Nat} {d at_ dp:Int} {fo:Bool} {A:Option Addr} {l:List Int} {w:World}
set_option maxRecDepth 100000 in
set_option maxHeartbeats 8000000 in
theorem ritem_named (HI:Hid RIsC) (HC:Hid RClsC) (HN:Hid RNotC) (h:Rs b n c d fo dp A l at_ w) (hb:saysB l at_ [91,58]=true) {nt:Bool} {a:Int} {K:Nat} {r:BR Itm}
  (hnt:(decide (d=1) && saysB l (at_+2) [94])=nt) (ha:a=if nt=true then at_+3 else at_+2) (hK:K=runLen isLow l a ((l.length:Int) - a).toNat)
  (hr:r=if K=0∨saysB l (a+K) [58,93]=false then .error (1,a+K) else match cls (bytesP (runPts l a K)) with|none=>.error (5,at_)|some L=>.ok ⟨clsF L nt,-1,a+K+2⟩) (han:a≤n) (hKn:a+K≤n) (hfit:K=0∨saysB l (a+K) [58,93]=false∨a+K+2≤n) :
  Calls Tryz.prog 94 #[.pointer (some ⟨b,0,none⟩)] w (RI b n c d fo dp A l r w):=by
 have hlo:=h.lo
 have hsm:=h.rb.small
 have hlen:=h.rb.len
 have HS:=Lib.hid h
 have HB:=Lib.hid (h.rb.says0 (p:=at_) (s:=⟨#[91,58]⟩) (by have:=h.hi;omega) (by decide) ((saysP_b2 l at_ 91 58).trans hb))
 have HNT:=Lib.hid hnt
 have HA:=Lib.hid ha
 have HK:=Lib.hid hK
 have HR:=Lib.hid hr
 have HF:=Lib.hid hfit
 have hhi:=h.hi
 obtain ⟨c0,c1,c2,c3,c4,c5,c6,f2,f4⟩:=h.rb.cells
 have W2:IntKind.i64.wrap (at_+2)=at_+2:=IntWalk.i64_in _ (by omega)
 clear h hb hnt ha hK hr hfit
 go_enter Tryz.func94,Tryz.ntmps94
 go_upto_region 5 with (go_at_call 61;(with_reducible refine HB.out.mono ?_);rintro e w1 ⟨rfl,q1,rfl⟩)
 clear c0 c1 c2 c3 c4 c5 c6 f2 f4
 have HS1:=Lib.hid (HS.out.next (below_drewN (Below.refl _ _) q1))
 have HB1:=Lib.hid (below_drewN (Below.refl w.heap.size w) q1)
 obtain ⟨W,hW⟩:∃ W,W=w.drewN q1:=⟨_,rfl⟩
 rw [← hW] at HS1 HB1
 rw [← hW]
 clear hW
 obtain ⟨c0,c1,c2,c3,c4,c5,c6,f2,f4⟩:=HS1.out.rb.cells
 have HNTS:=Lib.hid (fun v hv=>HS1.out.rb.says0 (p:=at_+2) (s:=⟨#[94]⟩) (v:=v) (by omega) (by decide) ((saysP_b1 l (at_+2) 94).trans hv))
 obtain ⟨ru,hru⟩:∃ ru:Bool,ru=(d == 1):=⟨_,rfl⟩
 rw [← hru]
 have HRU:=Lib.hid hru
 clear hru
 go_cut [7] from 34 to 43 (fun y wc=>y=.bool nt∧∃ q,wc=W.drewN q)
 ·cases ru with
  | true =>
   have hs:saysB l (at_+2) [94]=nt:=by have h1:=HRU.out;simp at h1;have:=HNT.out;simpa [h1.symm] using this
   have HSY:=Lib.hid (HNTS.out _ hs)
   clear hs HNT HNTS
   go_wp2_with (go_at_call 61;(with_reducible refine HSY.out.mono ?_);rintro e w1 ⟨rfl,q1,rfl⟩)
   go_meet
   exact ⟨rfl,_,rfl⟩
  | false =>
   have e:nt=false:=by
    have h1:d≠1:=fun x=>by have:=HRU.out;rw [x] at this;cases this
    rw [← HNT.out];simp [h1]
   subst e
   go_wp2_with fail
   go_meet
   exact ⟨rfl,0,rfl⟩
 obtain ⟨rfl,q2,rfl⟩:=hcut
 go_upto_if 43 with (fail)
 go_cut [6] from 43 to 46 (fun z wc=>z=.int .i64 a∧wc=W.drewN q2)
 ·cases nt with
  | true =>
   have EA:=Lib.hid (show at_+2+1=a by have:=HA.out;simp at this;omega)
   have W3:IntKind.i64.wrap (at_+2+1)=at_+2+1:=IntWalk.i64_in _ (by omega)
   go_wp2_with fail
   go_meet
   exact ⟨by rw [EA.out],rfl⟩
  | false =>
   have EA:=Lib.hid (show at_+2=a by have:=HA.out;simp at this;omega)
   go_wp2_with fail
   go_meet
   exact ⟨by rw [EA.out],rfl⟩
 obtain ⟨rfl,rfl⟩:=hcut
 clear c0 c1 c2 c3 c4 c5 c6 f2 f4
 have HS2:=Lib.hid (HS1.out.next (below_drewN (Below.refl _ _) q2))
 have HB2:=Lib.hid (below_drewN HB1.out q2)
 obtain ⟨V,hV⟩:∃ V,V=W.drewN q2:=⟨_,rfl⟩
 rw [← hV] at HS2 HB2
 rw [← hV]
 clear hV HS1 HB1 HNTS HNT
 have HNS:=Lib.hid (nmStr_bytes l a)
 have hK0:0≤a:=by have:=HA.out;cases nt<;>simp at this<;>omega
 have HYES:=Lib.hid (fun j (hj:j < K)=>show isLow (ptAt l (a+(j:Int)))=true by have:=HK.out;rw [this] at hj;exact runLen_yes isLow l _ a j hj)
 have HNO:=Lib.hid (low_end hlen hKn HK.out)
 go_wp2_with fail
 go_loopw [6,8] (fun z s wr=>∃ j:Nat,j≤K∧z=.int .i64 (a+j)∧s=.string (nmStr l a j)∧Hid (Below w.heap.size w wr)) (fun z _ _=>K - (intOf z - a).toNat)
 case atStart=>exact ⟨0,Nat.zero_le _,by simp,rfl,HB2⟩
 case round =>
  obtain ⟨j,hj,rfl,rfl,HW⟩:=hrel
  have hsz:=HW.out.size
  have HSR:=Lib.hid (HS.out.next HW.out)
  obtain ⟨c0,c1,c2,c3,c4,c5,c6,f2,f4⟩:=HSR.out.rb.cells
  by_cases hlt:j < K
  ·have HL:=HYES.out j hlt
   have C92:=Lib.hid (pointAt28 l (a+j) A n c b wr (by unfold maxLen;omega) HSR.out.rb.row.row)
   have HIN:=in_pt hlen (p:=a+(j:Int)) (fun x=>by rw [x] at HL;cases HL)
   have HSUC:=Lib.hid (nmStr_succ l a j)
   have hix:=pts_cell HSR.out.rb.row (p:=a+(j:Int)) (by omega) (by omega)
   obtain ⟨x,hx⟩:∃ x,x=ptAt l (a+j):=⟨_,rfl⟩
   rw [← hx] at C92 HL HSUC hix
   obtain ⟨b2,o2,rfl,hix⟩:=hix
   have hi0:(0:Int)≤a+j:=by omega
   have hi1:a+(j:Int) < (n:Int):=by omega
   clear hx
   have C119:=Lib.hid (btwT x wr HL)
   have hcv:=conv_one wr x
   have hss:(strOfNums [x]).size=1:=strOfNums_size _
   unfold isLow at HL
   simp at HL
   have hx8:IntKind.u8.wrap x=x:=by rw [IntKind.wrap_u8];omega
   have hsl:=nmStr_size l a j
   obtain ⟨s,hs⟩:∃ s,s=nmStr l a j:=⟨_,rfl⟩
   rw [← hs] at hsl HSUC ⊢
   clear hs
   go_wp2_with (first|(go_at_call 92;(with_reducible refine C92.out.mono ?_);rintro e w' ⟨rfl,rfl⟩)|(go_at_call 119;(with_reducible refine C119.out.mono ?_);rintro e w' ⟨rfl,rfl⟩))
   go_roundw
   case rel=>exact ⟨j+1,by omega,by first|rfl|go_num|(congr 1;omega),by rw [HSUC.out],Lib.hid (HW.out.alloc hsz _)⟩
   case measure=>simp [intOf];omega
  ·obtain rfl:j=K:=by omega
   clear hlt
   have C92:=Lib.hid (pointAt28 l (a+j) A n c b wr (by unfold maxLen;omega) HSR.out.rb.row.row)
   have C119:=Lib.hid (btwT _ wr HNO.out)
   have hsl:=nmStr_size l a j
   obtain ⟨s,hs⟩:∃ s,s=nmStr l a j:=⟨_,rfl⟩
   rw [← hs] at hsl ⊢
   have HSS:=Lib.hid hs
   clear hs
   obtain ⟨x,hx⟩:∃ x,x=ptAt l (a+j):=⟨_,rfl⟩
   rw [← hx] at C92 C119
   clear hx
   have CW:=Lib.hid (fun f y=>wrong33 HSR.out.rb f y)
   go_upto_region 12 with (first|(go_at_call 92;(with_reducible refine C92.out.mono ?_);rintro e w' ⟨rfl,rfl⟩)|(go_at_call 119;(with_reducible refine C119.out.mono ?_);rintro e w' ⟨rfl,rfl⟩))
   clear C92 C119 HNO HYES
   by_cases hj0:j=0
   ·have he:s=⟨#[]⟩:=by
     have:s.data.size=0:=by have:=hsl;rw [hj0] at this;exact this
     cases s with|mk d=>simp at this;rw [this]
    subst he
    have HRR:=Lib.hid (show r=.error (1,a+j) by rw [HR.out,if_pos (.inl hj0)])
    clear hj0
    go_wp2_with (first 
     | (go_at_call 33;(with_reducible refine (CW.out _ _).mono ?_);rintro e w9 ⟨rfl,hk9,hr9⟩))
    go_ret2
    rw [HRR.out]
    exact ⟨(Kept.of HW.out).trans hk9,⟨_,_,rfl⟩,_,_,hr9⟩
   ·have hse:s≠⟨#[]⟩:=fun x=>hj0 (by rw [x] at hsl;exact hsl.symm)
    have hse1:(s.toList == [])=false:=by
     rw [beq_eq_false_iff_ne,ByteArray.toList_eq]
     intro x
     exact hse (ByteArray.ext (Array.toList_inj.1 x))
    have HSE:=Lib.hid hse
    clear hse
    have HJ0:=Lib.hid hj0
    clear hj0
    cases h58:saysB l (a+j) [58,93] with
    | false =>
     have HRR:=Lib.hid (show r=.error (1,a+j) by rw [HR.out,if_pos (.inr h58)])
     have CS:=Lib.hid (HSR.out.rb.says0 (p:=a+j) (s:=⟨#[58,93]⟩) (by omega) (by decide) ((saysP_b2 l _ 58 93).trans h58))
     clear h58
     go_wp2_with (first
      | (go_at_call 61;(with_reducible refine CS.out.mono ?_);rintro e w8 ⟨rfl,q8,hq8⟩;have HB8:=Lib.hid (show Below wr.heap.size wr w8 by rw [hq8];exact below_drewN (Below.refl _ _) _);clear hq8)
      | (go_at_call 33;(with_reducible refine (wrong33 (HSR.out.rb.next HB8.out) _ _).mono ?_);rintro e w9 ⟨rfl,hk9,hr9⟩))
     go_ret2
     rw [HRR.out]
     exact ⟨(Kept.of (HW.out.trans (HB8.out.mono hsz))).trans hk9,⟨_,_,rfl⟩,_,_,hr9⟩
    | true =>
     have CS:=Lib.hid (HSR.out.rb.says0 (p:=a+j) (s:=⟨#[58,93]⟩) (by omega) (by decide) ((saysP_b2 l _ 58 93).trans h58))
     have hend:a+j+2≤n:=by
      rcases HF.out with h|h|h
      ·exact absurd h HJ0.out
      ·rw [h58] at h;cases h
      ·exact h
     have W4:IntKind.i64.wrap (a+j+2)=a+j+2:=IntWalk.i64_in _ (by omega)
     have HR2:=Lib.hid (HR.out.trans (if_neg (fun x=>x.elim HJ0.out fun y=>by rw [h58] at y;cases y)))
     have HST:s.toList=bytesP (runPts l a j):=by rw [HSS.out,HNS.out,ByteArray.toList_eq]
     rw [← HST] at HR2
     clear h58 HST
     cases hc:cls s.toList with
     | none =>
      rw [hc] at HR2
      have CI:=Lib.hid (fun w=>HI.out s false w (by rw [hc];rfl))
      clear hc
      go_wp2_with (first
       | (go_at_call 61;(with_reducible refine CS.out.mono ?_);rintro e w8 ⟨rfl,q8,hq8⟩;have HB8:=Lib.hid (show Below wr.heap.size wr w8 by rw [hq8];exact below_drewN (Below.refl _ _) _);clear hq8)
       | (go_at_call 120;(with_reducible refine (CI.out _).mono ?_);rintro e w7 ⟨rfl,hb7⟩;have HB7:=Lib.hid (HB8.out.trans (hb7.mono HB8.out.size));clear hb7)
       | (go_at_call 33;(with_reducible refine (wrong33 (HSR.out.rb.next HB7.out) _ _).mono ?_);rintro e w9 ⟨rfl,hk9,hr9⟩))
      go_ret2
      rw [HR2.out]
      exact ⟨(Kept.of (HW.out.trans (HB7.out.mono hsz))).trans hk9,⟨_,_,rfl⟩,_,_,hr9⟩
     | some L =>
      rw [hc] at HR2
      have CI:=Lib.hid (fun w=>HI.out s true w (by rw [hc];rfl))
      have CC:=Lib.hid (fun w=>HC.out s L w hc)
      clear hc
      go_upto_region 19 with (first
       | (go_at_call 61;(with_reducible refine CS.out.mono ?_);rintro e w8 ⟨rfl,q8,hq8⟩;have HB8:=Lib.hid (show Below wr.heap.size wr w8 by rw [hq8];exact below_drewN (Below.refl _ _) _);clear hq8)
       | (go_at_call 120;(with_reducible refine (CI.out _).mono ?_);rintro e w7 ⟨rfl,hb7⟩;have HB7:=Lib.hid (HB8.out.trans (hb7.mono HB8.out.size));clear hb7;have HS7:=Lib.hid (HSR.out.next HB7.out);clear c0 c1 c2 c3 c4 c5 c6 f2 f4;obtain ⟨c0,c1,c2,c3,c4,c5,c6,f2,f4⟩:=HS7.out.rb.cells))
      have HS9:=Lib.hid (HS7.out.move (y:=a+j+2) (by omega) hend)
      have HK9:=Lib.hid ((Kept.of (b:=b) (HW.out.trans (HB7.out.mono hsz))).set 2 (.int .i64 (a+j+2)))
      obtain ⟨U,hU⟩:∃ U,U=w7.setCell ⟨b,2,none⟩ (.int .i64 (a+j+2)):=⟨_,rfl⟩
      rw [← hU] at HS9 HK9 ⊢
      clear hU c0 c1 c2 c3 c4 c5 c6 f2 f4
      cases nt with
      | false =>
       go_wp2_with (go_at_call 121;(with_reducible refine (CC.out _).mono ?_);rintro e u1 ⟨out,hset,hln,A1,n1,c1,rfl,hown,hb1⟩)
       go_ret2
       rw [HR2.out]
       exact ⟨HK9.out.trans (Kept.of hb1),out,A1,n1,c1,by rw [clsF_no];exact hset,rfl,Rds.of_own hown,HS9.out.next hb1⟩
      | true =>
       go_wp2_with (first
        | (go_at_call 121;(with_reducible refine (CC.out _).mono ?_);rintro e u1 ⟨out,hset,hln,A1,n1,c1,rfl,hown,hb1⟩;have HB1:=Lib.hid hb1;have HSET:=Lib.hid hset;have CN:=Lib.hid (HN.out out A1 n1 c1 u1 (by have:=own_rngs_len hown;omega) (own_slice_cap hown) hset.1.1 (Rds.of_own hown));clear hb1 hset hown)
        | (go_at_call 65;(with_reducible refine CN.out.mono ?_);rintro e u2 ⟨out2,hset2,A2,n2,c2,rfl,hown2,hb2⟩))
       go_ret2
       rw [HR2.out]
       have hB2:=HB1.out.trans (hb2.mono HB1.out.size)
       exact ⟨HK9.out.trans (Kept.of hB2),out2,A2,n2,c2,by rw [clsF_yes,← mem_fun' HSET.out];exact hset2,rfl,Rds.of_own hown2,HS9.out.next hB2⟩
end
end Go.Proofs.YtbiahhojnjchnaaGreat
namespace Go.Proofs.YtbiahhojnjchnaaGreat
open Go.RowKit
theorem isSet_pt {p:Int} (h0:0≤p) (h1:p≤1114111):IsSet [(p,p)] (fun q=>q=p):=by
 refine ⟨⟨fun r hr=>?_,by simp⟩,fun q=>?_⟩
 ·rw [List.mem_singleton.1 hr];exact (okR_iff _).2 ⟨h0,Int.le_refl _,h1⟩
 ·rw [mem_cons]
  constructor
  ·rintro (h|h)
   ·simp only at h;omega
   ·exact absurd h (mem_nil q)
  ·intro h;left;simp only;omega
theorem pts_cellAt {B n c b2 o2:Nat} {l:List Int} {w:World} (h:Pts B n c (some ⟨b2,o2,none⟩) l w) {p:Int} (h0:0≤p) (h1:p < n):w.cell? ⟨b2,o2+p.toNat,none⟩=some (.int .i64 (ptAt l p)):=by
 obtain ⟨b,o,e,hc⟩:=pts_cell h h0 h1
 injection e with e;injection e with e1 e2;subst e1;subst e2;exact hc
section
variable {b n c:Nat} {d at_ dp:Int} {fo:Bool} {A:Option Addr} {l:List Int} {w:World}
set_option maxRecDepth 100000 in
set_option maxHeartbeats 8000000 in
theorem ritem_end (h:Rs b n c d fo dp A l at_ w) (hb:saysB l at_ [91,58]=false) (he:(n:Int)≤at_) :
  Calls Tryz.prog 94 #[.pointer (some ⟨b,0,none⟩)] w (RI b n c d fo dp A l (.error (1,at_)) w):=by
 have hlo:=h.lo
 have hhi:=h.hi
 have hsm:=h.rb.small
 have HS:=Lib.hid h
 have HB:=Lib.hid (h.rb.says0 (p:=at_) (s:=⟨#[91,58]⟩) (by omega) (by decide) ((saysP_b2 l at_ 91 58).trans hb))
 obtain ⟨c0,c1,c2,c3,c4,c5,c6,f2,f4⟩:=h.rb.cells
 clear h hb
 go_enter Tryz.func94,Tryz.ntmps94
 go_wp2_with (first
  | (go_at_call 61;(with_reducible refine HB.out.mono ?_);rintro e w8 ⟨rfl,q8,hq8⟩;have HB8:=Lib.hid (show Below w.heap.size w w8 by rw [hq8];exact below_drewN (Below.refl _ _) _);clear hq8;have HS8:=Lib.hid (HS.out.next HB8.out);clear c0 c1 c2 c3 c4 c5 c6 f2 f4;obtain ⟨c0,c1,c2,c3,c4,c5,c6,f2,f4⟩:=HS8.out.rb.cells)
  | (go_at_call 33;(with_reducible refine (wrong33 HS8.out.rb _ _).mono ?_);rintro e w9 ⟨rfl,hk9,hr9⟩))
 go_ret2
 exact ⟨(Kept.of HB8.out).trans hk9,⟨_,_,rfl⟩,_,_,hr9⟩
set_option maxRecDepth 100000 in
set_option maxHeartbeats 8000000 in
theorem ritem_point (h:Rs b n c d fo dp A l at_ w) (hb:saysB l at_ [91,58]=false) (he:at_ < n) (h1:¬ (d=1∧ptAt l at_=91)) (h2:¬ (d=1∧ptAt l at_=92)) (hp:0≤ptAt l at_∧ptAt l at_≤1114111) :
  Calls Tryz.prog 94 #[.pointer (some ⟨b,0,none⟩)] w (RI b n c d fo dp A l (.ok ⟨fun p=>p=ptAt l at_,ptAt l at_,at_+1⟩) w):=by
 have hlo:=h.lo
 have hhi:=h.hi
 have hsm:=h.rb.small
 have HS:=Lib.hid h
 have HB:=Lib.hid (h.rb.says0 (p:=at_) (s:=⟨#[91,58]⟩) (by omega) (by decide) ((saysP_b2 l at_ 91 58).trans hb))
 obtain ⟨c0,c1,c2,c3,c4,c5,c6,f2,f4⟩:=h.rb.cells
 have HP:=Lib.hid (isSet_pt hp.1 hp.2)
 have W1:IntKind.i64.wrap (at_+1)=at_+1:=IntWalk.i64_in _ (by omega)
 have e1:decide (at_ ≥ (n:Int))=false:=decide_eq_false (by omega)
 obtain ⟨b2,o2,rfl,hix⟩:=pts_cell h.rb.row hlo he
 have HIX:=Lib.hid hix
 clear h hb hp hix
 have key:(d == 1)=false∨((d == 1)=true∧saysB l at_ [91]=false∧saysB l at_ [92]=false):=by
  by_cases hd:d=1
  ·right
   refine ⟨by simp [hd],?_,?_⟩<;>simp [saysB]<;>intro x
   ·exact h1 ⟨hd,x⟩
   ·exact h2 ⟨hd,x⟩
  ·left;simpa using hd
 clear h1 h2
 have C91:=Lib.hid (fun v w8 (hw:Rs b n c d fo dp (some ⟨b2,o2,none⟩) l at_ w8) (hv:saysB l at_ [91]=v)=>hw.rb.says0 (p:=at_) (s:=⟨#[91]⟩) (v:=v) (by omega) (by decide) ((saysP_b1 l at_ 91).trans hv))
 have C92:=Lib.hid (fun v w8 (hw:Rs b n c d fo dp (some ⟨b2,o2,none⟩) l at_ w8) (hv:saysB l at_ [92]=v)=>hw.rb.says0 (p:=at_) (s:=⟨#[92]⟩) (v:=v) (by omega) (by decide) ((saysP_b1 l at_ 92).trans hv))
 have H91:=Lib.hid (fun x:(d == 1)=true=>(key.resolve_left (by rw [x];decide)).2.1)
 have H92:=Lib.hid (fun x:(d == 1)=true=>(key.resolve_left (by rw [x];decide)).2.2)
 clear key
 obtain ⟨p,hpp⟩:∃ p,ptAt l at_=p:=⟨_,rfl⟩
 have HPT:=Lib.hid hpp
 rw [hpp] at HP ⊢
 clear hpp
 go_enter Tryz.func94,Tryz.ntmps94
 go_upto_region 23 with (first
  | (go_at_call 61;(with_reducible refine HB.out.mono ?_);rintro e w8 ⟨rfl,q8,hq8⟩;have HB8:=Lib.hid (show Below w.heap.size w w8 by rw [hq8];exact below_drewN (Below.refl _ _) _);clear hq8;have HS8:=Lib.hid (HS.out.next HB8.out);clear c0 c1 c2 c3 c4 c5 c6 f2 f4;obtain ⟨c0,c1,c2,c3,c4,c5,c6,f2,f4⟩:=HS8.out.rb.cells))
 obtain ⟨ru,hru⟩:∃ ru:Bool,ru=(d == 1):=⟨_,rfl⟩
 rw [← hru]
 have HRU:=Lib.hid hru
 clear hru
 cases ru
 ·go_upto_region 51 with (fail)
  have HU:=Lib.hid (HS8.out.move (y:=at_+1) (by omega) (by omega))
  have HKU:=Lib.hid ((Kept.of (b:=b) HB8.out).set 2 (.int .i64 (at_+1)))
  obtain ⟨U,hU⟩:∃ U,U=w8.setCell ⟨b,2,none⟩ (.int .i64 (at_+1)):=⟨_,rfl⟩
  rw [← hU] at HU HKU ⊢
  clear hU c0 c1 c2 c3 c4 c5 c6 f2 f4
  obtain ⟨c0,c1,c2,c3,c4,c5,c6,f2,f4⟩:=HU.out.rb.cells
  have hix:=pts_cellAt HU.out.rb.row hlo he
  rw [HPT.out] at hix
  go_wp2
  go_ret2
  exact ⟨HKU.out.trans (Kept.of ((Below.refl _ _).alloc (Nat.le_refl _) _)),[(p,p)],_,1,_,HP.out,rfl,by have:=Rds.new U 2 1 #[.int .i64 p,.int .i64 p] 67 (rngs [(p,p)]) rfl rfl;simpa using this,HU.out.next ((Below.refl _ _).alloc (Nat.le_refl _) _)⟩
 ·have h91:=H91.out HRU.out.symm
  have h92:=H92.out HRU.out.symm
  go_upto_region 51 with (first
   | (go_at_call 61;(with_reducible refine (C91.out false _ HS8.out h91).mono ?_);rintro e w7 ⟨rfl,q7,hq7⟩;have HB7:=Lib.hid (show Below w8.heap.size w8 w7 by rw [hq7];exact below_drewN (Below.refl _ _) _);clear hq7;have HS7:=Lib.hid (HS8.out.next HB7.out);clear c0 c1 c2 c3 c4 c5 c6 f2 f4;obtain ⟨c0,c1,c2,c3,c4,c5,c6,f2,f4⟩:=HS7.out.rb.cells)
   | (go_at_call 61;(with_reducible refine (C92.out false _ HS7.out h92).mono ?_);rintro e w6 ⟨rfl,q6,hq6⟩;have HB6:=Lib.hid (show Below w7.heap.size w7 w6 by rw [hq6];exact below_drewN (Below.refl _ _) _);clear hq6;have HS6:=Lib.hid (HS7.out.next HB6.out);clear c0 c1 c2 c3 c4 c5 c6 f2 f4;obtain ⟨c0,c1,c2,c3,c4,c5,c6,f2,f4⟩:=HS6.out.rb.cells))
  have HU:=Lib.hid (HS6.out.move (y:=at_+1) (by omega) (by omega))
  have HKU:=Lib.hid ((Kept.of (b:=b) (HB8.out.trans ((HB7.out.trans (HB6.out.mono HB7.out.size)).mono HB8.out.size))).set 2 (.int .i64 (at_+1)))
  obtain ⟨U,hU⟩:∃ U,U=w6.setCell ⟨b,2,none⟩ (.int .i64 (at_+1)):=⟨_,rfl⟩
  rw [← hU] at HU HKU ⊢
  clear hU c0 c1 c2 c3 c4 c5 c6 f2 f4
  obtain ⟨c0,c1,c2,c3,c4,c5,c6,f2,f4⟩:=HU.out.rb.cells
  have hix:=pts_cellAt HU.out.rb.row hlo he
  rw [HPT.out] at hix
  go_wp2
  go_ret2
  exact ⟨HKU.out.trans (Kept.of ((Below.refl _ _).alloc (Nat.le_refl _) _)),[(p,p)],_,1,_,HP.out,rfl,by have:=Rds.new U 2 1 #[.int .i64 p,.int .i64 p] 67 (rngs [(p,p)]) rfl rfl;simpa using this,HU.out.next ((Below.refl _ _).alloc (Nat.le_refl _) _)⟩
set_option maxRecDepth 100000 in
set_option maxHeartbeats 8000000 in
theorem ritem_full (h:Rs b n c 1 fo 20 A l at_ w) (hb:saysB l at_ [91,58]=false) (hp:ptAt l at_=91) :
  Calls Tryz.prog 94 #[.pointer (some ⟨b,0,none⟩)] w (RI b n c 1 fo 20 A l (.error (2,at_)) w):=by
 have hlo:=h.lo
 have hhi:=h.hi
 have hsm:=h.rb.small
 have HS:=Lib.hid h
 have hn:=pt_hi h.rb.len (p:=at_) (by omega)
 have HB:=Lib.hid (h.rb.says0 (p:=at_) (s:=⟨#[91,58]⟩) (by omega) (by decide) ((saysP_b2 l at_ 91 58).trans hb))
 obtain ⟨c0,c1,c2,c3,c4,c5,c6,f2,f4⟩:=h.rb.cells
 have e1:decide (at_ ≥ (n:Int))=false:=decide_eq_false (by omega)
 have N91:=Lib.hid (show saysP l at_ (ByteArray.mk #[91]).data.toList=true by rw [saysP_b1];simp [saysB,hp])
 clear h hb hp
 go_enter Tryz.func94,Tryz.ntmps94
 go_wp2_with (first
  | (go_at_call 61;(with_reducible refine HB.out.mono ?_);rintro e w8 ⟨rfl,q8,hq8⟩;have HB8:=Lib.hid (show Below w.heap.size w w8 by rw [hq8];exact below_drewN (Below.refl _ _) _);clear hq8;have HS8:=Lib.hid (HS.out.next HB8.out);clear c0 c1 c2 c3 c4 c5 c6 f2 f4;obtain ⟨c0,c1,c2,c3,c4,c5,c6,f2,f4⟩:=HS8.out.rb.cells)
  | (go_at_call 61;(with_reducible refine (HS8.out.rb.says0 (p:=at_) (s:=⟨#[91]⟩) (v:=true) (by omega) (by decide) N91.out).mono ?_);rintro e w7 ⟨rfl,q7,hq7⟩;have HB7:=Lib.hid (HB8.out.trans (show Below w.heap.size w8 w7 by rw [hq7];exact below_drewN (Below.refl _ _) _));clear hq7;have HS7:=Lib.hid (HS.out.next HB7.out);clear c0 c1 c2 c3 c4 c5 c6 f2 f4;obtain ⟨c0,c1,c2,c3,c4,c5,c6,f2,f4⟩:=HS7.out.rb.cells)
  | (go_at_call 33;(with_reducible refine (wrong33 HS7.out.rb _ _).mono ?_);rintro e w9 ⟨rfl,hk9,hr9⟩))
 go_ret2
 exact ⟨(Kept.of HB7.out).trans hk9,⟨_,_,rfl⟩,_,_,hr9⟩
def asItm:BR SP→BR Itm
 | .error e=>.error e
 | .ok r=>.ok ⟨r.1,-1,r.2⟩
def RW (b n c:Nat) (d:Int) (fo:Bool) (dp:Int) (A:Option Addr) (l:List Int) (r:BR SP) (w:World) (e:Ending) (w':World):Prop :=
 Kept b w w'∧∃ A' n' c',e=.returned (.slice A' n' c')∧match r with
 | .error q=>Rf b n c d fo A l q w'
 | .ok q=>∃ out,IsSet out q.1∧w'.ownsRow w.heap.size 67 2 (.slice A' n' c') n' (rngs out)∧Rs b n c d fo dp A l q.2 w'
theorem Rf.set {q:Int × Int} (h:Rf b n c d fo A l q w) (x:Int):Rf b n c d fo A l q (w.setCell ⟨b,4,none⟩ (.int .i64 x)):=by
 obtain ⟨a,p,h⟩:=h
 exact ⟨a,x,h.set (j:=4) rfl⟩
theorem Rf.deep_ {q:Int × Int} (h:Rf b n c d fo A l q w):∃ x,w.cell? ⟨b,4,none⟩=some (.int .i64 x)∧w.frozen? ⟨b,4,none⟩=false:=by
 obtain ⟨a,p,h⟩:=h
 exact ⟨p,h.cells.2.2.2.2.1,frozen_row h.hp⟩
set_option maxRecDepth 100000 in
set_option maxHeartbeats 8000000 in
theorem ritem_within {r:BR SP} (h:Rs b n c 1 fo dp A l at_ w) (hb:saysB l at_ [91,58]=false) (hp:ptAt l at_=91) (hdp:dp≠20) (h0:0≤dp) (h20:dp≤20)
  (C:∀ W,Rs b n c 1 fo (dp+1) A l (at_+1) W→Calls Tryz.prog 32 #[.pointer (some ⟨b,0,none⟩)] W (RW b n c 1 fo (dp+1) A l r W)) :
  Calls Tryz.prog 94 #[.pointer (some ⟨b,0,none⟩)] w (RI b n c 1 fo dp A l (asItm r) w):=by
 have hlo:=h.lo
 have hhi:=h.hi
 have hsm:=h.rb.small
 have HS:=Lib.hid h
 have hn:=pt_hi h.rb.len (p:=at_) (by omega)
 have HB:=Lib.hid (h.rb.says0 (p:=at_) (s:=⟨#[91,58]⟩) (by omega) (by decide) ((saysP_b2 l at_ 91 58).trans hb))
 obtain ⟨c0,c1,c2,c3,c4,c5,c6,f2,f4⟩:=h.rb.cells
 have e1:decide (at_ ≥ (n:Int))=false:=decide_eq_false (by omega)
 have N91:=Lib.hid (show saysP l at_ (ByteArray.mk #[91]).data.toList=true by rw [saysP_b1];simp [saysB,hp])
 have e2:(dp == 20)=false:=beq_eq_false_iff_ne.2 hdp
 have W1:IntKind.i64.wrap (at_+1)=at_+1:=IntWalk.i64_in _ (by omega)
 have W2:IntKind.i64.wrap (dp+1)=dp+1:=IntWalk.i64_in _ (by omega)
 have W3:IntKind.i64.wrap (dp+1 - 1)=dp:=by rw [show dp+1 - 1=dp by omega];exact IntWalk.i64_in _ (by omega)
 have HC:=Lib.hid C
 clear h hb hp hdp C
 go_enter Tryz.func94,Tryz.ntmps94
 go_upto_region 32 with (first
  | (go_at_call 61;(with_reducible refine HB.out.mono ?_);rintro e w8 ⟨rfl,q8,hq8⟩;have HB8:=Lib.hid (show Below w.heap.size w w8 by rw [hq8];exact below_drewN (Below.refl _ _) _);clear hq8;have HS8:=Lib.hid (HS.out.next HB8.out);clear c0 c1 c2 c3 c4 c5 c6 f2 f4;obtain ⟨c0,c1,c2,c3,c4,c5,c6,f2,f4⟩:=HS8.out.rb.cells)
  | (go_at_call 61;(with_reducible refine (HS8.out.rb.says0 (p:=at_) (s:=⟨#[91]⟩) (v:=true) (by omega) (by decide) N91.out).mono ?_);rintro e w7 ⟨rfl,q7,hq7⟩;have HB7:=Lib.hid (HB8.out.trans (show Below w.heap.size w8 w7 by rw [hq7];exact below_drewN (Below.refl _ _) _));clear hq7;have HS7:=Lib.hid (HS.out.next HB7.out);clear c0 c1 c2 c3 c4 c5 c6 f2 f4;obtain ⟨c0,c1,c2,c3,c4,c5,c6,f2,f4⟩:=HS7.out.rb.cells))
 have HU:=Lib.hid ((HS7.out.move (y:=at_+1) (by omega) (by omega)).deepen (dp+1))
 have HKU:=Lib.hid (((Kept.of (b:=b) HB7.out).set 2 (.int .i64 (at_+1))).set 4 (.int .i64 (dp+1)))
 obtain ⟨U,hU⟩:∃ U,U=(w7.setCell ⟨b,2,none⟩ (.int .i64 (at_+1))).setCell ⟨b,4,none⟩ (.int .i64 (dp+1)):=⟨_,rfl⟩
 rw [← hU] at HU HKU ⊢
 clear hU c0 c1 c2 c3 c4 c5 c6 f2 f4
 have C1:=Lib.hid (HC.out U HU.out)
 clear HC
 go_upto_region 33 with (go_at_call 32;(with_reducible refine C1.out.mono ?_);rintro e u ⟨hk,A',n',c',rfl,hr⟩)
 have HK:=Lib.hid (HKU.out.trans hk)
 cases r with
 | error q =>
  have HR:=Lib.hid (show Rf b n c 1 fo A l q u from hr)
  obtain ⟨x,c4,f4⟩:=HR.out.deep_
  clear hr hk
  go_wp2
  go_ret2
  exact ⟨HK.out.set 4 _,⟨_,_,rfl⟩,HR.out.set _⟩
 | ok q =>
  obtain ⟨out,hset,hown,hs⟩:=hr
  have HSET:=Lib.hid hset
  have HOWN:=Lib.hid hown
  have HSU:=Lib.hid hs
  obtain ⟨c0,c1,c2,c3,c4,c5,c6,f2,f4⟩:=hs.rb.cells
  have hbu:=HU.out.rb.lt
  clear hset hown hs hk
  go_wp2
  go_ret2
  exact ⟨HK.out.set 4 _,out,A',n',c',HSET.out,rfl,Rds.of_own (own_keptb HOWN.out ((Kept.refl b u).set 4 _) hbu),HSU.out.deepen dp⟩
/-- the token at a backslash -/
def RTokC (l:List Int):Prop:=∀ (at_:Int) (A:Option Addr) (n c:Nat) (w:World),Pts w.heap.size n c A l w→0≤at_→at_ < n→ptAt l at_=92→Calls Tryz.prog 115 #[.int .i64 1,.slice A n c,.int .i64 at_] w fun e w'=>ROutT (tokenP 1 l at_) e∧Below w.heap.size w w'
set_option maxRecDepth 100000 in
set_option maxHeartbeats 8000000 in
theorem ritem_tok (HC:Hid RClsC) (HN:Hid RNotC) {kd num le mo wy fd nx er:Int} {tx:ByteArray} {nt:Bool} {r:BR Itm} (h:Rs b n c 1 fo dp A l at_ w) (hb:saysB l at_ [91,58]=false) (hp:ptAt l at_=92)
  (C:∀ W,Pts W.heap.size n c A l W→Calls Tryz.prog 115 #[.int .i64 1,.slice A n c,.int .i64 at_] W fun e w'=>e=.returned (.tuple #[.agg #[.int .i64 kd,.int .i64 num,.string tx,.bool nt,.int .i64 le,.int .i64 mo,.int .i64 wy,.int .i64 fd],.int .i64 nx,.int .i64 er])∧Below W.heap.size W w')
  (hr:Hid (r=if er≠0 then .error (er,at_) else if kd=1 then .ok ⟨fun p=>p=num,num,nx⟩ else if kd=4 then .ok ⟨clsF ((cls tx.toList).getD []) nt,-1,nx⟩ else .error (1,at_)))
  (hg:Hid (er=0→(kd=1→0≤num∧num≤1114111)∧(kd=4→(cls tx.toList).isSome=true)∧0≤nx∧nx≤n)) :
  Calls Tryz.prog 94 #[.pointer (some ⟨b,0,none⟩)] w (RI b n c 1 fo dp A l r w):=by
 have hlo:=h.lo
 have hhi:=h.hi
 have hsm:=h.rb.small
 have HS:=Lib.hid h
 have hn:=pt_hi h.rb.len (p:=at_) (by omega)
 have HB:=Lib.hid (h.rb.says0 (p:=at_) (s:=⟨#[91,58]⟩) (by omega) (by decide) ((saysP_b2 l at_ 91 58).trans hb))
 obtain ⟨c0,c1,c2,c3,c4,c5,c6,f2,f4⟩:=h.rb.cells
 have e1:decide (at_ ≥ (n:Int))=false:=decide_eq_false (by omega)
 have N91:=Lib.hid (show saysP l at_ (ByteArray.mk #[91]).data.toList=false by rw [saysP_b1];simp [saysB,hp])
 have N92:=Lib.hid (show saysP l at_ (ByteArray.mk #[92]).data.toList=true by rw [saysP_b1];simp [saysB,hp])
 have HCT:=Lib.hid C
 clear h hb hp C
 go_enter Tryz.func94,Tryz.ntmps94
 go_upto_region 36 with (first
  | (go_at_call 61;(with_reducible refine HB.out.mono ?_);rintro e w8 ⟨rfl,q8,hq8⟩;have HB8:=Lib.hid (show Below w.heap.size w w8 by rw [hq8];exact below_drewN (Below.refl _ _) _);clear hq8;have HS8:=Lib.hid (HS.out.next HB8.out);clear c0 c1 c2 c3 c4 c5 c6 f2 f4;obtain ⟨c0,c1,c2,c3,c4,c5,c6,f2,f4⟩:=HS8.out.rb.cells)
  | (go_at_call 61;(with_reducible refine (HS8.out.rb.says0 (p:=at_) (s:=⟨#[91]⟩) (v:=false) (by omega) (by decide) N91.out).mono ?_);rintro e w7 ⟨rfl,q7,hq7⟩;have HB7:=Lib.hid (HB8.out.trans (show Below w.heap.size w8 w7 by rw [hq7];exact below_drewN (Below.refl _ _) _));clear hq7;have HS7:=Lib.hid (HS.out.next HB7.out);clear c0 c1 c2 c3 c4 c5 c6 f2 f4;obtain ⟨c0,c1,c2,c3,c4,c5,c6,f2,f4⟩:=HS7.out.rb.cells)
  | (go_at_call 61;(with_reducible refine (HS7.out.rb.says0 (p:=at_) (s:=⟨#[92]⟩) (v:=true) (by omega) (by decide) N92.out).mono ?_);rintro e w6 ⟨rfl,q6,hq6⟩;have HB6:=Lib.hid (HB7.out.trans (show Below w.heap.size w7 w6 by rw [hq6];exact below_drewN (Below.refl _ _) _));clear hq6;have HS6:=Lib.hid (HS.out.next HB6.out);clear c0 c1 c2 c3 c4 c5 c6 f2 f4;obtain ⟨c0,c1,c2,c3,c4,c5,c6,f2,f4⟩:=HS6.out.rb.cells))
 clear HS7 HB7 HS8 HB8 c0 c1 c2 c3 c4 c5 c6 f2 f4
 go_cut [11,12,13] from 161 to 178 (fun t11 t12 t13 wc=>t12=.int .i64 nx∧t13=.int .i64 er∧∃ g,t11=.pointer (some ⟨g,0,none⟩)∧w.heap.size≤g∧Hid (wc.heap[g]?=some (.cells #[.int .i64 kd,.int .i64 num,.string tx,.bool nt,.int .i64 le,.int .i64 mo,.int .i64 wy,.int .i64 fd] 108 (0,0)))∧Hid (Below w.heap.size w wc))
 ·obtain ⟨c0,c1,c2,c3,c4,c5,c6,f2,f4⟩:=HS6.out.rb.cells
  have hbA:Below w6.heap.size w6 (World.drew (w6.alloc (.cells #[.int .i64 0,.int .i64 0,.string ⟨#[]⟩,.bool false,.int .i64 0,.int .i64 0,.int .i64 0,.int .i64 0] 108))):=((Below.refl _ _).alloc (Nat.le_refl _) _).drew
  have HBA:=Lib.hid hbA
  have CT:=Lib.hid (HCT.out _ ⟨(HS6.out.next hbA).rb.row.row.more (Nat.le_of_lt (HS6.out.next hbA).rb.lt),(HS6.out.next hbA).rb.row.small⟩)
  have CT0:=Lib.hid (HCT.out (World.drew w6) ⟨HS6.out.rb.row.row.more (Nat.le_of_lt HS6.out.rb.lt),HS6.out.rb.row.small⟩)
  have HTA:=Lib.hid (show (World.drew (w6.alloc (.cells #[.int .i64 0,.int .i64 0,.string ⟨#[]⟩,.bool false,.int .i64 0,.int .i64 0,.int .i64 0,.int .i64 0] 108))).heap[w6.heap.size]?=some (.cells #[.int .i64 0,.int .i64 0,.string ⟨#[]⟩,.bool false,.int .i64 0,.int .i64 0,.int .i64 0,.int .i64 0] 108 (0,0)) from heap_alloc_new w6 _)
  obtain ⟨a0,a1,a2,a3,a4,a5,a6,fa,fb⟩:=(HS6.out.next hbA).rb.cells
  have hlA:=(HS6.out.next hbA).rb.lt
  clear HCT hbA a3 a4 a5 a6 fa fb
  have d0:(World.drew w6).cell? ⟨b,0,none⟩=some (.int .i64 1):=c0
  have d1:(World.drew w6).cell? ⟨b,1,none⟩=some (.slice A n c):=c1
  have lt6b:=HS6.out.rb.lt
  have hsw6:=HB6.out.size
  have N50:(⟨b,0,none⟩:Addr).block≠w6.heap.size:=Nat.ne_of_lt lt6b
  have N51:(⟨b,1,none⟩:Addr).block≠w6.heap.size:=Nat.ne_of_lt lt6b
  go_region_held3 (fun w'=>w'.cell? ⟨b,0,none⟩=some (.int .i64 1)∧w'.cell? ⟨b,1,none⟩=some (.slice A n c))
   (first
    | with_reducible exact ⟨c0,c1⟩
    | with_reducible exact ⟨d0,d1⟩
    | with_reducible exact ⟨a0,a1⟩
    | with_reducible exact ⟨k0,k1⟩
    | with_reducible exact ⟨(put24_cell N50).trans k0,(put24_cell N51).trans k1⟩
    | with_reducible exact ⟨m0 _,m1 _⟩
    | (trace_state;fail))
   (first
    | (go_at_call 115;(with_reducible refine CT.out.mono ?_);rintro e u6 ⟨rfl,hb⟩;have HBT:=Lib.hid hb;have k0:=(hb.cell (p:=⟨b,0,none⟩) hlA).trans a0;have k1:=(hb.cell (p:=⟨b,1,none⟩) hlA).trans a1;have HTT6:=Lib.hid (row_next HTA.out hb);have g0:=frozen_row (o:=0) HTT6.out;have g1:=frozen_row (o:=0+1) HTT6.out;have g2:=frozen_row (o:=0+2) HTT6.out;have g3:=frozen_row (o:=0+3) HTT6.out;have g4:=frozen_row (o:=0+4) HTT6.out;have g5:=frozen_row (o:=0+5) HTT6.out;have g6:=frozen_row (o:=0+6) HTT6.out;have g7:=frozen_row (o:=0+7) HTT6.out;obtain ⟨z0,z1,z2,z3,z4,z5,z6,z7⟩:=cells8 HTT6.out;clear hb)
    | (go_at_call 115;(with_reducible refine CT0.out.mono ?_);rintro e u6 ⟨rfl,hb⟩;have HBT:=Lib.hid hb;have k0:=(hb.cell (p:=⟨b,0,none⟩) lt6b).trans d0;have k1:=(hb.cell (p:=⟨b,1,none⟩) lt6b).trans d1;have lt6:b < u6.heap.size:=Nat.lt_of_lt_of_le lt6b hb.size;have m0:=fun o=>(World.cell?_alloc_lt u6 o ⟨b,0,none⟩ lt6).trans k0;have m1:=fun o=>(World.cell?_alloc_lt u6 o ⟨b,1,none⟩ lt6).trans k1;have HTT6:=Lib.hid (heap_alloc_new u6 (.cells #[.int .i64 0,.int .i64 0,.string ⟨#[]⟩,.bool false,.int .i64 0,.int .i64 0,.int .i64 0,.int .i64 0] 108));have g0:=frozen_row (o:=0) HTT6.out;have g1:=frozen_row (o:=0+1) HTT6.out;have g2:=frozen_row (o:=0+2) HTT6.out;have g3:=frozen_row (o:=0+3) HTT6.out;have g4:=frozen_row (o:=0+4) HTT6.out;have g5:=frozen_row (o:=0+5) HTT6.out;have g6:=frozen_row (o:=0+6) HTT6.out;have g7:=frozen_row (o:=0+7) HTT6.out;obtain ⟨z0,z1,z2,z3,z4,z5,z6,z7⟩:=cells8 HTT6.out;clear hb))
  ·have hBX:=((Below.drew (Below.refl _ _)).trans HBT.out).alloc HBT.out.size (.cells #[.int .i64 kd,.int .i64 num,.string tx,.bool nt,.int .i64 le,.int .i64 mo,.int .i64 wy,.int .i64 fd] 108)
   go_wp2_with fail
   go_meet
   exact ⟨rfl,rfl,_,rfl,Nat.le_trans hsw6 HBT.out.size,Lib.hid (heap_alloc_new u6 _),Lib.hid (HB6.out.trans (hBX.mono hsw6))⟩
  ·have hBX:Below w6.heap.size w6 ((((((((u6.setCell ⟨w6.heap.size,0,none⟩ (.int .i64 kd)).setCell ⟨w6.heap.size,1,none⟩ (.int .i64 num)).setCell ⟨w6.heap.size,2,none⟩ (.string tx)).setCell ⟨w6.heap.size,3,none⟩ (.bool nt)).setCell ⟨w6.heap.size,4,none⟩ (.int .i64 le)).setCell ⟨w6.heap.size,5,none⟩ (.int .i64 mo)).setCell ⟨w6.heap.size,6,none⟩ (.int .i64 wy)).setCell ⟨w6.heap.size,7,none⟩ (.int .i64 fd)):=put24_below (HBA.out.trans (HBT.out.mono HBA.out.size)) (Nat.le_refl _)
   go_wp2_with fail
   go_meet
   exact ⟨rfl,rfl,_,rfl,hsw6,Lib.hid (put24 HTT6.out),Lib.hid (HB6.out.trans (hBX.mono hsw6))⟩
 obtain ⟨rfl,rfl,g,rfl,hgw,HT,HX⟩:=hcut
 clear HCT HS6 HB6
 have HSX:=Lib.hid (HS.out.next HX.out)
 have hbg:b≠g:=Nat.ne_of_lt (Nat.lt_of_lt_of_le HS.out.rb.lt hgw)
 obtain ⟨c0,c1,c2,c3,c4,c5,c6,f2,f4⟩:=HSX.out.rb.cells
 obtain ⟨t0,t1,t2,t3,t4,t5,t6,t7⟩:=cells8 HT.out
 by_cases her:er=0
 ·subst her
  obtain ⟨g1,g4,gx0,gx1⟩:=hg.out rfl
  have HR:=Lib.hid (hr.out.trans (if_neg (fun x=>x rfl)))
  have HSM:=Lib.hid (HSX.out.move gx0 gx1)
  have HTM:=Lib.hid (hz_set (p:=⟨b,2,none⟩) (v:=.int .i64 nx) HT.out hbg.symm)
  have HKM:=Lib.hid ((Kept.of (b:=b) HX.out).set 2 (.int .i64 nx))
  have G1:=Lib.hid g1
  have G4:=Lib.hid g4
  clear hr hg g1 g4
  by_cases hk1:kd=1
  ·subst hk1
   have HS1:=Lib.hid (isSet_pt (G1.out rfl).1 (G1.out rfl).2)
   have HR1:=Lib.hid (HR.out.trans (if_pos rfl))
   clear HR G1 G4
   go_upto_region 42 with (fail)
   obtain ⟨U,hU⟩:∃ U,U=wc.setCell ⟨b,2,none⟩ (.int .i64 nx):=⟨_,rfl⟩
   rw [← hU] at HSM HTM HKM ⊢
   clear hU c0 c1 c2 c3 c4 c5 c6 f2 f4 t0 t1 t2 t3 t4 t5 t6 t7
   obtain ⟨t0,t1,t2,t3,t4,t5,t6,t7⟩:=cells8 HTM.out
   have hnn:=lt_heap HTM.out
   have v1:∀ o,(U.alloc o).drew.cell? ⟨g,0+1,none⟩=some (.int .i64 num):=fun o=>(World.cell?_alloc_lt U o ⟨g,0+1,none⟩ hnn).trans t1
   go_region
   go_wp2
   go_ret2
   rw [HR1.out]
   have hBU:Below U.heap.size U (U.alloc (.cells #[.int .i64 num,.int .i64 num] 67)).drew:=((Below.refl _ _).alloc (Nat.le_refl _) _).drew
   exact ⟨HKM.out.trans (Kept.of hBU),[(num,num)],_,1,_,HS1.out,rfl,by have:=(Rds.new U 2 1 #[.int .i64 num,.int .i64 num] 67 (rngs [(num,num)]) rfl rfl).below (Below.drew (Below.refl _ _)) (Nat.le_refl _);simpa using this,HSM.out.next hBU⟩
  ·have hkb:(kd == 1)=false:=beq_eq_false_iff_ne.2 hk1
   have HR1:=Lib.hid (HR.out.trans (if_neg hk1))
   clear hk1 HR G1
   by_cases hk4:kd=4
   ·subst hk4
    obtain ⟨L,hL⟩:=Option.isSome_iff_exists.1 (G4.out rfl)
    have HR2:=Lib.hid (HR1.out.trans (if_pos rfl))
    rw [hL] at HR2
    have CC:=Lib.hid (fun w=>HC.out tx L w hL)
    clear hL HR1 G4
    go_upto_region 45 with (fail)
    obtain ⟨U,hU⟩:∃ U,U=wc.setCell ⟨b,2,none⟩ (.int .i64 nx):=⟨_,rfl⟩
    rw [← hU] at HSM HTM HKM ⊢
    clear hU c0 c1 c2 c3 c4 c5 c6 f2 f4 t0 t1 t2 t3 t4 t5 t6 t7
    obtain ⟨t0,t1,t2,t3,t4,t5,t6,t7⟩:=cells8 HTM.out
    go_upto_region 46 with (go_at_call 121;(with_reducible refine (CC.out _).mono ?_);rintro e u1 ⟨out,hset,hln,A1,n1,c1,rfl,hown,hb1⟩)
    have HB1:=Lib.hid hb1
    have HSET:=Lib.hid hset
    have CN:=Lib.hid (HN.out out A1 n1 c1 u1 (by have:=own_rngs_len hown;omega) (own_slice_cap hown) hset.1.1 (Rds.of_own hown))
    have HO1:=Lib.hid hown
    have HT1:=Lib.hid (row_next HTM.out hb1)
    clear hset hown hb1 t0 t1 t2 t3 t4 t5 t6 t7
    obtain ⟨t0,t1,t2,t3,t4,t5,t6,t7⟩:=cells8 HT1.out
    cases nt with
    | false =>
     go_wp2
     go_ret2
     rw [HR2.out]
     exact ⟨HKM.out.trans (Kept.of HB1.out),out,A1,n1,c1,by simp only [Option.getD_some];rw [clsF_no];exact HSET.out,rfl,Rds.of_own HO1.out,HSM.out.next HB1.out⟩
    | true =>
     go_wp2_with (go_at_call 65;(with_reducible refine CN.out.mono ?_);rintro e u2 ⟨out2,hset2,A2,n2,c2,rfl,hown2,hb2⟩)
     go_ret2
     rw [HR2.out]
     have hB2:=HB1.out.trans (hb2.mono HB1.out.size)
     exact ⟨HKM.out.trans (Kept.of hB2),out2,A2,n2,c2,by simp only [Option.getD_some];rw [clsF_yes,← mem_fun' HSET.out];exact hset2,rfl,Rds.of_own hown2,HSM.out.next hB2⟩
   ·have hkc:(kd == 4)=false:=beq_eq_false_iff_ne.2 hk4
    have HR2:=Lib.hid (HR1.out.trans (if_neg hk4))
    clear hk4 HR1 G4
    go_wp2_with (go_at_call 33;(with_reducible refine (wrong33 HSX.out.rb _ _).mono ?_);rintro e w9 ⟨rfl,hk9,hr9⟩)
    go_ret2
    rw [HR2.out]
    exact ⟨(Kept.of HX.out).trans hk9,⟨_,_,rfl⟩,_,_,hr9⟩
 ·have heb:(er != 0)=true:=by simp [her]
  have HR:=Lib.hid (hr.out.trans (if_pos her))
  clear her hr hg
  go_wp2_with (go_at_call 33;(with_reducible refine (wrong33 HSX.out.rb _ _).mono ?_);rintro e w9 ⟨rfl,hk9,hr9⟩)
  go_ret2
  rw [HR.out]
  exact ⟨(Kept.of HX.out).trans hk9,⟨_,_,rfl⟩,_,_,hr9⟩
end
end Go.Proofs.YtbiahhojnjchnaaGreat
