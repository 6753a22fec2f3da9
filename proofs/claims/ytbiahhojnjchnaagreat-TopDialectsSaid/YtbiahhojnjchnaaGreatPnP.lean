/-
  Nodes counted (of a tree that speaks of no group); no groups to settle: walked.
-/
import Derived.Test.YtbiahhojnjchnaaGreatPnG
set_option linter.unusedVariables false
set_option linter.unusedSimpArgs false
namespace Go.Proofs.YtbiahhojnjchnaaGreat
open Go.RowKit
mutual
/-- does it speak of a group -/
def agT:Tr→Bool
 | .mk k _ ks _ _ _ _ _=>k == 18 || agTs ks
def agTs:List Tr→Bool
 | []=>false
 | t :: ts=>agT t || agTs ts
end
theorem agT_eq (t:Tr):agT t=(t.kind == 18 || agTs t.kids):=by cases t;simp only [agT,Tr.kind,Tr.kids]
theorem agTs_mem {ts:List Tr} (h:agTs ts=false) {t:Tr} (ht:t ∈ ts):agT t=false:=by
 induction ts with
 | nil=>cases ht
 | cons u us ih =>
  simp only [agTs,Bool.or_eq_false_iff] at h
  rcases List.mem_cons.1 ht with rfl|ht
  ·exact h.1
  ·exact ih h.2 ht
theorem sizeL_take (ts:List Tr) (k:Nat) (h:k < ts.length):sizeL (ts.take (k+1))=sizeL (ts.take k)+sizeT ts[k]:=by
 rw [List.take_succ_eq_append_getElem h,size_snoc]
theorem sizeL_take_le (ts:List Tr) (k:Nat):sizeL (ts.take k)≤sizeL ts:=by
 conv=>rhs;rw [← List.take_append_drop k ts,sizeL_append]
 omega
/-- a node's cells -/
structure CellsAt (w:World) (g off:Nat) (d:ND):Prop where
 c0:w.cell? ⟨g,off,none⟩=some (.int .i64 d.kind)
 c2:w.cell? ⟨g,off+2,none⟩=some (.slice d.kA d.kn d.kc)
set_option maxRecDepth 100000 in
set_option maxHeartbeats 4000000 in
theorem put46 {Bd:Nat} {A1:Option Addr} {n1 c1:Nat} {w:World} (t:Tr):∀ (d:ND) (g off:Nat),NodeAt w Bd t d→CellsAt w g off d→agT t=false→sizeT t≤100000 →
  Calls Tryz.prog 46 #[.pointer (some ⟨g,off,none⟩),.slice A1 n1 c1] w fun e w'=>e=.returned (.int .i64 (sizeT t))∧w=w':=by
 refine tree_ind (P:=fun t=>∀ (d:ND) (g off:Nat),NodeAt w Bd t d→CellsAt w g off d→agT t=false→sizeT t≤100000→Calls Tryz.prog 46 #[.pointer (some ⟨g,off,none⟩),.slice A1 n1 c1] w fun e w'=>e=.returned (.int .i64 (sizeT t))∧w=w') (fun t ih d g off hn hc ha hs=>?_) t
 obtain ⟨ds,hn⟩:=hn.of
 have hk:=hn.knum
 have hkd:=hn.kind
 have HN:=Lib.hid hn
 have HIH:=Lib.hid ih
 have HST:=Lib.hid (sizeT_eq t)
 rw [agT_eq,Bool.or_eq_false_iff] at ha
 have hk18:(d.kind == 18)=false:=by rw [hkd];exact ha.1
 have HAG:=Lib.hid ha.2
 have HS:=Lib.hid hs
 have HLK:=Lib.hid hk
 have hkn:d.kn≤100000:=by have h1:=sizeL_len t.kids;have h2:=HST.out;omega
 obtain ⟨dk,dsA,dsn,dsc,dkA,dkn,dkc,dnum,dleast,dmost,dway,dfold⟩:=d
 obtain ⟨q0,q2⟩:=hc
 simp only at q0 q2 hk18 hkn
 clear hn ih ha hkd hs hk
 go_enter Tryz.func46,Tryz.ntmps46
 go_wp2_with fail
 go_loopw [5,28] (fun m i wr=>∃ k:Nat,k≤dkn∧m=.int .i64 (1+(sizeL (t.kids.take k):Nat))∧i=.int .i64 k∧w=wr) (fun _ i _=>dkn - (intOf i).toNat)
 case atStart=>exact ⟨0,Nat.zero_le _,by simp [sizeL],rfl,rfl⟩
 case round =>
  obtain ⟨k,hk,rfl,rfl,rfl⟩:=hrel
  by_cases hlt:k < dkn
  ·obtain ⟨b1,o1,hl,hA,hb,r0,r1,r2,r3,r4,r5,r6,r7⟩:=HN.out.kids.node_at hlt
   simp only at hA
   subst hA
   have hkl:k < t.kids.length:=by have:=HLK.out.1;(try simp only at this);omega
   have HT:=Lib.hid (sizeL_take t.kids k hkl)
   have hle:=sizeL_take_le t.kids (k+1)
   have hst:=HST.out
   have hss:=HS.out
   have C:=Lib.hid (HIH.out _ (List.getElem_mem hkl) ds[k] b1 (o1+k * 8) (HN.out.each.at k hkl hl) ⟨r0,r2⟩ (agTs_mem HAG.out (List.getElem_mem hkl)) (by have:=HT.out;omega))
   obtain ⟨S,hS⟩:∃ S,S=sizeL (t.kids.take k):=⟨_,rfl⟩
   obtain ⟨T,hT⟩:∃ T,T=sizeT t.kids[k]:=⟨_,rfl⟩
   rw [← hT] at C
   rw [← hS]
   have HT2:=Lib.hid (show sizeL (t.kids.take (k+1))=S+T by rw [hS,hT];exact HT.out)
   have hb1:S+T≤100000:=by have:=HT2.out;omega
   clear hS hT HT hle hst hss
   have i1:(0:Int)≤(k:Int):=by omega
   have i2:(k:Int) < (dkn:Int):=by omega
   have W1:IntKind.i64.wrap ((k:Int)+1)=(k:Int)+1:=IntWalk.i64_in _ (by omega)
   have W2:IntKind.i64.wrap (1+(S:Int)+(T:Int))=1+(S:Int)+(T:Int):=IntWalk.i64_in _ (by omega)
   go_wp2_with (go_at_call 46;(with_reducible refine C.out.mono ?_);rintro e w' ⟨rfl,rfl⟩)
   go_roundw
   case rel=>exact ⟨k+1,by omega,by rw [HT2.out];congr 1;push_cast;omega,by first|rfl|go_num|(congr 1;omega),by first|rfl|trivial⟩
   case measure=>simp [intOf];omega
  ·have hkk:k=dkn:=by omega
   have i2:¬ (k:Int) < (dkn:Int):=by omega
   have HE:=Lib.hid (show (1+(sizeL (t.kids.take k):Nat):Int)=(sizeT t:Nat) by
    rw [HST.out,List.take_of_length_le (by have:=HLK.out.1;(try simp only at this);omega)];push_cast;omega)
   clear hkk
   go_wp2_with fail
   go_ret
   exact ⟨ret_int HE.out,rfl⟩
set_option maxRecDepth 100000 in
theorem settle47_none {b n c:Nat} {d:Int} {A:Option Addr} {l:List Int} {s:PS} {V1 V2:Value} {w:World} (h:PsAt b n c d A l s V1 V2 w) (ha:s.ags=[]) :
  Calls Tryz.prog 47 #[.pointer (some ⟨b,0,none⟩)] w fun e w'=>e=.returned (.slice none 0 0)∧w=w':=by
 obtain ⟨A1,c1,hv,-,-⟩:=own_slice h.ags
 subst hv
 obtain ⟨p0,p1,p2,p3,p4,p5,p6,p7,pf⟩:=h.cells
 rw [show s.ags.length=0 by rw [ha];rfl] at p7
 clear h
 go_enter Tryz.func47,Tryz.ntmps47
 go_wp2_with fail
 go_loopw [3,13] (fun v i wr=>v=.slice none 0 0∧i=.int .i64 0∧w=wr) (fun _ _ _=>0)
 case atStart=>exact ⟨rfl,rfl,rfl⟩
 case round =>
  obtain ⟨rfl,rfl,rfl⟩:=hrel
  go_wp2_with fail
  go_ret
  exact ⟨rfl,rfl⟩
end Go.Proofs.YtbiahhojnjchnaaGreat
