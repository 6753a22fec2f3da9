/-
  BracketParses: walked.
-/
import Derived.Test.YtbiahhojnjchnaaGreatHB
import Derived.Test.YtbiahhojnjchnaaGreatBhH
import Derived.Test.YtbiahhojnjchnaaGreatHR
import Derived.Laws.StructEq
set_option linter.unusedVariables false
set_option linter.unusedSimpArgs false
namespace Go.Proofs.YtbiahhojnjchnaaGreat
open Go.RowKit
set_option maxHeartbeats 2000000 in
theorem right13 (d:Int) (l:List Int) (A:Option Addr) (n c X:Nat) (w:World) (hn:n≤maxLen) (ha:Rds w X 1 A n (ints l)) :
  Calls Tryz.prog 13 #[.int .i64 d,.slice A n c] w fun e w'=>e=.returned (.int .i64 (rightE d l))∧w=w':=by
 have HLN:=Lib.hid ha.ints_len
 have hm:=hn
 unfold maxLen at hm
 unfold rightE
 rw [HLN.out]
 by_cases h1:d < 1
 ·rw [if_pos (.inl h1)]
  go_enter Tryz.func13,Tryz.ntmps13
  go_wp2_with fail
  go_ret
  exact ⟨rfl,rfl⟩
 by_cases h2:3 < d
 ·rw [if_pos (.inr h2)]
  go_enter Tryz.func13,Tryz.ntmps13
  go_wp2_with fail
  go_ret
  exact ⟨rfl,rfl⟩
 rw [if_neg (by omega)]
 by_cases h3:300 < n
 ·rw [if_pos h3]
  have h3i:(300:Int) < (n:Int):=by omega
  go_enter Tryz.func13,Tryz.ntmps13
  go_wp2_with fail
  go_ret
  exact ⟨rfl,rfl⟩
 ·rw [if_neg h3]
  have h3i:¬ (300:Int) < (n:Int):=by omega
  have HA:=Lib.hid ha
  clear ha
  obtain ⟨v,hf⟩:∃ v:Int,v=if l.all okPt=true then 0 else 3:=⟨_,rfl⟩
  rw [← hf]
  have HF:=Lib.hid hf
  clear hf
  go_enter Tryz.func13,Tryz.ntmps13
  go_wp2_with fail
  go_loop [5] (fun i=>∃ k:Nat,k≤n∧i=.int .i64 k∧Hid ((l.take k).all okPt=true)) (fun i=>n - (intOf i).toNat)
  case atStart=>exact ⟨0,Nat.zero_le _,rfl,Lib.hid rfl⟩
  case round =>
   obtain ⟨k,hk,rfl,HK⟩:=hrel
   by_cases hlt:k < n
   ·obtain ⟨b1,off1,hl1,hA,hb1,hc1⟩:=HA.out.int_at hlt
    have HS:=Lib.hid (all_ok_snoc l k hl1 HK.out)
    have HB:=Lib.hid (all_ok_bad l k hl1)
    obtain ⟨x,hx⟩:∃ x,x=l[k]:=⟨_,rfl⟩
    rw [← hx] at hc1 HS HB
    clear hx
    subst hA
    have C:=Lib.hid (fun w=>isPoint16 x w)
    have i1:(0:Int)≤(k:Int):=by omega
    have i2:(k:Int) < (n:Int):=by omega
    cases hok:okPt x
    ·rw [hok] at C
     have HB2:=Lib.hid (HB.out hok)
     clear hok HS HB
     go_wp2_with (go_at_call 31;refine (C.out _).mono ?_;rintro e w' ⟨rfl,rfl⟩)
     go_ret
     exact ⟨ret_int (by rw [HF.out,HB2.out];rfl),rfl⟩
    ·rw [hok] at C
     have HS2:=Lib.hid (HS.out hok)
     clear hok HS HB
     go_wp2_with (go_at_call 31;refine (C.out _).mono ?_;rintro e w' ⟨rfl,rfl⟩)
     go_round
     case rel=>exact ⟨k+1,by omega,by go_num,HS2⟩
     case measure=>simp [intOf];omega
   ·obtain rfl:k=n:=by omega
    rw [List.take_of_length_le (by rw [HLN.out];exact Nat.le_refl _)] at HK
    go_wp2_with fail
    go_ret
    exact ⟨ret_int (by rw [HF.out,HK.out];rfl),rfl⟩
theorem tells_same {R:BR SP} {A B:Option Addr} {n m:Nat} {v x y v' x' y':Int} {w w':World} (h:Tell R A n v x y w) (k:Tell R B m v' x' y' w') :
  v'=v∧x'=x∧y'=y∧n≤400∧m≤400∧∃ out,Rds w w.heap.size 2 A n (rngs out)∧Rds w' w'.heap.size 2 B m (rngs out):=by
 have nil:∀ (w:World) (X:Nat),Rds w X 2 none 0 (rngs []):=fun w X=>⟨rfl,fun h=>absurd h (by omega)⟩
 cases R with
 | error q =>
  obtain ⟨rfl,rfl,rfl,rfl,rfl⟩:=h
  obtain ⟨rfl,rfl,rfl,rfl,rfl⟩:=k
  exact ⟨rfl,rfl,rfl,by omega,by omega,[],nil _ _,nil _ _⟩
 | ok q =>
  obtain ⟨out,hs,hq,h⟩:=h
  obtain ⟨out',hs',-,k⟩:=k
  have e:out'=out:=IsSet.eq hs' hs fun p=>Iff.rfl
  subst e
  rcases h with ⟨hl,rfl,rfl,rfl,hr⟩|⟨hl,rfl,rfl,rfl,rfl,rfl⟩
  ·rcases k with ⟨-,rfl,rfl,rfl,hr'⟩|⟨hl',_⟩
   ·exact ⟨rfl,rfl,rfl,by have:=hr.rngs_len;omega,by have:=hr'.rngs_len;omega,_,hr,hr'⟩
   ·omega
  ·rcases k with ⟨hl',_⟩|⟨-,rfl,rfl,rfl,rfl,rfl⟩
   ·omega
   ·exact ⟨rfl,rfl,rfl,by omega,by omega,[],nil _ _,nil _ _⟩
set_option maxRecDepth 100000 in
set_option maxHeartbeats 8000000 in
theorem lawBracketParses (d:Int) (l:List Int) (A:Option Addr) (n c:Nat) (at_:Int) (fo:Bool) (w:World) (hn:n≤17592186044415) (hnc:n≤c) (hc:c≤maxLen) (ha:Rds w w.heap.size 1 A n (ints l)) :
  Calls Tryz.prog 3 #[.int .i64 d,.slice A n c,.int .i64 at_,.bool fo] w fun e w'=>e=.returned (.bool true)∧Below w.heap.size w w':=by
 have hm:n≤maxLen:=by unfold maxLen;omega
 have HLN:=Lib.hid ha.ints_len
 have CP:=Lib.hid (parseP d at_ fo l A n c w hm hnc ha)
 have HA:=Lib.hid ha
 clear ha
 go_enter Tryz.func3,Tryz.ntmps3
 go_upto_region 2 with (go_at_call 12;(with_reducible refine CP.out.mono ?_);rintro e w1 ⟨A1,n1,v1,x1,y1,rfl,ht,hb⟩;have HT1:=Lib.hid ht.out;have HB1:=Lib.hid hb;clear ht hb)
 obtain ⟨X,hX⟩:∃ X,X=w1.alloc (.cells #[.int .i64 x1,.int .i64 y1] 26):=⟨_,rfl⟩
 have hbx:Below w1.heap.size w1 X:=by rw [hX];exact (Below.refl _ _).alloc (Nat.le_refl _) _
 have HBX:=Lib.hid (HB1.out.trans (hbx.mono HB1.out.size))
 have HX1:=Lib.hid hbx
 have HZX:=Lib.hid (show X.heap[w1.heap.size]?=some (.cells #[.int .i64 x1,.int .i64 y1] 26 (0,0)) by rw [hX];exact heap_alloc_new w1 _)
 have HSX:=Lib.hid (show X.heap.size=w1.heap.size+1 by rw [hX];simp)
 rw [← hX]
 clear hX hbx CP
 have CR:=Lib.hid (right13 d l A n c _ X hm (HA.out.below HBX.out (Nat.le_refl _)))
 obtain ⟨r,hr⟩:∃ r,r=rightE d l:=⟨_,rfl⟩
 rw [← hr] at CR
 obtain ⟨E,hE⟩:∃ E,E=parseE d l at_:=⟨_,rfl⟩
 obtain ⟨g,hg⟩:∃ g,g=(decide (r=0) && (decide (at_ < 0) || decide ((n:Int) < at_))):=⟨_,rfl⟩
 have HEG:=Lib.hid (show E=if g=true then 3 else r by
  rw [hE,hg,hr]
  unfold parseE
  rw [HLN.out]
  by_cases h0:rightE d l=0
  ·by_cases h1:at_ < 0<;>by_cases h2:(n:Int) < at_<;>simp [h0,h1,h2]
  ·simp [h0])
 have HG:=Lib.hid hg
 have HE:=Lib.hid hE
 clear hr hE hg
 go_upto_region 3 with (go_at_call 13;(with_reducible refine CR.out.mono ?_);rintro e w' ⟨rfl,rfl⟩)
 obtain ⟨gn,hgn⟩:∃ gn,gn=w1.heap.size:=⟨_,rfl⟩
 have HGN:=Lib.hid hgn
 rw [← hgn] at HZX ⊢
 clear hgn
 go_cut [39] from 28 to 39 (fun z wc=>z=.bool g∧wc=X)
 ·by_cases h0:r=0
  ·have e0:(r == 0)=true:=by simp [h0]
   by_cases h1:at_ < 0
   ·have e1:decide (at_ < 0)=true:=decide_eq_true h1
    have HV:=Lib.hid (show true=g by rw [HG.out];simp [h0,h1])
    clear h0 h1
    go_wp2_with fail
    go_meet
    exact ⟨congrArg Value.bool HV.out,rfl⟩
   ·have e1:decide (at_ < 0)=false:=decide_eq_false h1
    by_cases h2:(n:Int) < at_
    ·have e2:decide (at_ > (n:Int))=true:=decide_eq_true h2
     have HV:=Lib.hid (show true=g by rw [HG.out];simp [h0,h2])
     clear h0 h1 h2
     go_wp2_with fail
     go_meet
     exact ⟨congrArg Value.bool HV.out,rfl⟩
    ·have e2:decide (at_ > (n:Int))=false:=decide_eq_false h2
     have HV:=Lib.hid (show false=g by rw [HG.out];simp [h1,h2])
     clear h0 h1 h2
     go_wp2_with fail
     go_meet
     exact ⟨congrArg Value.bool HV.out,rfl⟩
  ·have e0:(r == 0)=false:=beq_eq_false_iff_ne.2 h0
   have HV:=Lib.hid (show false=g by rw [HG.out];simp [h0])
   clear h0
   go_wp2_with fail
   go_meet
   exact ⟨congrArg Value.bool HV.out,rfl⟩
 obtain ⟨rfl,rfl⟩:=hcut
 go_upto_if 39 with (fail)
 go_cut [12] from 39 to 40 (fun z wd=>z=.int .i64 E∧wd=wc)
 ·cases g with
  | true =>
   have HV:=Lib.hid (show 3=E by rw [HEG.out];rfl)
   go_wp2_with fail
   go_meet
   exact ⟨by rw [HV.out],rfl⟩
  | false =>
   have HV:=Lib.hid (show r=E by rw [HEG.out];rfl)
   go_wp2_with fail
   go_meet
   exact ⟨by rw [HV.out],rfl⟩
 obtain ⟨rfl,rfl⟩:=hcut
 have HAX:=Lib.hid (HA.out.below HBX.out (Nat.le_refl _))
 go_upto_if 43 with (fail)
 obtain ⟨Y,hY⟩:∃ Y,Y=wc.alloc (.cells #[.int .i64 E,.int .i64 0] 26):=⟨_,rfl⟩
 have hby:Below wc.heap.size wc Y:=by rw [hY];exact (Below.refl _ _).alloc (Nat.le_refl _) _
 have HY1:=Lib.hid hby
 have HBY:=Lib.hid (HBX.out.trans (hby.mono HBX.out.size))
 have HZ2:=Lib.hid (show Y.heap[wc.heap.size]?=some (.cells #[.int .i64 E,.int .i64 0] 26 (0,0)) by rw [hY];exact heap_alloc_new wc _)
 have HZ1:=Lib.hid (row_next HZX.out hby)
 have HAY:=Lib.hid (HAX.out.below (hby.mono HBX.out.size) (Nat.le_refl _))
 have HX2:=Lib.hid (HX1.out.trans (hby.mono HX1.out.size))
 rw [← hY]
 have HSY:=Lib.hid (show Y.heap.size=wc.heap.size+1 by rw [hY];simp)
 clear hY hby
 obtain ⟨hn_,hgn2⟩:∃ k,k=wc.heap.size:=⟨_,rfl⟩
 have HH:=Lib.hid hgn2
 rw [← hgn2] at HZ2 ⊢
 clear hgn2
 go_cut [13,14] from 43 to 53 (fun z13 z14 we=>∃ A2 n2 c2 out,z13=.slice A2 n2 c2∧z14=.int .i64 v1∧Hid (we.heap[gn]?=some (.cells #[.int .i64 x1,.int .i64 y1] 26 (0,0)))∧Hid (we.heap[hn_]?=some (.cells #[.int .i64 x1,.int .i64 y1] 26 (0,0)))∧Hid (n1≤400∧n2≤400)∧Hid (Rds we we.heap.size 2 A1 n1 (rngs out))∧Hid (Rds we we.heap.size 2 A2 n2 (rngs out))∧Hid (Below w.heap.size w we))
 ·have hT:=HT1.out
  unfold PTell at hT
  rw [← HE.out] at hT
  have nil:∀ (w:World) (X:Nat),Rds w X 2 none 0 (rngs []):=fun w X=>⟨rfl,fun h=>absurd h (by omega)⟩
  rcases hT with ⟨h0,e1,e2,e3,e4,e5⟩|⟨h0,ht⟩
  ·have eb:(E == 0)=false:=beq_eq_false_iff_ne.2 h0
   subst e1 e2 e3 e5
   have HXE:=Lib.hid e4
   have HN0:=Lib.hid nil
   clear h0 nil e4
   go_wp2_with fail
   go_meet
   exact ⟨none,0,0,[],rfl,rfl,HZ1,Lib.hid (by rw [HXE.out];exact HZ2.out),Lib.hid ⟨by omega,by omega⟩,Lib.hid (HN0.out _ _),Lib.hid (HN0.out _ _),HBY⟩
  ·subst h0
   have hat:=parseE_at HE.out.symm
   have hR:=rightE_okb hat.1
   have hlen:=HLN.out
   have CB:=Lib.hid (bracketOf14 (d:=d) (fo:=fo) (c:=c) (refC hR.2.1) hR.2.1 (by omega) hat.2.1 (by omega) (HAY.out.more HBY.out.size))
   have HTE:=Lib.hid ht
   clear hat hR hlen nil ht
   go_wp2_with (go_at_call 14;(with_reducible refine CB.out.mono ?_);rintro e w5 ⟨A2,n2,c2,v2,x2,y2,rfl,ht2,hb⟩;have HB5:=Lib.hid hb;have HZ25:=Lib.hid (row_next HZ2.out hb);have g0:=frozen_row (o:=0) HZ25.out;have g1:=frozen_row (o:=1) HZ25.out;have z0:=cell_of_row _ _ 0 _ _ _ HZ25.out;have z1:=cell_of_row _ _ 1 _ _ _ HZ25.out;have HTL:=Lib.hid (ht2.out.stored HZ25.out);clear hb ht2)
   obtain ⟨ev,ex,ey,k1,k2,out,hr1,hr2⟩:=tells_same HTE.out HTL.out
   subst ev ex ey
   have hgh:gn < hn_:=by have h1:=HGN.out;have h2:=HH.out;have h3:=HSX.out;omega
   have hsz:=HX2.out.size
   have hs5:=HB5.out.size
   have hb5:Below w1.heap.size w1 w5:=HX2.out.trans (HB5.out.mono hsz)
   have hbf:Below w1.heap.size w1 ((w5.setCell ⟨hn_,0,none⟩ (.int .i64 x2)).setCell ⟨hn_,1,none⟩ (.int .i64 y2)):=(hb5.setCell (p:=⟨hn_,0,none⟩) (by have h1:=HGN.out;simp only;omega) _).setCell (p:=⟨hn_,1,none⟩) (by have h1:=HGN.out;simp only;omega) _
   go_meet
   exact ⟨A2,n2,c2,out,rfl,rfl,Lib.hid (hz_set (p:=⟨hn_,1,none⟩) (hz_set (p:=⟨hn_,0,none⟩) (row_next HZ1.out HB5.out) (Nat.ne_of_lt hgh)) (Nat.ne_of_lt hgh)),Lib.hid (put1 (put1 HZ25.out rfl) rfl),Lib.hid ⟨k1,k2⟩,Lib.hid ((hr1.below hbf (Nat.le_refl _)).more hbf.size),Lib.hid hr2,Lib.hid (HB1.out.trans (hbf.mono HB1.out.size))⟩
 obtain ⟨A2,n2,c2,out,rfl,rfl,HZE1,HZE2,HNN,HR1,HR2,HBE⟩:=hcut
 clear HZ1 HZ2 HBY HAY HX2 HSY HBX HX1 HSX HZX HAX HA HT1 HB1 CR
 have f10:=cell_of_row _ _ 0 _ _ _ HZE1.out
 have f11:=cell_of_row _ _ 1 _ _ _ HZE1.out
 have f20:=cell_of_row _ _ 0 _ _ _ HZE2.out
 have f21:=cell_of_row _ _ 1 _ _ _ HZE2.out
 go_wp2_with (first
  | (go_at_call 15;(with_reducible refine (begun15 _).mono ?_);rintro e w5 ⟨rfl,hb⟩;have HB5:=Lib.hid (HBE.out.trans (hb.mono HBE.out.size));have HR15:=Lib.hid (HR1.out.below hb (Nat.le_refl _));have HR25:=Lib.hid (HR2.out.below hb (Nat.le_refl _));clear f10 f11 f20 f21;have f10:=cell_of_row _ _ 0 _ _ _ (row_next HZE1.out hb);have f11:=cell_of_row _ _ 1 _ _ _ (row_next HZE1.out hb);have f20:=cell_of_row _ _ 0 _ _ _ (row_next HZE2.out hb);have f21:=cell_of_row _ _ 1 _ _ _ (row_next HZE2.out hb);clear hb)
  | (go_at_call 16;(with_reducible refine (sameSet_any out out A1 A2 n1 n2 n1 c2 w5 _ _ (by have:=HNN.out;unfold maxLen;omega) (by have:=HNN.out;unfold maxLen;omega) HR15.out HR25.out).mono ?_);rintro e w6 ⟨rfl,q6,rfl⟩))
 go_ret
 exact ⟨ret_bool (by simp [sameS]),below_drewN HB5.out _⟩
end Go.Proofs.YtbiahhojnjchnaaGreat
