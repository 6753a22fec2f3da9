/-
  What is wrong with ranges, by the program: walked. check of the program, over one or more lists: walked. The plain law of RawMeet. RawMeet of the program, walked: a right set of just the points that both have.
-/
import Derived.Test.YtbiahhojnjchnaaGreatGA
import Derived.Test.YtbiahhojnjchnaaGreatSetF
import Derived.StillTailTactics
set_option linter.unusedVariables false
set_option linter.unusedSimpArgs false
namespace Go.Proofs.YtbiahhojnjchnaaGreat
open Go.RowKit
set_option maxHeartbeats 400000 in
theorem isPoint88 (p:Int) (b:Bool) (w:World) (h:(decide (0≤p) && decide (p≤1114111))=b):Calls Tryz.prog 40 #[.int .i64 p] w fun e w'=>e=.returned (.bool b)∧w'=w:=by
 subst h
 go_enter Tryz.func40,Tryz.ntmps40
 go_wp2
 all_goals (go_ret;refine ⟨ret_bool ?_,rfl⟩;simp_all;try omega)
set_option maxHeartbeats 1000000 in
theorem bad116 (x y:Int) (w:World):Calls Tryz.prog 103 #[.agg #[.int .i64 x,.int .i64 y]] w fun e w'=>e=.returned (.bool (!okR (x,y)))∧Below w.heap.size w w':=by
 cases hok:okR (x,y)
 ·rcases okR_false hok with h|⟨h,h2⟩|⟨h,h2,h3⟩
  ·have H:=Lib.hid h
   clear h hok
   go_enter Tryz.func103,Tryz.ntmps103
   go_wp2_with (first|(go_at_call 40;(with_reducible refine (isPoint88 x false _ H.out).mono ?_);rintro e w' ⟨rfl,rfl⟩))
   go_ret
   exact ⟨rfl,by go_grown⟩
  ·have H:=Lib.hid h
   have H2:=Lib.hid h2
   clear h h2 hok
   go_enter Tryz.func103,Tryz.ntmps103
   go_wp2_with (first|(go_at_call 40;(with_reducible refine (isPoint88 x true _ H.out).mono ?_);rintro e w' ⟨rfl,rfl⟩)|(go_at_call 40;(with_reducible refine (isPoint88 y false _ H2.out).mono ?_);rintro e w' ⟨rfl,rfl⟩))
   go_ret
   exact ⟨rfl,by go_grown⟩
  ·have H:=Lib.hid h
   have H2:=Lib.hid h2
   clear h h2 hok
   simp only at h3
   go_enter Tryz.func103,Tryz.ntmps103
   go_wp2_with (first|(go_at_call 40;(with_reducible refine (isPoint88 x true _ H.out).mono ?_);rintro e w' ⟨rfl,rfl⟩)|(go_at_call 40;(with_reducible refine (isPoint88 y true _ H2.out).mono ?_);rintro e w' ⟨rfl,rfl⟩))
   go_ret
   exact ⟨rfl,by go_grown⟩
 ·obtain ⟨h,h2,h3⟩:=okR_true hok
  have H:=Lib.hid h
  have H2:=Lib.hid h2
  clear h h2 hok
  simp only at h3
  go_enter Tryz.func103,Tryz.ntmps103
  go_wp2_with (first|(go_at_call 40;(with_reducible refine (isPoint88 x true _ H.out).mono ?_);rintro e w' ⟨rfl,rfl⟩)|(go_at_call 40;(with_reducible refine (isPoint88 y true _ H2.out).mono ?_);rintro e w' ⟨rfl,rfl⟩))
  go_ret
  exact ⟨ret_bool (by simp;omega),by go_grown⟩
theorem bad_of (r:Int × Int) (b:Bool) (h:okR r=!b) (w:World):Calls Tryz.prog 103 #[.agg #[.int .i64 r.1,.int .i64 r.2]] w fun e w'=>e=.returned (.bool b)∧Below w.heap.size w w':=by
 have:=bad116 r.1 r.2 w
 rwa [show (r.1,r.2)=r from rfl,h,Bool.not_not] at this
theorem all_okR_snoc (a:List (Int × Int)) (k:Nat) (hk:k < a.length) (h:(a.take k).all okR=true) (hr:okR a[k]=true):(a.take (k+1)).all okR=true:=by
 rw [take_snoc' a k hk,List.all_append,h];simp [hr]
def idxBad (a:List (Int × Int)):Int:=if a.all okR then -1 else 0
set_option maxHeartbeats 1000000 in
theorem index132 (a:List (Int × Int)) (A:Option Addr) (n c:Nat) (w:World) (hn:n≤maxLen) (ha:Rds w w.heap.size 2 A n (rngs a)) :
  Calls Tryz.prog 122 #[.slice A n c,.func (.func 103) #[] #[]] w fun e w'=>(∃ i:Int,e=.returned (.int .i64 i)∧decide (0≤i)=!a.all okR)∧Below w.heap.size w w':=by
 have HA:=Lib.hid ha.rngs_len
 unfold maxLen at hn
 go_enter Tryz.func122,Tryz.ntmps122
 go_wp2_with fail
 go_loopw [8] (fun i wr=>∃ k:Nat,k≤n∧i=.int .i64 k∧(a.take k).all okR=true∧Below w.heap.size w wr) (fun i _=>n - (intOf i).toNat)
 case atStart=>exact ⟨0,Nat.zero_le _,rfl,by simp,Below.refl _ _⟩
 case round =>
  obtain ⟨k,hk,rfl,hall,hB⟩:=hrel
  have HALL:=Lib.hid hall
  clear hall
  by_cases hlt:k < n
  ·obtain ⟨b1,off1,hl1,hA,hb1,hc1,hd1⟩:=(ha.below hB (Nat.le_refl _)).rng_at hlt
   subst hA
   have HS:=Lib.hid (all_okR_snoc a k hl1 HALL.out)
   have HBAD:=Lib.hid (fun (h:okR a[k]=false)=>show a.all okR=false from List.all_eq_false.2 ⟨a[k],List.getElem_mem hl1,by simp [h]⟩)
   obtain ⟨p,hp⟩:∃ p,p=a[k]:=⟨_,rfl⟩
   rw [← hp] at hc1 hd1 HS HBAD
   clear hp
   cases hok:okR p
   ·have HOK:=Lib.hid hok
    clear hok
    go_wp2_with (go_at_call 103;refine (bad_of p true (by rw [HOK.out];rfl) _).mono ?_;rintro e w1 ⟨rfl,hb⟩)
    go_ret
    exact ⟨⟨k,rfl,by rw [HBAD.out HOK.out];simp⟩,hB.trans (hb.mono hB.size)⟩
   ·have HOK:=Lib.hid hok
    clear hok
    go_wp2_with (go_at_call 103;refine (bad_of p false (by rw [HOK.out];rfl) _).mono ?_;rintro e w1 ⟨rfl,hb⟩)
    go_roundw
    case rel=>exact ⟨k+1,by omega,by go_num,HS.out HOK.out,hB.trans (hb.mono hB.size)⟩
    case measure=>simp [intOf];omega
  ·obtain rfl:k=n:=by omega
   go_wp2
   go_ret
   refine ⟨⟨-1,rfl,?_⟩,hB⟩
   have:=HALL.out
   rw [List.take_of_length_le (by rw [HA.out];exact Nat.le_refl _)] at this
   rw [this];rfl
set_option maxHeartbeats 1000000 in
theorem contains99 (a:List (Int × Int)) (A:Option Addr) (n c:Nat) (w:World) (hn:n≤maxLen) (ha:Rds w w.heap.size 2 A n (rngs a)) :
  Calls Tryz.prog 102 #[.slice A n c,.func (.func 103) #[] #[]] w fun e w'=>e=.returned (.bool (!a.all okR))∧Below w.heap.size w w':=by
 go_enter Tryz.func102,Tryz.ntmps102
 go_wp2_with fail
 refine (index132 a A n c w hn ha).mono ?_
 rintro e w' ⟨⟨i,rfl,hi⟩,hb⟩
 have HI:=Lib.hid hi
 clear hi
 go_wp2
 go_ret
 exact ⟨ret_bool HI.out,hb⟩
set_option maxHeartbeats 1000000 in
theorem ranges71 (a:List (Int × Int)) (e:Int) (he:rangesE a=e) (A:Option Addr) (n c:Nat) (w:World) (hn:n≤maxLen) (ha:Rds w w.heap.size 2 A n (rngs a)) :
  Calls Tryz.prog 66 #[.slice A n c] w fun e' w'=>e'=.returned (.int .i64 e)∧Below w.heap.size w w':=by
 subst he
 have HA:=Lib.hid ha.rngs_len
 have hn':=hn
 unfold maxLen at hn
 by_cases hbig:400 < n
 ·have HE:=Lib.hid (rangesE_many (a:=a) (by rw [HA.out];exact hbig))
  go_enter Tryz.func66,Tryz.ntmps66
  go_wp2
  go_ret
  exact ⟨ret_int HE.out.symm,Below.refl _ _⟩
 ·cases hall:a.all okR
  ·have HALL:=Lib.hid hall
   have HE:=Lib.hid (show rangesE a=3 by simp [rangesE,hall,HA.out];omega)
   have C:=Lib.hid (fun w ha=>contains99 a A n c w hn' ha)
   rw [hall] at C
   clear hall
   go_enter Tryz.func66,Tryz.ntmps66
   go_wp2_with (go_at_call 102;refine (C.out w ha).mono ?_;rintro e w' ⟨rfl,hb⟩)
   go_ret
   exact ⟨ret_int HE.out.symm,hb⟩
  ·have HALL:=Lib.hid hall
   have HE:=Lib.hid (show rangesE a=0 by simp [rangesE,hall,HA.out];omega)
   have C:=Lib.hid (fun w ha=>contains99 a A n c w hn' ha)
   rw [hall] at C
   clear hall
   go_enter Tryz.func66,Tryz.ntmps66
   go_wp2_with (go_at_call 102;refine (C.out w ha).mono ?_;rintro e w' ⟨rfl,hb⟩)
   go_ret
   exact ⟨ret_int HE.out.symm,hb⟩
end Go.Proofs.YtbiahhojnjchnaaGreat
namespace Go.Proofs.YtbiahhojnjchnaaGreat
open Go.RowKit
def chkL:List (List (Int × Int))→Int
 | []=>0
 | a :: l=>if chk a=0 then chkL l else chk a
theorem chkL_at:∀ (ls:List (List (Int × Int))) (k:Nat) (hk:k < ls.length),(∀ i (hi:i < ls.length),i < k→chk ls[i]=0)→chk ls[k]≠0→chkL ls=chk ls[k]
 | [],k,hk,_,_=>by simp at hk
 | a :: l,0,_,_,h=>by
  have h':chk a≠0:=h
  simp [chkL,h']
 | a :: l,k+1,hk,hall,h=>by
  have h0:chk a=0:=hall 0 (by simp) (by omega)
  simp only [chkL,h0,if_true]
  exact chkL_at l k (by simpa using hk) (fun i hi hlt=>hall (i+1) (by simpa using hi) (by omega)) h
theorem chkL_all:∀ (ls:List (List (Int × Int))),(∀ i (hi:i < ls.length),chk ls[i]=0)→chkL ls=0
 | [],_=>rfl
 | a :: l,h=>by
  have h0:chk a=0:=h 0 (by simp)
  simp only [chkL,h0,if_true]
  exact chkL_all l fun i hi=>h (i+1) (by simpa using hi)
/-- slices of ranges that each read ls a list -/
def Sls (w:World) (X:Nat) (vs:List Value) (ls:List (List (Int × Int))):Prop :=
 vs.length=ls.length∧∀ k (h:k < vs.length) (h':k < ls.length),∃ A n c,vs[k]=.slice A n c∧n≤c∧c≤maxLen∧Rds w X 2 A n (rngs ls[k])
theorem Sls.below {w w':World} {X C:Nat} {vs:List Value} {ls:List (List (Int × Int))} (h:Sls w X vs ls) (hb:Below C w w') (hC:X≤C):Sls w' X vs ls :=
 ⟨h.1,fun k h1 h2=>by obtain ⟨A,n,c,e,a1,a2,a3⟩:=h.2 k h1 h2;exact ⟨A,n,c,e,a1,a2,a3.below hb hC⟩⟩
set_option maxRecDepth 100000 in
set_option maxHeartbeats 2000000 in
theorem check80 (ls:List (List (Int × Int))) (vs:List Value) (A:Option Addr) (n c:Nat) (w:World) (hn:n≤maxLen) (hv:Rds w w.heap.size 1 A n vs) (hs:Sls w w.heap.size vs ls) :
  Calls Tryz.prog 39 #[.slice A n c] w fun e w'=>e=.returned (.int .i64 (chkL ls))∧Below w.heap.size w w':=by
 have hnv:vs.length=n:=by have:=hv.1;omega
 have HNV:=Lib.hid hnv
 clear hnv
 unfold maxLen at hn
 go_enter Tryz.func39,Tryz.ntmps39
 go_wp2_with fail
 go_loopw [9] (fun i wr=>∃ k:Nat,k≤n∧i=.int .i64 k∧(∀ i (hi:i < ls.length),i < k→chk ls[i]=0)∧Below w.heap.size w wr) (fun i _=>n - (intOf i).toNat)
 case atStart=>exact ⟨0,Nat.zero_le _,rfl,fun i hi h=>by omega,Below.refl _ _⟩
 case round =>
  obtain ⟨k,hk,rfl,hall,hB⟩:=hrel
  have HALL:=Lib.hid hall
  clear hall
  by_cases hlt:k < n
  ·obtain ⟨bv,ov,rfl,hbv,hcv⟩:=hv.2 (by omega)
   have hkv:k < vs.length:=by rw [HNV.out];exact hlt
   have hka:k < ls.length:=by rw [← hs.1];exact hkv
   obtain ⟨A1,n1,c1,hvk,hnc1,hc1,hr1⟩:=hs.2 k hkv hka
   have hcell:wr.cell? ⟨bv,ov+k,none⟩=some (.slice A1 n1 c1):=by
    rw [hB.cell (p:=⟨bv,ov+k,none⟩) hbv]
    exact hcv k _ (by rw [← hvk];exact List.getElem?_eq_getElem hkv)
   have ha:=(hr1.below hB (Nat.le_refl _))
   have hca:=Lib.hid (chkL_at ls k hka HALL.out)
   have HALL2:=Lib.hid (fun (h:chk ls[k]=0)=>show ∀ i (hi:i < ls.length),i < k+1→chk ls[i]=0 from fun i hi hlt=>by
    by_cases e:i=k
    ·subst e;exact h
    ·exact HALL.out i hi (by omega))
   obtain ⟨a,hae⟩:∃ a,a=ls[k]:=⟨_,rfl⟩
   rw [← hae] at ha hca HALL2
   clear hae hvk hr1 hcv
   have HA:=Lib.hid ha.rngs_len
   have hn1:n1≤maxLen:=by omega
   have hsz:=hB.size
   by_cases hE:rangesE a=0
   ·have HE:=Lib.hid hE
    clear hE
    have hn1':=hn1
    unfold maxLen at hn1 hc1
    go_wp2_with (go_at_call 66;refine (ranges71 a 0 HE.out _ _ _ _ hn1' (ha.more hsz)).mono ?_;rintro e w1 ⟨rfl,hb1⟩)
    have B1:=hB.trans (hb1.mono hsz)
    have ha1:=ha.below hb1 hsz
    clear ha hcell hb1 hB
    obtain ⟨wo,rfl⟩:∃ wo:World,wo=w1:=⟨_,rfl⟩
    go_loopw [6] (fun i wx=>∃ j:Nat,i=.int .i64 (j+1:Nat)∧j≤n1∧GapTo a (j+1)∧∃ q,wx=wo.drewN q) (fun i _=>n1+1 - (intOf i).toNat)
    case atStart=>exact ⟨0,rfl,Nat.zero_le _,GapTo.one a,0,rfl⟩
    case round =>
     obtain ⟨j,rfl,hj,hg,q,rfl⟩:=hrel
     have HG:=Lib.hid hg
     clear hg
     by_cases hlt2:j+1 < n1
     ·obtain ⟨b1,off1,hl1,hA,hb1,hc1,hd1⟩:=ha1.rng_at (k:=j) (by omega)
      obtain ⟨b2,off2,hl2,hA2,hb2,hc2,hd2⟩:=ha1.rng_at hlt2
      subst hA
      injection hA2 with hA2
      injection hA2 with e1 e2
      subst e1 e2
      have bx:=okR_bounds HE.out j hl1
      have by_:=okR_bounds HE.out (j+1) hl2
      have HSucc:=Lib.hid (fun h=>HG.out.succ hl2 h)
      have HBad:=Lib.hid (fun h=>chk_gap HE.out j hl2 h)
      obtain ⟨p,hp⟩:∃ p,p=a[j]:=⟨_,rfl⟩
      obtain ⟨q',hq⟩:∃ q,q=a[j+1]:=⟨_,rfl⟩
      rw [← hp] at hc1 hd1 bx HSucc HBad
      rw [← hq] at hc2 hd2 by_ HSucc HBad
      clear hp hq
      obtain ⟨x,y⟩:=p
      obtain ⟨x',y'⟩:=q'
      simp only at hc1 hd1 hc2 hd2 bx by_ HSucc HBad
      have i1:(0:Int)≤(j:Int):=by omega
      have i2:(j:Int)+1 < (n1:Int):=by omega
      have W1:=Lib.hid (show IntKind.i64.wrap ((j:Int)+1 - 1)=(j:Int) by rw [IntWalk.i64_in _ (by omega)];omega)
      have W2:=Lib.hid (show IntKind.i64.wrap (y+1)=y+1 from IntWalk.i64_in _ (by omega))
      by_cases hgap:x'≤y+1
      ·go_wp2_with fail
       have w1:=W1.out
       have w2:=W2.out
       go_quiet (fail)
       clear w1 w2
       go_wp2
       go_ret
       exact ⟨ret_int (by rw [hca.out (by rw [HBad.out (by omega)];decide),HBad.out (by omega)]),below_drewN (below_drewN B1 _) _⟩
      ·go_wp2_with fail
       have w1:=W1.out
       have w2:=W2.out
       go_quiet (fail)
       clear w1 w2
       go_wp2
       go_roundw
       case rel=>exact ⟨j+1,by go_num,by omega,HSucc.out (by omega),_,rfl⟩
       case measure=>simp [intOf];omega
     ·have HC:=Lib.hid (chk_fine HE.out (fun i hi=>HG.out i hi (by rw [HA.out] at hi;omega)))
      go_wp2
      go_roundw
      case rel=>exact ⟨k+1,by omega,by go_num,HALL2.out HC.out,below_drewN B1 _⟩
      case measure=>simp [intOf];omega
   ·have HC:=Lib.hid (chk_ranges hE)
    obtain ⟨E,hE2⟩:∃ E,rangesE a=E:=⟨_,rfl⟩
    rw [hE2] at HC hE
    have HR:=Lib.hid hE2
    have hb:(E != 0)=true:=by rw [bne_iff_ne];exact hE
    have HNE:=Lib.hid hE
    clear hE hE2
    go_wp2_with (go_at_call 66;refine (ranges71 a E HR.out _ _ _ _ hn1 (ha.more hsz)).mono ?_;rintro e w1 ⟨rfl,hb1⟩)
    go_ret
    exact ⟨ret_int (by rw [hca.out (by rw [HC.out];exact HNE.out),HC.out]),hB.trans (hb1.mono hsz)⟩
  ·obtain rfl:k=n:=by omega
   have HC:=Lib.hid (chkL_all ls fun i hi=>HALL.out i hi (by rw [← hs.1,HNV.out] at hi;exact hi))
   go_wp2
   go_ret
   exact ⟨ret_int HC.out.symm,hB⟩
end Go.Proofs.YtbiahhojnjchnaaGreat
namespace Go.Proofs.YtbiahhojnjchnaaGreat
open Go.RowKit
theorem mem_take_lt {a:List (Int × Int)} (hc:Can a) {i:Nat} (hi:i < a.length) {p:Int} (h:mem (a.take i) p):p+2≤(a[i]).1:=by
 obtain ⟨s,hs,h1,h2⟩:=h
 obtain ⟨j,hj,rfl⟩:=List.mem_iff_getElem.1 hs
 rw [List.getElem_take] at h1 h2
 rw [List.length_take] at hj
 have:=List.pairwise_iff_getElem.1 hc.2 j i (by omega) hi (by omega)
 omega
theorem mem_of_take {a:List (Int × Int)} {i:Nat} {p:Int} (h:mem (a.take i) p):mem a p:=by
 obtain ⟨s,hs,h1⟩:=h;exact ⟨s,List.mem_of_mem_take hs,h1⟩
theorem mem_split {a:List (Int × Int)} (hc:Can a) {i:Nat} (hi:i < a.length) {p:Int} (h:mem a p):mem (a.take i) p∨((a[i]).1≤p∧p≤(a[i]).2)∨(a[i]).2+2≤p:=by
 obtain ⟨s,hs,h1,h2⟩:=h
 obtain ⟨j,hj,rfl⟩:=List.mem_iff_getElem.1 hs
 rcases Nat.lt_trichotomy j i with k|k|k
 ·exact .inl ⟨a[j],List.mem_iff_getElem.2 ⟨j,by rw [List.length_take];omega,by rw [List.getElem_take]⟩,h1,h2⟩
 ·subst k;exact .inr (.inl ⟨h1,h2⟩)
 ·have:=List.pairwise_iff_getElem.1 hc.2 i j hi hj k
  exact .inr (.inr (by omega))
theorem mem_take_succ {a:List (Int × Int)} {i:Nat} (hi:i < a.length) (p:Int):mem (a.take (i+1)) p↔mem (a.take i) p∨((a[i]).1≤p∧p≤(a[i]).2):=by
 rw [take_snoc' a i hi,mem_append,mem_cons]
 have:=mem_nil p
 simp only [this,or_false]
theorem mem_getElem {a:List (Int × Int)} {i:Nat} (hi:i < a.length) {p:Int} (h:(a[i]).1≤p∧p≤(a[i]).2):mem a p:=⟨a[i],List.getElem_mem hi,h.1,h.2⟩
def MeetInv (a b:List (Int × Int)) (i k:Nat) (out:List (Int × Int)):Prop:=IsSet out fun p=>(mem (a.take i) p∨mem (b.take k) p)∧mem a p∧mem b p
theorem MeetInv.start (a b:List (Int × Int)):MeetInv a b 0 0 []:=⟨Can.nil,fun p=>⟨fun h=>absurd h (mem_nil p),fun h=>by rcases h.1 with k|k<;>exact absurd k (mem_nil p)⟩⟩
theorem MeetInv.fin {a b:List (Int × Int)} {i k:Nat} {out:List (Int × Int)} (h:MeetInv a b i k out) (hik:a.length≤i∨b.length≤k):IsSet out fun p=>mem a p∧mem b p :=
 ⟨h.1,fun p=>by
  refine (h.2 p).trans ⟨fun h=>h.2,fun hh=>⟨?_,hh⟩⟩
  rcases hik with e|e
  ·exact .inl (by rw [List.take_of_length_le e];exact hh.1)
  ·exact .inr (by rw [List.take_of_length_le e];exact hh.2)⟩
theorem meet_put {a b:List (Int × Int)} (ha:Can a) (hb:Can b) {i k:Nat} (hi:i < a.length) (hk:k < b.length) {out:List (Int × Int)} (h:MeetInv a b i k out) (F:Int→Prop)
  (hF:∀ p,F p↔((mem (a.take i) p∨mem (b.take k) p)∧mem a p∧mem b p)∨(((a[i]).1≤p∧p≤(a[i]).2)∧((b[k]).1≤p∧p≤(b[k]).2))) :
  IsSet (if max (a[i]).1 (b[k]).1≤min (a[i]).2 (b[k]).2 then out ++ [(max (a[i]).1 (b[k]).1,min (a[i]).2 (b[k]).2)] else out) F:=by
 have ra:=(okR_iff _).1 (ha.1 _ (List.getElem_mem hi))
 have rb:=(okR_iff _).1 (hb.1 _ (List.getElem_mem hk))
 by_cases hr:max (a[i]).1 (b[k]).1≤min (a[i]).2 (b[k]).2
 ·rw [if_pos hr]
  refine ⟨h.1.snoc (by rw [okR_iff];simp only;omega) fun s hs=>?_,fun p=>?_⟩
  ·have rs:=(okR_iff s).1 (h.1.1 s hs)
   have hm:=((h.2 s.2).1 ⟨s,hs,by omega,Int.le_refl _⟩).1
   simp only
   rcases hm with k1|k1
   ·have:=mem_take_lt ha hi k1;omega
   ·have:=mem_take_lt hb hk k1;omega
  ·rw [hF,mem_append,mem_cons,h.2 p]
   have:=mem_nil p
   simp only [this,or_false]
   refine or_congr Iff.rfl ?_
   omega
 ·rw [if_neg hr]
  refine ⟨h.1,fun p=>?_⟩
  rw [hF,h.2 p]
  constructor
  ·exact .inl
  ·rintro (k1|k1)
   ·exact k1
   ·exact absurd (by omega) hr
theorem MeetInv.left {a b:List (Int × Int)} (ha:Can a) (hb:Can b) {i k:Nat} (hi:i < a.length) (hk:k < b.length) {out:List (Int × Int)} (h:MeetInv a b i k out) (hlt:(a[i]).2 < (b[k]).2) :
  MeetInv a b (i+1) k (if max (a[i]).1 (b[k]).1≤min (a[i]).2 (b[k]).2 then out ++ [(max (a[i]).1 (b[k]).1,min (a[i]).2 (b[k]).2)] else out):=by
 refine meet_put ha hb hi hk h _ fun p=>?_
 rw [mem_take_succ hi]
 constructor
 ·rintro ⟨(k1|k1)|k1,h1,h2⟩
  ·exact .inl ⟨.inl k1,h1,h2⟩
  ·rcases mem_split hb hk h2 with k2|k2|k2
   ·exact .inl ⟨.inr k2,h1,h2⟩
   ·exact .inr ⟨k1,k2⟩
   ·omega
  ·exact .inl ⟨.inr k1,h1,h2⟩
 ·rintro (⟨k1|k1,h1,h2⟩|⟨k1,k2⟩)
  ·exact ⟨.inl (.inl k1),h1,h2⟩
  ·exact ⟨.inr k1,h1,h2⟩
  ·exact ⟨.inl (.inr k1),mem_getElem hi k1,mem_getElem hk k2⟩
theorem MeetInv.right {a b:List (Int × Int)} (ha:Can a) (hb:Can b) {i k:Nat} (hi:i < a.length) (hk:k < b.length) {out:List (Int × Int)} (h:MeetInv a b i k out) (hlt:¬ (a[i]).2 < (b[k]).2) :
  MeetInv a b i (k+1) (if max (a[i]).1 (b[k]).1≤min (a[i]).2 (b[k]).2 then out ++ [(max (a[i]).1 (b[k]).1,min (a[i]).2 (b[k]).2)] else out):=by
 refine meet_put ha hb hi hk h _ fun p=>?_
 rw [mem_take_succ hk]
 constructor
 ·rintro ⟨k1|k1|k1,h1,h2⟩
  ·exact .inl ⟨.inl k1,h1,h2⟩
  ·exact .inl ⟨.inr k1,h1,h2⟩
  ·rcases mem_split ha hi h1 with k2|k2|k2
   ·exact .inl ⟨.inl k2,h1,h2⟩
   ·exact .inr ⟨k2,k1⟩
   ·omega
 ·rintro (⟨k1|k1,h1,h2⟩|⟨k1,k2⟩)
  ·exact ⟨.inl k1,h1,h2⟩
  ·exact ⟨.inr (.inl k1),h1,h2⟩
  ·exact ⟨.inr (.inr k2),mem_getElem hi k1,mem_getElem hk k2⟩
end Go.Proofs.YtbiahhojnjchnaaGreat
namespace Go.Proofs.YtbiahhojnjchnaaGreat
open Go.RowKit
set_option maxRecDepth 100000 in
set_option maxHeartbeats 2000000 in
theorem rawMeet82 (a b:List (Int × Int)) (A B:Option Addr) (n c m d:Nat) (w:World) (hn:n+m≤100000) (hca:Can a) (hcb:Can b) (ha:Rds w w.heap.size 2 A n (rngs a)) (hb:Rds w w.heap.size 2 B m (rngs b)) :
  Calls Tryz.prog 91 #[.slice A n c,.slice B m d] w fun e w'=>∃ out,(IsSet out fun p=>mem a p∧mem b p)∧out.length≤n+m∧OwnRngs w out e w':=by
 have HA:=Lib.hid ha.rngs_len
 have HB:=Lib.hid hb.rngs_len
 have HCA:=Lib.hid hca
 have HCB:=Lib.hid hcb
 clear hca hcb
 go_enter Tryz.func91,Tryz.ntmps91
 go_wp2_with fail
 go_loopw [5,6,7] (fun v x y wr=>∃ (i k t:Nat) (out:List (Int × Int)),i≤n∧k≤m∧x=.int .i64 i∧y=.int .i64 k∧t≤i+k∧MeetInv a b i k out∧wr.ownsRow w.heap.size 67 2 v t (rngs out)∧Below w.heap.size w wr) (fun _ x y _=>n+m - ((intOf x).toNat+(intOf y).toNat))
 case atStart=>exact ⟨0,0,0,[],Nat.zero_le _,Nat.zero_le _,rfl,rfl,Nat.le_refl _,MeetInv.start a b,World.ownsRow_nil _ _ _ _,Below.refl _ _⟩
 case round =>
  obtain ⟨i,k,t,out,hi,hk,rfl,rfl,ht,hinv,hout,hBl⟩:=hrel
  obtain ⟨Ao,co,rfl,hoc,hco⟩:=own_slice hout
  unfold maxLen at hco
  have hsz:=hBl.size
  have HI:=Lib.hid hinv
  clear hinv
  have i1:(0:Int)≤(i:Int):=by omega
  have k1:(0:Int)≤(k:Int):=by omega
  by_cases hin:i < n
  ·by_cases hkm:k < m
   ·obtain ⟨b1,o1,hl1,hA,hb1,hc1,hd1⟩:=(ha.below hBl (Nat.le_refl _)).rng_at hin
    obtain ⟨b2,o2,hl2,hB2,hb2,hc2,hd2⟩:=(hb.below hBl (Nat.le_refl _)).rng_at hkm
    subst hA hB2
    have HLE:=Lib.hid (HI.out.left HCA.out HCB.out hl1 hl2)
    have HRI:=Lib.hid (HI.out.right HCA.out HCB.out hl1 hl2)
    obtain ⟨p,hp⟩:∃ p,p=a[i]:=⟨_,rfl⟩
    obtain ⟨q,hq⟩:∃ q,q=b[k]:=⟨_,rfl⟩
    rw [← hp,← hq] at HLE HRI
    rw [← hp] at hc1 hd1
    rw [← hq] at hc2 hd2
    clear hp hq
    obtain ⟨x,y⟩:=p
    obtain ⟨u,v⟩:=q
    simp only at hc1 hd1 hc2 hd2 HLE HRI
    have i2:(i:Int) < (n:Int):=by omega
    have k2:(k:Int) < (m:Int):=by omega
    have n1:=World.new_ne wr
    have HNB:=Lib.hid (show (some wr.heap.size:Option Nat)≠(Value.slice Ao t co).ownBlock from fun e=>by have:=hout.lt _ e.symm;omega)
    go_upto_region 4 with (fail)
    go_cut [8] from 9 to 65 (fun s wc=>s=.pointer (some ⟨wr.heap.size,0,none⟩)∧wc=(wr.alloc (.cells #[.int .i64 (max x u),.int .i64 (min y v)] 67)).drew)
    case first =>
     by_cases hxu:x < u
     ·by_cases hyv:v < y
      ·have HX:=Lib.hid (show max x u=u by omega)
       have HY:=Lib.hid (show min y v=v by omega)
       go_region_held3 (fun w'=>w'.cell? ⟨b1,o1+i * 2,none⟩=some (.int .i64 x)∧w'.cell? ⟨b1,o1+i * 2+1,none⟩=some (.int .i64 y)∧w'.cell? ⟨b2,o2+k * 2,none⟩=some (.int .i64 u)∧w'.cell? ⟨b2,o2+k * 2+1,none⟩=some (.int .i64 v))
        (first
         | (exact ⟨hc1,hd1,hc2,hd2⟩)
         | go_keep)
        (fail)
       all_goals (go_wp2_with fail;go_meet;exact ⟨rfl,by rw [HX.out,HY.out]⟩)
      ·have HX:=Lib.hid (show max x u=u by omega)
       have HY:=Lib.hid (show min y v=y by omega)
       go_region_held3 (fun w'=>w'.cell? ⟨b1,o1+i * 2,none⟩=some (.int .i64 x)∧w'.cell? ⟨b1,o1+i * 2+1,none⟩=some (.int .i64 y)∧w'.cell? ⟨b2,o2+k * 2,none⟩=some (.int .i64 u)∧w'.cell? ⟨b2,o2+k * 2+1,none⟩=some (.int .i64 v))
        (first
         | (exact ⟨hc1,hd1,hc2,hd2⟩)
         | go_keep)
        (fail)
       all_goals (go_wp2_with fail;go_meet;exact ⟨rfl,by rw [HX.out,HY.out]⟩)
     ·by_cases hyv:v < y
      ·have HX:=Lib.hid (show max x u=x by omega)
       have HY:=Lib.hid (show min y v=v by omega)
       go_region_held3 (fun w'=>w'.cell? ⟨b1,o1+i * 2,none⟩=some (.int .i64 x)∧w'.cell? ⟨b1,o1+i * 2+1,none⟩=some (.int .i64 y)∧w'.cell? ⟨b2,o2+k * 2,none⟩=some (.int .i64 u)∧w'.cell? ⟨b2,o2+k * 2+1,none⟩=some (.int .i64 v))
        (first
         | (exact ⟨hc1,hd1,hc2,hd2⟩)
         | go_keep)
        (fail)
       all_goals (go_wp2_with fail;go_meet;exact ⟨rfl,by rw [HX.out,HY.out]⟩)
      ·have HX:=Lib.hid (show max x u=x by omega)
       have HY:=Lib.hid (show min y v=y by omega)
       go_region_held3 (fun w'=>w'.cell? ⟨b1,o1+i * 2,none⟩=some (.int .i64 x)∧w'.cell? ⟨b1,o1+i * 2+1,none⟩=some (.int .i64 y)∧w'.cell? ⟨b2,o2+k * 2,none⟩=some (.int .i64 u)∧w'.cell? ⟨b2,o2+k * 2+1,none⟩=some (.int .i64 v))
        (first
         | (exact ⟨hc1,hd1,hc2,hd2⟩)
         | go_keep)
        (fail)
       all_goals (go_wp2_with fail;go_meet;exact ⟨rfl,by rw [HX.out,HY.out]⟩)
    case rest =>
     obtain ⟨rfl,rfl⟩:=hcut
     generalize max x u=M at *
     generalize min y v=N at *
     by_cases hr:M≤N
     ·rw [if_pos hr] at HLE HRI
      have R0:=Rds.new (wr.alloc (.cells #[.int .i64 M,.int .i64 N] 67)) 2 1 #[.int .i64 M,.int .i64 N] 67 (rngs [(M,N)]) rfl rfl
      rw [show (wr.alloc (.cells #[.int .i64 M,.int .i64 N] 67)).heap.size=wr.heap.size+1 by simp] at R0
      have R:=Lib.hid R0
      clear R0
      have HNE1:=Lib.hid (show (some b1:Option Nat)≠(Value.slice Ao t co).ownBlock from fun e=>by have:=hout.lt _ e.symm;omega)
      have HNE2:=Lib.hid (show (some b2:Option Nat)≠(Value.slice Ao t co).ownBlock from fun e=>by have:=hout.lt _ e.symm;omega)
      have hd1':((wr.alloc (.cells #[.int .i64 M,.int .i64 N] 67)).alloc (.cells #[.int .i64 M,.int .i64 N] 67)).cell? ⟨b1,o1+i * 2+1,none⟩=some (.int .i64 y):=by rw [World.cell?_alloc_lt _ _ _ (by simp;omega),World.cell?_alloc_lt _ _ _ (by simp;omega)];exact hd1
      have hd2':((wr.alloc (.cells #[.int .i64 M,.int .i64 N] 67)).alloc (.cells #[.int .i64 M,.int .i64 N] 67)).cell? ⟨b2,o2+k * 2+1,none⟩=some (.int .i64 v):=by rw [World.cell?_alloc_lt _ _ _ (by simp;omega),World.cell?_alloc_lt _ _ _ (by simp;omega)];exact hd2
      have HD1:=Lib.hid hd1'
      have HD2:=Lib.hid hd2'
      clear hd1' hd2'
      by_cases hyv:y < v
      ·go_wp2_with (at_builtin;refine app_rngs (.tmp 47) (.tmp 49) (base:=w.heap.size) (by exact (hout.alloc _).alloc _) R.out (by omega) (by simp;omega) rfl rfl rfl rfl ?_;intro v3 w3 hown3 hg3 hat3;have e1:=hg3.cell (by exact HD1.out) HNE1.out;have e2:=hg3.cell (by exact HD2.out) HNE2.out)
       go_quiet (fail)
       go_wp2
       go_roundw
       case rel=>exact ⟨i+1,k,t+1,_,by omega,by omega,by go_num,by go_num,by omega,HLE.out hyv,hown3,(by first|exact below_drewN ((((hBl.alloc hsz _).drew.alloc (by simp;omega) _).grown hg3 (by simp;omega) (fun g hg=>(hout.lt g hg).1))) _)⟩
       case measure=>simp [intOf];omega
      ·go_wp2_with (at_builtin;refine app_rngs (.tmp 47) (.tmp 49) (base:=w.heap.size) (by exact (hout.alloc _).alloc _) R.out (by omega) (by simp;omega) rfl rfl rfl rfl ?_;intro v3 w3 hown3 hg3 hat3;have e1:=hg3.cell (by exact HD1.out) HNE1.out;have e2:=hg3.cell (by exact HD2.out) HNE2.out)
       go_quiet (fail)
       go_wp2
       go_roundw
       case rel=>exact ⟨i,k+1,t+1,_,by omega,by omega,by go_num,by go_num,by omega,HRI.out (by omega),hown3,(by first|exact below_drewN ((((hBl.alloc hsz _).drew.alloc (by simp;omega) _).grown hg3 (by simp;omega) (fun g hg=>(hout.lt g hg).1))) _)⟩
       case measure=>simp [intOf];omega
     ·rw [if_neg hr] at HLE HRI
      have hbw1:b1 < wr.heap.size:=by omega
      have hbw2:b2 < wr.heap.size:=by omega
      have hd1':(wr.alloc (.cells #[.int .i64 M,.int .i64 N] 67)).cell? ⟨b1,o1+i * 2+1,none⟩=some (.int .i64 y):=by rw [World.cell?_alloc_lt _ _ _ (by simpa using hbw1)];exact hd1
      have hd2':(wr.alloc (.cells #[.int .i64 M,.int .i64 N] 67)).cell? ⟨b2,o2+k * 2+1,none⟩=some (.int .i64 v):=by rw [World.cell?_alloc_lt _ _ _ (by simpa using hbw2)];exact hd2
      by_cases hyv:y < v
      ·go_wp2_with fail
       go_quiet (fail)
       go_wp2
       go_roundw
       case rel=>exact ⟨i+1,k,t,_,by omega,by omega,by go_num,by go_num,by omega,HLE.out hyv,hout.alloc _,below_drewN (hBl.alloc hsz _) _⟩
       case measure=>simp [intOf];omega
      ·go_wp2_with fail
       go_quiet (fail)
       go_wp2
       go_roundw
       case rel=>exact ⟨i,k+1,t,_,by omega,by omega,by go_num,by go_num,by omega,HRI.out (by omega),hout.alloc _,below_drewN (hBl.alloc hsz _) _⟩
       case measure=>simp [intOf];omega
   ·go_wp2
    go_ret
    exact ⟨out,HI.out.fin (.inr (by rw [HB.out];omega)),by rw [← own_rngs_len hout];omega,ownRngs_of rfl hout hBl⟩
  ·go_wp2
   go_ret
   exact ⟨out,HI.out.fin (.inl (by rw [HA.out];omega)),by rw [← own_rngs_len hout];omega,ownRngs_of rfl hout hBl⟩
end Go.Proofs.YtbiahhojnjchnaaGreat
