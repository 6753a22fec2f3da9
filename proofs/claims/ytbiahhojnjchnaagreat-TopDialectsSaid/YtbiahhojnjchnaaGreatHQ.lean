/-
  RawNot of the program, walked: a right set of just the points that the other one lacks. slices.Grow and slices.Concat at ranges, walked.
-/
import Derived.Test.YtbiahhojnjchnaaGreatSetF
import Derived.Test.YtbiahhojnjchnaaGreatGC
import Derived.Lib.AppendZeros
set_option linter.unusedVariables false
set_option linter.unusedSimpArgs false
namespace Go.Proofs.YtbiahhojnjchnaaGreat
open Go.RowKit
structure NotSt (out pre:List (Int × Int)) (next:Int):Prop where
 set:IsSet out fun p=>0≤p∧p < next∧¬ mem pre p
 lo:0≤next
 hi:next≤1114112
 all:∀ p,mem pre p→p < next
 last:next=0∨mem pre (next - 1)
theorem NotSt.start:NotSt [] [] 0:=⟨⟨Can.nil,fun p=>⟨fun h=>absurd h (mem_nil p),fun h=>by omega⟩⟩,by omega,by omega,fun p h=>absurd h (mem_nil p),.inl rfl⟩
theorem NotSt.gap {out pre:List (Int × Int)} {next:Int} (h:NotSt out pre next):∀ s ∈ out,s.2+2≤next:=by
 intro s hs
 have hr:=(okR_iff s).1 (h.set.1.1 s hs)
 have hm:=(h.set.2 s.2).1 ⟨s,hs,by omega,Int.le_refl _⟩
 rcases h.last with e|e
 ·omega
 ·by_cases hh:s.2=next - 1
  ·exact absurd (by rw [hh];exact e) hm.2.2
  ·omega
theorem NotSt.put {out pre:List (Int × Int)} {next:Int} (h:NotSt out pre next) {r:Int × Int} (hr:okR r=true) (hn:next≤r.1):NotSt (if next < r.1 then out ++ [(next,r.1 - 1)] else out) (pre ++ [r]) (r.2+1):=by
 have hr':=(okR_iff r).1 hr
 have hm:∀ p,mem (pre ++ [r]) p↔mem pre p∨(r.1≤p∧p≤r.2):=fun p=>by
  rw [mem_append,mem_cons]
  have:=mem_nil p
  simp only [this,or_false]
 refine ⟨?_,by omega,by omega,fun p hp=>?_,.inr ?_⟩
 ·by_cases hlt:next < r.1
  ·rw [if_pos hlt]
   refine ⟨h.set.1.snoc (by rw [okR_iff];have:=h.lo;simp;omega) h.gap,fun p=>?_⟩
   show mem (out ++ [(next,r.1 - 1)]) p↔(0≤p∧p < r.2+1∧¬ mem (pre ++ [r]) p)
   rw [hm,mem_append,mem_cons,h.set.2 p]
   have h0:=mem_nil p
   have h1:=h.all p
   have h2:=h.lo
   simp only [h0,or_false,not_or]
   constructor
   ·rintro (⟨a,b,c⟩|⟨a,b⟩)
    ·exact ⟨a,by omega,c,by omega⟩
    ·exact ⟨by omega,by omega,fun k=>by have:=h1 k;omega,by omega⟩
   ·rintro ⟨a,b,c,d⟩
    by_cases hp:p < next
    ·exact .inl ⟨a,hp,c⟩
    ·exact .inr ⟨by omega,by omega⟩
  ·rw [if_neg hlt]
   refine ⟨h.set.1,fun p=>?_⟩
   show mem out p↔(0≤p∧p < r.2+1∧¬ mem (pre ++ [r]) p)
   rw [hm,h.set.2 p]
   have h1:=h.all p
   simp only [not_or]
   constructor
   ·rintro ⟨a,b,c⟩;exact ⟨a,by omega,c,by omega⟩
   ·rintro ⟨a,b,c,d⟩;exact ⟨a,by omega,c⟩
 ·rcases (hm p).1 hp with k|k
  ·have:=h.all p k;omega
  ·omega
 ·rw [hm];exact .inr ⟨by omega,by omega⟩
theorem NotSt.next_le {a:List (Int × Int)} (hc:Can a) (k:Nat) (hk:k < a.length) {out:List (Int × Int)} {next:Int} (h:NotSt out (a.take k) next):next≤(a[k]).1:=by
 have hr:=(okR_iff _).1 (hc.1 _ (List.getElem_mem hk))
 rcases h.last with e|⟨s,hs,h1,h2⟩
 ·omega
 ·obtain ⟨i,hi,rfl⟩:=List.mem_iff_getElem.1 hs
  simp at hi h1 h2
  have:=List.pairwise_iff_getElem.1 hc.2 i k (by omega) hk (by omega)
  omega
theorem NotSt.fin {a out:List (Int × Int)} {next:Int} (h:NotSt out a next):IsSet (if next≤1114111 then out ++ [(next,1114111)] else out) fun p=>0≤p∧p≤1114111∧¬ mem a p:=by
 have h0:=h.lo
 by_cases hn:next≤1114111
 ·rw [if_pos hn]
  refine ⟨h.set.1.snoc (by rw [okR_iff];simp;omega) h.gap,fun p=>?_⟩
  show mem (out ++ [(next,1114111)]) p↔(0≤p∧p≤1114111∧¬ mem a p)
  rw [mem_append,mem_cons,h.set.2 p]
  have h1:=mem_nil p
  have h2:=h.all p
  simp only [h1,or_false]
  constructor
  ·rintro (⟨a,b,c⟩|⟨a,b⟩)
   ·exact ⟨a,by omega,c⟩
   ·exact ⟨by omega,b,fun k=>by have:=h2 k;omega⟩
  ·rintro ⟨a,b,c⟩
   by_cases hp:p < next
   ·exact .inl ⟨a,hp,c⟩
   ·exact .inr ⟨by omega,b⟩
 ·rw [if_neg hn]
  refine ⟨h.set.1,fun p=>?_⟩
  show mem out p↔(0≤p∧p≤1114111∧¬ mem a p)
  rw [h.set.2 p]
  constructor
  ·rintro ⟨a,b,c⟩;have:=h.hi;exact ⟨a,by omega,c⟩
  ·rintro ⟨a,b,c⟩;exact ⟨a,by omega,c⟩
set_option maxRecDepth 100000 in
set_option maxHeartbeats 2000000 in
theorem rawNot78 (a:List (Int × Int)) (A:Option Addr) (n c:Nat) (w:World) (hn:n≤100000) (hcan:Can a) (ha:Rds w w.heap.size 2 A n (rngs a)) :
  Calls Tryz.prog 69 #[.slice A n c] w fun e w'=>∃ out,(IsSet out fun p=>0≤p∧p≤1114111∧¬ mem a p)∧out.length≤n+1∧OwnRngs w out e w':=by
 have HA:=Lib.hid ha.rngs_len
 have HCAN:=Lib.hid hcan
 clear hcan
 go_enter Tryz.func69,Tryz.ntmps69
 go_wp2_with fail
 go_loopw [3,4,9] (fun v x i wr=>∃ (k t:Nat) (out:List (Int × Int)) (next:Int),k≤n∧i=.int .i64 k∧x=.int .i64 next∧t≤k∧NotSt out (a.take k) next∧wr.ownsRow w.heap.size 67 2 v t (rngs out)∧Below w.heap.size w wr) (fun _ _ i _=>n - (intOf i).toNat)
 case atStart=>exact ⟨0,0,[],0,Nat.zero_le _,rfl,rfl,Nat.le_refl _,NotSt.start,World.ownsRow_nil _ _ _ _,Below.refl _ _⟩
 case round =>
  obtain ⟨k,t,out,next,hk,rfl,rfl,ht,hst,hout,hB⟩:=hrel
  obtain ⟨Ao,co,rfl,hoc,hco⟩:=own_slice hout
  unfold maxLen at hco
  have n0:=hst.lo
  have n1:=hst.hi
  have hsz:=hB.size
  have HST:=Lib.hid hst
  clear hst
  by_cases hlt:k < n
  ·obtain ⟨b1,off1,hl1,hA,hb1,hc1,hd1⟩:=(ha.below hB (Nat.le_refl _)).rng_at hlt
   subst hA
   have HT:=Lib.hid (take_snoc' a k hl1)
   have hr:=HCAN.out.1 _ (List.getElem_mem hl1)
   have HLE:=Lib.hid (HST.out.next_le HCAN.out k hl1)
   obtain ⟨p,hp⟩:∃ p,p=a[k]:=⟨_,rfl⟩
   rw [← hp] at hc1 hd1 HT hr HLE
   clear hp
   have hr':=(okR_iff p).1 hr
   have HNEXT:=Lib.hid (HST.out.put hr HLE.out)
   clear hr
   obtain ⟨x,y⟩:=p
   simp only at hc1 hd1 hr'
   obtain ⟨r0,r1,r2⟩:=hr'
   by_cases hnx:next < x
   ·have R0:=Rds.new (wr.alloc (.cells #[.int .i64 x,.int .i64 y] 67)) 2 1 #[.int .i64 next,.int .i64 (x - 1)] 67 (rngs [(next,x - 1)]) rfl rfl
    rw [show (wr.alloc (.cells #[.int .i64 x,.int .i64 y] 67)).heap.size=wr.heap.size+1 by simp] at R0
    have R:=Lib.hid R0
    clear R0
    have HNB:=Lib.hid (show (some wr.heap.size:Option Nat)≠(Value.slice Ao t co).ownBlock from fun e=>by have:=hout.lt _ e.symm;omega)
    go_wp2_with (at_builtin;refine app_rngs (.tmp 17) (.tmp 23) (base:=w.heap.size) (by exact (hout.alloc _).alloc _) R.out (by omega) (by simp;omega) rfl rfl rfl rfl ?_;intro v3 w3 hown3 hg3 hat3;have hk3:=hg3.cell (a:=⟨wr.heap.size,1,none⟩) (v:=.int .i64 y) (by simp) HNB.out)
    go_roundw
    case rel=>exact ⟨k+1,t+1,_,y+1,by omega,by go_num,rfl,by omega,(by have:=HNEXT.out;rw [if_pos hnx] at this;rw [HT.out];exact this),hown3,((hB.alloc hsz _).alloc (by simp;omega) _).grown hg3 (by simp;omega) (fun g hg=>(hout.lt g hg).1)⟩
    case measure=>simp [intOf];omega
   ·go_wp2
    go_roundw
    case rel=>exact ⟨k+1,t,_,y+1,by omega,by go_num,rfl,by omega,(by have:=HNEXT.out;rw [if_neg hnx] at this;rw [HT.out];exact this),hout.alloc _,hB.alloc hsz _⟩
    case measure=>simp [intOf];omega
  ·obtain rfl:k=n:=by omega
   have HT:=Lib.hid (show a.take k=a from List.take_of_length_le (by rw [HA.out];exact Nat.le_refl _))
   have HFIN:=Lib.hid (show NotSt out a next by have:=HST.out;rwa [HT.out] at this)
   by_cases hnx:next≤1114111
   ·have R:=Lib.hid (Rds.new wr 2 1 #[.int .i64 next,.int .i64 1114111] 67 (rngs [(next,1114111)]) rfl rfl)
    go_wp2_with (at_builtin;refine app_rngs (.tmp 31) (.tmp 34) (base:=w.heap.size) (by exact hout.alloc _) R.out (by omega) (by simp;omega) rfl rfl rfl rfl ?_;intro v3 w3 hown3 hg3 hat3)
    go_ret
    exact ⟨_,(by have:=HFIN.out.fin;rw [if_pos hnx] at this;exact this),by have:=own_rngs_len hout;simp;omega,ownRngs_of rfl hown3 ((hB.alloc hsz _).grown hg3 (by simp;omega) (fun g hg=>(hout.lt g hg).1))⟩
   ·go_wp2
    go_ret
    exact ⟨_,(by have:=HFIN.out.fin;rw [if_neg (by omega)] at this;exact this),by have:=own_rngs_len hout;omega,ownRngs_of rfl hout hB⟩
end Go.Proofs.YtbiahhojnjchnaaGreat
namespace Go.Proofs.YtbiahhojnjchnaaGreat
open Go.RowKit
set_option maxRecDepth 100000 in
set_option maxHeartbeats 1000000 in
theorem grow121 (n:Nat) (w:World) (hn:n≤100000000) :
  Calls Tryz.prog 226 #[.slice none 0 0,.int .i64 n] w (OwnRngs w []):=by
 rcases Nat.eq_zero_or_pos n with h0|h0
 ·subst h0
  go_enter Tryz.func226,Tryz.ntmps226
  go_wp2
  go_ret
  exact ownRngs_of rfl (World.ownsRow_nil _ _ _ _) (Below.refl _ _)
 ·obtain ⟨i0,hi0,hz0,hz1,hz2⟩:=info_parts rng_info
  have hg:=grownCap_ge w n 0 67
  have hgm:=grownCap_le_maxLen w n 0 67 (by unfold maxLen;omega)
  have hrun:=fun ty=>Lib.run_append_nil_zeros (P:=Tryz.prog) w 23 3 ty 67 i0 _ .i64 .i64 Tryz.underlying23 Tryz.underlying3 hi0 hz0 n h0 (by rw [hz1];decide) (by omega) (by rw [hz2];omega)
  have hown:(w.drew.alloc (.cells (Builtin.zeroCells (Value.agg #[.int .i64 0,.int .i64 0]).cells n ++ Builtin.zeroCells (Value.agg #[.int .i64 0,.int .i64 0]).cells (grownCap w n 0 67 - n)) 67)).ownsRow w.heap.size 67 2 (.slice (some ⟨w.heap.size,0,none⟩) 0 (grownCap w n 0 67)) 0 (rngs []):=by
   refine World.ownsRow_made w.drew _ _ (Nat.le_refl _) hgm ?_
   rw [Array.size_append,size_zeroCells,size_zeroCells,← Nat.add_mul,show n+(grownCap w n 0 67 - n)=grownCap w n 0 67 from by omega];rfl
  generalize (Builtin.zeroCells (Value.agg #[.int .i64 0,.int .i64 0]).cells n ++ Builtin.zeroCells (Value.agg #[.int .i64 0,.int .i64 0]).cells (grownCap w n 0 67 - n))=cs at hrun hown
  obtain ⟨G,hG⟩:∃ G,G=grownCap w n 0 67:=⟨_,rfl⟩
  rw [← hG] at hrun hown hg hgm
  have HR:=Lib.hid hrun
  have HO:=Lib.hid hown
  clear hrun hown hG
  unfold maxLen at hgm
  have hi:(0:Int) < (n:Int):=by omega
  go_enter Tryz.func226,Tryz.ntmps226
  go_wp2_with (at_builtin;refine Lib.wpList_append_run _ rfl _ _ _ _ rfl _ _ rfl rfl _ _ (HR.out _) ?_)
  go_ret
  exact ownRngs_of rfl HO.out (((Below.refl _ _).drew).alloc (Nat.le_refl _) _)
def total (ls:List (List (Int × Int))):Nat:=ls.flatten.length
theorem total_take (ls:List (List (Int × Int))) (k:Nat) (h:k < ls.length):total (ls.take (k+1))=total (ls.take k)+ls[k].length:=by
 unfold total;rw [take_snoc' ls k h,List.flatten_append,List.length_append,List.flatten_cons,List.flatten_nil,List.append_nil]
theorem total_le (ls:List (List (Int × Int))) (k:Nat):total (ls.take k)≤total ls:=by
 unfold total
 conv=>rhs;rw [← List.take_append_drop k ls,List.flatten_append,List.length_append]
 omega
theorem flat_take (ls:List (List (Int × Int))) (k:Nat) (h:k < ls.length):(ls.take (k+1)).flatten=(ls.take k).flatten ++ ls[k]:=by
 rw [take_snoc' ls k h,List.flatten_append,List.flatten_cons,List.flatten_nil,List.append_nil]
theorem Sls.at_ {w:World} {X:Nat} {vs:List Value} {ls:List (List (Int × Int))} (h:Sls w X vs ls) {k:Nat} (hk:k < vs.length) (hl:k < ls.length) :
  ∃ A n c,vs[k]?=some (.slice A n c)∧n≤c∧c≤maxLen∧n=ls[k].length∧Rds w X 2 A n (rngs ls[k]):=by
 obtain ⟨A,n,c,e,h1,h2,h3⟩:=h.2 k hk hl
 exact ⟨A,n,c,by rw [List.getElem?_eq_getElem hk,e],h1,h2,h3.rngs_len.symm,h3⟩
set_option maxRecDepth 100000 in
set_option maxHeartbeats 1000000 in
theorem concat86 (ls:List (List (Int × Int))) (vs:List Value) (A:Option Addr) (n c:Nat) (w:World) (hn:n≤1000000) (hv:Rds w w.heap.size 1 A n vs) (hs:Sls w w.heap.size vs ls) (ht:total ls≤1000000) :
  Calls Tryz.prog 219 #[.slice A n c] w (OwnRngs w ls.flatten):=by
 have HV:=Lib.hid (show vs.length=n by have:=hv.1;omega)
 have HL:=Lib.hid (show ls.length=n by rw [← hs.1];exact HV.out)
 have HG:=Lib.hid (fun n w hn=>grow121 n w hn)
 go_enter Tryz.func219,Tryz.ntmps219
 go_wp2_with fail
 go_loopw [3,11] (fun s i wr=>∃ k:Nat,k≤n∧i=.int .i64 k∧s=.int .i64 (total (ls.take k))∧∃ q,wr=w.drewN q) (fun _ i _=>n - (intOf i).toNat)
 case atStart=>exact ⟨0,Nat.zero_le _,rfl,rfl,0,rfl⟩
 case round =>
  obtain ⟨k,hk,rfl,rfl,q,rfl⟩:=hrel
  have htk:=total_le ls k
  by_cases hlt:k < n
  ·obtain ⟨bv,ov,rfl,hbv,hcv⟩:=hv.2 (by omega)
   have hkv:k < vs.length:=by rw [HV.out];exact hlt
   have hka:k < ls.length:=by rw [HL.out];exact hlt
   obtain ⟨A1,n1,c1,hvk,hnc1,hc1,hnl,hr1⟩:=hs.at_ hkv hka
   have hcell:(w.drewN q).cell? ⟨bv,ov+k,none⟩=some (.slice A1 n1 c1):=hcv k _ hvk
   have HT:=Lib.hid (total_take ls k hka)
   have hle:=total_le ls (k+1)
   rw [HT.out,← hnl] at hle
   have HNL:=Lib.hid hnl
   clear hvk hr1 hcv hnl
   unfold maxLen at hc1
   obtain ⟨t,hte⟩:∃ t,t=total (ls.take k):=⟨_,rfl⟩
   rw [← hte] at htk hle HT ⊢
   clear hte
   go_wp2
   go_roundw
   case rel=>exact ⟨k+1,by omega,by go_num,by rw [HT.out,HNL.out];go_num,q,rfl⟩
   case measure=>simp [intOf];omega
  ·obtain rfl:k=n:=by omega
   have HT:=Lib.hid (show ls.take k=ls from List.take_of_length_le (by rw [HL.out];exact Nat.le_refl _))
   go_wp2_with fail
   refine (HG.out _ _ (by omega)).mono ?_
   rintro e w1 ⟨A2,n2,c2,rfl,hown,hb⟩
   have hn2:n2=0:=own_rngs_len hown
   subst hn2
   go_wp2_with fail
   go_loopw [6,27] (fun v i wr=>∃ j t:Nat,j≤k∧i=.int .i64 j∧t=total (ls.take j)∧wr.ownsRow w.heap.size 67 2 v t (rngs (ls.take j).flatten)∧Below w.heap.size w wr) (fun _ i _=>k - (intOf i).toNat)
   case atStart=>exact ⟨0,0,Nat.zero_le _,rfl,rfl,by simpa using hown,(below_drewN (Below.refl _ _) q).trans hb⟩
   case round =>
    obtain ⟨j,t,hj,rfl,hte,hown,hB⟩:=hrel
    obtain ⟨Av,cv,rfl,hmc,hcv⟩:=own_slice hown
    unfold maxLen at hcv
    have htj:=total_le ls j
    rw [← hte] at htj
    have HTE:=Lib.hid hte
    clear hte
    by_cases hlt:j < k
    ·obtain ⟨bv,ov,rfl,hbv,hcv'⟩:=hv.2 (by omega)
     have hkv:j < vs.length:=by rw [HV.out];exact hlt
     have hka:j < ls.length:=by rw [HL.out];exact hlt
     obtain ⟨A1,n1,c1,hvk,hnc1,hc1,hnl,hr1⟩:=hs.at_ hkv hka
     have hcell:wr.cell? ⟨bv,ov+j,none⟩=some (.slice A1 n1 c1):=by
      rw [hB.cell (p:=⟨bv,ov+j,none⟩) hbv];exact hcv' j _ hvk
     have HT2:=Lib.hid (total_take ls j hka)
     have HF:=Lib.hid (flat_take ls j hka)
     have hle:=total_le ls (j+1)
     rw [HT2.out,← hnl,← HTE.out] at hle
     have HNL:=Lib.hid hnl
     have HR:=Lib.hid (hr1.below hB (Nat.le_refl _))
     have HO:=Lib.hid hown
     have hsz:=hB.size
     clear hvk hr1 hcv' hnl hown
     unfold maxLen at hc1
     have hbnd:t+n1≤1000000000:=by omega
     go_wp2_with (at_builtin;refine app_rngs (.tmp 31) (.tmp 32) HO.out HR.out hbnd hsz rfl rfl rfl rfl ?_;intro v3 w3 hown3 hg3 hat3)
     go_roundw
     case rel=>exact ⟨j+1,t+n1,by omega,by go_num,by rw [HT2.out,HTE.out,HNL.out],by rw [HF.out];exact hown3,grown_own hB HO.out hg3 (Nat.le_refl _) hsz⟩
     case measure=>simp [intOf];omega
    ·obtain rfl:j=k:=by omega
     rw [HT.out] at hown
     go_wp2
     go_ret
     exact ownRngs_of rfl hown hB
end Go.Proofs.YtbiahhojnjchnaaGreat
