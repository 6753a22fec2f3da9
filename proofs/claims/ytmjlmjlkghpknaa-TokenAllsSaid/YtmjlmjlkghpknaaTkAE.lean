/- Names and short texts of the reference: what the calls tell, in the plain law's words. -/
import Derived.Test.YtmjlmjlkghpknaaTkY
import Derived.Deep.QuietTactic
import Derived.BigQuiet
import Derived.Laws.BytesArg
import Derived.Laws.Concat
import Derived.Test.YtmjlmjlkghpknaaTkR
import Derived.Test.YtmjlmjlkghpknaaTkMv
import Derived.Test.YtmjlmjlkghpknaaTkC
set_option linter.unusedVariables false
set_option linter.unusedSimpArgs false
namespace Go.Proofs.Ytmjlmjlkghpknaa
open Go.RowKit
theorem quiet_add_same {P:Program} {f:FuncId} {args:Array Value} {w:World} {a n:Nat} {v:Value}
  (h:Calls P f args (w.drewN (a+n)) fun e w'=>e=.returned v∧w'=w.drewN (a+n)) :
  Calls P f args (w.drewN (a+n)) fun e w''=>e=.returned v∧∃ m,w''=w.drewN (a+m) :=
 h.mono fun _ _ ⟨he,hm⟩=>⟨he,n,hm⟩
/-- do these points stand there? -/
def saysP (l:List Int) (at_:Int) (s:List UInt8):Bool:=(List.range s.length).all fun i:Nat=>decide (ptAt l (at_+i)=((s.getD i 0).toNat:Int))
theorem saysP_bad {l:List Int} {at_:Int} {s:List UInt8} {k:Nat} (hk:k < s.length) (h:¬ ptAt l (at_+k)=((s[k]).toNat:Int)):saysP l at_ s=false:=by
 unfold saysP
 rw [List.all_eq_false]
 exact ⟨k,List.mem_range.2 hk,by simpa [List.getD,hk] using h⟩
theorem saysP_ok {l:List Int} {at_:Int} {s:List UInt8} (h:∀ k (hk:k < s.length),ptAt l (at_+k)=((s[k]).toNat:Int)):saysP l at_ s=true:=by
 unfold saysP
 rw [List.all_eq_true]
 intro k hk
 have:=h k (List.mem_range.1 hk)
 simpa [List.getD,List.mem_range.1 hk] using this
set_option maxHeartbeats 2000000 in
theorem says18 (l:List Int) (at_:Int) (s:ByteArray) (A:Option Addr) (n c X:Nat) (w:World) (hn:n≤maxLen) (hs:s.size≤100) (h0:-1000≤at_) (h1:at_≤100000) (ha:Rds w X 1 A n (ints l)) :
  Calls Try.prog 18 #[.slice A n c,.int .i64 at_,.string s] w fun e w'=>e=.returned (.bool (saysP l at_ s.data.toList))∧∃ q,w'=w.drewN q:=by
 obtain ⟨v,hv⟩:∃ v,v=saysP l at_ s.data.toList:=⟨_,rfl⟩
 rw [← hv]
 have HV:=Lib.hid hv
 have HA:=Lib.hid ha
 clear hv ha
 go_enter Try.func18,Try.ntmps18
 go_wp2_with fail
 go_loopw [7] (fun i wr=>∃ k:Nat,k≤s.size∧i=.int .i64 k∧Hid (∀ j (hj:j < k) (hs:j < s.data.toList.length),ptAt l (at_+j)=((s.data.toList[j]).toNat:Int))∧∃ q,wr=w.drewN q) (fun i _=>s.size - (intOf i).toNat)
 case atStart=>exact ⟨0,Nat.zero_le _,rfl,Lib.hid (fun j hj=>absurd hj (Nat.not_lt_zero _)),0,rfl⟩
 case round =>
  obtain ⟨k,hk,rfl,HJ,q,rfl⟩:=hrel
  by_cases hlt:k < s.size
  ·have hl:k < s.data.toList.length:=by simpa using hlt
   have he:s.data.toList[k]=s[k]:=rfl
   have hb:=s[k].toNat_lt
   have W1:IntKind.i64.wrap (at_+(k:Int))=at_+(k:Int):=IntWalk.i64_in _ (by omega)
   have W2:IntKind.i64.wrap (s[k].toNat:Int)=(s[k].toNat:Int):=IntWalk.i64_in _ (by omega)
   have C:=Lib.hid (fun w' (h:Rds w' X 1 A n (ints l))=>(pointAt28 l (at_+k) A n c X w' hn h).mono (R':=fun e w''=>e=.returned (.int .i64 (ptAt l (at_+k)))∧w''=w') fun _ _ ⟨e,h⟩=>⟨e,h.symm⟩)
   have HBAD:=Lib.hid (fun h=>saysP_bad (l:=l) (at_:=at_) hl h)
   obtain ⟨x,hx⟩:∃ x,x=ptAt l (at_+k):=⟨_,rfl⟩
   rw [← hx] at C HBAD
   have HX:=Lib.hid hx
   obtain ⟨y,hy⟩:∃ y:Int,y=(s[k].toNat:Int):=⟨_,rfl⟩
   have HY:=Lib.hid hy
   clear hx hy hb
   have C1:=Lib.hid (fun m=>C.out (w.drewN m) (HA.out.drewN m))
   by_cases hxy:x=y
   ·have z1:(x != wrap64 (s[k].toNat:Int))=false:=by
     have:wrap64 (s[k].toNat:Int)=y:=by rw [HY.out];have:=s[k].toNat_lt;unfold wrap64;omega
     rw [this,hxy];simp
    have z2:(x != (s[k].toNat:Int))=false:=by rw [← HY.out,hxy];simp
    have HXY:=Lib.hid hxy
    clear hxy
    go_wp2_with fail
    go_quiet ((go_at_call 28;(first|(with_reducible exact Calls.quiet_of_same (C1.out _))|(with_reducible exact quiet_add_same (C1.out _)))))
    go_wp2
    go_roundw
    case rel=>exact ⟨k+1,by omega,by go_num,Lib.hid (fun j hj hs'=>by
     rcases Nat.lt_or_ge j k with h|h
     ·exact HJ.out j h hs'
     ·obtain rfl:j=k:=by omega
      rw [← HX.out,HXY.out,HY.out];rfl),_,by first|rfl|exact World.drewN_drewN ..⟩
    case measure=>simp [intOf];omega
   ·have z1:(x != wrap64 (s[k].toNat:Int))=true:=by
     have:wrap64 (s[k].toNat:Int)=y:=by rw [HY.out];have:=s[k].toNat_lt;unfold wrap64;omega
     rw [this];simpa using hxy
    have z2:(x != (s[k].toNat:Int))=true:=by rw [← HY.out];simpa using hxy
    have HB2:=Lib.hid (HBAD.out (by rw [he,← HY.out];exact hxy))
    clear hxy
    go_wp2_with fail
    go_quiet ((go_at_call 28;(first|(with_reducible exact Calls.quiet_of_same (C1.out _))|(with_reducible exact quiet_add_same (C1.out _)))))
    go_wp2
    go_ret
    exact ⟨ret_bool (by rw [HV.out,HB2.out]),_,by first|rfl|exact World.drewN_drewN ..⟩
  ·have HO:=Lib.hid (saysP_ok (l:=l) (at_:=at_) (s:=s.data.toList) (fun j hj=>HJ.out j (Nat.lt_of_lt_of_le hj (by simp;omega)) hj))
   obtain rfl:k=s.size:=by omega
   go_wp2_with fail
   go_ret
   exact ⟨ret_bool (by rw [HV.out,HO.out]),_,rfl⟩
end Go.Proofs.Ytmjlmjlkghpknaa
namespace Go.Proofs.Ytmjlmjlkghpknaa
open Go.RowKit
def letN (b:Int):Prop:=97≤b∧b≤122∨65≤b∧b≤90∨b=95
def digN (b:Int):Prop:=48≤b∧b≤57
/-- may it stand at this place of a name? -/
def okAt (i:Nat) (b:Int):Prop:=letN b∨i≠0∧digN b
theorem letter55 (p:Int) (w:World):Calls Try.prog 35 #[.int .i64 p] w fun e w'=>e=.returned (.bool (decide (65≤p∧p≤90∨97≤p∧p≤122)))∧w=w' :=
 (isLetter35 p w).mono fun _ _ ⟨e,h⟩=>⟨by rw [e,show isLet p=decide (65≤p∧p≤90∨97≤p∧p≤122) by unfold isLet;rw [Bool.eq_iff_iff];simp],h⟩
theorem digit56 (p:Int) (w:World):Calls Try.prog 44 #[.int .i64 p] w fun e w'=>e=.returned (.bool (decide (48≤p∧p≤57)))∧w=w' :=
 (isDigit44 p w).mono fun _ _ ⟨e,h⟩=>⟨by rw [e,show isDig p=decide (48≤p∧p≤57) by unfold isDig;rw [Bool.eq_iff_iff];simp],h⟩
/-- k points of a name stand at a place -/
structure NmAt (l:List Int) (p:Int) (k:Nat):Prop where
 le:k≤20
 ok:∀ i:Nat,i < k→okAt i (ptAt l (p+i))
 stop:k=20∨¬ okAt k (ptAt l (p+k))
theorem nmAt_ex (l:List Int) (p:Int):∃ k,NmAt l p k:=by
 have h:∀ f k,k+f=20→(∀ i:Nat,i < k→okAt i (ptAt l (p+i)))→∃ k,NmAt l p k:=by
  intro f
  induction f with
  | zero=>intro k hk h;exact ⟨k,by omega,h,.inl (by omega)⟩
  | succ f ih =>
   intro k hk h
   by_cases hc:okAt k (ptAt l (p+k))
   ·refine ih (k+1) (by omega) fun i hi=>?_
    rcases Nat.lt_succ_iff_lt_or_eq.1 hi with h1|rfl
    ·exact h i h1
    ·exact hc
   ·exact ⟨k,by omega,h,.inr hc⟩
 exact h 20 0 rfl (fun i hi=>absurd hi (Nat.not_lt_zero i))
theorem NmAt.more {l:List Int} {p:Int} {k i:Nat} (h:NmAt l p k) (hi:i≤k) (h20:i < 20) (ho:okAt i (ptAt l (p+i))):i < k:=by
 rcases Nat.lt_or_ge i k with h1|h1
 ·exact h1
 ·obtain rfl:i=k:=by omega
  rcases h.stop with h2|h2
  ·omega
  ·exact absurd ho h2
theorem NmAt.end_ {l:List Int} {p:Int} {k i:Nat} (h:NmAt l p k) (hi:i≤k) (ho:¬ okAt i (ptAt l (p+i))):i=k:=by
 rcases Nat.lt_or_ge i k with h1|h1
 ·exact absurd (h.ok i h1) ho
 ·omega
def nmPts (l:List Int) (p:Int) (k:Nat):List Int:=(List.range k).map fun i:Nat=>ptAt l (p+i)
def nmStr (l:List Int) (p:Int) (k:Nat):ByteArray:=strOfNums (nmPts l p k)
theorem nmStr_size (l:List Int) (p:Int) (k:Nat):(nmStr l p k).size=k:=by unfold nmStr nmPts;rw [strOfNums_size];simp
theorem strOfNums_append (a b:List Int):strOfNums (a ++ b)=strOfNums a ++ strOfNums b:=by
 unfold strOfNums;rw [ByteArray.mk_append_mk,List.map_append]
theorem nmStr_succ (l:List Int) (p:Int) (k:Nat):nmStr l p (k+1)=nmStr l p k ++ strOfNums [ptAt l (p+k)]:=by
 unfold nmStr nmPts;rw [List.range_succ,List.map_append,strOfNums_append];rfl
theorem ptAt_okAt {l:List Int} {p:Int} {i:Nat} (h:okAt i (ptAt l p)):0≤p∧p < l.length:=by
 by_cases hc:0≤p∧p < l.length
 ·exact hc
 ·rw [ptAt_out l hc] at h;unfold okAt letN digN at h;omega
theorem conv_one (w:World) (x:Int):(convert 58 9 (.slice (some ⟨w.heap.size,0,none⟩) 1 1)).run Try.prog (w.alloc (.cells #[.int .u8 x] 5))=.ok (.string (strOfNums [x])) (w.alloc (.cells #[.int .u8 x] 5)) :=
 run_convert_bytes_arg _ 58 5 Try.underlying58 Try.underlying5 w.heap.size 0 1 1 [x] rfl (fun i hi=>by
  obtain rfl:i=0:=by omega
  rw [cell_of_row _ _ _ _ 5 (0,0) (heap_alloc_new w _)];rfl) 9 Try.underlying9
set_option maxRecDepth 100000 in
set_option maxHeartbeats 4000000 in
theorem nameAt45 (l:List Int) (p:Int) (A:Option Addr) (n c k:Nat) (w:World) (hn:n < maxLen) (ha:Rds w w.heap.size 1 A n (ints l)) (hk:NmAt l p k) :
  Calls Try.prog 34 #[.slice A n c,.int .i64 p] w fun e w'=>e=.returned (.tuple #[.string (nmStr l p k),.int .i64 (p+k)])∧Below w.heap.size w w':=by
 have HK:=Lib.hid hk
 have HLN:=Lib.hid ha.ints_len
 have HA:=Lib.hid ha
 have hk20:=hk.le
 clear hk ha
 have hnn:=hn
 unfold maxLen at hn
 go_enter Try.func34,Try.ntmps34
 go_wp2_with fail
 go_loopw [1,6] (fun a s wr=>∃ i:Nat,i≤k∧a=.int .i64 (p+i)∧s=.string (nmStr l p i)∧Hid (Below w.heap.size w wr)) (fun a _ _=>k - (intOf a - p).toNat)
 case atStart=>exact ⟨0,Nat.zero_le _,by simp,rfl,Lib.hid (Below.refl _ _)⟩
 case round =>
  obtain ⟨i,hi,rfl,rfl,HW⟩:=hrel
  have hsz:=HW.out.size
  by_cases h20:i < 20
  ·have HMORE:=Lib.hid (HK.out.more hi h20)
   have HEND:=Lib.hid (HK.out.end_ hi)
   have HIN:=Lib.hid (fun h=>ptAt_okAt (l:=l) (p:=p+i) (i:=i) h)
   rw [HLN.out] at HIN
   have HS:=Lib.hid (nmStr_succ l p i)
   have C54:=Lib.hid (pointAt28 l (p+i) A n c w.heap.size wr (Nat.le_of_lt hnn) (HA.out.below HW.out (Nat.le_refl _)))
   obtain ⟨x,hx⟩:∃ x,x=ptAt l (p+i):=⟨_,rfl⟩
   rw [← hx] at HMORE HEND HIN HS C54
   clear hx
   have hsl:=nmStr_size l p i
   obtain ⟨s,hs⟩:∃ s,s=nmStr l p i:=⟨_,rfl⟩
   rw [← hs] at hsl HS ⊢
   have HSK:=Lib.hid (fun h:i=k=>show s=nmStr l p k by rw [hs,h])
   clear hs
   have C55:=Lib.hid (letter55 x wr)
   have C56:=Lib.hid (digit56 x wr)
   unfold okAt letN digN at HMORE HEND HIN
   have hcv:=conv_one wr x
   have hss:(strOfNums [x]).size=1:=strOfNums_size _
   have hx8:0≤x→x≤255→IntKind.u8.wrap x=x:=fun h1 h2=>by rw [IntKind.wrap_u8];omega
   by_cases hl:65≤x∧x≤90∨97≤x∧x≤122
   ·have hxw:=hx8 (by omega) (by omega)
    rw [decide_eq_true hl] at C55
    have hlt:i < k:=HMORE.out (by omega)
    have hin:=HIN.out (by omega)
    clear HMORE HEND HIN
    go_wp2_with (first|(go_at_call 28;refine C54.out.mono ?_;rintro e w' ⟨rfl,rfl⟩)|(go_at_call 35;refine C55.out.mono ?_;rintro e w' ⟨rfl,rfl⟩)|(go_at_call 44;refine C56.out.mono ?_;rintro e w' ⟨rfl,rfl⟩))
    go_roundw
    case rel=>exact ⟨i+1,by omega,by first|rfl|go_num|(congr 1;omega),by rw [HS.out],Lib.hid (HW.out.alloc hsz _)⟩
    case measure=>simp [intOf];omega
   ·rw [decide_eq_false hl] at C55
    by_cases h95:x=95
    ·have hxw:=hx8 (by omega) (by omega)
     have h95b:(x != 95)=false:=by simp [h95]
     have H95:=Lib.hid h95
     clear h95
     have hlt:i < k:=HMORE.out (by have:=H95.out;omega)
     have hin:=HIN.out (by have:=H95.out;omega)
     clear HMORE HEND HIN
     go_wp2_with (first|(go_at_call 28;refine C54.out.mono ?_;rintro e w' ⟨rfl,rfl⟩)|(go_at_call 35;refine C55.out.mono ?_;rintro e w' ⟨rfl,rfl⟩)|(go_at_call 44;refine C56.out.mono ?_;rintro e w' ⟨rfl,rfl⟩))
     go_roundw
     case rel=>exact ⟨i+1,by omega,by first|rfl|go_num|(congr 1;omega),by rw [HS.out],Lib.hid (HW.out.alloc hsz _)⟩
     case measure=>simp [intOf];omega
    ·have h95b:(x != 95)=true:=by simp [h95]
     by_cases hi0:i=0
     ·have hi0b:((i:Int) == 0)=true:=by simp [hi0]
      obtain rfl:i=k:=HEND.out (by omega)
      have HI0:=Lib.hid hi0
      clear hi0
      clear HMORE HEND HIN
      go_wp2_with (first|(go_at_call 28;refine C54.out.mono ?_;rintro e w' ⟨rfl,rfl⟩)|(go_at_call 35;refine C55.out.mono ?_;rintro e w' ⟨rfl,rfl⟩)|(go_at_call 44;refine C56.out.mono ?_;rintro e w' ⟨rfl,rfl⟩))
      go_ret2
      exact ⟨by rw [← HSK.out (by first|trivial|rfl)];rfl,HW.out⟩
     ·have hi0b:((i:Int) == 0)=false:=by simp [hi0]
      by_cases hd:48≤x∧x≤57
      ·rw [decide_eq_true hd] at C56
       have hxw:=hx8 (by omega) (by omega)
       have hlt:i < k:=HMORE.out (by omega)
       have hin:=HIN.out (by omega)
       clear HMORE HEND HIN
       go_wp2_with (first|(go_at_call 28;refine C54.out.mono ?_;rintro e w' ⟨rfl,rfl⟩)|(go_at_call 35;refine C55.out.mono ?_;rintro e w' ⟨rfl,rfl⟩)|(go_at_call 44;refine C56.out.mono ?_;rintro e w' ⟨rfl,rfl⟩))
       go_roundw
       case rel=>exact ⟨i+1,by omega,by first|rfl|go_num|(congr 1;omega),by rw [HS.out],Lib.hid (HW.out.alloc hsz _)⟩
       case measure=>simp [intOf];omega
      ·rw [decide_eq_false hd] at C56
       obtain rfl:i=k:=HEND.out (by omega)
       clear HMORE HEND HIN
       go_wp2_with (first|(go_at_call 28;refine C54.out.mono ?_;rintro e w' ⟨rfl,rfl⟩)|(go_at_call 35;refine C55.out.mono ?_;rintro e w' ⟨rfl,rfl⟩)|(go_at_call 44;refine C56.out.mono ?_;rintro e w' ⟨rfl,rfl⟩))
       go_ret2
       exact ⟨by rw [← HSK.out (by first|trivial|rfl)];rfl,HW.out⟩
  ·obtain rfl:i=k:=by omega
   have hsl:=nmStr_size l p i
   go_wp2_with fail
   go_ret2
   exact ⟨rfl,HW.out⟩
end Go.Proofs.Ytmjlmjlkghpknaa
namespace Go.Proofs.Ytmjlmjlkghpknaa
open Go.RowKit
theorem hz_drewN {w:World} {g q:Nat} {x:Obj} (h:w.heap[g]?=some x):(w.drewN q).heap[g]?=some x:=h
/-- the points of a pattern, in memory below a block -/
structure Pts (B n c:Nat) (A:Option Addr) (l:List Int) (w:World):Prop where
 row:Rds w B 1 A n (ints l)
 small:n≤1000
theorem Pts.len {B n c:Nat} {A:Option Addr} {l:List Int} {w:World} (h:Pts B n c A l w):l.length=n:=h.row.ints_len
theorem Pts.next {B n c:Nat} {A:Option Addr} {l:List Int} {w w':World} (h:Pts B n c A l w) (hb:Below B w w'):Pts B n c A l w':=⟨h.row.below hb (Nat.le_refl _),h.small⟩
theorem says_one {B n c:Nat} {A:Option Addr} {l:List Int} {w:World} (s:UInt8) (x at_:Int) (v:Bool) (h:Pts B n c A l w) (h0:0≤at_∧at_≤2000) (hx:(s.toNat:Int)=x) (hv:v=decide (ptAt l at_=x)) :
  Calls Try.prog 18 #[.slice A n c,.int .i64 at_,.string ⟨#[s]⟩] w fun e w'=>e=.returned (.bool v)∧∃ q,w'=w.drewN q:=by
 have C:=says18 l at_ ⟨#[s]⟩ A n c B w (by have:=h.small;unfold maxLen;omega) (by simp [ByteArray.size]) (by omega) (by omega) h.row
 have:saysP l at_ (ByteArray.mk #[s]).data.toList=v:=by rw [hv,← hx];simp [saysP]
 rwa [this] at C
theorem says_b {B n c:Nat} {A:Option Addr} {l:List Int} {w:World} (s:UInt8) (x at_:Int) (v:Bool) (h:Pts B n c A l w) (h0:0≤at_∧at_≤2000) (hx:(s.toNat:Int)=x) (hv:v=decide (ptAt l at_=x)) :
  Calls Try.prog 18 #[.slice A n c,.int .i64 at_,.string ⟨#[s]⟩] w fun e w'=>e=.returned (.bool v)∧Below w.heap.size w w'∧w'.heap.size=w.heap.size :=
 (says_one s x at_ v h h0 hx hv).mono fun e w' ⟨he,q,hq⟩=>⟨he,by rw [hq];exact below_drewN (Below.refl _ _) q,by rw [hq];rfl⟩
theorem cells8 {w:World} {g:Nat} {a b c d e f h i:Value} {t:TypeId} (hg:w.heap[g]?=some (.cells #[a,b,c,d,e,f,h,i] t (0,0))) :
  w.cell? ⟨g,0,none⟩=some a∧w.cell? ⟨g,0+1,none⟩=some b∧w.cell? ⟨g,0+2,none⟩=some c∧w.cell? ⟨g,0+3,none⟩=some d∧w.cell? ⟨g,0+4,none⟩=some e∧w.cell? ⟨g,0+5,none⟩=some f∧w.cell? ⟨g,0+6,none⟩=some h∧w.cell? ⟨g,0+7,none⟩=some i:=by
 refine ⟨?_,?_,?_,?_,?_,?_,?_,?_⟩<;>rw [cell_of_row _ _ _ _ _ _ hg]<;>rfl
set_option maxRecDepth 100000 in
set_option maxHeartbeats 4000000 in
theorem repeat19 (d at_ least most:Int) (l:List Int) (A:Option Addr) (n c:Nat) (w:World) (h:Pts w.heap.size n c A l w) (h0:0≤at_) (h1:at_≤n) :
  Calls Try.prog 19 #[.int .i64 d,.slice A n c,.int .i64 at_,.int .i64 least,.int .i64 most] w fun e w'=>e=.returned (.tuple #[(repeatP d l at_ least most).1.agg,.int .i64 (repeatP d l at_ least most).2])∧Below w.heap.size w w':=by
 have hsm:=h.small
 have HP:=Lib.hid (fun w' (hb:Below w.heap.size w w')=>h.next hb)
 clear h
 have HB0:=Lib.hid (show Below w.heap.size w ((w.alloc (.cells #[.int .i64 0,.int .i64 0,.string ⟨#[]⟩,.bool false,.int .i64 0,.int .i64 0,.int .i64 0,.int .i64 0] 24)).alloc (.cells #[.int .i64 6,.int .i64 0,.string ⟨#[]⟩,.bool false,.int .i64 least,.int .i64 most,.int .i64 1,.int .i64 0] 24)) from ((Below.refl _ _).alloc (Nat.le_refl _) _).alloc (by simp) _)
 have HZ0:=Lib.hid (show ((w.alloc (.cells #[.int .i64 0,.int .i64 0,.string ⟨#[]⟩,.bool false,.int .i64 0,.int .i64 0,.int .i64 0,.int .i64 0] 24)).alloc (.cells #[.int .i64 6,.int .i64 0,.string ⟨#[]⟩,.bool false,.int .i64 least,.int .i64 most,.int .i64 1,.int .i64 0] 24)).heap[w.heap.size]?=some Z24 from hz_alloc hz_new)
 have HT0:=Lib.hid (show ((w.alloc (.cells #[.int .i64 0,.int .i64 0,.string ⟨#[]⟩,.bool false,.int .i64 0,.int .i64 0,.int .i64 0,.int .i64 0] 24)).alloc (.cells #[.int .i64 6,.int .i64 0,.string ⟨#[]⟩,.bool false,.int .i64 least,.int .i64 most,.int .i64 1,.int .i64 0] 24)).heap[w.heap.size+1]?=some (.cells #[.int .i64 6,.int .i64 0,.string ⟨#[]⟩,.bool false,.int .i64 least,.int .i64 most,.int .i64 1,.int .i64 0] 24 (0,0)) by have:=heap_alloc_new (w.alloc (.cells #[.int .i64 0,.int .i64 0,.string ⟨#[]⟩,.bool false,.int .i64 0,.int .i64 0,.int .i64 0,.int .i64 0] 24)) (.cells #[.int .i64 6,.int .i64 0,.string ⟨#[]⟩,.bool false,.int .i64 least,.int .i64 most,.int .i64 1,.int .i64 0] 24);simpa using this)
 have hs0:((w.alloc (.cells #[.int .i64 0,.int .i64 0,.string ⟨#[]⟩,.bool false,.int .i64 0,.int .i64 0,.int .i64 0,.int .i64 0] 24)).alloc (.cells #[.int .i64 6,.int .i64 0,.string ⟨#[]⟩,.bool false,.int .i64 least,.int .i64 most,.int .i64 1,.int .i64 0] 24)).heap.size=w.heap.size+2:=by simp
 obtain ⟨W,hW⟩:∃ W,W=((w.alloc (.cells #[.int .i64 0,.int .i64 0,.string ⟨#[]⟩,.bool false,.int .i64 0,.int .i64 0,.int .i64 0,.int .i64 0] 24)).alloc (.cells #[.int .i64 6,.int .i64 0,.string ⟨#[]⟩,.bool false,.int .i64 least,.int .i64 most,.int .i64 1,.int .i64 0] 24)):=⟨_,rfl⟩
 rw [← hW] at HB0 HZ0 HT0 hs0
 unfold repeatP
 by_cases hd:d=1
 ·have hdb:(d == 1)=true:=by simpa using hd
  by_cases q1:ptAt l at_=63
  ·have P1:=Lib.hid q1
   rw [if_pos ⟨hd,q1⟩]
   clear q1 hd
   go_enter Try.func19,Try.ntmps19
   go_wp2_with (first
    | (go_at_call 18;rw [← hW];clear hW;(with_reducible refine (says_b 63 63 at_ true (HP.out _ HB0.out) ⟨h0,by omega⟩ rfl (by rw [decide_eq_true P1.out])).mono ?_);rintro e w1 ⟨rfl,hb,hs⟩;have hs1:w1.heap.size=w.heap.size+2:=hs.trans hs0;have HB1:=Lib.hid (HB0.out.trans (hb.mono HB0.out.size));have HZ1:=Lib.hid ((hb.block w.heap.size (by omega)).trans HZ0.out);have HT1:=Lib.hid ((hb.block (w.heap.size+1) (by omega)).trans HT0.out);obtain ⟨k1,k2,k3,k4,k5,k6,k7,k8⟩:=cells8 HT1.out;have f6:=frozen_of_row _ _ (0+6) _ _ HT1.out;have f6':=frozen_of_row _ _ 6 _ _ HT1.out;have hl1:w.heap.size < w1.heap.size:=(by omega);have hl2:w.heap.size+1 < w1.heap.size:=(by omega);clear hb hs)
    | ((with_reducible apply store24 (g:=w.heap.size));rfl;(with_reducible rfl);rfl;rfl;(exact (hz_set HZ1.out (by simp)));rfl;rfl))
   ((try simp only [Exit.inBlock,Exit.then]);refine bodyPost_ret (v:=_) (results24t Try.results19 _ _ w.heap.size _ (.int .i64 (at_+1)) ?_ ?_ (row24 ?_) ?_) rfl (And.intro rfl ?_);rfl;rfl;(exact (hz_set HZ1.out (by simp)));rfl;exact Below.setRow (HB1.out.setCell (by simp) _) (Nat.le_refl _) _)
  ·have P1:=Lib.hid q1
   by_cases q2:ptAt l at_=43
   ·have P2:=Lib.hid q2
    rw [if_neg (fun h=>q1 h.2),if_pos ⟨hd,q2⟩]
    clear q1 q2 hd
    go_enter Try.func19,Try.ntmps19
    go_wp2_with (first
     | (go_at_call 18;(with_reducible refine (says_b 43 43 at_ true (HP.out _ HB1.out) ⟨h0,by omega⟩ rfl (by rw [decide_eq_true P2.out])).mono ?_);rintro e w2 ⟨rfl,hb,hs⟩;have hs2:w2.heap.size=w.heap.size+2:=hs.trans hs1;have HB2:=Lib.hid (HB1.out.trans (hb.mono HB1.out.size));have HZ2:=Lib.hid ((hb.block w.heap.size (by omega)).trans HZ1.out);have HT2:=Lib.hid ((hb.block (w.heap.size+1) (by omega)).trans HT1.out);obtain ⟨k1,k2,k3,k4,k5,k6,k7,k8⟩:=cells8 HT2.out;have f6:=frozen_of_row _ _ (0+6) _ _ HT2.out;have f6':=frozen_of_row _ _ 6 _ _ HT2.out;have hl1:w.heap.size < w2.heap.size:=(by omega);have hl2:w.heap.size+1 < w2.heap.size:=(by omega);clear hb hs)
     | (go_at_call 18;rw [← hW];clear hW;(with_reducible refine (says_b 63 63 at_ false (HP.out _ HB0.out) ⟨h0,by omega⟩ rfl (by rw [decide_eq_false P1.out])).mono ?_);rintro e w1 ⟨rfl,hb,hs⟩;have hs1:w1.heap.size=w.heap.size+2:=hs.trans hs0;have HB1:=Lib.hid (HB0.out.trans (hb.mono HB0.out.size));have HZ1:=Lib.hid ((hb.block w.heap.size (by omega)).trans HZ0.out);have HT1:=Lib.hid ((hb.block (w.heap.size+1) (by omega)).trans HT0.out);obtain ⟨k1,k2,k3,k4,k5,k6,k7,k8⟩:=cells8 HT1.out;have f6:=frozen_of_row _ _ (0+6) _ _ HT1.out;have f6':=frozen_of_row _ _ 6 _ _ HT1.out;have hl1:w.heap.size < w1.heap.size:=(by omega);have hl2:w.heap.size+1 < w1.heap.size:=(by omega);clear hb hs)
     | ((with_reducible apply store24 (g:=w.heap.size));rfl;(with_reducible rfl);rfl;rfl;(exact (hz_set HZ2.out (by simp)));rfl;rfl))
    ((try simp only [Exit.inBlock,Exit.then]);refine bodyPost_ret (v:=_) (results24t Try.results19 _ _ w.heap.size _ (.int .i64 (at_+1)) ?_ ?_ (row24 ?_) ?_) rfl (And.intro rfl ?_);rfl;rfl;(exact (hz_set HZ2.out (by simp)));rfl;exact Below.setRow (HB2.out.setCell (by simp) _) (Nat.le_refl _) _)
   ·have P2:=Lib.hid q2
    rw [if_neg (fun h=>q1 h.2),if_neg (fun h=>q2 h.2)]
    clear q1 q2 hd
    go_enter Try.func19,Try.ntmps19
    go_wp2_with (first
     | (go_at_call 18;(with_reducible refine (says_b 43 43 at_ false (HP.out _ HB1.out) ⟨h0,by omega⟩ rfl (by rw [decide_eq_false P2.out])).mono ?_);rintro e w2 ⟨rfl,hb,hs⟩;have hs2:w2.heap.size=w.heap.size+2:=hs.trans hs1;have HB2:=Lib.hid (HB1.out.trans (hb.mono HB1.out.size));have HZ2:=Lib.hid ((hb.block w.heap.size (by omega)).trans HZ1.out);have HT2:=Lib.hid ((hb.block (w.heap.size+1) (by omega)).trans HT1.out);obtain ⟨k1,k2,k3,k4,k5,k6,k7,k8⟩:=cells8 HT2.out;have f6:=frozen_of_row _ _ (0+6) _ _ HT2.out;have f6':=frozen_of_row _ _ 6 _ _ HT2.out;have hl1:w.heap.size < w2.heap.size:=(by omega);have hl2:w.heap.size+1 < w2.heap.size:=(by omega);clear hb hs)
     | (go_at_call 18;rw [← hW];clear hW;(with_reducible refine (says_b 63 63 at_ false (HP.out _ HB0.out) ⟨h0,by omega⟩ rfl (by rw [decide_eq_false P1.out])).mono ?_);rintro e w1 ⟨rfl,hb,hs⟩;have hs1:w1.heap.size=w.heap.size+2:=hs.trans hs0;have HB1:=Lib.hid (HB0.out.trans (hb.mono HB0.out.size));have HZ1:=Lib.hid ((hb.block w.heap.size (by omega)).trans HZ0.out);have HT1:=Lib.hid ((hb.block (w.heap.size+1) (by omega)).trans HT0.out);obtain ⟨k1,k2,k3,k4,k5,k6,k7,k8⟩:=cells8 HT1.out;have f6:=frozen_of_row _ _ (0+6) _ _ HT1.out;have f6':=frozen_of_row _ _ 6 _ _ HT1.out;have hl1:w.heap.size < w1.heap.size:=(by omega);have hl2:w.heap.size+1 < w1.heap.size:=(by omega);clear hb hs)
     | ((with_reducible apply store24 (g:=w.heap.size));rfl;(with_reducible rfl);rfl;rfl;(exact HZ2.out);rfl;rfl))
    ((try simp only [Exit.inBlock,Exit.then]);refine bodyPost_ret (v:=_) (results24t Try.results19 _ _ w.heap.size _ (.int .i64 (at_)) ?_ ?_ (row24 ?_) ?_) rfl (And.intro rfl ?_);rfl;rfl;(exact HZ2.out);rfl;exact Below.setRow (HB2.out) (Nat.le_refl _) _)
 ·have hdb:(d == 1)=false:=by simpa using hd
  rw [if_neg (fun h=>hd h.1),if_neg (fun h=>hd h.1)]
  clear hd
  go_enter Try.func19,Try.ntmps19
  go_wp2_with (first
   | fail
   | ((with_reducible apply store24 (g:=w.heap.size));rfl;(with_reducible rfl);rfl;rfl;(exact (by rw [hW] at HZ0;exact HZ0.out));rfl;rfl))
  ((try simp only [Exit.inBlock,Exit.then]);refine bodyPost_ret (v:=_) (results24t Try.results19 _ _ w.heap.size _ (.int .i64 (at_)) ?_ ?_ (row24 ?_) ?_) rfl (And.intro rfl ?_);rfl;rfl;(exact (by rw [hW] at HZ0;exact HZ0.out));rfl;exact Below.setRow ((by rw [hW] at HB0;exact HB0.out)) (Nat.le_refl _) _)
end Go.Proofs.Ytmjlmjlkghpknaa
namespace Go.Proofs.Ytmjlmjlkghpknaa
open Go.RowKit
theorem Pts.more {B C n c:Nat} {A:Option Addr} {l:List Int} {w:World} (h:Pts B n c A l w) (hb:B≤C):Pts C n c A l w:=⟨h.row.more hb,h.small⟩
theorem namAt_len (l:List Int) (p:Int):NmAt l p (nameLen l p):=by
 unfold nameLen
 split
 ·rename_i h1
  have hle:=runLen_le isNamP l 20 p
  refine ⟨hle,fun i hi=>?_,?_⟩
  ·have:=runLen_yes isNamP l 20 p i hi
   unfold isNamP isLet isDig at this
   simp at this
   unfold okAt letN digN
   by_cases hi0:i=0
   ·subst hi0
    unfold isLet at h1
    simp at h1 ⊢
    omega
   ·omega
  ·rcases Nat.lt_or_ge (runLen isNamP l p 20) 20 with h2|h2
   ·right
    have:=runLen_no isNamP l 20 p h2
    intro hx
    unfold okAt letN digN at hx
    generalize ptAt l (p+(runLen isNamP l p 20:Nat))=q at this hx
    have h3:isNamP q=true:=by unfold isNamP isLet isDig;simp;omega
    rw [this] at h3
    cases h3
   ·left;omega
 ·rename_i h1
  refine ⟨by omega,fun i hi=>absurd hi (Nat.not_lt_zero i),.inr ?_⟩
  unfold isLet at h1
  simp at h1
  unfold okAt letN
  simp
  omega
theorem name_r {B n c:Nat} {A:Option Addr} {l:List Int} {w:World} (p:Int) (h:Pts B n c A l w) (hB:B≤w.heap.size) :
  Calls Try.prog 34 #[.slice A n c,.int .i64 p] w fun e w'=>e=.returned (.tuple #[.string ⟨(bytesP (runPts l p (nameLen l p))).toArray⟩,.int .i64 (p+(nameLen l p:Int))])∧Below w.heap.size w w' :=
 nameAt45 l p A n c (nameLen l p) w (by have:=h.small;unfold maxLen;omega) (h.row.more hB) (namAt_len l p)
theorem says_p {B n c:Nat} {A:Option Addr} {l:List Int} {w:World} (s:ByteArray) (at_:Int) (v:Bool) (h:Pts B n c A l w) (hs:s.size≤100) (h0:0≤at_∧at_≤2000) (hv:v=saysP l at_ s.data.toList) :
  Calls Try.prog 18 #[.slice A n c,.int .i64 at_,.string s] w fun e w'=>e=.returned (.bool v)∧Below w.heap.size w w'∧w'.heap.size=w.heap.size:=by
 rw [hv]
 exact (says18 l at_ s A n c B w (by have:=h.small;unfold maxLen;omega) hs (by omega) (by omega) h.row).mono fun e w' ⟨he,q,hq⟩=>⟨he,by rw [hq];exact below_drewN (Below.refl _ _) q,by rw [hq];rfl⟩
theorem saysP_one (l:List Int) (p:Int) (x:UInt8):saysP l p [x]=decide (ptAt l p=(x.toNat:Int)):=by simp [saysP]
theorem saysP_two (l:List Int) (p:Int) (x y:UInt8):saysP l p [x,y]=(decide (ptAt l p=(x.toNat:Int)) && decide (ptAt l (p+1)=(y.toNat:Int))):=by
 show (decide (ptAt l (p+(0:Nat))=(x.toNat:Int)) && (decide (ptAt l (p+(1:Nat))=(y.toNat:Int)) && true))=_
 simp
end Go.Proofs.Ytmjlmjlkghpknaa
