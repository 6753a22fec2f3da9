/-
  A name read; tokens that repeat: walked. Tokens stored whole, and handed back: laws. A brace; what opens a group: walked. A token stored cell by cell; small words of the reference's tokens.
-/
import Derived.Test.YtbiahhojnjchnaaGreatHP
import Derived.Laws.Tables
import Derived.Laws.Rows
import Derived.Deep.DeepCutAuto
import Derived.Test.YtbiahhojnjchnaaGreatHE
set_option linter.unusedVariables false
set_option linter.unusedSimpArgs false
namespace Go.Proofs.YtbiahhojnjchnaaGreat
open Go.RowKit
theorem isNamP_small {p:Int} (h:isNamP p=true):48≤p∧p≤122:=by
 unfold isNamP isLet isDig at h;simp at h;omega
theorem nameCells_snoc (l:List Int) (p:Int) (h:0≤p∧p≤127):Lib.byteCells (bytesP (l ++ [p]))=Lib.byteCells (bytesP l) ++ [Value.int .u8 p]:=by
 obtain ⟨q,rfl⟩:=Int.eq_ofNat_of_zero_le h.1
 unfold Lib.byteCells bytesP
 simp [UInt8.toNat_ofNat']
 omega
theorem runPts_succ (l:List Int) (p:Int) (k:Nat):runPts l p (k+1)=runPts l p k ++ [ptAt l (p+k)]:=by
 unfold runPts;rw [List.range_succ,List.map_append];rfl
theorem runPts_take (l:List Int) (p:Int) (k j:Nat) (h:j≤k):(runPts l p k).take j=runPts l p j:=by
 apply List.ext_getElem
 ·simp [runPts_length];omega
 ·intro i h1 h2;simp [runPts]
theorem St.under {b n c g:Nat} {d at_:Int} {A:Option Addr} {l:List Int} {w w':World} (h:St b n c d A l at_ w) (hb:Below g w w') (hg:b < g):St b n c d A l at_ w' :=
 ⟨h.rd.below hb hg,h.row.below hb (by omega),h.lo,h.hi,h.pos,h.small,h.cap⟩
theorem fresh_builder {b:Nat} {w2:World} (h:w2.heap[b]?=some (.cells #[.pointer none,.slice none 0 0] 232 (0,0))):Lib.IsBuilderF 232 5 b b (Lib.byteCells (bytesP [])) w2 :=
 .inl ⟨Nat.le_refl _,.slice none 0 0,h,World.ownsRowF_nil _ _ _ _,by simp [Value.ownBlock]⟩
set_option maxRecDepth 100000 in
set_option maxHeartbeats 4000000 in
theorem name57 {b n c:Nat} {d at_:Int} {A:Option Addr} {l:List Int} {w:World} (h:St b n c d A l at_ w) :
  Calls Tryz.prog 213 #[.pointer (some ⟨b,0,none⟩)] w fun e w'=>e=.returned (.string ⟨(bytesP (runPts l at_ (nameLen l at_))).toArray⟩)∧St b n c d A l (at_+nameLen l at_) w'∧Kept b w w':=by
 have C:=Lib.hid (peek_st h)
 clear h
 unfold nameLen
 obtain ⟨p,hp⟩:∃ p,p=ptAt l at_:=⟨_,rfl⟩
 rw [← hp] at C ⊢
 clear hp
 have D:=Lib.hid (fun w=>(isLetter56 p w).mono (R':=fun e w'=>e=.returned (.bool (isLet p))∧w=w') fun _ _ ⟨e,h⟩=>⟨e,h.symm⟩)
 by_cases hl:isLet p=true∨p=95
 ·rw [if_pos hl]
  have hcase:(isLet p=true)∨(isLet p=false∧p=95):=by
   by_cases h2:isLet p=true
   ·exact .inl h2
   ·exact .inr ⟨by simpa using h2,by rcases hl with h|h;exact absurd h h2;exact h⟩
  clear hl
  obtain ⟨g,hg⟩:∃ g:Nat,g=0:=⟨_,rfl⟩
  clear hg
  have key:∀ w1,St b n c d A l at_ w1→Kept b w w1→Calls Tryz.prog 210 #[.pointer (some ⟨b,0,none⟩),.int .i64 20,.func (.func 223) #[] #[]] (w1.alloc (.cells #[.pointer none,.slice none 0 0] 232)) fun e w'=>∃ A' c',e=.returned (.slice A' (runLen isNamP l at_ 20) c')∧Rds w' b 1 A' (runLen isNamP l at_ 20) (ints (runPts l at_ (runLen isNamP l at_ 20)))∧St b n c d A l (at_+runLen isNamP l at_ 20) w'∧Kept b (w1.alloc (.cells #[.pointer none,.slice none 0 0] 232)) w':=fun w1 h1 _=>run_st runNam 20 (h1.alloc _) (by omega)
  have KEY:=Lib.hid key
  clear key
  have HY:=Lib.hid (fun k=>runLen_yes isNamP l 20 at_ k)
  have HLE:=runLen_le isNamP l 20 at_
  obtain ⟨K,hK⟩:∃ K,K=runLen isNamP l at_ 20:=⟨_,rfl⟩
  rw [← hK] at KEY HY HLE ⊢
  clear hK
  rcases hcase with hc|⟨hc,rfl⟩<;>rw [hc] at D<;>clear hc
  all_goals
   go_enter Tryz.func213,Tryz.ntmps213
   go_wp2_with (first
    | (go_at_call 171;refine C.out.mono ?_;rintro e w1 ⟨rfl,h1,k1⟩;have H1:=Lib.hid h1;have K1:=Lib.hid k1;clear h1 k1)
    | (go_at_call 212;refine (D.out _).mono ?_;rintro e w2 ⟨rfl,rfl⟩))
  all_goals
   refine (KEY.out _ H1.out K1.out).mono ?_
   rintro e w2 ⟨A',c',rfl,hs,h2,k2⟩
   have hlt1:=H1.out.lt
   have hb:w2.heap[w1.heap.size]?=some (.cells #[.pointer none,.slice none 0 0] 232 (0,0)):=by
    rw [k2.block _ (by simp) (by omega)];exact heap_alloc_new w1 _
   have hsz2:=k2.size
   simp at hsz2
   have HB:=Lib.hid (fresh_builder hb)
   have HS:=Lib.hid hs
   have H2:=Lib.hid h2
   have HK12:Hid (∀ k,k < w1.heap.size→k≠b→w2.heap[k]?=w1.heap[k]?):=Lib.hid (fun k hk hkb=>by rw [k2.block k (by simp;omega) hkb,heap_alloc_old w1 _ hk])
   have HKO:Hid (w2.os=w1.os∧w2.tape=w1.tape∧w2.output=w1.output):=Lib.hid ⟨k2.os,k2.tape,k2.output⟩
   clear hs h2 k2 hb KEY
   obtain ⟨g,hg⟩:∃ g,g=w1.heap.size:=⟨_,rfl⟩
   rw [← hg] at HB hsz2
   have HG:=Lib.hid hg
   have hbg:b < g:=by omega
   rw [← hg]
   clear hg hlt1
   go_wp2_with fail
   go_loopw [19] (fun i wr=>∃ j:Nat,j≤K∧i=.int .i64 j∧Hid (Lib.IsBuilderF 232 5 g g (Lib.byteCells (bytesP (runPts l at_ j))) wr)∧Hid (Below g w2 wr)) (fun i _=>K - (intOf i).toNat)
   case atStart=>exact ⟨0,Nat.zero_le _,rfl,HB,Lib.hid (Below.refl _ _)⟩
   case round =>
    obtain ⟨j,hj,rfl,HI,HW⟩:=hrel
    have hsz:=HW.out.size
    by_cases hlt:j < K
    ·have hrow:=(HS.out.keep (w':=wr) fun q hq=>HW.out.cell (by omega)).int_at hlt
     obtain ⟨b1,off1,hl1,hA,hb1,hc1⟩:=hrow
     have hpt:=runPts_get l at_ K j hl1
     have hx:=isNamP_small (HY.out j hlt)
     have HT:=Lib.hid (show Lib.byteCells (bytesP (runPts l at_ (j+1)))=Lib.byteCells (bytesP (runPts l at_ j)) ++ [Value.int .u8 (ptAt l (at_+j))] by rw [runPts_succ,nameCells_snoc _ _ (by omega)])
     rw [hpt] at hc1
     obtain ⟨x,hx'⟩:∃ x,x=ptAt l (at_+j):=⟨_,rfl⟩
     rw [← hx'] at hc1 HT hx
     clear hx' hpt
     have W:=Lib.hid (writeRune63 g g _ x (by omega) (by omega) wr HI.out (by unfold Lib.byteCells bytesP;simp [runPts_length];omega) (by omega))
     subst hA
     have i1:(0:Int)≤(j:Int):=by omega
     have i2:(j:Int) < (K:Int):=by omega
     have i3:IntKind.i32.wrap x=x:=by rw [IntKind.wrap_i32];omega
     go_wp2_with (go_at_call 224;refine W.out.mono ?_;rintro e w3 ⟨rfl,h3,hb3,-⟩;have H3:=Lib.hid h3;have HB3:=Lib.hid (HW.out.trans hb3);clear h3 hb3)
     go_roundw
     case rel=>exact ⟨j+1,by omega,by go_num,Lib.hid (.inr (by rw [HT.out];exact H3.out)),HB3⟩
     case measure=>simp [intOf];omega
    ·obtain rfl:j=K:=by omega
     have S:=Lib.hid (Tryz.Builder_String_any_k g g _ wr HI.out (by omega))
     go_wp2_with (go_at_call 225;refine S.out.mono ?_;rintro e w3 ⟨rfl,-,hb3,-⟩;have HB3:=Lib.hid (HW.out.trans hb3);clear hb3)
     go_ret
     have hb3:=HB3.out
     exact ⟨rfl,H2.out.under HB3.out hbg,K1.out.trans ⟨hb3.os.trans HKO.out.1,hb3.tape.trans HKO.out.2.1,hb3.output.trans HKO.out.2.2,by have:=hb3.size;rw [← HG.out];omega,fun k hk hkb=>(hb3.block k (by rw [← HG.out] at hk;exact hk)).trans (HK12.out k (by rw [← HG.out];rw [← HG.out] at hk;exact hk) hkb)⟩⟩
 ·rw [if_neg hl]
  have hl1:isLet p=false:=by cases h:isLet p with|true=>exact absurd (.inl h) hl|false=>rfl
  have hl2:(p != 95)=true:=by simp;exact fun h=>hl (.inr h)
  clear hl
  rw [hl1] at D
  clear hl1
  go_enter Tryz.func213,Tryz.ntmps213
  go_wp2_with (first
   | (go_at_call 171;refine C.out.mono ?_;rintro e w1 ⟨rfl,h1,k1⟩;have H1:=Lib.hid h1;have K1:=Lib.hid k1;clear h1 k1)
   | (go_at_call 212;refine (D.out _).mono ?_;rintro e w2 ⟨rfl,rfl⟩))
  go_ret
  exact ⟨rfl,by simpa using H1.out,K1.out⟩
end Go.Proofs.YtbiahhojnjchnaaGreat
namespace Go.Proofs.YtbiahhojnjchnaaGreat
open Go.RowKit
theorem setRow_ne (w:World) (g:Nat) (cs:Array Value) (k:Nat) (h:k≠g):(w.setRow g cs).heap[k]?=w.heap[k]?:=by
 unfold World.setRow
 simp only [Array.getElem?_modify]
 rw [if_neg (fun e=>h e.symm)]
theorem Kept.setRow {b:Nat} {w w':World} (h:Kept b w w') {g:Nat} (hg:w.heap.size≤g) (cs:Array Value):Kept b w (w'.setRow g cs) :=
 ⟨h.os,h.tape,h.output,by rw [setRow_size];exact h.size,fun k hk hb=>by rw [setRow_ne _ _ _ _ (by omega)];exact h.block k hk hb⟩
theorem Below.setRow {B:Nat} {w w':World} (h:Below B w w') {g:Nat} (hg:B≤g) (cs:Array Value):Below B w (w'.setRow g cs) :=
 ⟨h.os,h.tape,h.output,by rw [setRow_size];exact h.size,fun k hk=>by rw [setRow_ne _ _ _ _ (by omega)];exact h.block k hk⟩
theorem St.setRow {b n c:Nat} {d at_:Int} {A:Option Addr} {l:List Int} {w:World} (h:St b n c d A l at_ w) {g:Nat} (hg:b < g) (cs:Array Value):St b n c d A l at_ (w.setRow g cs) :=
 h.under (g:=g) (Below.setRow (Below.refl _ _) (Nat.le_refl _) cs) hg
theorem info24:(Tryz.prog.info? 108).map (·.size)=some 8:=by kernel_rfl
theorem store24 {ops:Array Oper} {rest:List Oper} {o:Oper} {a:Act} {w:World} {Q:Exit→Act→World→Prop} {x y:Operand} {g:Nat} {cells:Array Value} (hgd:o.guard=none) (ho:o.op=.store 108 x y)
  (hx:a.eval x=.pointer (some ⟨g,0,none⟩)) (hy:a.eval y=.agg cells) (hz:w.heap[g]?=some Z24) (hs:cells.size=8) (h1:cells.toList.all (·.oneCell')=true)
  (h:wpList Tryz.prog ops Q rest (a.put o.dst undef) (w.setRow g cells)):wpList Tryz.prog ops Q (o :: rest) a w :=
 wpList_store_row hgd 108 x y ho g cells hx hy 108 _ hz (by rw [hs];exact info24) (by rw [hs];rfl) (by rw [← Array.all_toList];exact h1) h
theorem row24 {w:World} {g:Nat} {cs:Array Value} (hz:w.heap[g]?=some Z24):(w.setRow g cs).heap[g]?=some (.cells cs 108 (0,0)):=setRow_heap w g _ cs 108 _ hz
theorem results24 {fn:Func} {p:Tmp} (h:fn.results=#[.cell p 108]) (tmps:Array Value) (w:World) (g:Nat) (cs:Array Value) (hp:tmps.getD p undef=.pointer (some ⟨g,0,none⟩)) (hg:w.heap[g]?=some (.cells cs 108 (0,0))) (hs:cs.size=8) :
  (results fn tmps).run Tryz.prog w=.ok (.agg cs) w :=
 results_cell_row h tmps w g 108 cs (0,0) _ hp hg Tryz.underlying108 rfl (by rw [hs];exact info24)
theorem results24t {fn:Func} {p u:Tmp} (h:fn.results=#[.cell p 108,.tmp u]) (tmps:Array Value) (w:World) (g:Nat) (cs:Array Value) (v:Value) (hp:tmps.getD p undef=.pointer (some ⟨g,0,none⟩)) (hu:tmps.getD u undef=v) (hg:w.heap[g]?=some (.cells cs 108 (0,0))) (hs:cs.size=8) :
  (results fn tmps).run Tryz.prog w=.ok (.tuple #[.agg cs,v]) w:=by
 rw [results_cell_tmp h,hp,hu]
 simp only [asAddr,Sem.run_pure,Result.andThen_ok,run_loadVar_row w g 108 108 cs (0,0) _ hg Tryz.underlying108 rfl (by rw [hs];exact info24)]
theorem hz_row {w:World} {g k:Nat} {x:Obj} {cs:Array Value} (h:w.heap[g]?=some x) (hn:g≠k):(w.setRow k cs).heap[g]?=some x:=by rw [setRow_ne _ _ _ _ hn];exact h
theorem hz_new {w:World}:(w.alloc (.cells #[.int .i64 0,.int .i64 0,.string ⟨#[]⟩,.bool false,.int .i64 0,.int .i64 0,.int .i64 0,.int .i64 0] 108)).heap[w.heap.size]?=some Z24:=heap_alloc_new w _
end Go.Proofs.YtbiahhojnjchnaaGreat
namespace Go.Proofs.YtbiahhojnjchnaaGreat
open Go.RowKit
/-- what a method of the reader leaves -/
def TOut (b n c:Nat) (d:Int) (A:Option Addr) (l:List Int):TR→Ending→World→Prop
 | .ok p,e,w=>e=.returned p.1.agg∧St b n c d A l p.2 w
 | .error x,e,_=>e=.panicked (wrongV x)
section
variable {b n c:Nat} {d at_:Int} {A:Option Addr} {l:List Int} {w:World}
theorem point_st (p:Int) (h:St b n c d A l at_ w):Calls Tryz.prog 175 #[.int .i64 p] w fun e w'=>e=.returned (.agg #[.int .i64 1,.int .i64 p,.string ⟨#[]⟩,.bool false,.int .i64 0,.int .i64 0,.int .i64 0,.int .i64 0])∧St b n c d A l at_ w'∧Kept b w w' :=
 (point41 p w).mono fun _ _ ⟨e,hb⟩=>⟨e,h.next hb,Kept.of hb⟩
theorem look_st (p:Int) (h:St b n c d A l at_ w):Calls Tryz.prog 172 #[.int .i64 p] w fun e w'=>e=.returned (.agg #[.int .i64 3,.int .i64 p,.string ⟨#[]⟩,.bool false,.int .i64 0,.int .i64 0,.int .i64 0,.int .i64 0])∧St b n c d A l at_ w'∧Kept b w w' :=
 (look38 p w).mono fun _ _ ⟨e,hb⟩=>⟨e,h.next hb,Kept.of hb⟩
theorem again_st (p:Int) (h:St b n c d A l at_ w):Calls Tryz.prog 208 #[.int .i64 p] w fun e w'=>e=.returned (.agg #[.int .i64 10,.int .i64 p,.string ⟨#[]⟩,.bool false,.int .i64 0,.int .i64 0,.int .i64 0,.int .i64 0])∧St b n c d A l at_ w'∧Kept b w w' :=
 (again52 p w).mono fun _ _ ⟨e,hb⟩=>⟨e,h.next hb,Kept.of hb⟩
theorem name_none (h:St b n c d A l at_ w) (h0:nameLen l at_=0):Calls Tryz.prog 213 #[.pointer (some ⟨b,0,none⟩)] w fun e w'=>e=.returned (.string ⟨#[]⟩)∧St b n c d A l at_ w'∧Kept b w w':=by
 have C:=name57 h
 rw [h0] at C
 exact C.mono fun _ _ ⟨e,h1,h2⟩=>⟨e,by simpa using h1,h2⟩
theorem name_some (nm:List UInt8) (K:Nat) (h:St b n c d A l at_ w) (hn:nm=bytesP (runPts l at_ (nameLen l at_))∧K=nameLen l at_):Calls Tryz.prog 213 #[.pointer (some ⟨b,0,none⟩)] w fun e w'=>e=.returned (.string ⟨nm.toArray⟩)∧St b n c d A l (at_+K) w'∧Kept b w w':=by
 have C:=name57 h
 rw [← hn.1,← hn.2] at C
 exact C.mono fun _ _ ⟨e,h1,h2⟩=>⟨e,h1,h2⟩
theorem name_full {l:List Int} {at_:Int} {nm:List UInt8} {K:Nat} (hn:nm=bytesP (runPts l at_ (nameLen l at_))∧K=nameLen l at_) (h0:K≠0):nm.isEmpty=false:=by
 rw [hn.1]
 cases hb:bytesP (runPts l at_ (nameLen l at_)) with
 | nil =>
  have:=congrArg List.length hb
  simp [bytesP,runPts_length] at this
  omega
 | cons=>rfl
/-- a method that gives a token, by its outcome -/
theorem tout_ok {g:Nat} {args:Array Value} {r:TR} {t:Tk} {nx:Int} (C:Calls Tryz.prog g args w fun e w'=>TOut b n c d A l r e w'∧Kept b w w') (hr:r=.ok (t,nx)):Calls Tryz.prog g args w fun e w'=>e=.returned (.agg #[.int .i64 t.kind,.int .i64 t.num,.string ⟨t.text.toArray⟩,.bool t.not_,.int .i64 t.least,.int .i64 t.most,.int .i64 t.way,.int .i64 t.fold])∧St b n c d A l nx w'∧Kept b w w':=by
 subst hr
 exact C.mono fun _ _ ⟨⟨e,h1⟩,h2⟩=>⟨e,h1,h2⟩
theorem tout_bad {g:Nat} {args:Array Value} {r:TR} {x:Int} (C:Calls Tryz.prog g args w fun e w'=>TOut b n c d A l r e w'∧Kept b w w') (hr:r=.error x):Calls Tryz.prog g args w fun e w'=>e=.panicked (wrongV x)∧Kept b w w':=by
 subst hr
 exact C.mono fun _ _ ⟨e,h2⟩=>⟨e,h2⟩
end
end Go.Proofs.YtbiahhojnjchnaaGreat
namespace Go.Proofs.YtbiahhojnjchnaaGreat
open Go.RowKit
theorem put24_cell {w:World} {g:Nat} {p:Addr} {b0 b1 b2 b3 b4 b5 b6 b7:Value} (h:p.block≠g) :
  ((((((((w.setCell ⟨g,0,none⟩ b0).setCell ⟨g,1,none⟩ b1).setCell ⟨g,2,none⟩ b2).setCell ⟨g,3,none⟩ b3).setCell ⟨g,4,none⟩ b4).setCell ⟨g,5,none⟩ b5).setCell ⟨g,6,none⟩ b6).setCell ⟨g,7,none⟩ b7).cell? p=w.cell? p:=by
 have e:∀ (x:World) (i:Nat) (v:Value),(x.setCell ⟨g,i,none⟩ v).cell? p=x.cell? p:=fun x i v=>World.cell?_of_block (Below.heap_setCell x ⟨g,i,none⟩ v p.block h)
 rw [e,e,e,e,e,e,e,e]
theorem put24 {w:World} {g:Nat} {a0 a1 a2 a3 a4 a5 a6 a7 b0 b1 b2 b3 b4 b5 b6 b7:Value} {t:TypeId} (h:w.heap[g]?=some (.cells #[a0,a1,a2,a3,a4,a5,a6,a7] t (0,0))) :
  ((((((((w.setCell ⟨g,0,none⟩ b0).setCell ⟨g,1,none⟩ b1).setCell ⟨g,2,none⟩ b2).setCell ⟨g,3,none⟩ b3).setCell ⟨g,4,none⟩ b4).setCell ⟨g,5,none⟩ b5).setCell ⟨g,6,none⟩ b6).setCell ⟨g,7,none⟩ b7).heap[g]?=some (.cells #[b0,b1,b2,b3,b4,b5,b6,b7] t (0,0)):=by
 have h0:=put1 (i:=0) (v:=b0) (ds:=#[b0,a1,a2,a3,a4,a5,a6,a7]) h rfl
 have h1:=put1 (i:=1) (v:=b1) (ds:=#[b0,b1,a2,a3,a4,a5,a6,a7]) h0 rfl
 have h2:=put1 (i:=2) (v:=b2) (ds:=#[b0,b1,b2,a3,a4,a5,a6,a7]) h1 rfl
 have h3:=put1 (i:=3) (v:=b3) (ds:=#[b0,b1,b2,b3,a4,a5,a6,a7]) h2 rfl
 have h4:=put1 (i:=4) (v:=b4) (ds:=#[b0,b1,b2,b3,b4,a5,a6,a7]) h3 rfl
 have h5:=put1 (i:=5) (v:=b5) (ds:=#[b0,b1,b2,b3,b4,b5,a6,a7]) h4 rfl
 have h6:=put1 (i:=6) (v:=b6) (ds:=#[b0,b1,b2,b3,b4,b5,b6,a7]) h5 rfl
 exact put1 (i:=7) (v:=b7) (ds:=#[b0,b1,b2,b3,b4,b5,b6,b7]) h6 rfl
theorem put24_below {B:Nat} {a w:World} {g:Nat} {b0 b1 b2 b3 b4 b5 b6 b7:Value} (h:Below B a w) (hg:B≤g) :
  Below B a ((((((((w.setCell ⟨g,0,none⟩ b0).setCell ⟨g,1,none⟩ b1).setCell ⟨g,2,none⟩ b2).setCell ⟨g,3,none⟩ b3).setCell ⟨g,4,none⟩ b4).setCell ⟨g,5,none⟩ b5).setCell ⟨g,6,none⟩ b6).setCell ⟨g,7,none⟩ b7) :=
 (((((((h.setCell hg _).setCell hg _).setCell hg _).setCell hg _).setCell hg _).setCell hg _).setCell hg _).setCell hg _
theorem cells8 {w:World} {g:Nat} {a b c d e f h i:Value} {t:TypeId} (hg:w.heap[g]?=some (.cells #[a,b,c,d,e,f,h,i] t (0,0))) :
  w.cell? ⟨g,0,none⟩=some a∧w.cell? ⟨g,0+1,none⟩=some b∧w.cell? ⟨g,0+2,none⟩=some c∧w.cell? ⟨g,0+3,none⟩=some d∧w.cell? ⟨g,0+4,none⟩=some e∧w.cell? ⟨g,0+5,none⟩=some f∧w.cell? ⟨g,0+6,none⟩=some h∧w.cell? ⟨g,0+7,none⟩=some i:=by
 refine ⟨?_,?_,?_,?_,?_,?_,?_,?_⟩<;>rw [cell_of_row _ _ _ _ _ _ hg]<;>rfl
theorem results24q {fn:Func} {p u v:Tmp} (h:fn.results=#[.cell p 108,.tmp u,.tmp v]) (tmps:Array Value) (w:World) (g:Nat) (cs:Array Value) (x y:Value) (hp:tmps.getD p undef=.pointer (some ⟨g,0,none⟩)) (hu:tmps.getD u undef=x) (hv:tmps.getD v undef=y) (hg:w.heap[g]?=some (.cells cs 108 (0,0))) (hs:cs.size=8) :
  (results fn tmps).run Tryz.prog w=.ok (.tuple #[.agg cs,x,y]) w:=by
 have hl:=run_loadVar_row (P:=Tryz.prog) w g 108 108 cs (0,0) _ hg Tryz.underlying108 rfl (by rw [hs];exact info24)
 have hp':tmps[p]?.getD undef=.pointer (some ⟨g,0,none⟩):=by simpa using hp
 have hu':tmps[u]?.getD undef=x:=by simpa using hu
 have hv':tmps[v]?.getD undef=y:=by simpa using hv
 simp [results,h,hp',hu',hv',asAddr,hl,Sem.run_bind]
def sign:Nat→List UInt8
 | 0=>[58]
 | 1=>[62]
 | 2=>[61]
 | 3=>[33]
 | 4=>[60,61]
 | _=>[60,33]
theorem runPts_len (l:List Int) (p:Int) (k:Nat):(runPts l p k).length=k:=by simp [runPts]
theorem in_pt {l:List Int} {n:Nat} (hl:l.length=n) {p:Int} (h:ptAt l p≠-1):p+1≤n:=by
 rcases pt_or l p with h1|h1
 ·exact absurd h1 h
 ·omega
end Go.Proofs.YtbiahhojnjchnaaGreat
