/- All: rows of tokens and places, walked. -/
import Derived.Test.YtmjlmjlkghpknaaTkLa
import Derived.Test.YtmjlmjlkghpknaaTkMv
set_option linter.unusedVariables false
set_option linter.unusedSimpArgs false
namespace Go.Proofs.Ytmjlmjlkghpknaa
open Go.RowKit
def Tk.cells (t:Tk):List Value:=[.int .i64 t.kind,.int .i64 t.num,.string ⟨t.text.toArray⟩,.bool t.not_,.int .i64 t.least,.int .i64 t.most,.int .i64 t.way,.int .i64 t.fold]
def toks (l:List Tk):List Value:=l.flatMap Tk.cells
theorem toks_append (a b:List Tk):toks (a ++ b)=toks a ++ toks b:=by simp [toks]
theorem toks_length (l:List Tk):(toks l).length=l.length * 8:=by
 induction l with
 | nil=>rfl
 | cons t l ih=>simp [toks,Tk.cells] at *;omega
theorem toks_one (l:List Tk):∀ u ∈ toks l,u.oneCell'=true:=by
 intro u hu
 obtain ⟨t,_,h⟩:=List.mem_flatMap.1 hu
 simp [Tk.cells] at h
 rcases h with rfl|rfl|rfl|rfl|rfl|rfl|rfl|rfl<;>rfl
theorem tok_info:(Try.prog.info? 24).map (fun i=>(i.zero,i.size,i.bytes))=some (some (.agg #[.int .i64 0,.int .i64 0,.string ⟨#[]⟩,.bool false,.int .i64 0,.int .i64 0,.int .i64 0,.int .i64 0]),8,72):=by kernel_rfl
theorem app_toks {w:World} {ops:Array Oper} {rest:List Oper} {o:Oper} {a:Act} {Q:Exit→Act→World→Prop} (s x:Operand) {base B n m c:Nat} {A:Option Addr} {v:Value} {xs ys:List Tk}
  (hown:w.ownsRow base 24 8 v n (toks xs)) (hr:Rds w B 8 A m (toks ys)) (hlen:n+m≤1000000000) (hbase:base≤w.heap.size) (hgd:o.guard=none)
  (ho:o.op=.call { callee:=.builtin .append,args:=#[s,x],argTypes:=#[34,34] }) (hs:a.eval s=v) (hx:a.eval x=.slice A m c)
  (h:∀ v' w',w'.ownsRow base 24 8 v' (n+m) (toks (xs ++ ys))→w.grownBy w' v.ownBlock→(v'.ownBlock=v.ownBlock∨v'.ownBlock=some w.heap.size)→wpList Try.prog ops Q rest (a.put o.dst v') w') :
  wpList Try.prog ops Q (o :: rest) a w:=by
 obtain ⟨i0,hi0,hz0,hz1,hz2⟩:=info_parts tok_info
 refine wpList_append_rds w hgd s x _ ho base 24 i0 _ 8 72 Try.underlying34 hi0 hz0 hz1 hz2 rfl (by omega) v n _ hs hown B A m c _ hx hr (toks_one _) (by unfold maxLen;omega) (by omega) hbase ?_
 intro v' w' h1 h2 h3
 exact h v' w' (by rw [toks_append];exact h1) h2 h3
theorem step_app_toks {w:World} {ops:Array Oper} {o:Oper} {a:Act} {K:Act→World→Prop} {Q:Exit→Act→World→Prop} {E:Prop} (s x:Operand) {base B n m c:Nat} {A:Option Addr} {v:Value} {xs ys:List Tk}
  (hown:w.ownsRow base 24 8 v n (toks xs)) (hr:Rds w B 8 A m (toks ys)) (hlen:n+m≤1000000000) (hbase:base≤w.heap.size) (hgd:o.guard=none)
  (ho:o.op=.call { callee:=.builtin .append,args:=#[s,x],argTypes:=#[34,34] }) (hs:a.eval s=v) (hx:a.eval x=.slice A m c)
  (h:∀ v' w',w'.ownsRow base 24 8 v' (n+m) (toks (xs ++ ys))→w.grownBy w' v.ownBlock→(v'.ownBlock=v.ownBlock∨v'.ownBlock=some w.heap.size)→K (a.put o.dst v') w') :
  if Region.wanted o (yielded ops a.tmps)=true then Oper.wp Try.prog o a w K Q else E:=by
 obtain ⟨i0,hi0,hz0,hz1,hz2⟩:=info_parts tok_info
 refine step_append_rds w hgd s x _ ho base 24 i0 _ 8 72 Try.underlying34 hi0 hz0 hz1 hz2 rfl (by omega) v n _ hs hown B A m c _ hx hr (toks_one _) (by unfold maxLen;omega) (by omega) hbase ?_
 intro v' w' h1 h2 h3
 exact h v' w' (by rw [toks_append];exact h1) h2 h3
/-- all tokens from a place on, or what is wrong, and where -/
def toksFrom (d:Int) (l:List Int):Nat→Int→Except (Int × Int) (List (Tk × Int))
 | 0,_=>.ok []
 | k+1,p=>if p < l.length then (match tokenP d l p with
   | .error e=>.error (e,p)
   | .ok q=>match toksFrom d l k q.2 with
    | .error x=>.error x
    | .ok r=>.ok ((q.1,p) :: r)) else .ok []
def pre (acc:List (Tk × Int)):Except (Int × Int) (List (Tk × Int))→Except (Int × Int) (List (Tk × Int))
 | .error x=>.error x
 | .ok r=>.ok (acc ++ r)
theorem pre_nil (r:Except (Int × Int) (List (Tk × Int))):pre [] r=r:=by cases r<;>rfl
theorem toks_end {d:Int} {l:List Int} {p:Int} (h:¬ p < l.length) (k:Nat) (acc:List (Tk × Int)):pre acc (toksFrom d l k p)=.ok acc:=by
 cases k with
 | zero=>simp [toksFrom,pre]
 | succ k=>unfold toksFrom;rw [if_neg h];simp [pre]
theorem toks_bad {d:Int} {l:List Int} {p e:Int} (h:p < l.length) (he:tokenP d l p=.error e) (k:Nat) (acc:List (Tk × Int)):pre acc (toksFrom d l (k+1) p)=.error (e,p):=by
 unfold toksFrom;rw [if_pos h,he];rfl
theorem toks_ok {d:Int} {l:List Int} {p n:Int} {t:Tk} (h:p < l.length) (he:tokenP d l p=.ok (t,n)) (k:Nat) (acc:List (Tk × Int)):pre acc (toksFrom d l (k+1) p)=pre (acc ++ [(t,p)]) (toksFrom d l k n):=by
 conv=>lhs;unfold toksFrom
 rw [if_pos h,he]
 simp only
 cases toksFrom d l k n with
 | error x=>rfl
 | ok r=>simp [pre]
/-- what All tells -/
def allR (d:Int) (l:List Int):Except (Int × Int) (List (Tk × Int)):=if rightE d l≠0 then .error (rightE d l,0) else toksFrom d l (l.length+1) 0
def AOut (w:World):Except (Int × Int) (List (Tk × Int))→Ending→World→Prop
 | .error x,e,w'=>e=.returned (.tuple #[.slice none 0 0,.slice none 0 0,.agg #[.int .i64 x.1,.int .i64 x.2]])
 | .ok r,e,w'=>∃ A c B c',e=.returned (.tuple #[.slice A r.length c,.slice B r.length c',.agg #[.int .i64 0,.int .i64 0]])∧w'.ownsRow w.heap.size 24 8 (.slice A r.length c) r.length (toks (r.map (·.1)))∧w'.ownsRow w.heap.size 3 1 (.slice B r.length c') r.length (ints (r.map (·.2)))
theorem info36:(Try.prog.info? 36).map (·.size)=some 2:=by kernel_rfl
theorem store36 {ops:Array Oper} {rest:List Oper} {o:Oper} {a:Act} {w:World} {Q:Exit→Act→World→Prop} {x y:Operand} {g:Nat} {cells:Array Value} (hgd:o.guard=none) (ho:o.op=.store 36 x y)
  (hx:a.eval x=.pointer (some ⟨g,0,none⟩)) (hy:a.eval y=.agg cells) (hz:w.heap[g]?=some (.cells #[.int .i64 0,.int .i64 0] 36 (0,0))) (hs:cells.size=2) (h1:cells.toList.all (·.oneCell')=true)
  (h:wpList Try.prog ops Q rest (a.put o.dst undef) (w.setRow g cells)):wpList Try.prog ops Q (o :: rest) a w :=
 wpList_store_row hgd 36 x y ho g cells hx hy 36 _ hz (by rw [hs];exact info36) (by rw [hs];rfl) (by rw [← Array.all_toList];exact h1) h
theorem row36 {w:World} {g:Nat} {cs:Array Value} (hz:w.heap[g]?=some (.cells #[.int .i64 0,.int .i64 0] 36 (0,0))):(w.setRow g cs).heap[g]?=some (.cells cs 36 (0,0)):=setRow_heap w g _ cs 36 _ hz
theorem results36q {fn:Func} {p u v:Tmp} (h:fn.results=#[.tmp u,.tmp v,.cell p 36]) (tmps:Array Value) (w:World) (g:Nat) (cs:Array Value) (x y:Value) (hu:tmps.getD u undef=x) (hv:tmps.getD v undef=y) (hp:tmps.getD p undef=.pointer (some ⟨g,0,none⟩)) (hg:w.heap[g]?=some (.cells cs 36 (0,0))) (hs:cs.size=2) :
  (results fn tmps).run Try.prog w=.ok (.tuple #[x,y,.agg cs]) w:=by
 have hl:=run_loadVar_row (P:=Try.prog) w g 36 36 cs (0,0) _ hg Try.underlying36 rfl (by rw [hs];exact info36)
 have hp':tmps[p]?.getD undef=.pointer (some ⟨g,0,none⟩):=by simpa using hp
 have hu':tmps[u]?.getD undef=x:=by simpa using hu
 have hv':tmps[v]?.getD undef=y:=by simpa using hv
 simp [results,h,hp',hu',hv',asAddr,hl,Sem.run_bind]
theorem raw_ok {d at_:Int} {l:List Int} {t:Tk} {nx:Int} {A:Option Addr} {n c:Nat} {w:World} (hr:rightE d l=0) (h0:0≤at_) (h1:at_ < n) (hc:n≤c) (ha:Rds w w.heap.size 1 A n (ints l)) (hE:tokenP d l at_=.ok (t,nx)) :
  Calls Try.prog 15 #[.int .i64 d,.slice A n c,.int .i64 at_] w fun e w'=>e=.returned (.tuple #[.agg #[.int .i64 t.kind,.int .i64 t.num,.string ⟨t.text.toArray⟩,.bool t.not_,.int .i64 t.least,.int .i64 t.most,.int .i64 t.way,.int .i64 t.fold],.int .i64 nx,.int .i64 0])∧Below w.heap.size w w':=by
 have:=raw_tok d at_ l A n c w hr h0 h1 hc ha
 rw [hE] at this
 exact this
theorem raw_bad {d at_:Int} {l:List Int} {x:Int} {A:Option Addr} {n c:Nat} {w:World} (hr:rightE d l=0) (h0:0≤at_) (h1:at_ < n) (hc:n≤c) (ha:Rds w w.heap.size 1 A n (ints l)) (hE:tokenP d l at_=.error x) :
  Calls Try.prog 15 #[.int .i64 d,.slice A n c,.int .i64 at_] w fun e w'=>e=.returned (.tuple #[.agg #[.int .i64 0,.int .i64 0,.string ⟨#[]⟩,.bool false,.int .i64 0,.int .i64 0,.int .i64 0,.int .i64 0],.int .i64 0,.int .i64 x])∧Below w.heap.size w w':=by
 have:=raw_tok d at_ l A n c w hr h0 h1 hc ha
 rw [hE] at this
 exact this
theorem own_lt {w:World} {base n size:Nat} {e:TypeId} {v:Value} {xs:List Value} (h:w.ownsRow base e size v n xs) {g:Nat} (hg:v.ownBlock=some g):g < w.heap.size:=by
 rcases h.2 with ⟨rfl,_⟩|⟨b,cap,cur,rfl,_,hh,_⟩
 ·cases hg
 ·simp [Value.ownBlock] at hg
  subst hg
  exact lt_heap hh
theorem ne_turn {a b:Option Nat} (h:a=none∨a≠b):b=none∨b≠a:=by
 rcases h with rfl|h
 ·cases b<;>simp
 ·exact .inr fun e=>h e.symm
theorem ne_first {a b c:Option Nat} {x y:Nat} (h:a=none∨a≠b) (hc:c=a∨c=some x) (hb:∀ g,b=some g→g < y) (hy:y≤x):c=none∨c≠b:=by
 rcases hc with rfl|rfl
 ·exact h
 ·exact .inr fun e=>by have:=hb x e.symm;omega
theorem ne_second {b c b':Option Nat} {x y:Nat} (h:c=none∨c≠b) (hb':b'=b∨b'=some x) (hc:∀ g,c=some g→g < y) (hy:y≤x):c=none∨c≠b':=by
 rcases hb' with rfl|rfl
 ·exact h
 ·exact .inr fun e=>by have:=hc x e;omega
theorem toks_snoc (acc:List (Tk × Int)) (t:Tk) (p:Int):toks ((acc ++ [(t,p)]).map (·.1))=toks (acc.map (·.1) ++ [t]):=by simp
theorem places_snoc (acc:List (Tk × Int)) (t:Tk) (p:Int):ints ((acc ++ [(t,p)]).map (·.2))=ints (acc.map (·.2) ++ [p]):=by simp
theorem own_setRow {w:World} {base n size g:Nat} {e:TypeId} {v:Value} {xs:List Value} {cs:Array Value} (h:w.ownsRow base e size v n xs) (h':w.ownsRow (g+1) e size v n xs):(w.setRow g cs).ownsRow base e size v n xs:=by
 refine ⟨h.1,?_⟩
 rcases h.2 with h0|⟨b,cap,cur,hv,hb,hh,hr⟩
 ·exact .inl h0
 ·refine .inr ⟨b,cap,cur,hv,hb,?_,hr⟩
  rcases h'.2 with ⟨h0,_⟩|⟨b',_,_,hv',hb',_⟩
  ·rw [h0] at hv;cases hv
  ·rw [hv] at hv';cases hv';rw [setRow_ne _ _ _ _ (by omega)];exact hh
set_option maxRecDepth 100000 in
set_option maxHeartbeats 4000000 in
theorem all13 (d:Int) (l:List Int) (A:Option Addr) (n c:Nat) (w:World) (hn:n≤maxLen) (hc:n≤c) (ha:Rds w w.heap.size 1 A n (ints l)) :
  Calls Try.prog 13 #[.int .i64 d,.slice A n c] w fun e w'=>AOut w (allR d l) e w'∧Below w.heap.size w w':=by
 have HLN:=Lib.hid ha.ints_len
 have HA:=Lib.hid ha
 have R:=Lib.hid (fun w' (h:Below w.heap.size w w')=>right14 d l A n c w.heap.size w' hn (ha.below h (Nat.le_refl _)))
 have hm:=hn
 unfold maxLen at hm
 obtain ⟨r,hr⟩:∃ r,r=allR d l:=⟨_,rfl⟩
 rw [← hr]
 have HR:=Lib.hid hr
 clear hr ha hn
 have HZ0:Hid ((w.alloc (.cells #[.int .i64 0,.int .i64 0] 36)).heap[w.heap.size]?=some (.cells #[.int .i64 0,.int .i64 0] 36 (0,0))):=Lib.hid (heap_alloc_new w _)
 have HB0:Hid (Below w.heap.size w (w.alloc (.cells #[.int .i64 0,.int .i64 0] 36))):=Lib.hid ((Below.refl _ _).alloc (Nat.le_refl _) _)
 have HS0:(w.alloc (.cells #[.int .i64 0,.int .i64 0] 36)).heap.size=w.heap.size+1:=by simp
 obtain ⟨W,hW⟩:∃ W,W=w.alloc (.cells #[.int .i64 0,.int .i64 0] 36):=⟨_,rfl⟩
 rw [← hW] at HZ0 HB0 HS0
 have hlW:w.heap.size < W.heap.size:=by omega
 have hWs:=Lib.hid HS0
 clear HS0
 obtain ⟨ee,hee⟩:∃ ee,ee=rightE d l:=⟨_,rfl⟩
 have R0:=Lib.hid (R.out W HB0.out)
 rw [← hee] at R0
 have HEE:=Lib.hid hee
 clear hee R
 by_cases h0:ee=0
 ·have HRT:=Lib.hid (rightE_ok (d:=d) (l:=l) (by rw [← HEE.out];exact h0))
  have hn3:n≤300:=by rw [← HLN.out];exact HRT.out.1
  have HRR:=Lib.hid (show r=toksFrom d l (n+1) 0 by rw [HR.out,allR,← HEE.out,if_neg (by omega),HLN.out])
  have HRE:=Lib.hid (show rightE d l=0 by rw [← HEE.out];exact h0)
  subst h0
  clear HR
  go_enter Try.func13,Try.ntmps13
  go_upto_region 1 with (fail)
  rw [← hW]
  clear hW
  go_wp2_with (go_at_call 14;(with_reducible refine R0.out.mono ?_);rintro e w' ⟨rfl,rfl⟩)
  go_loopw [8,9,10] (fun v8 v9 i wr=>∃ (p:Int) (acc:List (Tk × Int)) (k:Nat),i=.int .i64 p∧0≤p∧p≤n∧(acc.length:Int)≤p∧(n - p).toNat < k∧Hid (r=pre acc (toksFrom d l k p)) ∧
    wr.ownsRow (w.heap.size+1) 24 8 v8 acc.length (toks (acc.map (·.1)))∧wr.ownsRow (w.heap.size+1) 3 1 v9 acc.length (ints (acc.map (·.2)))∧(v8.ownBlock=none∨v8.ownBlock≠v9.ownBlock)∧Below (w.heap.size+1) W wr) (fun _ _ i _=>n - (intOf i).toNat)
  case atStart=>exact ⟨0,[],n+1,rfl,Int.le_refl _,by omega,by simp,by omega,Lib.hid (by rw [pre_nil];exact HRR.out),World.ownsRow_nil _ _ _ _,World.ownsRow_nil _ _ _ _,.inl rfl,Below.refl _ _⟩
  case round =>
   obtain ⟨p,acc,k,rfl,hp0,hpn,hacc,hk,hR,ho8,ho9,hne,hB⟩:=hrel
   have HO8:=Lib.hid ho8
   have HO9:=Lib.hid ho9
   have HNE:=Lib.hid hne
   have HB:=Lib.hid hB
   clear ho8 ho9 hne hB
   have HWR:=Lib.hid (HB0.out.trans (HB.out.mono (by omega)))
   have hsz:=HB.out.size
   have HZ1:=Lib.hid ((HB.out.block w.heap.size (by omega)).trans HZ0.out)
   have hw1:w.heap.size < wr.heap.size:=by omega
   by_cases hlt:p < n
   ·have HAR:=Lib.hid ((HA.out.below HWR.out (Nat.le_refl _)).more HWR.out.size)
    obtain ⟨k',rfl⟩:∃ k',k=k'+1:=⟨k - 1,by omega⟩
    cases hE:tokenP d l p with
    | error x =>
     have HF:=Lib.hid (hR.out.trans (toks_bad (by rw [HLN.out];exact hlt) hE k' acc))
     have C:=Lib.hid (raw_bad (A:=A) (c:=c) (w:=wr) HRE.out hp0 hlt hc HAR.out hE)
     have he0:(x != 0)=true:=by have:=token_er d l p x hE;simpa using this
     clear hE hR
     go_wp2_with (first
      | (go_at_call 15;(with_reducible refine C.out.mono ?_);rintro e w1 ⟨rfl,hb⟩;have HB1:=Lib.hid (HB.out.trans (hb.mono (by omega)));clear hb;have hs1:=HB1.out.size;have HZ2:=Lib.hid ((HB1.out.block w.heap.size (by omega)).trans HZ0.out);have HW1:=Lib.hid (HB0.out.trans (HB1.out.mono (by omega))))
      | ((with_reducible apply store36 (g:=w.heap.size));rfl;(with_reducible rfl);rfl;rfl;(exact hz_alloc HZ2.out);rfl;rfl))
     ((try simp only [Exit.inBlock,Exit.then]);refine bodyPost_ret (v:=_) (results36q Try.results13 _ _ w.heap.size _ (.slice none 0 0) (.slice none 0 0) ?_ ?_ ?_ (row36 ?_) ?_) rfl (And.intro (by rw [HF.out];rfl) ?_);rfl;rfl;rfl;(exact hz_alloc HZ2.out);rfl;exact Below.setRow (HW1.out.alloc (by omega) _) (Nat.le_refl _) _)
    | ok q =>
     obtain ⟨t,nx⟩:=q
     have HF:=Lib.hid (hR.out.trans (toks_ok (by rw [HLN.out];exact hlt) hE k' acc))
     have C:=Lib.hid (raw_ok (A:=A) (c:=c) (w:=wr) HRE.out hp0 hlt hc HAR.out hE)
     obtain ⟨hm1,hm2⟩:=token_mv d l p (by rw [HLN.out];exact hlt) t nx hE
     rw [HLN.out] at hm2
     clear hE hR
     go_wp2_with (first
      | (go_at_call 15;(with_reducible refine C.out.mono ?_);rintro e w1 ⟨rfl,hb⟩;have HB1:=Lib.hid (HB.out.trans (hb.mono (by omega)));have HO81:=Lib.hid (own_below HO8.out hb (Nat.le_refl _));have HO91:=Lib.hid (own_below HO9.out hb (Nat.le_refl _));have HL9:=Lib.hid (fun g hg=>own_lt HO9.out (g:=g) hg);have hs1w:=hb.size;clear hb;have hs1:=HB1.out.size
         obtain ⟨w2,hw2⟩:∃ w2,w2=((w1.alloc (.cells #[.int .i64 t.kind,.int .i64 t.num,.string ⟨t.text.toArray⟩,.bool t.not_,.int .i64 t.least,.int .i64 t.most,.int .i64 t.way,.int .i64 t.fold] 24)).alloc (.cells #[.int .i64 t.kind,.int .i64 t.num,.string ⟨t.text.toArray⟩,.bool t.not_,.int .i64 t.least,.int .i64 t.most,.int .i64 t.way,.int .i64 t.fold] 24)):=⟨_,rfl⟩
         have HB2:Hid (Below (w.heap.size+1) W w2):=Lib.hid (by rw [hw2];exact (HB1.out.alloc (by omega) _).alloc (by simp;omega) _)
         have hs2:w2.heap.size=w1.heap.size+2:=by rw [hw2];simp
         have HX:=Lib.hid (show Rds w2 w2.heap.size 8 (some ⟨w1.heap.size+1,0,none⟩) 1 (toks [t]) by rw [hw2];have:=Rds.new (w1.alloc (.cells #[.int .i64 t.kind,.int .i64 t.num,.string ⟨t.text.toArray⟩,.bool t.not_,.int .i64 t.least,.int .i64 t.most,.int .i64 t.way,.int .i64 t.fold] 24)) 8 1 #[.int .i64 t.kind,.int .i64 t.num,.string ⟨t.text.toArray⟩,.bool t.not_,.int .i64 t.least,.int .i64 t.most,.int .i64 t.way,.int .i64 t.fold] 24 (toks [t]) (by simp [toks,Tk.cells]) (by simp [toks,Tk.cells]);simpa using this)
         have HO82:=Lib.hid (show w2.ownsRow (w.heap.size+1) 24 8 u8 acc.length (toks (acc.map (·.1))) by rw [hw2];exact own_below (own_below HO81.out ((Below.refl _ _).alloc (Nat.le_refl _) _) (Nat.le_refl _)) ((Below.refl _ _).alloc (Nat.le_refl _) _) (Nat.le_refl _))
         have HO92:=Lib.hid (show w2.ownsRow (w.heap.size+1) 3 1 u9 acc.length (ints (acc.map (·.2))) by rw [hw2];exact own_below (own_below HO91.out ((Below.refl _ _).alloc (Nat.le_refl _) _) (Nat.le_refl _)) ((Below.refl _ _).alloc (Nat.le_refl _) _) (Nat.le_refl _)))
      | (at_builtin;rw [← hw2];clear hw2;refine app_toks (.tmp 38) (.tmp 40) (base:=w.heap.size+1) (xs:=acc.map (·.1)) (ys:=[t]) (by exact HO82.out) HX.out (by omega) (by omega) rfl rfl rfl rfl ?_;intro v3 w3 hown3 hg3 hat3
         have HB3:=Lib.hid (show Below (w.heap.size+1) W w3 from grown_own HB2.out HO82.out hg3 (Nat.le_refl _) (by omega))
         have hs3:=HB3.out.size
         have hs23:=hg3.size
         have HNE3:=Lib.hid (ne_first HNE.out hat3 HL9.out (by omega))
         have HO93:=Lib.hid (own_below (HO92.out.kept hg3 (ne_turn HNE.out)) ((Below.refl _ _).alloc (Nat.le_refl _) (.cells #[.int .i64 p] 3)) (Nat.le_refl _))
         have HO83:=Lib.hid (own_below hown3 ((Below.refl _ _).alloc (Nat.le_refl _) (.cells #[.int .i64 p] 3)) (Nat.le_refl _))
         have HL8:=Lib.hid (fun g hg=>own_lt hown3 (g:=g) hg)
         have HX3:=Lib.hid (show Rds (w3.alloc (.cells #[.int .i64 p] 3)) (w3.heap.size+1) 1 (some ⟨w3.heap.size,0,none⟩) 1 (ints [p]) from Rds.new w3 1 1 #[.int .i64 p] 3 (ints [p]) rfl rfl)
         clear hown3 hg3 hat3)
      | (at_builtin;refine app_ints (.tmp 42) (.tmp 44) (base:=w.heap.size+1) (xs:=acc.map (·.2)) (ys:=[p]) (by exact HO93.out) HX3.out (by omega) (by simp;omega) rfl rfl rfl rfl ?_;intro v4 w4 hown4 hg4 hat4
         have HB4:=Lib.hid (show Below (w.heap.size+1) W w4 from grown_own (HB3.out.alloc (by omega) _) HO93.out hg4 (Nat.le_refl _) (by simp;omega))
         have HNE4:=Lib.hid (ne_second HNE3.out hat4 HL8.out (by simp))
         have HO84:=Lib.hid (HO83.out.kept hg4 HNE3.out)
         have HO94:=Lib.hid hown4
         clear hown4 hg4 hat4))
     go_roundw
     case rel=>exact ⟨nx,acc ++ [(t,p)],k',rfl,by omega,hm2,by simp;omega,by omega,HF,by rw [toks_snoc];simpa using HO84.out,by rw [places_snoc];simpa using HO94.out,HNE4.out,HB4.out⟩
     case measure=>simp [intOf];omega
   ·have HF:=Lib.hid (hR.out.trans (toks_end (by rw [HLN.out];exact hlt) k acc))
    clear hR
    obtain ⟨A8,c8,rfl,hc8,-⟩:=own_slice HO8.out
    obtain ⟨A9,c9,rfl,hc9,-⟩:=own_slice HO9.out
    go_wp2_with ((with_reducible apply store36 (g:=w.heap.size));rfl;(with_reducible rfl);rfl;rfl;(exact HZ1.out);rfl;rfl)
    ((try simp only [Exit.inBlock,Exit.then]);refine bodyPost_ret (v:=_) (results36q Try.results13 _ _ w.heap.size _ (.slice A8 acc.length c8) (.slice A9 acc.length c9) ?_ ?_ ?_ (row36 ?_) ?_) rfl (And.intro (by rw [HF.out];exact ⟨A8,c8,A9,c9,rfl,own_setRow (own_mono HO8.out (Nat.le_succ _)) HO8.out,own_setRow (own_mono HO9.out (Nat.le_succ _)) HO9.out⟩) ?_);rfl;rfl;rfl;(exact HZ1.out);rfl;exact Below.setRow HWR.out (Nat.le_refl _) _)
 ·have hE:r=.error (ee,0):=by rw [HR.out,allR,← HEE.out,if_pos h0]
  subst hE
  have hz:(ee == 0)=false:=by simpa using h0
  have hz2:(ee != 0)=true:=by simpa using h0
  clear h0
  go_enter Try.func13,Try.ntmps13
  go_upto_region 1 with (fail)
  rw [← hW]
  clear hW
  go_wp2_with (first
   | (go_at_call 14;(with_reducible refine R0.out.mono ?_);rintro e w' ⟨rfl,rfl⟩)
   | ((with_reducible apply store36 (g:=w.heap.size));rfl;(with_reducible rfl);rfl;rfl;(exact HZ0.out);rfl;rfl))
  ((try simp only [Exit.inBlock,Exit.then]);refine bodyPost_ret (v:=_) (results36q Try.results13 _ _ w.heap.size _ (.slice none 0 0) (.slice none 0 0) ?_ ?_ ?_ (row36 ?_) ?_) rfl (And.intro rfl ?_);rfl;rfl;rfl;(exact HZ0.out);rfl;exact Below.setRow HB0.out (Nat.le_refl _) _)
end Go.Proofs.Ytmjlmjlkghpknaa
