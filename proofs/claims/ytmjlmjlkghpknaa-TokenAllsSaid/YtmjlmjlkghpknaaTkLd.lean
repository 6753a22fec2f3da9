/- TokenGreedy: walked. -/
import Derived.Test.YtmjlmjlkghpknaaTkLc
set_option linter.unusedVariables false
set_option linter.unusedSimpArgs false
namespace Go.Proofs.Ytmjlmjlkghpknaa
open Go.RowKit
/-- nothing that only the first dialect has -/
def Gr (t:Tk):Prop:=(t.kind=6→t.way=1)∧t.fold=0∧(t.kind=7→t.num=11∧t.text=[])∧t.kind≠11
def Gd (r:TR):Prop:=∀ t n,r=.ok (t,n)→Gr t
theorem gd_ite {c:Prop} [Decidable c] {x y:TR} (h1:Gd x) (h2:Gd y):Gd (if c then x else y):=by split<;>assumption
theorem gd_ok {t:Tk} {n:Int} (h:Gr t):Gd (.ok (t,n)):=by intro t' n' e;cases e;exact h
theorem gd_bad {e:Int}:Gd (.error e):=by intro t' n' e;cases e
theorem gr_lit {k:Int} {t:Tk} (h6:k≠6) (h7:k≠7) (h11:k≠11) (hk:t.kind=k) (hf:t.fold=0):Gr t:=⟨fun h=>absurd (hk.symm.trans h) h6,hf,fun h=>absurd (hk.symm.trans h) h7,by omega⟩
theorem point_gr (p:Int):Gr (pointT p):=gr_lit (k:=1) (by decide) (by decide) (by decide) rfl rfl
theorem look_gr (p:Int):Gr (lookT p):=gr_lit (k:=3) (by decide) (by decide) (by decide) rfl rfl
theorem repeat_gd {d:Int} (hd:d≠1) (l:List Int) (p x y:Int):Gd (.ok (repeatP d l p x y)):=by
 unfold repeatP
 rw [if_neg (fun h=>hd h.1),if_neg (fun h=>hd h.1)]
 exact gd_ok ⟨fun _=>rfl,rfl,fun h=>absurd (show (6:Int)=7 from h) (by decide),show (6:Int)≠11 by decide⟩
theorem times_gd {d:Int} (hd:d≠1) (l:List Int) (p x y:Int):Gd (timesP d l p x y):=gd_ite gd_bad (gd_ite gd_bad (repeat_gd hd l p x y))
theorem intervalE_gd {d:Int} (hd:d≠1) (l:List Int) (p:Int) (x y:List Int):∀ r,intervalE d l p x y=some r→Gd r:=by
 intro r
 unfold intervalE
 repeat' split
 all_goals (intro e;cases e)
 all_goals exact times_gd hd _ _ _ _
theorem brace_gd {d:Int} (hd:d≠1) (l:List Int) (p q:Int):Gd (braceP d l p q):=by
 unfold braceP
 split
 ·rename_i r h;exact intervalE_gd hd l _ _ _ r h
 ·exact gd_ite (gd_ok (point_gr _)) gd_bad
theorem open_gd {d:Int} (hd:d≠1) (l:List Int) (p:Int):Gd (openP d l p):=by
 unfold openP
 rw [if_pos hd]
 exact gd_ok ⟨fun h=>absurd h (by decide),rfl,fun _=>⟨rfl,rfl⟩,by decide⟩
theorem emacs_gd (l:List Int) (p q:Int):Gd (emacsP l p q):=by
 unfold emacsP
 refine gd_ite (open_gd (by decide) _ _) (gd_ite (gd_ok (gr_lit (k:=8) ?_ ?_ ?_ rfl rfl)) (gd_ite (gd_ok (gr_lit (k:=9) ?_ ?_ ?_ rfl rfl)) (gd_ite (brace_gd (by decide) _ _ _) (gd_ite (gd_ok (gr_lit (k:=4) ?_ ?_ ?_ rfl rfl)) (gd_ite (gd_ok (gr_lit (k:=4) ?_ ?_ ?_ rfl rfl)) (gd_ite (gd_ok (look_gr _)) (gd_ite (gd_ok (look_gr _)) (gd_ite (gd_ok (look_gr _)) (gd_ite (gd_ok (look_gr _)) (gd_ite (gd_ok (gr_lit (k:=10) ?_ ?_ ?_ rfl rfl)) (gd_ok (point_gr _))))))))))))<;>decide
theorem escaped_gd {d:Int} (h:d=2∨d=3) (l:List Int) (p:Int):Gd (escapedP d l p):=by
 unfold escapedP
 simp only
 rcases h with rfl|rfl
 ·exact gd_ite gd_bad (by rw [if_pos rfl];exact gd_ok (point_gr _))
 ·exact gd_ite gd_bad (by rw [if_neg (by decide),if_pos rfl];exact emacs_gd _ _ _)
theorem token_gd {d:Int} (h:d=2∨d=3) (l:List Int) (p:Int):Gd (tokenP d l p):=by
 have hd:d≠1:=by omega
 unfold tokenP
 simp only
 refine gd_ite (gd_ok (gr_lit (k:=2) ?_ ?_ ?_ rfl rfl)) (gd_ite (gd_ok (look_gr _)) (gd_ite (gd_ok (look_gr _)) (gd_ite (gd_ok (gr_lit (k:=5) ?_ ?_ ?_ rfl rfl)) (gd_ite (repeat_gd hd _ _ _ _) (gd_ite (repeat_gd hd _ _ _ _) (gd_ite (repeat_gd hd _ _ _ _) (gd_ite (escaped_gd h _ _) (gd_ite (gd_ok (point_gr _)) (gd_ite (open_gd hd _ _) (gd_ite (gd_ok (gr_lit (k:=8) ?_ ?_ ?_ rfl rfl)) (gd_ite (gd_ok (gr_lit (k:=9) ?_ ?_ ?_ rfl rfl)) (gd_ite (brace_gd hd _ _ _) (gd_ok (point_gr _))))))))))))))<;>decide
theorem toks_gr {d:Int} (h:d=2∨d=3) (l:List Int) (k:Nat):∀ p r,toksFrom d l k p=.ok r→∀ q ∈ r,Gr q.1:=by
 induction k with
 | zero=>intro p r e;cases e;simp
 | succ k ih =>
  intro p r e
  unfold toksFrom at e
  split at e
  ·cases hE:tokenP d l p with
   | error x=>rw [hE] at e;cases e
   | ok q =>
    rw [hE] at e
    simp only at e
    cases hK:toksFrom d l k q.2 with
    | error x=>rw [hK] at e;cases e
    | ok r' =>
     rw [hK] at e
     cases e
     intro y hy
     rcases List.mem_cons.1 hy with rfl|hy
     ·exact token_gd h l p q.1 q.2 hE
     ·exact ih _ _ hK y hy
  ·cases e;simp
theorem all_gr {d:Int} {l:List Int} {r:List (Tk × Int)} (h:allR d l=.ok r) (hd:d≠1):∀ q ∈ r,Gr q.1:=by
 unfold allR at h
 split at h
 ·cases h
 ·rename_i h0
  have:=rightE_ok (d:=d) (l:=l) (by omega)
  exact toks_gr (by omega) l _ _ _ h
theorem toks_at (l:List Tk):∀ (k:Nat) (h:k < l.length) (j:Nat),j < 8→(toks l)[k * 8+j]?=l[k].cells[j]?:=by
 induction l with
 | nil=>intro k h;cases h
 | cons t l ih =>
  intro k h j hj
  have ht:toks (t :: l)=t.cells ++ toks l:=rfl
  rw [ht]
  cases k with
  | zero=>rw [List.getElem?_append_left (by simp [Tk.cells];omega)];simp
  | succ k =>
   rw [List.getElem?_append_right (by simp [Tk.cells];omega),show (k+1) * 8+j - t.cells.length=k * 8+j from by simp [Tk.cells];omega,ih k (by simpa using h) j hj]
   simp
theorem Rds.tok_at {w:World} {B n:Nat} {A:Option Addr} {l:List Tk} (h:Rds w B 8 A n (toks l)) {k:Nat} (hk:k < n) (hl:l.length=n) :
  ∃ b off,A=some ⟨b,off,none⟩∧b < B∧w.cell? ⟨b,off+k * 8,none⟩=some (.int .i64 (l[k]'(by omega)).kind)∧w.cell? ⟨b,off+k * 8+1,none⟩=some (.int .i64 (l[k]'(by omega)).num)∧w.cell? ⟨b,off+k * 8+2,none⟩=some (.string ⟨(l[k]'(by omega)).text.toArray⟩)∧w.cell? ⟨b,off+k * 8+3,none⟩=some (.bool (l[k]'(by omega)).not_)∧w.cell? ⟨b,off+k * 8+4,none⟩=some (.int .i64 (l[k]'(by omega)).least)∧w.cell? ⟨b,off+k * 8+5,none⟩=some (.int .i64 (l[k]'(by omega)).most)∧w.cell? ⟨b,off+k * 8+6,none⟩=some (.int .i64 (l[k]'(by omega)).way)∧w.cell? ⟨b,off+k * 8+7,none⟩=some (.int .i64 (l[k]'(by omega)).fold):=by
 obtain ⟨b,off,hA,hb,hc⟩:=h.2 (by omega)
 have at_:=fun j hj=>toks_at l k (by omega) j hj
 have h0:=hc (k * 8) _ ((at_ 0 (by omega)).trans rfl)
 have h1:=hc (k * 8+1) _ ((at_ 1 (by omega)).trans rfl)
 have h2:=hc (k * 8+2) _ ((at_ 2 (by omega)).trans rfl)
 have h3:=hc (k * 8+3) _ ((at_ 3 (by omega)).trans rfl)
 have h4:=hc (k * 8+4) _ ((at_ 4 (by omega)).trans rfl)
 have h5:=hc (k * 8+5) _ ((at_ 5 (by omega)).trans rfl)
 have h6:=hc (k * 8+6) _ ((at_ 6 (by omega)).trans rfl)
 have h7:=hc (k * 8+7) _ ((at_ 7 (by omega)).trans rfl)
 exact ⟨b,off,hA,hb,h0,h1,h2,h3,h4,h5,h6,h7⟩
set_option maxRecDepth 100000 in
set_option maxHeartbeats 4000000 in
theorem lawTokenGreedy (d:Int) (l:List Int) (A:Option Addr) (n c:Nat) (w:World) (hnc:n≤c) (hc:c≤maxLen) (ha:Rds w w.heap.size 1 A n (ints l)) :
  Calls Try.prog 7 #[.int .i64 d,.slice A n c] w fun e w'=>e=.returned (.bool true)∧Below w.heap.size w w':=by
 have C1:=Lib.hid (fun w' (hb:Below w.heap.size w w')=>all13 d l A n c w' (Nat.le_trans hnc hc) hnc ((ha.below hb (Nat.le_refl _)).more hb.size))
 have HG:=Lib.hid (fun r (h:allR d l=.ok r) (hd:d≠1)=>all_gr h hd)
 obtain ⟨r,hr⟩:∃ r,r=allR d l:=⟨_,rfl⟩
 rw [← hr] at C1 HG
 clear hr ha
 cases r with
 | error x =>
  go_enter Try.func7,Try.ntmps7
  go_wp2_with (first
   | (go_at_call 11;refine (tokenBegun11 w).mono ?_;rintro e w1 ⟨rfl,hb⟩;have HB1:=Lib.hid hb;clear hb)
   | (go_at_call 13;(with_reducible refine (C1.out w1 HB1.out).mono ?_);rintro e w2 ⟨he,hb⟩;obtain rfl:=(show e=.returned (.tuple #[.slice none 0 0,.slice none 0 0,.agg #[.int .i64 x.1,.int .i64 x.2]]) from he);clear he;have HB2:=Lib.hid (HB1.out.trans (hb.mono HB1.out.size));clear hb;have hz2:=HB2.out.size))
  go_loopw [8] (fun i wr=>i=.int .i64 0∧w2.alloc (.cells #[.int .i64 x.1,.int .i64 x.2] 36)=wr) (fun _ _=>0)
  case atStart=>exact ⟨rfl,rfl⟩
  case round =>
   obtain ⟨rfl,rfl⟩:=hrel
   go_wp2_with fail
   go_ret
   exact ⟨rfl,HB2.out.alloc hz2 _⟩
 | ok r =>
  go_enter Try.func7,Try.ntmps7
  go_wp2_with (first
   | (go_at_call 11;refine (tokenBegun11 w).mono ?_;rintro e w1 ⟨rfl,hb⟩;have HB1:=Lib.hid hb;clear hb)
   | (go_at_call 13;(with_reducible refine (C1.out w1 HB1.out).mono ?_);rintro e w2 ⟨⟨A8,c8,A9,c9,rfl,hA,hP⟩,hb⟩;have HB2:=Lib.hid (HB1.out.trans (hb.mono HB1.out.size));clear hb hP;have hz2:=HB2.out.size;have HR2:=Lib.hid (Rds.of_own hA);have hm8:r.length≤maxLen:=(by obtain ⟨_,_,_,h1,h2⟩:=own_slice hA;exact Nat.le_trans h1 h2);unfold maxLen at hm8;clear hA))
  have HF0:=Lib.hid (heap_alloc_new w2 (.cells #[.int .i64 0,.int .i64 0] 36))
  obtain ⟨W,hW⟩:∃ W,W=w2.alloc (.cells #[.int .i64 0,.int .i64 0] 36):=⟨_,rfl⟩
  have HBW:=Lib.hid (show Below w.heap.size w W by rw [hW];exact HB2.out.alloc hz2 _)
  have HRW:=Lib.hid (show Rds W w2.heap.size 8 A8 r.length (toks (r.map (·.1))) by rw [hW];exact HR2.out.alloc (Nat.le_refl _) _)
  have hWs:W.heap.size=w2.heap.size+1:=by rw [hW];simp
  rw [← hW] at HF0 ⊢
  clear hW HR2
  have HLT:=Lib.hid (show (r.map (·.1)).length=r.length by simp)
  go_loopw [8] (fun i wr=>∃ k:Nat,k≤r.length∧i=.int .i64 k∧Below (w2.heap.size+1) W wr) (fun i _=>r.length - (intOf i).toNat)
  case atStart=>exact ⟨0,Nat.zero_le _,rfl,Below.refl _ _⟩
  case round =>
   obtain ⟨k,hk,rfl,hB⟩:=hrel
   have HB:=Lib.hid hB
   have hsz:=hB.size
   have HX:=Lib.hid (HBW.out.trans (hB.mono (by omega)))
   have hw2:w2.heap.size < wr.heap.size:=by omega
   have z0:=cell_of_row wr w2.heap.size 0 _ _ _ ((hB.block w2.heap.size (by omega)).trans HF0.out)
   have z1:=cell_of_row wr w2.heap.size (0+1) _ _ _ ((hB.block w2.heap.size (by omega)).trans HF0.out)
   simp only [show (#[Value.int IntKind.i64 0,Value.int IntKind.i64 0]:Array Value)[0]?=some (.int .i64 0) from rfl,show (#[Value.int IntKind.i64 0,Value.int IntKind.i64 0]:Array Value)[0+1]?=some (.int .i64 0) from rfl] at z0 z1
   clear hB
   by_cases hlt:k < r.length
   ·have hlti:(k:Int) < (r.length:Int):=by omega
    have HK1:=Lib.hid (show k+1≤r.length from hlt)
    have HW2:=Lib.hid (show w2.heap.size+1≤wr.heap.size by omega)
    by_cases hd:d=1
    ·subst hd
     go_wp2_with fail
     go_ret
     exact ⟨rfl,HX.out⟩
    ·have hdb:(d != 1)=true:=by simpa using hd
     obtain ⟨b8,o8,rfl,hb8,k1,k2,k3,k4,k5,k6,k7,k8⟩:=(HRW.out.below HB.out (by omega)).tok_at hlt HLT.out
     have hg:=HG.out r rfl hd (r[k]) (List.getElem_mem _)
     have hbl:b8 < wr.heap.size:=by omega
     have hkk:(r.map (·.1))[k]'(by simpa using hlt)=(r[k]).1:=List.getElem_map _
     rw [hkk] at k1 k2 k3 k4 k5 k6 k7 k8
     obtain ⟨tk,htk⟩:∃ t,t=(r[k]).1:=⟨_,rfl⟩
     rw [← htk] at k1 k2 k3 k4 k5 k6 k7 k8 hg
     clear htk hkk hd
     obtain ⟨tkind,tnum,ttext,tnot,tleast,tmost,tway,tfold⟩:=tk
     unfold Gr at hg
     simp only at hg k1 k2 k3 k4 k5 k6 k7 k8
     obtain ⟨g1,rfl,g3,g4⟩:=hg
     have g4b:(tkind == 11)=false:=by simpa using g4
     clear g4
     by_cases h6:tkind=6
     ·have g1':=g1 h6
      subst h6
      subst g1'
      clear g1 g3 g4b
      go_wp2_with fail
      go_roundw
      case rel=>exact ⟨k+1,HK1.out,by go_num,HB.out.alloc HW2.out _⟩
      case measure=>have:=HK1.out;simp [intOf];omega
     ·have h6b:(tkind == 6)=false:=by simpa using h6
      by_cases h7:tkind=7
      ·obtain ⟨g5,g6⟩:=g3 h7
       subst h7
       subst g5
       subst g6
       clear g1 g3 g4b h6b h6
       go_wp2_with fail
       go_roundw
       case rel=>exact ⟨k+1,HK1.out,by go_num,HB.out.alloc HW2.out _⟩
       case measure=>have:=HK1.out;simp [intOf];omega
      ·have h7b:(tkind == 7)=false:=by simpa using h7
       clear g1 g3 h6 h7
       go_wp2_with fail
       go_roundw
       case rel=>exact ⟨k+1,HK1.out,by go_num,HB.out.alloc HW2.out _⟩
       case measure=>have:=HK1.out;simp [intOf];omega
   ·have hlti:¬ (k:Int) < (r.length:Int):=by omega
    go_wp2_with fail
    go_ret
    exact ⟨rfl,HX.out⟩
end Go.Proofs.Ytmjlmjlkghpknaa
