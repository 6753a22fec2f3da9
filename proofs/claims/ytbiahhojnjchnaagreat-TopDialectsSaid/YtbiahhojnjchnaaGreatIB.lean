/-
  The parser's knot: patterns over atoms over patterns, by how deep. The parser's knot, tied.
-/
import Derived.Test.YtbiahhojnjchnaaGreatPnL
set_option linter.unusedVariables false
set_option linter.unusedSimpArgs false
namespace Go.Proofs.YtbiahhojnjchnaaGreat
open Go.RowKit
theorem flatEi_sizeL (ts:List Tr):sizeL (ts.flatMap flatEi)≤sizeL ts:=by
 induction ts with
 | nil=>simp
 | cons t ts ih =>
  rw [List.flatMap_cons,sizeL_append,sizeL]
  have:sizeL (flatEi t)≤sizeT t:=by
   unfold flatEi
   split
   ·rw [sizeT_eq];omega
   ·simp [sizeL]
  omega
theorem ei_size (ts:List Tr):sizeT (eiT ts)≤1+sizeL ts:=by
 have h:=flatEi_sizeL ts
 match ts,h with
 | [],_=>simp only [eiT,sizeT_eq,Tr.kids,List.flatMap_nil,sizeL];omega
 | [t],_=>simp only [eiT,sizeL];omega
 | a :: b :: us,h=>simp only [eiT,sizeT_eq,Tr.kids];omega
theorem patternL_ok {d:Int} {l:List Int} {G:PS→Prop} {atomS:PS→Tk→Int→FR (Tr × PS)} (HG:AtomG d l G atomS) (was:Bool):∀ (m:Nat) (s:PS) (ts:List Tr) (p:Tr × PS),G s→0≤s.at_→patternL atomS d l was m s ts=.ok p →
  G p.2∧s.at_≤p.2.at_∧(sizeT p.1:Int)≤1+sizeL ts+2 * (p.2.at_ - s.at_):=by
 intro m
 induction m with
 | zero=>intro s ts p _ _ h;cases h
 | succ m ih =>
  intro s ts p hg h0 h
  have hend:∀ p,(Except.ok (eiT ts,{ s with fold:=was }):FR (Tr × PS))=.ok p→G p.2∧s.at_≤p.2.at_∧(sizeT p.1:Int)≤1+sizeL ts+2 * (p.2.at_ - s.at_):=by
   intro p h
   cases h
   have:=ei_size ts
   exact ⟨HG.fo _ _ hg,Int.le_refl _,by simp only;omega⟩
  rw [patternL] at h
  cases hn:nextS d l s with
  | error q=>rw [hn] at h;cases h
  | ok o =>
   rw [hn] at h
   cases o with
   | none=>exact hend p h
   | some q =>
    obtain ⟨t,nx⟩:=q
    have hmv:=next_mv hn h0
    simp only at h
    split at h
    ·exact hend p h
    ·cases hb:branchS atomS d l { s with at_:=nx } with
     | error q=>rw [hb] at h;cases h
     | ok q =>
      rw [hb] at h
      obtain ⟨b1,b2,b3⟩:=branch_ok HG _ _ _ _ _ q (HG.rep s t nx hg hn) (by simp only;omega) hb
      obtain ⟨k1,k2,k3⟩:=ih q.2 _ p b1 (by simp only at b2;omega) h
      rw [size_snoc] at k3
      simp only [sizeL] at b2 b3
      push_cast at k3
      exact ⟨k1,by omega,by omega⟩
theorem pattern_ok {d:Int} {l:List Int} {G:PS→Prop} {atomS:PS→Tk→Int→FR (Tr × PS)} (HG:AtomG d l G atomS) {s:PS} {p:Tr × PS} (hg:G s) (h0:0≤s.at_) (h:patternS atomS d l s=.ok p) :
  G p.2∧s.at_≤p.2.at_∧(sizeT p.1:Int)≤2+2 * (p.2.at_ - s.at_):=by
 unfold patternS at h
 cases hb:branchS atomS d l s with
 | error q=>rw [hb] at h;cases h
 | ok q =>
  rw [hb] at h
  obtain ⟨b1,b2,b3⟩:=branch_ok HG _ _ _ _ _ q hg h0 hb
  obtain ⟨k1,k2,k3⟩:=patternL_ok HG _ _ _ _ p b1 (by omega) h
  simp only [sizeL] at b3 k3
  exact ⟨k1,by omega,by omega⟩
def atomS (canL:(Int→Prop)→List (Int × Int)) (FQ:(Int→Prop)→Int→Prop) (opn:PS→Tk→Int→FR (Tr × PS)) (oth:PS→Tk→Int→FR (Tr × PS)) (s:PS) (t:Tk) (nx:Int):FR (Tr × PS) :=
 if t.kind=1 then .ok (setT (setN canL FQ s.fold [(t.num,t.num)]),{ s with at_:=nx })
 else if t.kind=7 then opn { s with at_:=nx } t s.at_
 else oth s t nx
def parK (canL:(Int→Prop)→List (Int × Int)) (FQ:(Int→Prop)→Int→Prop) (oth:PS→Tk→Int→FR (Tr × PS)) (d:Int) (l:List Int):Nat→PS→Tk→Int→FR (Tr × PS)
 | 0=>atomS canL FQ (fun _ _ frm=>.error (2,frm)) oth
 | k+1=>atomS canL FQ (openS (patternS (parK canL FQ oth d l k) d l) d l) oth
def GK (k:Nat) (s:PS):Prop:=s.deep+k=20∧(s.names.length:Int)≤s.groups∧0≤s.at_
/-- the other atoms -/
structure OthC (b n c:Nat) (d:Int) (A:Option Addr) (l:List Int) (oth:PS→Tk→Int→FR (Tr × PS)):Prop where
 calls:∀ (s:PS) (V1 V2:Value) (t:Tk) (nx:Int) (w:World),PsAt b n c d A l s V1 V2 w→nextS d l s=.ok (some (t,nx))→t.kind≠1→t.kind≠6→t.kind≠7→t.kind≠8→t.kind≠9 →
  Calls Tryz.prog 112 #[.pointer (some ⟨b,0,none⟩),.agg #[.int .i64 t.kind,.int .i64 t.num,.string ⟨t.text.toArray⟩,.bool t.not_,.int .i64 t.least,.int .i64 t.most,.int .i64 t.way,.int .i64 t.fold],.int .i64 nx] w (POut b n c d A l (pm b V1 V2) w (oth s t nx))
 go:∀ (s:PS) (t:Tk) (nx:Int) (p:Tr × PS),0≤s.at_→nextS d l s=.ok (some (t,nx))→t.kind≠1→t.kind≠6→t.kind≠7→t.kind≠8→t.kind≠9→oth s t nx=.ok p→p.2.deep=s.deep∧p.2.names=s.names∧p.2.groups=s.groups∧nx≤p.2.at_∧(sizeT p.1:Int)≤2 * (p.2.at_ - s.at_)
 point:∀ (s:PS) (t:Tk) (nx:Int),0≤s.at_→nextS d l s=.ok (some (t,nx))→t.kind=1→0≤t.num∧t.num≤1114111
theorem openS_ok {d:Int} {l:List Int} {k:Nat} {pat:PS→FR (Tr × PS)} (HP:∀ s p,GK k s→0≤s.at_→pat s=.ok p→GK k p.2∧s.at_≤p.2.at_∧(sizeT p.1:Int)≤2+2 * (p.2.at_ - s.at_)) {s:PS} {t:Tk} {frm:Int} {p:Tr × PS} (hg:GK (k+1) s) (h0:0≤s.at_) (h:openS pat d l s t frm=.ok p) :
  GK (k+1) p.2∧s.at_+1≤p.2.at_∧(sizeT p.1:Int)≤2 * (p.2.at_ - s.at_)+1:=by
 unfold openS at h
 split at h
 ·cases h
 ·split at h
  ·cases h
  ·split at h
   ·cases h
   ·have hgi:GK k { openIn s t with fold:=foldIn s t,deep:=s.deep+1 }:=by
     refine ⟨?_,?_,h0⟩
     ·have:=hg.1;simp only;push_cast at this;omega
     ·have:=hg.2.1
      unfold openIn
      by_cases h11:t.num=11
      ·by_cases htx:t.text=[]
       ·simp [h11,htx];omega
       ·simp [h11,htx];omega
      ·simp [h11];exact this
    cases hb:pat { openIn s t with fold:=foldIn s t,deep:=s.deep+1 } with
    | error q=>rw [hb] at h;cases h
    | ok q =>
     rw [hb] at h
     obtain ⟨a1,a2,a3⟩:=HP _ q hgi h0 hb
     have a2':s.at_≤q.2.at_:=a2
     have a3':(sizeT q.1:Int)≤2+2 * (q.2.at_ - s.at_):=a3
     simp only at h
     cases hn:nextS d l { q.2 with deep:=q.2.deep - 1,fold:=s.fold } with
     | error q=>rw [hn] at h;cases h
     | ok o =>
      rw [hn] at h
      cases o with
      | none=>cases h
      | some r =>
       obtain ⟨t2,nx⟩:=r
       have hmv:=next_mv hn (by simp only;omega)
       have hmv':q.2.at_+1≤nx:=hmv.2.1
       simp only at h
       have hgo:GK (k+1) { q.2 with deep:=q.2.deep - 1,fold:=s.fold,at_:=nx }:=⟨by have:=a1.1;simp only;push_cast;omega,a1.2.1,by simp only;omega⟩
       split at h
       ·cases h
       ·split at h
        ·cases h
         exact ⟨hgo,by simp only;omega,by simp only;omega⟩
        ·cases h
         refine ⟨hgo,by simp only;omega,?_⟩
         simp only [sizeT_eq (.mk _ _ _ _ _ _ _ _),Tr.kids,sizeL]
         push_cast
         omega
end Go.Proofs.YtbiahhojnjchnaaGreat
namespace Go.Proofs.YtbiahhojnjchnaaGreat
open Go.RowKit
set_option maxRecDepth 100000 in
set_option maxHeartbeats 4000000 in
theorem open132_deep {b n c:Nat} {d:Int} {A:Option Addr} {l:List Int} {s:PS} {V1 V2:Value} {w:World} {t:Tk} {frm:Int} (h:PsAt b n c d A l s V1 V2 w) (hd20:s.deep=20) :
  Calls Tryz.prog 132 #[.pointer (some ⟨b,0,none⟩),.agg #[.int .i64 t.kind,.int .i64 t.num,.string ⟨t.text.toArray⟩,.bool t.not_,.int .i64 t.least,.int .i64 t.most,.int .i64 t.way,.int .i64 t.fold],.int .i64 frm] w (POut b n c d A l (pm b V1 V2) w (.error (2,frm))):=by
 have hlt:=h.lt
 obtain ⟨W1,hW1⟩:∃ X,X=(w.alloc (.cells #[.int .i64 t.kind,.int .i64 t.num,.string ⟨t.text.toArray⟩,.bool t.not_,.int .i64 t.least,.int .i64 t.most,.int .i64 t.way,.int .i64 t.fold] 108)).alloc (.cells #[.int .i64 0,.slice none 0 0,.slice none 0 0,.int .i64 0,.int .i64 0,.int .i64 0,.int .i64 0,.bool false] 42):=⟨_,rfl⟩
 have hB1:Below w.heap.size w W1:=by rw [hW1];exact ((Below.refl _ _).alloc (Nat.le_refl _) _).alloc (by simp) _
 have HP1:=Lib.hid (h.next hB1)
 have HB1:=Lib.hid hB1
 obtain ⟨p0,p1,p2,p3,p4,p5,p6,p7,pf⟩:=HP1.out.cells
 rw [hd20] at p4
 clear h hB1 hd20
 go_enter Tryz.func132,Tryz.ntmps132
 go_upto_region 1 with (fail)
 rw [← hW1]
 clear hW1
 go_wp2_with (go_at_call 45;(with_reducible refine (fail45 _ _ _).mono ?_);rintro e w6 ⟨rfl,rfl⟩)
 exact ⟨rfl,rfl,HP1.out.bad (Mvd.of_below (M:=pm b V1 V2) (M':=pm b V1 V2) HB1.out fun _ _ h=>h)⟩
section
variable {b n c:Nat} {d:Int} {A:Option Addr} {l:List Int} {canL:(Int→Prop)→List (Int × Int)} {FQ:(Int→Prop)→Int→Prop} {oth:PS→Tk→Int→FR (Tr × PS)}
theorem parK_go (HO:OthC b n c d A l oth) (k:Nat):AtomG d l (GK k) (parK canL FQ oth d l k):=by
 induction k with
 | zero =>
  refine ⟨fun s t nx p hg h0 hn h6 h8 h9 h=>?_,fun s t nx hg hn=>⟨hg.1,hg.2.1,by have:=next_mv hn hg.2.2;have:=hg.2.2;simp only;omega⟩,fun s f hg=>hg⟩
  have hmv:=next_mv hn h0
  rw [parK] at h
  unfold atomS at h
  split at h
  ·cases h;exact ⟨⟨hg.1,hg.2.1,by simp only;omega⟩,Int.le_refl _,by simp only [setT,sizeT_eq,Tr.kids,sizeL];omega⟩
  ·rename_i h1
   split at h
   ·cases h
   ·rename_i h7
    obtain ⟨k1,k2,k3,k4,k5⟩:=HO.go s t nx p h0 hn h1 h6 h7 h8 h9 h
    exact ⟨⟨by rw [k1];exact hg.1,by rw [k2,k3];exact hg.2.1,by omega⟩,k4,k5⟩
 | succ k ih =>
  refine ⟨fun s t nx p hg h0 hn h6 h8 h9 h=>?_,fun s t nx hg hn=>⟨hg.1,hg.2.1,by have:=next_mv hn hg.2.2;have:=hg.2.2;simp only;omega⟩,fun s f hg=>hg⟩
  have hmv:=next_mv hn h0
  rw [parK] at h
  unfold atomS at h
  split at h
  ·cases h;exact ⟨⟨hg.1,hg.2.1,by simp only;omega⟩,Int.le_refl _,by simp only [setT,sizeT_eq,Tr.kids,sizeL];omega⟩
  ·rename_i h1
   split at h
   ·obtain ⟨k1,k2,k3⟩:=openS_ok (fun s p hg h0 h=>pattern_ok ih hg h0 h) (s:={ s with at_:=nx }) ⟨hg.1,hg.2.1,by simp only;omega⟩ (by simp only;omega) h
    simp only at k2 k3
    exact ⟨k1,by omega,by omega⟩
   ·rename_i h7
    obtain ⟨k1,k2,k3,k4,k5⟩:=HO.go s t nx p h0 hn h1 h6 h7 h8 h9 h
    exact ⟨⟨by rw [k1];exact hg.1,by rw [k2,k3];exact hg.2.1,by omega⟩,k4,k5⟩
theorem parK_calls (HT:Hid (TokC d l)) (HO:OthC b n c d A l oth) (HC:Hid (∀ f out,IsSet out f→canL f=out)) (HF:Hid (FoldC FQ)) (k:Nat):AtomC b n c d A l (GK k) (parK canL FQ oth d l k):=by
 induction k with
 | zero =>
  intro s V1 V2 t nx w hg hp hn h6 h8 h9
  have hmv:=next_mv hn hp.lo
  rw [hp.len] at hmv
  have hlo:=hp.lo
  rw [parK]
  unfold atomS
  by_cases h1:t.kind=1
  ·rw [if_pos h1]
   exact atom_point HC (Lib.hid fun _=>HF.out) h1 (HO.point s t nx hp.lo hn h1) ⟨by omega,by omega⟩ hp
  ·rw [if_neg h1]
   by_cases h7:t.kind=7
   ·rw [if_pos h7]
    exact atom_open h7 ⟨by omega,by omega⟩ hp (Lib.hid fun X hX=>open132_deep hX (by have:=hg.1;simpa using this))
   ·rw [if_neg h7]
    exact HO.calls s V1 V2 t nx w hp hn h1 h6 h7 h8 h9
 | succ k ih =>
  intro s V1 V2 t nx w hg hp hn h6 h8 h9
  have hmv:=next_mv hn hp.lo
  rw [hp.len] at hmv
  have hlo:=hp.lo
  rw [parK]
  unfold atomS
  by_cases h1:t.kind=1
  ·rw [if_pos h1]
   exact atom_point HC (Lib.hid fun _=>HF.out) h1 (HO.point s t nx hp.lo hn h1) ⟨by omega,by omega⟩ hp
  ·rw [if_neg h1]
   by_cases h7:t.kind=7
   ·rw [if_pos h7]
    have HG:=parK_go (canL:=canL) (FQ:=FQ) HO k
    have hng:=hg.2.1
    have hgr:=hp.gr
    refine atom_open h7 ⟨by omega,by omega⟩ hp (Lib.hid fun X hX=>open132 (G:=GK k) HT (Lib.hid ⟨fun s U1 U2 W hs hps=>pattern44 HT (Lib.hid ih) (Lib.hid HG) hps hs,fun s p hs hok=>?_⟩) hX (Lib.hid ?_) (by simp only;omega))
    ·have h1:=(pattern_ok HG hs hs.2.2 hok).1.1
     have h2:=hs.1
     omega
    ·refine ⟨by have:=hg.1;simp only;push_cast at this;omega,?_,(show (0:Int)≤nx by omega)⟩
     unfold openIn
     by_cases h11:t.num=11
     ·by_cases htx:t.text=[]
      ·simp [h11,htx];omega
      ·simp [h11,htx];omega
     ·simp [h11];exact hng
   ·rw [if_neg h7]
    exact HO.calls s V1 V2 t nx w hp hn h1 h6 h7 h8 h9
end
end Go.Proofs.YtbiahhojnjchnaaGreat
