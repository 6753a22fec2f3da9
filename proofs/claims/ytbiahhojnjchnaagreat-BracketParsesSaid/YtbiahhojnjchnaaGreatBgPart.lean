/-
  A part of a bracket expression, over the contract of a span: walked (printed by genPart.py).
-/
import Derived.Test.YtbiahhojnjchnaaGreatGV
import Derived.Test.YtbiahhojnjchnaaGreatGE
set_option linter.unusedVariables false
set_option linter.unusedSimpArgs false
namespace Go.Proofs.YtbiahhojnjchnaaGreat
open Go.RowKit
theorem BSt.below {b n c C:Nat} {d dp at_:Int} {fo:Bool} {A:Option Addr} {l:List Int} {w w':World} (h:BSt b n c d fo dp A l at_ w) (hb:Below C w w') (hC:b < C):BSt b n c d fo dp A l at_ w' :=
 ⟨by have:=h.rd;unfold RdAt at *;rw [hb.block b hC];exact this,h.row.below hb (Nat.le_of_lt hC),h.lo,h.hi,h.small,h.cap⟩
theorem Kept.low {b:Nat} {w w1 w2:World} (h:Kept b w w1) (hb:Below w.heap.size w1 w2):Kept b w w2 :=
 ⟨hb.os.trans h.os,hb.tape.trans h.tape,hb.output.trans h.output,Nat.le_trans h.size hb.size,fun k hk hn=>(hb.block k hk).trans (h.block k hk hn)⟩
set_option maxRecDepth 100000 in
set_option maxHeartbeats 8000000 in
theorem part90 (HSORT:Hid SortC) {b n c:Nat} {d dp at_:Int} {fo first:Bool} {A:Option Addr} {l:List Int} {w:World} {S:Int→BR SP} (h:BSt b n c d fo dp A l at_ w) (hA:∀ p r,0≤p→S p=.ok r→p < r.2)
  (hS:∀ p W,BSt b n c d fo dp A l p W→Calls Tryz.prog 117 #[.pointer (some ⟨b,0,none⟩)] W (SOut b n c d fo dp A l 480000 (S p) W)) (hch:∀ p r out,0≤p→S p=.ok r→IsSet out r.1→(out.length:Int)≤1600 * (r.2 - p)) :
  Calls Tryz.prog 90 #[.pointer (some ⟨b,0,none⟩),.bool first] w (BOut b n c d fo dp A l 480000 (partP d l S first (((l.length:Int) - at_).toNat+1) 0 (fun _=>False) at_) w):=by
 have hlt:=h.lt
 have hlo:=h.lo
 have hhi:=h.hi
 have hsm:=h.small
 have hlen:=h.len
 have HS0:=Lib.hid h
 have HS:=Lib.hid hS
 have HA:=Lib.hid hA
 have HC:=Lib.hid hch
 clear h hS hA hch
 obtain ⟨R,hR⟩:∃ R,R=partP d l S first (((l.length:Int) - at_).toNat+1) 0 (fun _=>False) at_:=⟨_,rfl⟩
 rw [← hR]
 have HR0:=Lib.hid hR
 clear hR
 go_enter Tryz.func90,Tryz.ntmps90
 go_upto_region 4 with (fail)
 go_loopw [5,6] (fun v i wr=>∃ (k m:Nat) (B:List (Int × Int)) (p:Int) (acc:Int→Prop),i=.int .i64 (k:Nat)∧Hid (partP d l S first (m+1) k acc p=R)∧Hid ((n:Int) - p≤m)∧(k:Int)≤p - at_∧Hid (wr.ownsRow w.heap.size 67 2 v B.length (rngs B))∧Hid (BSt b n c d fo dp A l p wr)∧Hid (Kept b w wr)∧Hid (∀ r ∈ B,okR r=true)∧Hid (∀ q,mem B q↔acc q)∧(B.length:Int)≤1600 * (p - at_)) (fun _ i _=>n+1 - (intOf i).toNat)
 case atStart=>exact ⟨0,((l.length:Int) - at_).toNat,[],at_,_,rfl,Lib.hid HR0.out.symm,Lib.hid (by rw [hlen];omega),by omega,Lib.hid (World.ownsRow_nil _ _ _ _),HS0,Lib.hid (Kept.refl _ _),Lib.hid (by simp),Lib.hid (by simp [mem]),by simp⟩
 case round =>
  obtain ⟨k,m,B,p,acc,rfl,HE,HM,hk,HO1,HS1,HK1,HOK,HMEM,hB⟩:=hrel
  have hlt1:=HK1.out.size
  have hp0:=HS1.out.lo
  have hp1:=HS1.out.hi
  by_cases hk0:k=0
  ·subst hk0
   have k1:(decide ((0:Int) < ((0:Nat):Int)))=false:=rfl
   cases first with
   | true =>
    go_upto_region 9 with (fail)
    by_cases hd:d=1
    ·subst hd
     have hc5:=HS1.out.rd.cells
     cases h38:saysB l p [38,38] with
     | true =>
      have N38:=Lib.hid h38
      obtain ⟨c0,c1,c2,c3,f2⟩:=hc5
      have HR:R=.error (1,p):=by rw [← HE.out];unfold partP;rw [if_neg (fun x=>by rcases x.1 with h|h;exact absurd h (by omega);cases h),if_pos ⟨rfl,N38.out⟩,if_pos rfl]
      subst HR
      go_wp2_with (first
       | (go_at_call 116;(with_reducible refine (BSt.is_ (cc:=2) (m:=2) (cs:=[38,38]) (HS1.out.next ((Below.refl _ _).alloc (Nat.le_refl _) _)) true N38.out (runes_new wr [38,38] #[.int .i32 38,.int .i32 38] 2 rfl rfl) (by simp) (by decide)).mono ?_);rintro e w2 ⟨rfl,q4,hq4⟩;have hb4:Below wr.heap.size wr w2:=(by rw [hq4];exact below_drewN ((Below.refl _ _).alloc (Nat.le_refl _) _) _);have HS2:=Lib.hid (HS1.out.next hb4);have HO2:=Lib.hid (own_below HO1.out hb4 (Nat.le_refl _));have HK2:=Lib.hid (HK1.out.trans (Kept.of hb4));clear hq4 hb4;obtain ⟨d0,d1,d2,d3,g2⟩:=HS2.out.rd.cells)
       | (go_at_call 59;(with_reducible refine (fail21 1 p _).mono ?_);rintro e w' ⟨rfl,rfl⟩))
      exact ⟨rfl,HK2.out,rfl⟩
     | false =>
      have N38:=Lib.hid h38
      have HNX:=Lib.hid (show (match S p with|.error e=>.error e|.ok r=>partP 1 l S true m (0+1) (fun q=>acc q∨r.1 q) r.2)=R by rw [← HE.out,partP,if_neg (fun x=>by rcases x.1 with h|h;exact absurd h (by omega);cases h),if_neg (fun x=>by rw [N38.out] at x;cases x.2)];rfl)
      obtain ⟨c0,c1,c2,c3,f2⟩:=hc5
      go_upto_region 13 with (go_at_call 116;(with_reducible refine (BSt.is_ (cc:=2) (m:=2) (cs:=[38,38]) (HS1.out.next ((Below.refl _ _).alloc (Nat.le_refl _) _)) false N38.out (runes_new wr [38,38] #[.int .i32 38,.int .i32 38] 2 rfl rfl) (by simp) (by decide)).mono ?_);rintro e w2 ⟨rfl,q4,hq4⟩;have hb4:Below wr.heap.size wr w2:=(by rw [hq4];exact below_drewN ((Below.refl _ _).alloc (Nat.le_refl _) _) _);have HS2:=Lib.hid (HS1.out.next hb4);have HO2:=Lib.hid (own_below HO1.out hb4 (Nat.le_refl _));have HK2:=Lib.hid (HK1.out.trans (Kept.of hb4));clear hq4 hb4)
      clear c0 c1 c2 c3 f2
      cases hr:S p with
      | error q =>
       have CS:∀ W,BSt b n c 1 fo dp A l p W→Calls Tryz.prog 117 #[.pointer (some ⟨b,0,none⟩)] W (SOut b n c 1 fo dp A l 480000 (.error q) W):=fun W hW=>by have:=HS.out p W hW;rw [hr] at this;exact this
       have HCS:=Lib.hid CS
       have HR:R=.error q:=by rw [← HNX.out,hr]
       subst HR
       clear CS hr
       go_wp2_with (go_at_call 117;(with_reducible refine (HCS.out _ HS2.out).mono ?_);rintro e w9 ⟨hk9,he⟩;obtain rfl:=(show e=_ from he))
       exact ⟨rfl,HK2.out.trans hk9,rfl⟩
      | ok r =>
       have CS:∀ W,BSt b n c 1 fo dp A l p W→Calls Tryz.prog 117 #[.pointer (some ⟨b,0,none⟩)] W (SOut b n c 1 fo dp A l 480000 (.ok r) W):=fun W hW=>by have:=HS.out p W hW;rw [hr] at this;exact this
       have HCS:=Lib.hid CS
       have HR:=Lib.hid (show partP _ l S true m (0+1) (fun q=>acc q∨r.1 q) r.2=R by rw [← HNX.out,hr])
       have hpr:=HA.out p r hp0 hr
       have HCH:=Lib.hid (fun out=>HC.out p r out hp0 hr)
       clear CS hr
       go_wp2_with (first
        | (go_at_call 117;(with_reducible refine (HCS.out _ HS2.out).mono ?_);rintro e w9 ⟨hk9,out,A9,n9,c9,hset,hln,rfl,hrd,hS9⟩;have HO9:=Lib.hid (own_keptb HO2.out hk9 hlt);have HK9:=Lib.hid (HK2.out.trans hk9);have HS9:=Lib.hid hS9;have R9:=Lib.hid hrd;have hsz9:=hk9.size;have HSET:=Lib.hid hset;have hol:out.length=n9:=hrd.rngs_len;have hol2:=HCH.out out hset;have hr2:=hS9.hi;clear hset hrd hS9 hk9)
        | (at_builtin;refine app_rngs (.tmp 46) (.tmp 48) (base:=w.heap.size) (xs:=B) (ys:=out) (n:=B.length) (m:=n9) HO9.out R9.out (by omega) (by have:=HK9.out.size;omega) rfl rfl rfl rfl ?_;intro v3 w3 hown3 hg3 hat3))
       have hb3:Below w.heap.size w9 w3:=(Below.refl _ _).grown hg3 HK9.out.size (fun g hg=>(HO9.out.lt g hg).1)
       go_roundw
       case rel=>exact ⟨0+1,m - 1,B ++ out,r.2,_,by first|(simp;done)|(simp;omega),Lib.hid (by rw [show m - 1+1=m by have:=HM.out;omega];exact HR.out),Lib.hid (by have:=HM.out;omega),by omega,Lib.hid (by rw [List.length_append,hol];simpa [rngs_append] using hown3),Lib.hid (HS9.out.below hb3 hlt),Lib.hid (HK9.out.low hb3),Lib.hid (fun x hx=>(List.mem_append.1 hx).elim (HOK.out x) (HSET.out.1.1 x)),Lib.hid (fun q=>by rw [mem_append,HMEM.out q,HSET.out.2 q]),by rw [List.length_append];omega⟩
       case measure=>first|(simp [intOf];done)|(simp [intOf];omega)
    ·have hdb:(d == 1)=false:=by simpa using hd
     have HNX:=Lib.hid (show (match S p with|.error e=>.error e|.ok r=>partP d l S true m (0+1) (fun q=>acc q∨r.1 q) r.2)=R by rw [← HE.out,partP,if_neg (fun x=>by rcases x.1 with h|h;exact absurd h (by omega);cases h),if_neg (fun x=>hd x.1)];rfl)
     obtain ⟨c0,c1,c2,c3,f2⟩:=HS1.out.rd.cells
     go_upto_region 13 with (fail)
     clear c0 c1 c2 c3 f2
     cases hr:S p with
     | error q =>
      have CS:∀ W,BSt b n c d fo dp A l p W→Calls Tryz.prog 117 #[.pointer (some ⟨b,0,none⟩)] W (SOut b n c d fo dp A l 480000 (.error q) W):=fun W hW=>by have:=HS.out p W hW;rw [hr] at this;exact this
      have HCS:=Lib.hid CS
      have HR:R=.error q:=by rw [← HNX.out,hr]
      subst HR
      clear CS hr
      go_wp2_with (go_at_call 117;(with_reducible refine (HCS.out _ HS1.out).mono ?_);rintro e w9 ⟨hk9,he⟩;obtain rfl:=(show e=_ from he))
      exact ⟨rfl,HK1.out.trans hk9,rfl⟩
     | ok r =>
      have CS:∀ W,BSt b n c d fo dp A l p W→Calls Tryz.prog 117 #[.pointer (some ⟨b,0,none⟩)] W (SOut b n c d fo dp A l 480000 (.ok r) W):=fun W hW=>by have:=HS.out p W hW;rw [hr] at this;exact this
      have HCS:=Lib.hid CS
      have HR:=Lib.hid (show partP _ l S true m (0+1) (fun q=>acc q∨r.1 q) r.2=R by rw [← HNX.out,hr])
      have hpr:=HA.out p r hp0 hr
      have HCH:=Lib.hid (fun out=>HC.out p r out hp0 hr)
      clear CS hr
      go_wp2_with (first
       | (go_at_call 117;(with_reducible refine (HCS.out _ HS1.out).mono ?_);rintro e w9 ⟨hk9,out,A9,n9,c9,hset,hln,rfl,hrd,hS9⟩;have HO9:=Lib.hid (own_keptb HO1.out hk9 hlt);have HK9:=Lib.hid (HK1.out.trans hk9);have HS9:=Lib.hid hS9;have R9:=Lib.hid hrd;have hsz9:=hk9.size;have HSET:=Lib.hid hset;have hol:out.length=n9:=hrd.rngs_len;have hol2:=HCH.out out hset;have hr2:=hS9.hi;clear hset hrd hS9 hk9)
       | (at_builtin;refine app_rngs (.tmp 46) (.tmp 48) (base:=w.heap.size) (xs:=B) (ys:=out) (n:=B.length) (m:=n9) HO9.out R9.out (by omega) (by have:=HK9.out.size;omega) rfl rfl rfl rfl ?_;intro v3 w3 hown3 hg3 hat3))
      have hb3:Below w.heap.size w9 w3:=(Below.refl _ _).grown hg3 HK9.out.size (fun g hg=>(HO9.out.lt g hg).1)
      go_roundw
      case rel=>exact ⟨0+1,m - 1,B ++ out,r.2,_,by first|(simp;done)|(simp;omega),Lib.hid (by rw [show m - 1+1=m by have:=HM.out;omega];exact HR.out),Lib.hid (by have:=HM.out;omega),by omega,Lib.hid (by rw [List.length_append,hol];simpa [rngs_append] using hown3),Lib.hid (HS9.out.below hb3 hlt),Lib.hid (HK9.out.low hb3),Lib.hid (fun x hx=>(List.mem_append.1 hx).elim (HOK.out x) (HSET.out.1.1 x)),Lib.hid (fun q=>by rw [mem_append,HMEM.out q,HSET.out.2 q]),by rw [List.length_append];omega⟩
      case measure=>first|(simp [intOf];done)|(simp [intOf];omega)
   | false =>
    cases h93:saysB l p [93] with
    | true =>
     have N93:=Lib.hid h93
     have HP93:=Lib.hid (show ptAt l p=93 by simpa [saysB] using h93)
     have HR:R=.error (1,p):=by rw [← HE.out];unfold partP;rw [if_pos ⟨.inr rfl,HP93.out⟩,if_pos rfl]
     subst HR
     go_wp2_with (first
      | (go_at_call 116;(with_reducible refine (BSt.is_ (cc:=1) (m:=1) (cs:=[93]) (HS1.out.next ((Below.refl _ _).alloc (Nat.le_refl _) _)) true N93.out (runes_new wr [93] #[.int .i32 93] 1 rfl rfl) (by simp) (by decide)).mono ?_);rintro e w2 ⟨rfl,q4,hq4⟩;have hb4:Below wr.heap.size wr w2:=(by rw [hq4];exact below_drewN ((Below.refl _ _).alloc (Nat.le_refl _) _) _);have HS2:=Lib.hid (HS1.out.next hb4);have HO2:=Lib.hid (own_below HO1.out hb4 (Nat.le_refl _));have HK2:=Lib.hid (HK1.out.trans (Kept.of hb4));clear hq4 hb4;obtain ⟨d0,d1,d2,d3,g2⟩:=HS2.out.rd.cells)
      | (go_at_call 59;(with_reducible refine (fail21 1 p _).mono ?_);rintro e w' ⟨rfl,rfl⟩))
     exact ⟨rfl,HK2.out,rfl⟩
    | false =>
     have N93:=Lib.hid h93
     have HP93:=Lib.hid (show ¬ ptAt l p=93 by simpa [saysB] using h93)
     go_upto_region 9 with (go_at_call 116;(with_reducible refine (BSt.is_ (cc:=1) (m:=1) (cs:=[93]) (HS1.out.next ((Below.refl _ _).alloc (Nat.le_refl _) _)) false N93.out (runes_new wr [93] #[.int .i32 93] 1 rfl rfl) (by simp) (by decide)).mono ?_);rintro e w2 ⟨rfl,q4,hq4⟩;have hb4:Below wr.heap.size wr w2:=(by rw [hq4];exact below_drewN ((Below.refl _ _).alloc (Nat.le_refl _) _) _);have HS2:=Lib.hid (HS1.out.next hb4);have HO2:=Lib.hid (own_below HO1.out hb4 (Nat.le_refl _));have HK2:=Lib.hid (HK1.out.trans (Kept.of hb4));clear hq4 hb4)
     by_cases hd:d=1
     ·subst hd
      have hc5:=HS2.out.rd.cells
      cases h38:saysB l p [38,38] with
      | true =>
       have N38:=Lib.hid h38
       obtain ⟨c0,c1,c2,c3,f2⟩:=hc5
       have HR:R=.error (1,p):=by rw [← HE.out];unfold partP;rw [if_neg (fun x=>HP93.out x.2),if_pos ⟨rfl,N38.out⟩,if_pos rfl]
       subst HR
       go_wp2_with (first
        | (go_at_call 116;(with_reducible refine (BSt.is_ (cc:=2) (m:=2) (cs:=[38,38]) (HS2.out.next ((Below.refl _ _).alloc (Nat.le_refl _) _)) true N38.out (runes_new w2 [38,38] #[.int .i32 38,.int .i32 38] 2 rfl rfl) (by simp) (by decide)).mono ?_);rintro e w3 ⟨rfl,q4,hq4⟩;have hb4:Below w2.heap.size w2 w3:=(by rw [hq4];exact below_drewN ((Below.refl _ _).alloc (Nat.le_refl _) _) _);have HS3:=Lib.hid (HS2.out.next hb4);have HO3:=Lib.hid (own_below HO2.out hb4 (Nat.le_refl _));have HK3:=Lib.hid (HK2.out.trans (Kept.of hb4));clear hq4 hb4;obtain ⟨d0,d1,d2,d3,g2⟩:=HS3.out.rd.cells)
        | (go_at_call 59;(with_reducible refine (fail21 1 p _).mono ?_);rintro e w' ⟨rfl,rfl⟩))
       exact ⟨rfl,HK3.out,rfl⟩
      | false =>
       have N38:=Lib.hid h38
       have HNX:=Lib.hid (show (match S p with|.error e=>.error e|.ok r=>partP 1 l S false m (0+1) (fun q=>acc q∨r.1 q) r.2)=R by rw [← HE.out,partP,if_neg (fun x=>HP93.out x.2),if_neg (fun x=>by rw [N38.out] at x;cases x.2)];rfl)
       obtain ⟨c0,c1,c2,c3,f2⟩:=hc5
       go_upto_region 13 with (go_at_call 116;(with_reducible refine (BSt.is_ (cc:=2) (m:=2) (cs:=[38,38]) (HS2.out.next ((Below.refl _ _).alloc (Nat.le_refl _) _)) false N38.out (runes_new w2 [38,38] #[.int .i32 38,.int .i32 38] 2 rfl rfl) (by simp) (by decide)).mono ?_);rintro e w3 ⟨rfl,q4,hq4⟩;have hb4:Below w2.heap.size w2 w3:=(by rw [hq4];exact below_drewN ((Below.refl _ _).alloc (Nat.le_refl _) _) _);have HS3:=Lib.hid (HS2.out.next hb4);have HO3:=Lib.hid (own_below HO2.out hb4 (Nat.le_refl _));have HK3:=Lib.hid (HK2.out.trans (Kept.of hb4));clear hq4 hb4)
       clear c0 c1 c2 c3 f2
       cases hr:S p with
       | error q =>
        have CS:∀ W,BSt b n c 1 fo dp A l p W→Calls Tryz.prog 117 #[.pointer (some ⟨b,0,none⟩)] W (SOut b n c 1 fo dp A l 480000 (.error q) W):=fun W hW=>by have:=HS.out p W hW;rw [hr] at this;exact this
        have HCS:=Lib.hid CS
        have HR:R=.error q:=by rw [← HNX.out,hr]
        subst HR
        clear CS hr
        go_wp2_with (go_at_call 117;(with_reducible refine (HCS.out _ HS3.out).mono ?_);rintro e w9 ⟨hk9,he⟩;obtain rfl:=(show e=_ from he))
        exact ⟨rfl,HK3.out.trans hk9,rfl⟩
       | ok r =>
        have CS:∀ W,BSt b n c 1 fo dp A l p W→Calls Tryz.prog 117 #[.pointer (some ⟨b,0,none⟩)] W (SOut b n c 1 fo dp A l 480000 (.ok r) W):=fun W hW=>by have:=HS.out p W hW;rw [hr] at this;exact this
        have HCS:=Lib.hid CS
        have HR:=Lib.hid (show partP _ l S false m (0+1) (fun q=>acc q∨r.1 q) r.2=R by rw [← HNX.out,hr])
        have hpr:=HA.out p r hp0 hr
        have HCH:=Lib.hid (fun out=>HC.out p r out hp0 hr)
        clear CS hr
        go_wp2_with (first
         | (go_at_call 117;(with_reducible refine (HCS.out _ HS3.out).mono ?_);rintro e w9 ⟨hk9,out,A9,n9,c9,hset,hln,rfl,hrd,hS9⟩;have HO9:=Lib.hid (own_keptb HO3.out hk9 hlt);have HK9:=Lib.hid (HK3.out.trans hk9);have HS9:=Lib.hid hS9;have R9:=Lib.hid hrd;have hsz9:=hk9.size;have HSET:=Lib.hid hset;have hol:out.length=n9:=hrd.rngs_len;have hol2:=HCH.out out hset;have hr2:=hS9.hi;clear hset hrd hS9 hk9)
         | (at_builtin;refine app_rngs (.tmp 46) (.tmp 48) (base:=w.heap.size) (xs:=B) (ys:=out) (n:=B.length) (m:=n9) HO9.out R9.out (by omega) (by have:=HK9.out.size;omega) rfl rfl rfl rfl ?_;intro v3 w3 hown3 hg3 hat3))
        have hb3:Below w.heap.size w9 w3:=(Below.refl _ _).grown hg3 HK9.out.size (fun g hg=>(HO9.out.lt g hg).1)
        go_roundw
        case rel=>exact ⟨0+1,m - 1,B ++ out,r.2,_,by first|(simp;done)|(simp;omega),Lib.hid (by rw [show m - 1+1=m by have:=HM.out;omega];exact HR.out),Lib.hid (by have:=HM.out;omega),by omega,Lib.hid (by rw [List.length_append,hol];simpa [rngs_append] using hown3),Lib.hid (HS9.out.below hb3 hlt),Lib.hid (HK9.out.low hb3),Lib.hid (fun x hx=>(List.mem_append.1 hx).elim (HOK.out x) (HSET.out.1.1 x)),Lib.hid (fun q=>by rw [mem_append,HMEM.out q,HSET.out.2 q]),by rw [List.length_append];omega⟩
        case measure=>first|(simp [intOf];done)|(simp [intOf];omega)
     ·have hdb:(d == 1)=false:=by simpa using hd
      have HNX:=Lib.hid (show (match S p with|.error e=>.error e|.ok r=>partP d l S false m (0+1) (fun q=>acc q∨r.1 q) r.2)=R by rw [← HE.out,partP,if_neg (fun x=>HP93.out x.2),if_neg (fun x=>hd x.1)];rfl)
      obtain ⟨c0,c1,c2,c3,f2⟩:=HS2.out.rd.cells
      go_upto_region 13 with (fail)
      clear c0 c1 c2 c3 f2
      cases hr:S p with
      | error q =>
       have CS:∀ W,BSt b n c d fo dp A l p W→Calls Tryz.prog 117 #[.pointer (some ⟨b,0,none⟩)] W (SOut b n c d fo dp A l 480000 (.error q) W):=fun W hW=>by have:=HS.out p W hW;rw [hr] at this;exact this
       have HCS:=Lib.hid CS
       have HR:R=.error q:=by rw [← HNX.out,hr]
       subst HR
       clear CS hr
       go_wp2_with (go_at_call 117;(with_reducible refine (HCS.out _ HS2.out).mono ?_);rintro e w9 ⟨hk9,he⟩;obtain rfl:=(show e=_ from he))
       exact ⟨rfl,HK2.out.trans hk9,rfl⟩
      | ok r =>
       have CS:∀ W,BSt b n c d fo dp A l p W→Calls Tryz.prog 117 #[.pointer (some ⟨b,0,none⟩)] W (SOut b n c d fo dp A l 480000 (.ok r) W):=fun W hW=>by have:=HS.out p W hW;rw [hr] at this;exact this
       have HCS:=Lib.hid CS
       have HR:=Lib.hid (show partP _ l S false m (0+1) (fun q=>acc q∨r.1 q) r.2=R by rw [← HNX.out,hr])
       have hpr:=HA.out p r hp0 hr
       have HCH:=Lib.hid (fun out=>HC.out p r out hp0 hr)
       clear CS hr
       go_wp2_with (first
        | (go_at_call 117;(with_reducible refine (HCS.out _ HS2.out).mono ?_);rintro e w9 ⟨hk9,out,A9,n9,c9,hset,hln,rfl,hrd,hS9⟩;have HO9:=Lib.hid (own_keptb HO2.out hk9 hlt);have HK9:=Lib.hid (HK2.out.trans hk9);have HS9:=Lib.hid hS9;have R9:=Lib.hid hrd;have hsz9:=hk9.size;have HSET:=Lib.hid hset;have hol:out.length=n9:=hrd.rngs_len;have hol2:=HCH.out out hset;have hr2:=hS9.hi;clear hset hrd hS9 hk9)
        | (at_builtin;refine app_rngs (.tmp 46) (.tmp 48) (base:=w.heap.size) (xs:=B) (ys:=out) (n:=B.length) (m:=n9) HO9.out R9.out (by omega) (by have:=HK9.out.size;omega) rfl rfl rfl rfl ?_;intro v3 w3 hown3 hg3 hat3))
       have hb3:Below w.heap.size w9 w3:=(Below.refl _ _).grown hg3 HK9.out.size (fun g hg=>(HO9.out.lt g hg).1)
       go_roundw
       case rel=>exact ⟨0+1,m - 1,B ++ out,r.2,_,by first|(simp;done)|(simp;omega),Lib.hid (by rw [show m - 1+1=m by have:=HM.out;omega];exact HR.out),Lib.hid (by have:=HM.out;omega),by omega,Lib.hid (by rw [List.length_append,hol];simpa [rngs_append] using hown3),Lib.hid (HS9.out.below hb3 hlt),Lib.hid (HK9.out.low hb3),Lib.hid (fun x hx=>(List.mem_append.1 hx).elim (HOK.out x) (HSET.out.1.1 x)),Lib.hid (fun q=>by rw [mem_append,HMEM.out q,HSET.out.2 q]),by rw [List.length_append];omega⟩
       case measure=>first|(simp [intOf];done)|(simp [intOf];omega)
  ·have k1:(decide ((0:Int) < (k:Int)))=true:=decide_eq_true (by omega)
   have k2:((k:Int) == 0)=false:=beq_eq_false_iff_ne.2 (by omega)
   cases h93:saysB l p [93] with
   | true =>
    have N93:=Lib.hid h93
    have HP93:=Lib.hid (show ptAt l p=93 by simpa [saysB] using h93)
    go_upto_region 8 with (go_at_call 116;(with_reducible refine (BSt.is_ (cc:=1) (m:=1) (cs:=[93]) (HS1.out.next ((Below.refl _ _).alloc (Nat.le_refl _) _)) true N93.out (runes_new wr [93] #[.int .i32 93] 1 rfl rfl) (by simp) (by decide)).mono ?_);rintro e w2 ⟨rfl,q4,hq4⟩;have hb4:Below wr.heap.size wr w2:=(by rw [hq4];exact below_drewN ((Below.refl _ _).alloc (Nat.le_refl _) _) _);have HS2:=Lib.hid (HS1.out.next hb4);have HO2:=Lib.hid (own_below HO1.out hb4 (Nat.le_refl _));have HK2:=Lib.hid (HK1.out.trans (Kept.of hb4));clear hq4 hb4)
    have HR:R=.ok (acc,p):=by rw [← HE.out];unfold partP;rw [if_pos ⟨.inl (by omega),HP93.out⟩,if_neg (by omega)]
    subst HR
    obtain ⟨Ao,co,hv,hoc,hco⟩:=own_slice HO2.out
    subst hv
    have HL2:=Lib.hid (show B.length≤500000 by omega)
    go_wp2_with (go_at_call 67;(with_reducible refine (raw72 HSORT B Ao B.length co w2 HL2.out HOK.out (Rds.of_own HO2.out)).mono ?_);rintro e w5 ⟨out,hset,hln,A5,n5,c5,rfl,hown5,hb5⟩;have HS5:=Lib.hid (HS2.out.next hb5);have HK5:=Lib.hid (HK2.out.trans (Kept.of hb5));have HO5:=Lib.hid (own_mono hown5 HK2.out.size);have HSET:=Lib.hid hset;clear hset hown5 hb5)
    go_ret
    exact ⟨HK5.out,out,A5,n5,c5,⟨HSET.out.1,fun q=>(HSET.out.2 q).trans (HMEM.out q)⟩,by omega,rfl,HO5.out,HS5.out⟩
   | false =>
    have N93:=Lib.hid h93
    have HP93:=Lib.hid (show ¬ ptAt l p=93 by simpa [saysB] using h93)
    go_upto_region 9 with (go_at_call 116;(with_reducible refine (BSt.is_ (cc:=1) (m:=1) (cs:=[93]) (HS1.out.next ((Below.refl _ _).alloc (Nat.le_refl _) _)) false N93.out (runes_new wr [93] #[.int .i32 93] 1 rfl rfl) (by simp) (by decide)).mono ?_);rintro e w2 ⟨rfl,q4,hq4⟩;have hb4:Below wr.heap.size wr w2:=(by rw [hq4];exact below_drewN ((Below.refl _ _).alloc (Nat.le_refl _) _) _);have HS2:=Lib.hid (HS1.out.next hb4);have HO2:=Lib.hid (own_below HO1.out hb4 (Nat.le_refl _));have HK2:=Lib.hid (HK1.out.trans (Kept.of hb4));clear hq4 hb4)
    by_cases hd:d=1
    ·subst hd
     have hc5:=HS2.out.rd.cells
     cases h38:saysB l p [38,38] with
     | true =>
      have N38:=Lib.hid h38
      obtain ⟨c0,c1,c2,c3,f2⟩:=hc5
      go_upto_region 15 with (go_at_call 116;(with_reducible refine (BSt.is_ (cc:=2) (m:=2) (cs:=[38,38]) (HS2.out.next ((Below.refl _ _).alloc (Nat.le_refl _) _)) true N38.out (runes_new w2 [38,38] #[.int .i32 38,.int .i32 38] 2 rfl rfl) (by simp) (by decide)).mono ?_);rintro e w3 ⟨rfl,q4,hq4⟩;have hb4:Below w2.heap.size w2 w3:=(by rw [hq4];exact below_drewN ((Below.refl _ _).alloc (Nat.le_refl _) _) _);have HS3:=Lib.hid (HS2.out.next hb4);have HO3:=Lib.hid (own_below HO2.out hb4 (Nat.le_refl _));have HK3:=Lib.hid (HK2.out.trans (Kept.of hb4));clear hq4 hb4)
      clear c0 c1 c2 c3 f2
      have HR:R=.ok (acc,p):=by rw [← HE.out];unfold partP;rw [if_neg (fun x=>HP93.out x.2),if_pos ⟨rfl,N38.out⟩,if_neg (by omega)]
      subst HR
      obtain ⟨Ao,co,hv,hoc,hco⟩:=own_slice HO3.out
      subst hv
      have HL2:=Lib.hid (show B.length≤500000 by omega)
      go_wp2_with (go_at_call 67;(with_reducible refine (raw72 HSORT B Ao B.length co w3 HL2.out HOK.out (Rds.of_own HO3.out)).mono ?_);rintro e w5 ⟨out,hset,hln,A5,n5,c5,rfl,hown5,hb5⟩;have HS5:=Lib.hid (HS3.out.next hb5);have HK5:=Lib.hid (HK3.out.trans (Kept.of hb5));have HO5:=Lib.hid (own_mono hown5 HK3.out.size);have HSET:=Lib.hid hset;clear hset hown5 hb5)
      go_ret
      exact ⟨HK5.out,out,A5,n5,c5,⟨HSET.out.1,fun q=>(HSET.out.2 q).trans (HMEM.out q)⟩,by omega,rfl,HO5.out,HS5.out⟩
     | false =>
      have N38:=Lib.hid h38
      have HNX:=Lib.hid (show (match S p with|.error e=>.error e|.ok r=>partP 1 l S first m (k+1) (fun q=>acc q∨r.1 q) r.2)=R by rw [← HE.out,partP,if_neg (fun x=>HP93.out x.2),if_neg (fun x=>by rw [N38.out] at x;cases x.2)];rfl)
      obtain ⟨c0,c1,c2,c3,f2⟩:=hc5
      go_upto_region 13 with (go_at_call 116;(with_reducible refine (BSt.is_ (cc:=2) (m:=2) (cs:=[38,38]) (HS2.out.next ((Below.refl _ _).alloc (Nat.le_refl _) _)) false N38.out (runes_new w2 [38,38] #[.int .i32 38,.int .i32 38] 2 rfl rfl) (by simp) (by decide)).mono ?_);rintro e w3 ⟨rfl,q4,hq4⟩;have hb4:Below w2.heap.size w2 w3:=(by rw [hq4];exact below_drewN ((Below.refl _ _).alloc (Nat.le_refl _) _) _);have HS3:=Lib.hid (HS2.out.next hb4);have HO3:=Lib.hid (own_below HO2.out hb4 (Nat.le_refl _));have HK3:=Lib.hid (HK2.out.trans (Kept.of hb4));clear hq4 hb4)
      clear c0 c1 c2 c3 f2
      cases hr:S p with
      | error q =>
       have CS:∀ W,BSt b n c 1 fo dp A l p W→Calls Tryz.prog 117 #[.pointer (some ⟨b,0,none⟩)] W (SOut b n c 1 fo dp A l 480000 (.error q) W):=fun W hW=>by have:=HS.out p W hW;rw [hr] at this;exact this
       have HCS:=Lib.hid CS
       have HR:R=.error q:=by rw [← HNX.out,hr]
       subst HR
       clear CS hr
       go_wp2_with (go_at_call 117;(with_reducible refine (HCS.out _ HS3.out).mono ?_);rintro e w9 ⟨hk9,he⟩;obtain rfl:=(show e=_ from he))
       exact ⟨rfl,HK3.out.trans hk9,rfl⟩
      | ok r =>
       have CS:∀ W,BSt b n c 1 fo dp A l p W→Calls Tryz.prog 117 #[.pointer (some ⟨b,0,none⟩)] W (SOut b n c 1 fo dp A l 480000 (.ok r) W):=fun W hW=>by have:=HS.out p W hW;rw [hr] at this;exact this
       have HCS:=Lib.hid CS
       have HR:=Lib.hid (show partP _ l S first m (k+1) (fun q=>acc q∨r.1 q) r.2=R by rw [← HNX.out,hr])
       have hpr:=HA.out p r hp0 hr
       have HCH:=Lib.hid (fun out=>HC.out p r out hp0 hr)
       clear CS hr
       go_wp2_with (first
        | (go_at_call 117;(with_reducible refine (HCS.out _ HS3.out).mono ?_);rintro e w9 ⟨hk9,out,A9,n9,c9,hset,hln,rfl,hrd,hS9⟩;have HO9:=Lib.hid (own_keptb HO3.out hk9 hlt);have HK9:=Lib.hid (HK3.out.trans hk9);have HS9:=Lib.hid hS9;have R9:=Lib.hid hrd;have hsz9:=hk9.size;have HSET:=Lib.hid hset;have hol:out.length=n9:=hrd.rngs_len;have hol2:=HCH.out out hset;have hr2:=hS9.hi;clear hset hrd hS9 hk9)
        | (at_builtin;refine app_rngs (.tmp 46) (.tmp 48) (base:=w.heap.size) (xs:=B) (ys:=out) (n:=B.length) (m:=n9) HO9.out R9.out (by omega) (by have:=HK9.out.size;omega) rfl rfl rfl rfl ?_;intro v3 w3 hown3 hg3 hat3))
       have hb3:Below w.heap.size w9 w3:=(Below.refl _ _).grown hg3 HK9.out.size (fun g hg=>(HO9.out.lt g hg).1)
       go_roundw
       case rel=>exact ⟨k+1,m - 1,B ++ out,r.2,_,by first|(simp;done)|(simp;omega),Lib.hid (by rw [show m - 1+1=m by have:=HM.out;omega];exact HR.out),Lib.hid (by have:=HM.out;omega),by omega,Lib.hid (by rw [List.length_append,hol];simpa [rngs_append] using hown3),Lib.hid (HS9.out.below hb3 hlt),Lib.hid (HK9.out.low hb3),Lib.hid (fun x hx=>(List.mem_append.1 hx).elim (HOK.out x) (HSET.out.1.1 x)),Lib.hid (fun q=>by rw [mem_append,HMEM.out q,HSET.out.2 q]),by rw [List.length_append];omega⟩
       case measure=>first|(simp [intOf];done)|(simp [intOf];omega)
    ·have hdb:(d == 1)=false:=by simpa using hd
     have HNX:=Lib.hid (show (match S p with|.error e=>.error e|.ok r=>partP d l S first m (k+1) (fun q=>acc q∨r.1 q) r.2)=R by rw [← HE.out,partP,if_neg (fun x=>HP93.out x.2),if_neg (fun x=>hd x.1)];rfl)
     obtain ⟨c0,c1,c2,c3,f2⟩:=HS2.out.rd.cells
     go_upto_region 13 with (fail)
     clear c0 c1 c2 c3 f2
     cases hr:S p with
     | error q =>
      have CS:∀ W,BSt b n c d fo dp A l p W→Calls Tryz.prog 117 #[.pointer (some ⟨b,0,none⟩)] W (SOut b n c d fo dp A l 480000 (.error q) W):=fun W hW=>by have:=HS.out p W hW;rw [hr] at this;exact this
      have HCS:=Lib.hid CS
      have HR:R=.error q:=by rw [← HNX.out,hr]
      subst HR
      clear CS hr
      go_wp2_with (go_at_call 117;(with_reducible refine (HCS.out _ HS2.out).mono ?_);rintro e w9 ⟨hk9,he⟩;obtain rfl:=(show e=_ from he))
      exact ⟨rfl,HK2.out.trans hk9,rfl⟩
     | ok r =>
      have CS:∀ W,BSt b n c d fo dp A l p W→Calls Tryz.prog 117 #[.pointer (some ⟨b,0,none⟩)] W (SOut b n c d fo dp A l 480000 (.ok r) W):=fun W hW=>by have:=HS.out p W hW;rw [hr] at this;exact this
      have HCS:=Lib.hid CS
      have HR:=Lib.hid (show partP _ l S first m (k+1) (fun q=>acc q∨r.1 q) r.2=R by rw [← HNX.out,hr])
      have hpr:=HA.out p r hp0 hr
      have HCH:=Lib.hid (fun out=>HC.out p r out hp0 hr)
      clear CS hr
      go_wp2_with (first
       | (go_at_call 117;(with_reducible refine (HCS.out _ HS2.out).mono ?_);rintro e w9 ⟨hk9,out,A9,n9,c9,hset,hln,rfl,hrd,hS9⟩;have HO9:=Lib.hid (own_keptb HO2.out hk9 hlt);have HK9:=Lib.hid (HK2.out.trans hk9);have HS9:=Lib.hid hS9;have R9:=Lib.hid hrd;have hsz9:=hk9.size;have HSET:=Lib.hid hset;have hol:out.length=n9:=hrd.rngs_len;have hol2:=HCH.out out hset;have hr2:=hS9.hi;clear hset hrd hS9 hk9)
       | (at_builtin;refine app_rngs (.tmp 46) (.tmp 48) (base:=w.heap.size) (xs:=B) (ys:=out) (n:=B.length) (m:=n9) HO9.out R9.out (by omega) (by have:=HK9.out.size;omega) rfl rfl rfl rfl ?_;intro v3 w3 hown3 hg3 hat3))
      have hb3:Below w.heap.size w9 w3:=(Below.refl _ _).grown hg3 HK9.out.size (fun g hg=>(HO9.out.lt g hg).1)
      go_roundw
      case rel=>exact ⟨k+1,m - 1,B ++ out,r.2,_,by first|(simp;done)|(simp;omega),Lib.hid (by rw [show m - 1+1=m by have:=HM.out;omega];exact HR.out),Lib.hid (by have:=HM.out;omega),by omega,Lib.hid (by rw [List.length_append,hol];simpa [rngs_append] using hown3),Lib.hid (HS9.out.below hb3 hlt),Lib.hid (HK9.out.low hb3),Lib.hid (fun x hx=>(List.mem_append.1 hx).elim (HOK.out x) (HSET.out.1.1 x)),Lib.hid (fun q=>by rw [mem_append,HMEM.out q,HSET.out.2 q]),by rw [List.length_append];omega⟩
      case measure=>first|(simp [intOf];done)|(simp [intOf];omega)
end Go.Proofs.YtbiahhojnjchnaaGreat
