/-
  A bracket expression behind its [: walked, over what its parts tell. (Printed by genAll.py.)
-/
import Derived.Test.YtbiahhojnjchnaaGreatGY
set_option linter.unusedVariables false
set_option linter.unusedSimpArgs false
namespace Go.Proofs.YtbiahhojnjchnaaGreat
open Go.RowKit
def moreG (d:Int) (l:List Int) (FQ:(Int→Prop)→Int→Prop) (S:Int→BR SP):Nat→(Int→Prop)→Int→BR SP
 | 0,_,nx=>.error (0,nx)
 | m+1,f,nx =>
  if saysB l nx [38,38]=true then match partP d l S false (((l.length:Int) - (nx+2)).toNat+1) 0 (fun _=>False) (nx+2) with
   | .error e=>.error e
   | .ok r=>moreG d l FQ S m (fun p=>f p∧FQ r.1 p) r.2
  else .ok (f,nx+1)
def turnG (nt:Bool):BR SP→BR SP
 | .error e=>.error e
 | .ok r=>.ok (if nt=true then (fun p=>0≤p∧p≤1114111∧¬ r.1 p) else r.1,r.2)
def allG (d:Int) (l:List Int) (FQ:(Int→Prop)→Int→Prop) (S:Int→BR SP) (a:Int):BR SP :=
 match partP d l S true (((l.length:Int) - a).toNat+1) 0 (fun _=>False) a with
 | .error e=>.error e
 | .ok r=>moreG d l FQ S (((l.length:Int) - r.2).toNat+1) (FQ r.1) r.2
theorem part_end {d:Int} {l:List Int} {S:Int→BR SP} {first:Bool}:∀ (m n:Nat) (acc:Int→Prop) (p:Int) (r:SP),partP d l S first m n acc p=.ok r→ptAt l r.2=93∨saysB l r.2 [38,38]=true:=by
 intro m
 induction m with
 | zero=>intro n acc p r h;cases h
 | succ m ih =>
  intro n acc p r h
  unfold partP at h
  split at h
  ·rename_i h1
   split at h
   ·cases h
   ·cases h;exact .inl h1.2
  ·split at h
   ·rename_i h1
    split at h
    ·cases h
    ·cases h;exact .inr h1.2
   ·split at h
    ·cases h
    ·exact ih _ _ _ _ h
def FoldC (FQ:(Int→Prop)→Int→Prop):Prop:=∀ (a:List (Int × Int)) (A:Option Addr) (n c:Nat) (w:World),n≤90000→Can a→Rds w w.heap.size 2 A n (rngs a) →
 Calls Tryz.prog 38 #[.slice A n c] w fun e w'=>∃ out,IsSet out (FQ (mem a))∧OwnRngs w out e w'
def RawMeetC:Prop:=∀ (a b:List (Int × Int)) (A B:Option Addr) (n c m d:Nat) (w:World),n+m≤100000→Can a→Can b→Rds w w.heap.size 2 A n (rngs a)→Rds w w.heap.size 2 B m (rngs b) →
 Calls Tryz.prog 91 #[.slice A n c,.slice B m d] w fun e w'=>∃ out,(IsSet out fun p=>mem a p∧mem b p)∧OwnRngs w out e w'
theorem mem_fun {a:List (Int × Int)} {f:Int→Prop} (h:IsSet a f):mem a=f:=funext fun p=>propext (h.2 p)
/-- what is asked of the parts of an expression -/
structure PartsC (b n c:Nat) (d:Int) (fo:Bool) (dp:Int) (A:Option Addr) (l:List Int) (FQ:(Int→Prop)→Int→Prop) (S:Int→BR SP) (G:(Int→Prop)→Int→Prop):Prop where
 part:∀ (first:Bool) (p:Int) W,BSt b n c d fo dp A l p W→Calls Tryz.prog 90 #[.pointer (some ⟨b,0,none⟩),.bool first] W (BOut b n c d fo dp A l 480000 (partP d l S first (((l.length:Int) - p).toNat+1) 0 (fun _=>False) p) W)
 ahd:∀ (first:Bool) (p:Int) (r:SP),0≤p→partP d l S first (((l.length:Int) - p).toNat+1) 0 (fun _=>False) p=.ok r→p≤r.2
 short:∀ (first:Bool) (p:Int) (r:SP) (out:List (Int × Int)),0≤p→p≤n→r.2≤n→partP d l S first (((l.length:Int) - p).toNat+1) 0 (fun _=>False) p=.ok r→IsSet out r.1→out.length≤50000
 g0:∀ (p:Int) (r:SP),0≤p→partP d l S true (((l.length:Int) - p).toNat+1) 0 (fun _=>False) p=.ok r→G (FQ r.1) r.2
 g1:∀ (f:Int→Prop) (p:Int) (r:SP),0≤p→G f p→partP d l S false (((l.length:Int) - (p+2)).toNat+1) 0 (fun _=>False) (p+2)=.ok r→G (fun q=>f q∧FQ r.1 q) r.2
 gl:∀ (f:Int→Prop) (p:Int) (out:List (Int × Int)),G f p→p≤n→IsSet out f→out.length≤30000
 gf:∀ (p:Int) (r:SP),0≤p→partP d l S false (((l.length:Int) - p).toNat+1) 0 (fun _=>False) p=.ok r→G (FQ r.1) r.2
set_option maxRecDepth 100000 in
set_option maxHeartbeats 16000000 in
theorem all58_true {b n c:Nat} {d dp at_:Int} {A:Option Addr} {l:List Int} {w:World} {FQ:(Int→Prop)→Int→Prop} {S:Int→BR SP} {G:(Int→Prop)→Int→Prop} {nt:Bool} {a:Int}
  (HF:Hid (FoldC FQ)) (HM:Hid RawMeetC) (HN:Hid RawNotC) (HP:Hid (PartsC b n c d true dp A l FQ S G)) (h:BSt b n c d true dp A l at_ w) (hnt:saysB l at_ [94]=nt) (ha:a=if nt=true then at_+1 else at_) :
  Calls Tryz.prog 58 #[.pointer (some ⟨b,0,none⟩)] w (BOut b n c d true dp A l 480000 (turnG nt (allG d l FQ S a)) w):=by
 have hlen:=h.len
 have hlo:=h.lo
 have hlt:=h.lt
 have hhi:=h.hi
 have hsm:=h.small
 have HNT:=Lib.hid hnt
 have HA:=Lib.hid ha
 have HS0:=Lib.hid h
 have ha2:0≤a∧a≤n:=by
  cases nt with
  | false=>simp at ha;omega
  | true=>have:=says_fit hlen [94] at_ hlo (by simp) (by simp) hnt;simp at ha this;omega
 have HP1:=Lib.hid (fun first p W hW=>HP.out.part first p W hW)
 obtain ⟨R,hR⟩:∃ R,R=turnG nt (allG d l FQ S a):=⟨_,rfl⟩
 rw [← hR]
 have HR:=Lib.hid hR
 clear h hnt ha hR
 obtain ⟨c0,c1,c2,c3,f2⟩:=HS0.out.rd.cells
 go_enter Tryz.func58,Tryz.ntmps58
 go_upto_region 1 with (fail)
 go_cut [3] from 6 to 8 (fun v wc=>v=.bool nt∧Hid (BSt b n c d true dp A l a wc)∧Hid (Kept b w wc))
 ·cases nt with
  | true =>
   go_wp2_with (first
    | (go_at_call 89;(with_reducible refine (may_yes (cc:=1) (m:=1) (cs:=[94]) (HS0.out.next ((Below.refl _ _).alloc (Nat.le_refl _) _)) HNT.out (runes_new w [94] #[.int .i32 94] 1 rfl rfl) (by simp) (by decide) (by have:=says_fit HS0.out.len [94] at_ (by omega) (by simp) (by simp) HNT.out;simpa using this)).mono ?_);rintro e w3 ⟨rfl,hS,hk⟩;have HS3:=Lib.hid (show BSt b n c d true dp A l a w3 by have e:a=at_+((1:Nat):Int):=(by have:=HA.out;simp at this;omega);rw [e];exact hS);have HK3:=Lib.hid ((Kept.of ((Below.refl _ _).alloc (Nat.le_refl _) _)).trans hk);clear hS hk))
   go_meet
   exact ⟨rfl,HS3,HK3⟩
  | false =>
   have e:a=at_:=by have:=HA.out;simpa using this
   have EA:=Lib.hid e
   clear e
   go_wp2_with (first
    | (go_at_call 89;(with_reducible refine (may_no (cc:=1) (m:=1) (cs:=[94]) (HS0.out.next ((Below.refl _ _).alloc (Nat.le_refl _) _)) HNT.out (runes_new w [94] #[.int .i32 94] 1 rfl rfl) (by simp) (by decide)).mono ?_);rintro e w3 ⟨rfl,q3,hq3⟩;have hb3:Below w.heap.size w w3:=(by rw [hq3];exact below_drewN ((Below.refl _ _).alloc (Nat.le_refl _) _) _);have HS3:=Lib.hid (show BSt b n c d true dp A l a w3 by rw [EA.out];exact HS0.out.next hb3);have HK3:=Lib.hid (Kept.of (b:=b) hb3);clear hq3 hb3))
   go_meet
   exact ⟨rfl,HS3,HK3⟩
 obtain ⟨rfl,HS3,HK3⟩:=hcut
 clear c0 c1 c2 c3 f2 HS0 HA HNT
 have HC3:=Lib.hid (HP1.out true a wc HS3.out)
 cases hp:partP d l S true (((l.length:Int) - a).toNat+1) 0 (fun _=>False) a with
 | error q =>
  have HE:R=.error q:=by rw [HR.out];unfold allG;rw [hp];rfl
  rw [hp] at HC3
  clear hp
  subst HE
  go_wp2_with (go_at_call 90;(with_reducible refine HC3.out.mono ?_);rintro e w4 ⟨hk,he⟩;obtain rfl:=(show e=_ from he))
  exact ⟨rfl,HK3.out.trans hk,rfl⟩
 | ok r0 =>
  have HPO:=Lib.hid hp
  rw [hp] at HC3
  have HRM:=Lib.hid (show R=turnG nt (moreG d l FQ S (((l.length:Int) - r0.2).toNat+1) (FQ r0.1) r0.2) by rw [HR.out];unfold allG;rw [hp])
  have HEND:=Lib.hid (part_end _ _ _ _ _ hp)
  have HG0:=Lib.hid (HP.out.g0 a r0 ha2.1 hp)
  have hah:=HP.out.ahd true a r0 ha2.1 hp
  clear hp
  go_upto_region 3 with (first
   | (go_at_call 90;(with_reducible refine HC3.out.mono ?_);rintro e w4 ⟨hk,o4,A4,n4,c4,hset,hln,rfl,hown,hS⟩))
  have HS4:=Lib.hid hS
  have HK4:=Lib.hid (HK3.out.trans hk)
  have HO4:=Lib.hid (own_mono hown HK3.out.size)
  have HSET4:=Lib.hid hset
  have hn4:n4≤50000:=by have h1:=HP.out.short true a r0 o4 ha2.1 ha2.2 hS.hi HPO.out hset;have h2:=own_rngs_len hown;omega
  clear hk hset hln hown hS HC3 HR
  obtain ⟨c0,c1,c2,c3,f2⟩:=HS4.out.rd.cells
  have HF1:=Lib.hid (HF.out o4 A4 n4 c4 w4 (by omega) HSET4.out.1 (Rds.of_own HO4.out))
  go_wp2_with (first
   | (go_at_call 38;(with_reducible refine HF1.out.mono ?_);rintro e w5 ⟨o5,hset,A5,n5,c5,rfl,hown,hb⟩;have HS5:=Lib.hid (HS4.out.next hb);have HK5:=Lib.hid (HK4.out.trans (Kept.of hb));have HO5:=Lib.hid (own_mono hown HK4.out.size);have HSET5:=Lib.hid (show IsSet o5 (FQ r0.1) by rw [← mem_fun HSET4.out];exact hset);clear hset hown hb))
  clear HS4 HK4 HO4 HSET4 c0 c1 c2 c3 f2
  go_loopw [4,5] (fun v u wr=>∃ (m k:Nat) (o:List (Int × Int)) (f:Int→Prop) (p:Int),Hid (turnG nt (moreG d l FQ S (m+1) f p)=R)∧Hid ((n:Int) - p≤m)∧Hid (G f p)∧Hid (ptAt l p=93∨saysB l p [38,38]=true)∧Hid (wr.ownsRow w.heap.size 67 2 v k (rngs o))∧Hid (IsSet o f)∧Hid (BSt b n c d true dp A l p wr)∧Hid (Kept b w wr)) (fun _ _ wr=>n - placeOf b wr)
  case atStart=>exact ⟨((l.length:Int) - r0.2).toNat,_,_,FQ r0.1,r0.2,Lib.hid HRM.out.symm,Lib.hid (by rw [hlen];omega),HG0,HEND,HO5,HSET5,HS5,HK5⟩
  case round =>
   clear HG0 HEND HO5 HSET5 HS5 HK5 HRM HPO HS3 HK3 hn4 hah ha2
   obtain ⟨m,k,o,f,p,HE,HMM,HG,HEN,HO1,HSET1,HS1,HK1⟩:=hrel
   have hp0:=HS1.out.lo
   have hp1:=HS1.out.hi
   cases h38:saysB l p [38,38] with
   | true =>
    have N38:=Lib.hid h38
    have hpf:=says_fit HS1.out.len [38,38] p hp0 (by simp) (by simp) h38
    have hpl:placeOf b wr=p.toNat:=by unfold placeOf;rw [HS1.out.rd.cells.2.2.1];rfl
    have HPL:=Lib.hid hpl
    simp only [List.length_cons,List.length_nil] at hpf
    clear h38 hpl
    go_upto_region 6 with (first
     | (go_at_call 89;(with_reducible refine (may_yes (cc:=2) (m:=2) (cs:=[38,38]) (HS1.out.next ((Below.refl _ _).alloc (Nat.le_refl _) _)) N38.out (runes_new wr [38,38] #[.int .i32 38,.int .i32 38] 2 rfl rfl) (by simp) (by decide) (by omega)).mono ?_);rintro e w2 ⟨rfl,hS,hk⟩;have HS2:=Lib.hid (show BSt b n c d true dp A l (p+2) w2 from hS);have HK2:=Lib.hid ((Kept.of (b:=b) ((Below.refl wr.heap.size wr).alloc (Nat.le_refl _) _)).trans hk);clear hS hk))
    have HO2:=Lib.hid (own_keptb HO1.out HK2.out hlt)
    have HKK2:=Lib.hid (HK1.out.trans HK2.out)
    have HC2:=Lib.hid (HP1.out false (p+2) w2 HS2.out)
    clear HS1 HK1 HO1 HK2
    cases hp:partP d l S false (((l.length:Int) - (p+2)).toNat+1) 0 (fun _=>False) (p+2) with
    | error q =>
     have HER:R=.error q:=by rw [← HE.out,moreG,if_pos N38.out,hp];rfl
     rw [hp] at HC2
     clear hp
     subst HER
     go_wp2_with (go_at_call 90;(with_reducible refine HC2.out.mono ?_);rintro e w4 ⟨hk,he⟩;obtain rfl:=(show e=_ from he))
     exact ⟨rfl,HKK2.out.trans hk,rfl⟩
    | ok r1 =>
     have HPO:=Lib.hid hp
     have HRM:=Lib.hid (show turnG nt (moreG d l FQ S m (fun q=>f q∧FQ r1.1 q) r1.2)=R by rw [← HE.out,moreG,if_pos N38.out,hp])
     have HEND:=Lib.hid (part_end _ _ _ _ _ hp)
     have HG1:=Lib.hid (HP.out.g1 f p r1 hp0 HG.out hp)
     have HGF:=Lib.hid (HP.out.gf (p+2) r1 (by omega) hp)
     have hah:=HP.out.ahd false (p+2) r1 (by omega) hp
     rw [hp] at HC2
     clear hp
     have hk30:k≤30000:=by have h1:=HP.out.gl f p o HG.out hp1 HSET1.out;have h2:=own_rngs_len HO2.out;omega
     obtain ⟨A1,c1',rfl,-,-⟩:=own_slice HO2.out
     go_upto_region 7 with (first
      | (go_at_call 90;(with_reducible refine HC2.out.mono ?_);rintro e w4 ⟨hk,o4,A4,n4,c4,hset,hln,rfl,hown,hS⟩))
     have HS4:=Lib.hid hS
     have hr1:=hS.hi
     have HK4:=Lib.hid (HKK2.out.trans hk)
     have HO4:=Lib.hid (own_mono hown HKK2.out.size)
     have HO3:=Lib.hid (own_keptb HO2.out hk hlt)
     have HSET4:=Lib.hid hset
     have hn4:n4≤50000:=by have h1:=HP.out.short false (p+2) r1 o4 (by omega) (by omega) hS.hi HPO.out hset;have h2:=own_rngs_len hown;omega
     clear hk hset hln hown hS HC2 HO2 HKK2 HS2
     obtain ⟨c0,c1,c2,c3,f2⟩:=HS4.out.rd.cells
     have HF1:=Lib.hid (HF.out o4 A4 n4 c4 w4 (by omega) HSET4.out.1 (Rds.of_own HO4.out))
     go_upto_region 9 with (first
      | (go_at_call 38;(with_reducible refine HF1.out.mono ?_);rintro e w5 ⟨o5,hset,A5,n5,c5,rfl,hown,hb⟩;have HS5:=Lib.hid (HS4.out.next hb);have HK5:=Lib.hid (HK4.out.trans (Kept.of hb));have HO5:=Lib.hid (own_mono hown HK4.out.size);have HO6:=Lib.hid (own_below HO3.out hb (Nat.le_refl _));have HSET5:=Lib.hid (show IsSet o5 (FQ r1.1) by rw [← mem_fun HSET4.out];exact hset);clear hset hown hb))
     have hn5:n5≤30000:=by have h1:=HP.out.gl _ r1.2 o5 HGF.out hr1 HSET5.out;have h2:=own_rngs_len HO5.out;omega
     clear HF1
     have HM1:=Lib.hid (HM.out o o5 A1 A5 k c1' n5 c5 w5 (by omega) HSET1.out.1 HSET5.out.1 (Rds.of_own HO6.out) (Rds.of_own HO5.out))
     clear c0 c1 c2 c3 f2 HS4 HK4 HO4 HO3 HSET4
     go_wp2_with (first
      | (go_at_call 91;(with_reducible refine HM1.out.mono ?_);rintro e w6 ⟨o6,hset,A6,n6,c6,rfl,hown,hb⟩;have HS7:=Lib.hid (HS5.out.next hb);have HK7:=Lib.hid (HK5.out.trans (Kept.of hb));have HO7:=Lib.hid (own_mono hown HK5.out.size);have HSET7:=Lib.hid (show IsSet o6 (fun q=>f q∧FQ r1.1 q) by rw [← mem_fun HSET1.out,← mem_fun HSET5.out];exact hset);clear hset hown hb))
     go_roundw
     case rel=>exact ⟨m - 1,_,o6,_,r1.2,Lib.hid (by rw [show m - 1+1=m by have:=HMM.out;omega];exact HRM.out),Lib.hid (by have:=HMM.out;omega),HG1,HEND,HO7,HSET7,HS7,HK7⟩
     case measure =>
      have h1:placeOf b w6=r1.2.toNat:=by unfold placeOf;rw [HS7.out.rd.cells.2.2.1];rfl
      rw [h1,HPL.out]
      omega
   | false =>
    have N38:=Lib.hid h38
    have hpt:ptAt l p=93:=HEN.out.elim id (fun e=>by rw [h38] at e;cases e)
    have hp2:=pt_hi hlen (show 0≤ptAt l p by omega)
    have HER:=Lib.hid (show R=turnG nt (.ok (f,p+1)) by rw [← HE.out,moreG,if_neg (by rw [h38];decide)])
    have hk30:k≤30000:=by have h1:=HP.out.gl f p o HG.out hp1 HSET1.out;have h2:=own_rngs_len HO1.out;omega
    obtain ⟨A1,c1',rfl,-,-⟩:=own_slice HO1.out
    have W1:IntKind.i64.wrap (p+1)=p+1:=IntWalk.i64_in _ (by omega)
    clear h38 hpt HE HG HEN
    go_upto_region 10 with (first
     | (go_at_call 89;(with_reducible refine (may_no (cc:=2) (m:=2) (cs:=[38,38]) (HS1.out.next ((Below.refl _ _).alloc (Nat.le_refl _) _)) N38.out (runes_new wr [38,38] #[.int .i32 38,.int .i32 38] 2 rfl rfl) (by simp) (by decide)).mono ?_);rintro e w3 ⟨rfl,q3,hq3⟩;have hb3:Below wr.heap.size wr w3:=(by rw [hq3];exact below_drewN ((Below.refl _ _).alloc (Nat.le_refl _) _) _);have HS2:=Lib.hid (HS1.out.next hb3);have HK2:=Lib.hid (HK1.out.trans (Kept.of hb3));have HO2:=Lib.hid (own_below HO1.out hb3 (Nat.le_refl _));clear hq3 hb3))
    clear HS1 HK1 HO1
    obtain ⟨c0,c1,c2,c3,f2⟩:=HS2.out.rd.cells
    go_upto_region 11 with (fail)
    have HS4:=Lib.hid (HS2.out.moved (p+1) (by omega) (by omega))
    have HK4:=Lib.hid (HK2.out.set 2 (.int .i64 (p+1)))
    have HO4:=Lib.hid (own_keptb HO2.out ((Kept.refl b w3).set 2 (.int .i64 (p+1))) hlt)
    obtain ⟨W4,hW4⟩:∃ X,X=w3.setCell ⟨b,2,none⟩ (.int .i64 (p+1)):=⟨_,rfl⟩
    rw [← hW4] at HS4 HK4 HO4 ⊢
    clear hW4 c0 c1 c2 c3 f2 HS2 HK2 HO2
    have hE:=HER.out
    cases nt with
    | false =>
     subst hE
     go_wp2_with fail
     go_ret
     exact ⟨HK4.out,o,A1,k,c1',HSET1.out,by have:=own_rngs_len HO4.out;omega,rfl,HO4.out,HS4.out⟩
    | true =>
     subst hE
     have HN1:=Lib.hid (HN.out o A1 k c1' W4 (by omega) HSET1.out.1 (Rds.of_own HO4.out))
     go_wp2_with (first
      | (go_at_call 69;(with_reducible refine HN1.out.mono ?_);rintro e w5 ⟨o5,hset,hln,A5,n5,c5,rfl,hown,hb⟩))
     have HSET5:=Lib.hid (show IsSet o5 (fun q=>0≤q∧q≤1114111∧¬ f q) by rw [← mem_fun HSET1.out];exact hset)
     have HS5:=Lib.hid (HS4.out.next hb)
     have HK5:=Lib.hid (HK4.out.trans (Kept.of hb))
     have HO5:=Lib.hid (own_mono hown HK4.out.size)
     clear hset hown hb
     go_ret
     exact ⟨HK5.out,o5,A5,n5,c5,HSET5.out,by omega,rfl,HO5.out,HS5.out⟩
set_option maxRecDepth 100000 in
set_option maxHeartbeats 16000000 in
theorem all58_false {b n c:Nat} {d dp at_:Int} {A:Option Addr} {l:List Int} {w:World} {FQ:(Int→Prop)→Int→Prop} {S:Int→BR SP} {G:(Int→Prop)→Int→Prop} {nt:Bool} {a:Int}
  (HF:Hid (∀ f:Int→Prop,FQ f=f)) (HM:Hid RawMeetC) (HN:Hid RawNotC) (HP:Hid (PartsC b n c d false dp A l FQ S G)) (h:BSt b n c d false dp A l at_ w) (hnt:saysB l at_ [94]=nt) (ha:a=if nt=true then at_+1 else at_) :
  Calls Tryz.prog 58 #[.pointer (some ⟨b,0,none⟩)] w (BOut b n c d false dp A l 480000 (turnG nt (allG d l FQ S a)) w):=by
 have hlen:=h.len
 have hlo:=h.lo
 have hlt:=h.lt
 have hhi:=h.hi
 have hsm:=h.small
 have HNT:=Lib.hid hnt
 have HA:=Lib.hid ha
 have HS0:=Lib.hid h
 have ha2:0≤a∧a≤n:=by
  cases nt with
  | false=>simp at ha;omega
  | true=>have:=says_fit hlen [94] at_ hlo (by simp) (by simp) hnt;simp at ha this;omega
 have HP1:=Lib.hid (fun first p W hW=>HP.out.part first p W hW)
 obtain ⟨R,hR⟩:∃ R,R=turnG nt (allG d l FQ S a):=⟨_,rfl⟩
 rw [← hR]
 have HR:=Lib.hid hR
 clear h hnt ha hR
 obtain ⟨c0,c1,c2,c3,f2⟩:=HS0.out.rd.cells
 go_enter Tryz.func58,Tryz.ntmps58
 go_upto_region 1 with (fail)
 go_cut [3] from 6 to 8 (fun v wc=>v=.bool nt∧Hid (BSt b n c d false dp A l a wc)∧Hid (Kept b w wc))
 ·cases nt with
  | true =>
   go_wp2_with (first
    | (go_at_call 89;(with_reducible refine (may_yes (cc:=1) (m:=1) (cs:=[94]) (HS0.out.next ((Below.refl _ _).alloc (Nat.le_refl _) _)) HNT.out (runes_new w [94] #[.int .i32 94] 1 rfl rfl) (by simp) (by decide) (by have:=says_fit HS0.out.len [94] at_ (by omega) (by simp) (by simp) HNT.out;simpa using this)).mono ?_);rintro e w3 ⟨rfl,hS,hk⟩;have HS3:=Lib.hid (show BSt b n c d false dp A l a w3 by have e:a=at_+((1:Nat):Int):=(by have:=HA.out;simp at this;omega);rw [e];exact hS);have HK3:=Lib.hid ((Kept.of ((Below.refl _ _).alloc (Nat.le_refl _) _)).trans hk);clear hS hk))
   go_meet
   exact ⟨rfl,HS3,HK3⟩
  | false =>
   have e:a=at_:=by have:=HA.out;simpa using this
   have EA:=Lib.hid e
   clear e
   go_wp2_with (first
    | (go_at_call 89;(with_reducible refine (may_no (cc:=1) (m:=1) (cs:=[94]) (HS0.out.next ((Below.refl _ _).alloc (Nat.le_refl _) _)) HNT.out (runes_new w [94] #[.int .i32 94] 1 rfl rfl) (by simp) (by decide)).mono ?_);rintro e w3 ⟨rfl,q3,hq3⟩;have hb3:Below w.heap.size w w3:=(by rw [hq3];exact below_drewN ((Below.refl _ _).alloc (Nat.le_refl _) _) _);have HS3:=Lib.hid (show BSt b n c d false dp A l a w3 by rw [EA.out];exact HS0.out.next hb3);have HK3:=Lib.hid (Kept.of (b:=b) hb3);clear hq3 hb3))
   go_meet
   exact ⟨rfl,HS3,HK3⟩
 obtain ⟨rfl,HS3,HK3⟩:=hcut
 clear c0 c1 c2 c3 f2 HS0 HA HNT
 have HC3:=Lib.hid (HP1.out true a wc HS3.out)
 cases hp:partP d l S true (((l.length:Int) - a).toNat+1) 0 (fun _=>False) a with
 | error q =>
  have HE:R=.error q:=by rw [HR.out];unfold allG;rw [hp];rfl
  rw [hp] at HC3
  clear hp
  subst HE
  go_wp2_with (go_at_call 90;(with_reducible refine HC3.out.mono ?_);rintro e w4 ⟨hk,he⟩;obtain rfl:=(show e=_ from he))
  exact ⟨rfl,HK3.out.trans hk,rfl⟩
 | ok r0 =>
  have HPO:=Lib.hid hp
  rw [hp] at HC3
  have HRM:=Lib.hid (show R=turnG nt (moreG d l FQ S (((l.length:Int) - r0.2).toNat+1) (FQ r0.1) r0.2) by rw [HR.out];unfold allG;rw [hp])
  have HEND:=Lib.hid (part_end _ _ _ _ _ hp)
  have HG0:=Lib.hid (HP.out.g0 a r0 ha2.1 hp)
  have hah:=HP.out.ahd true a r0 ha2.1 hp
  clear hp
  go_upto_region 3 with (first
   | (go_at_call 90;(with_reducible refine HC3.out.mono ?_);rintro e w4 ⟨hk,o4,A4,n4,c4,hset,hln,rfl,hown,hS⟩))
  have HS4:=Lib.hid hS
  have HK4:=Lib.hid (HK3.out.trans hk)
  have HO4:=Lib.hid (own_mono hown HK3.out.size)
  have HSET4:=Lib.hid hset
  have hn4:n4≤50000:=by have h1:=HP.out.short true a r0 o4 ha2.1 ha2.2 hS.hi HPO.out hset;have h2:=own_rngs_len hown;omega
  clear hk hset hln hown hS HC3 HR
  obtain ⟨c0,c1,c2,c3,f2⟩:=HS4.out.rd.cells
  have HS5:=HS4
  have HK5:=HK4
  have HO5:=HO4
  have HSET5:=Lib.hid (show IsSet o4 (FQ r0.1) by rw [HF.out];exact HSET4.out)
  go_wp2_with fail
  clear HS4 HK4 HO4 HSET4 c0 c1 c2 c3 f2
  go_loopw [4,5] (fun v u wr=>∃ (m k:Nat) (o:List (Int × Int)) (f:Int→Prop) (p:Int),Hid (turnG nt (moreG d l FQ S (m+1) f p)=R)∧Hid ((n:Int) - p≤m)∧Hid (G f p)∧Hid (ptAt l p=93∨saysB l p [38,38]=true)∧Hid (wr.ownsRow w.heap.size 67 2 v k (rngs o))∧Hid (IsSet o f)∧Hid (BSt b n c d false dp A l p wr)∧Hid (Kept b w wr)) (fun _ _ wr=>n - placeOf b wr)
  case atStart=>exact ⟨((l.length:Int) - r0.2).toNat,_,_,FQ r0.1,r0.2,Lib.hid HRM.out.symm,Lib.hid (by rw [hlen];omega),HG0,HEND,HO5,HSET5,HS5,HK5⟩
  case round =>
   clear HG0 HEND HO5 HSET5 HS5 HK5 HRM HPO HS3 HK3 hn4 hah ha2
   obtain ⟨m,k,o,f,p,HE,HMM,HG,HEN,HO1,HSET1,HS1,HK1⟩:=hrel
   have hp0:=HS1.out.lo
   have hp1:=HS1.out.hi
   cases h38:saysB l p [38,38] with
   | true =>
    have N38:=Lib.hid h38
    have hpf:=says_fit HS1.out.len [38,38] p hp0 (by simp) (by simp) h38
    have hpl:placeOf b wr=p.toNat:=by unfold placeOf;rw [HS1.out.rd.cells.2.2.1];rfl
    have HPL:=Lib.hid hpl
    simp only [List.length_cons,List.length_nil] at hpf
    clear h38 hpl
    go_upto_region 6 with (first
     | (go_at_call 89;(with_reducible refine (may_yes (cc:=2) (m:=2) (cs:=[38,38]) (HS1.out.next ((Below.refl _ _).alloc (Nat.le_refl _) _)) N38.out (runes_new wr [38,38] #[.int .i32 38,.int .i32 38] 2 rfl rfl) (by simp) (by decide) (by omega)).mono ?_);rintro e w2 ⟨rfl,hS,hk⟩;have HS2:=Lib.hid (show BSt b n c d false dp A l (p+2) w2 from hS);have HK2:=Lib.hid ((Kept.of (b:=b) ((Below.refl wr.heap.size wr).alloc (Nat.le_refl _) _)).trans hk);clear hS hk))
    have HO2:=Lib.hid (own_keptb HO1.out HK2.out hlt)
    have HKK2:=Lib.hid (HK1.out.trans HK2.out)
    have HC2:=Lib.hid (HP1.out false (p+2) w2 HS2.out)
    clear HS1 HK1 HO1 HK2
    cases hp:partP d l S false (((l.length:Int) - (p+2)).toNat+1) 0 (fun _=>False) (p+2) with
    | error q =>
     have HER:R=.error q:=by rw [← HE.out,moreG,if_pos N38.out,hp];rfl
     rw [hp] at HC2
     clear hp
     subst HER
     go_wp2_with (go_at_call 90;(with_reducible refine HC2.out.mono ?_);rintro e w4 ⟨hk,he⟩;obtain rfl:=(show e=_ from he))
     exact ⟨rfl,HKK2.out.trans hk,rfl⟩
    | ok r1 =>
     have HPO:=Lib.hid hp
     have HRM:=Lib.hid (show turnG nt (moreG d l FQ S m (fun q=>f q∧FQ r1.1 q) r1.2)=R by rw [← HE.out,moreG,if_pos N38.out,hp])
     have HEND:=Lib.hid (part_end _ _ _ _ _ hp)
     have HG1:=Lib.hid (HP.out.g1 f p r1 hp0 HG.out hp)
     have HGF:=Lib.hid (HP.out.gf (p+2) r1 (by omega) hp)
     have hah:=HP.out.ahd false (p+2) r1 (by omega) hp
     rw [hp] at HC2
     clear hp
     have hk30:k≤30000:=by have h1:=HP.out.gl f p o HG.out hp1 HSET1.out;have h2:=own_rngs_len HO2.out;omega
     obtain ⟨A1,c1',rfl,-,-⟩:=own_slice HO2.out
     go_upto_region 7 with (first
      | (go_at_call 90;(with_reducible refine HC2.out.mono ?_);rintro e w4 ⟨hk,o4,A4,n4,c4,hset,hln,rfl,hown,hS⟩))
     have HS4:=Lib.hid hS
     have hr1:=hS.hi
     have HK4:=Lib.hid (HKK2.out.trans hk)
     have HO4:=Lib.hid (own_mono hown HKK2.out.size)
     have HO3:=Lib.hid (own_keptb HO2.out hk hlt)
     have HSET4:=Lib.hid hset
     have hn4:n4≤50000:=by have h1:=HP.out.short false (p+2) r1 o4 (by omega) (by omega) hS.hi HPO.out hset;have h2:=own_rngs_len hown;omega
     clear hk hset hln hown hS HC2 HO2 HKK2 HS2
     obtain ⟨c0,c1,c2,c3,f2⟩:=HS4.out.rd.cells
     have HSET5:=Lib.hid (show IsSet o4 (FQ r1.1) by rw [HF.out];exact HSET4.out)
     have hn5:n4≤30000:=by have h1:=HP.out.gl _ r1.2 o4 HGF.out hr1 HSET5.out;have h2:=own_rngs_len HO4.out;omega
     have HS5:=HS4
     have HK5:=HK4
     have HO5:=HO4
     have HO6:=HO3
     go_upto_region 9 with (fail)
     have HM1:=Lib.hid (HM.out o o4 A1 A4 k c1' n4 c4 w4 (by omega) HSET1.out.1 HSET5.out.1 (Rds.of_own HO6.out) (Rds.of_own HO5.out))
     clear c0 c1 c2 c3 f2 HS4 HK4 HO4 HO3 HSET4
     go_wp2_with (first
      | (go_at_call 91;(with_reducible refine HM1.out.mono ?_);rintro e w6 ⟨o6,hset,A6,n6,c6,rfl,hown,hb⟩;have HS7:=Lib.hid (HS5.out.next hb);have HK7:=Lib.hid (HK5.out.trans (Kept.of hb));have HO7:=Lib.hid (own_mono hown HK5.out.size);have HSET7:=Lib.hid (show IsSet o6 (fun q=>f q∧FQ r1.1 q) by rw [← mem_fun HSET1.out,← mem_fun HSET5.out];exact hset);clear hset hown hb))
     go_roundw
     case rel=>exact ⟨m - 1,_,o6,_,r1.2,Lib.hid (by rw [show m - 1+1=m by have:=HMM.out;omega];exact HRM.out),Lib.hid (by have:=HMM.out;omega),HG1,HEND,HO7,HSET7,HS7,HK7⟩
     case measure =>
      have h1:placeOf b w6=r1.2.toNat:=by unfold placeOf;rw [HS7.out.rd.cells.2.2.1];rfl
      rw [h1,HPL.out]
      omega
   | false =>
    have N38:=Lib.hid h38
    have hpt:ptAt l p=93:=HEN.out.elim id (fun e=>by rw [h38] at e;cases e)
    have hp2:=pt_hi hlen (show 0≤ptAt l p by omega)
    have HER:=Lib.hid (show R=turnG nt (.ok (f,p+1)) by rw [← HE.out,moreG,if_neg (by rw [h38];decide)])
    have hk30:k≤30000:=by have h1:=HP.out.gl f p o HG.out hp1 HSET1.out;have h2:=own_rngs_len HO1.out;omega
    obtain ⟨A1,c1',rfl,-,-⟩:=own_slice HO1.out
    have W1:IntKind.i64.wrap (p+1)=p+1:=IntWalk.i64_in _ (by omega)
    clear h38 hpt HE HG HEN
    go_upto_region 10 with (first
     | (go_at_call 89;(with_reducible refine (may_no (cc:=2) (m:=2) (cs:=[38,38]) (HS1.out.next ((Below.refl _ _).alloc (Nat.le_refl _) _)) N38.out (runes_new wr [38,38] #[.int .i32 38,.int .i32 38] 2 rfl rfl) (by simp) (by decide)).mono ?_);rintro e w3 ⟨rfl,q3,hq3⟩;have hb3:Below wr.heap.size wr w3:=(by rw [hq3];exact below_drewN ((Below.refl _ _).alloc (Nat.le_refl _) _) _);have HS2:=Lib.hid (HS1.out.next hb3);have HK2:=Lib.hid (HK1.out.trans (Kept.of hb3));have HO2:=Lib.hid (own_below HO1.out hb3 (Nat.le_refl _));clear hq3 hb3))
    clear HS1 HK1 HO1
    obtain ⟨c0,c1,c2,c3,f2⟩:=HS2.out.rd.cells
    go_upto_region 11 with (fail)
    have HS4:=Lib.hid (HS2.out.moved (p+1) (by omega) (by omega))
    have HK4:=Lib.hid (HK2.out.set 2 (.int .i64 (p+1)))
    have HO4:=Lib.hid (own_keptb HO2.out ((Kept.refl b w3).set 2 (.int .i64 (p+1))) hlt)
    obtain ⟨W4,hW4⟩:∃ X,X=w3.setCell ⟨b,2,none⟩ (.int .i64 (p+1)):=⟨_,rfl⟩
    rw [← hW4] at HS4 HK4 HO4 ⊢
    clear hW4 c0 c1 c2 c3 f2 HS2 HK2 HO2
    have hE:=HER.out
    cases nt with
    | false =>
     subst hE
     go_wp2_with fail
     go_ret
     exact ⟨HK4.out,o,A1,k,c1',HSET1.out,by have:=own_rngs_len HO4.out;omega,rfl,HO4.out,HS4.out⟩
    | true =>
     subst hE
     have HN1:=Lib.hid (HN.out o A1 k c1' W4 (by omega) HSET1.out.1 (Rds.of_own HO4.out))
     go_wp2_with (first
      | (go_at_call 69;(with_reducible refine HN1.out.mono ?_);rintro e w5 ⟨o5,hset,hln,A5,n5,c5,rfl,hown,hb⟩))
     have HSET5:=Lib.hid (show IsSet o5 (fun q=>0≤q∧q≤1114111∧¬ f q) by rw [← mem_fun HSET1.out];exact hset)
     have HS5:=Lib.hid (HS4.out.next hb)
     have HK5:=Lib.hid (HK4.out.trans (Kept.of hb))
     have HO5:=Lib.hid (own_mono hown HK4.out.size)
     clear hset hown hb
     go_ret
     exact ⟨HK5.out,o5,A5,n5,c5,HSET5.out,by omega,rfl,HO5.out,HS5.out⟩
end Go.Proofs.YtbiahhojnjchnaaGreat
