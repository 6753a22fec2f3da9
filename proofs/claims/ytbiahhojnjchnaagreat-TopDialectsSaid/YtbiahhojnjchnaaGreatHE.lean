/-
  Tokens: what the document says, in plain Lean. What a token is, moved: what stands ahead of it does not matter; it takes a point at least and no more than there are: plain.
-/
import GoSem.Claim
set_option linter.unusedVariables false
set_option linter.unusedSimpArgs false
namespace Go.Proofs.YtbiahhojnjchnaaGreat
/-- a token -/
structure Tk where
 kind:Int:=0
 num:Int:=0
 text:List UInt8:=[]
 not_:Bool:=false
 least:Int:=0
 most:Int:=0
 way:Int:=0
 fold:Int:=0
def Tk.vals (t:Tk):List Value:=[.int .i64 t.kind,.int .i64 t.num,.string ⟨t.text.toArray⟩,.bool t.not_,.int .i64 t.least,.int .i64 t.most,.int .i64 t.way,.int .i64 t.fold]
/-- the point at a place, -1 beside the text -/
def ptAt (l:List Int) (p:Int):Int:=if h:0≤p∧p < l.length then l[p.toNat]'(by omega) else -1
theorem ptAt_in (l:List Int) {k:Nat} (h:k < l.length):ptAt l (k:Int)=l[k]:=by
 unfold ptAt;rw [dif_pos ⟨by omega,by omega⟩];simp
theorem ptAt_out (l:List Int) {p:Int} (h:¬ (0≤p∧p < l.length)):ptAt l p=-1:=dif_neg h
def isDig (p:Int):Bool:=decide (48≤p) && decide (p≤57)
def isLet (p:Int):Bool:=(decide (65≤p) && decide (p≤90)) || (decide (97≤p) && decide (p≤122))
def isHexP (p:Int):Bool:=isDig p || (decide (97≤p) && decide (p≤102)) || (decide (65≤p) && decide (p≤70))
def isNamP (p:Int):Bool:=isLet p || isDig p || p == 95
/-- how many points from a place on are something, most at most -/
def runLen (f:Int→Bool) (l:List Int):Int→Nat→Nat
 | _,0=>0
 | at_,m+1=>if f (ptAt l at_)=true then 1+runLen f l (at_+1) m else 0
def runPts (l:List Int) (p:Int) (k:Nat):List Int:=(List.range k).map fun i:Nat=>ptAt l (p+i)
def decN (l:List Int):Int:=l.foldl (fun n p=>10 * n+p - 48) 0
def hexV (p:Int):Int:=if isDig p=true then p - 48 else if 97≤p∧p≤102 then p - 87 else if 65≤p∧p≤70 then p - 55 else -1
def hexN (l:List Int):Int:=l.foldl (fun n p=>16 * n+hexV p) 0
/-- a name, or none: so many points -/
def nameLen (l:List Int) (at_:Int):Nat:=if isLet (ptAt l at_)=true∨ptAt l at_=95 then runLen isNamP l at_ 20 else 0
def bytesP (l:List Int):List UInt8:=l.map fun n=>UInt8.ofNat n.toNat
abbrev TR:=Except Int (Tk × Int)
def pointT (p:Int):Tk:={ kind:=1,num:=p }
def lookT (k:Int):Tk:={ kind:=3,num:=k }
def repeatP (d:Int) (l:List Int) (at_ least most:Int):Tk × Int :=
 if d=1∧ptAt l at_=63 then ({ kind:=6,least:=least,most:=most,way:=2 },at_+1)
 else if d=1∧ptAt l at_=43 then ({ kind:=6,least:=least,most:=most,way:=3 },at_+1)
 else ({ kind:=6,least:=least,most:=most,way:=1 },at_)
/-- how often: what is wrong, or the token -/
def timesP (d:Int) (l:List Int) (at_ least most:Int):TR :=
 if 0≤most∧most < least then .error 3
 else if 100 < max least most then .error 2
 else .ok (repeatP d l at_ least most)
/-- an interval, its numbers read: ka, kb digits -/
def intervalE (d:Int) (l:List Int) (a2:Int) (a b:List Int):Option TR :=
 if d=3 then
  if ptAt l a2≠92 then none
  else if ptAt l (a2+1)≠125 then none
  else if a.length+b.length=0 then none
  else some (timesP d l (a2+1+1) (decN a) (if 0 < b.length then decN b else -1))
 else if ptAt l a2≠125 then none
 else if a.length+b.length=0 then none
 else some (timesP d l (a2+1) (decN a) (if 0 < b.length then decN b else -1))
def commaB (l:List Int) (at_:Int):Bool:=decide (ptAt l (at_+runLen isDig l at_ 3)=44)
/-- the second number's digits, and behind them -/
def secondP (l:List Int) (at_:Int):List Int × Int :=
 if commaB l at_=true then (runPts l (at_+runLen isDig l at_ 3+1) (runLen isDig l (at_+runLen isDig l at_ 3+1) 3),at_+runLen isDig l at_ 3+1+runLen isDig l (at_+runLen isDig l at_ 3+1) 3)
 else (runPts l at_ (runLen isDig l at_ 3),at_+runLen isDig l at_ 3)
/-- an interval behind its brace: none, or what is wrong, or the token -/
def intervalP (d:Int) (l:List Int) (at_:Int):Option TR:=intervalE d l (secondP l at_).2 (runPts l at_ (runLen isDig l at_ 3)) (secondP l at_).1
def braceP (d:Int) (l:List Int) (at_ p:Int):TR :=
 match intervalP d l at_ with
 | some r=>r
 | none=>if d=1 then .ok (pointT p,at_) else .error 1
def openT (k fold:Int) (text:List UInt8):Tk:={ kind:=7,num:=k,fold:=fold,text:=text }
/-- options behind their question mark, the minus read -/
def optP (fold:Int) (l:List Int) (a:Int):TR :=
 if ptAt l a≠105 then .error 1
 else if ptAt l (a+1)=41 then .ok ({ kind:=11,fold:=fold },a+1+1)
 else if ptAt l (a+1)=58 then .ok (openT 1 fold [],a+1+1)
 else .error 1
/-- a group's name -/
def groupP (l:List Int) (a:Int):TR :=
 if nameLen l a=0 then .error 1
 else if ptAt l (a+nameLen l a)=62 then .ok (openT 11 0 (bytesP (runPts l a (nameLen l a))),a+nameLen l a+1)
 else .error 1
/-- behind an open bracket -/
def openP (d:Int) (l:List Int) (at_:Int):TR :=
 if d≠1 then .ok (openT 11 0 [],at_)
 else if ptAt l at_≠63 then .ok (openT 11 0 [],at_)
 else if ptAt l (at_+1)=58 then .ok (openT 1 0 [],at_+1+1)
 else if ptAt l (at_+1)=62 then .ok (openT 13 0 [],at_+1+1)
 else if ptAt l (at_+1)=61 then .ok (openT 14 0 [],at_+1+1)
 else if ptAt l (at_+1)=33 then .ok (openT 15 0 [],at_+1+1)
 else if ptAt l (at_+1)=60 then
  if ptAt l (at_+1+1)=61 then .ok (openT 16 0 [],at_+1+1+1)
  else if ptAt l (at_+1+1)=33 then .ok (openT 17 0 [],at_+1+1+1)
  else groupP l (at_+1+1)
 else if ptAt l (at_+1)=45 then optP (-1) l (at_+1+1)
 else optP 1 l (at_+1)
/-- a class by its letter -/
def classT (p:Int):Option Tk :=
 if p=100 then some { kind:=4,text:=[100,105,103,105,116] }
 else if p=119 then some { kind:=4,text:=[119,111,114,100] }
 else if p=115 then some { kind:=4,text:=[115,112,97,99,101] }
 else if p=104 then some { kind:=4,text:=[120,100,105,103,105,116] }
 else if p=68 then some { kind:=4,text:=[100,105,103,105,116],not_:=true }
 else if p=87 then some { kind:=4,text:=[119,111,114,100],not_:=true }
 else if p=83 then some { kind:=4,text:=[115,112,97,99,101],not_:=true }
 else if p=72 then some { kind:=4,text:=[120,100,105,103,105,116],not_:=true }
 else none
def scalarEnd (l:List Int) (to:Int):TR:=if l.length=0 then .error 1 else if 1114111 < hexN l then .error 3 else .ok (pointT (hexN l),to)
/-- behind x or u -/
def scalarP (l:List Int) (at_ p:Int):TR :=
 if p=117 then
  if runLen isHexP l at_ 4 < 4 then .error 1 else scalarEnd (runPts l at_ (runLen isHexP l at_ 4)) (at_+runLen isHexP l at_ 4)
 else if ptAt l at_=123 then
  if ptAt l (at_+1+runLen isHexP l (at_+1) 6)≠125 then .error 1
  else scalarEnd (runPts l (at_+1) (runLen isHexP l (at_+1) 6)) (at_+1+runLen isHexP l (at_+1) 6+1)
 else scalarEnd (runPts l at_ (runLen isHexP l at_ 2)) (at_+runLen isHexP l at_ 2)
/-- a number of a group, its sign read -/
def numP (minus:Bool) (l:List Int) (a:Int):TR :=
 if runLen isDig l a 3=0 then .error 1
 else if ptAt l (a+runLen isDig l a 3)≠62 then .error 1
 else if decN (runPts l a (runLen isDig l a 3))=0 then .error 3
 else .ok ({ kind:=10,num:=if minus=true then -decN (runPts l a (runLen isDig l a 3)) else decN (runPts l a (runLen isDig l a 3)) },a+runLen isDig l a 3+1)
/-- behind k -/
def namedP (l:List Int) (at_:Int):TR :=
 if ptAt l at_≠60 then .error 1
 else if nameLen l (at_+1)=0 then
  if ptAt l (at_+1)=45 then numP true l (at_+1+1) else numP false l (at_+1)
 else if ptAt l (at_+1+nameLen l (at_+1))=62 then .ok ({ kind:=10,text:=bytesP (runPts l (at_+1) (nameLen l (at_+1))) },at_+1+nameLen l (at_+1)+1)
 else .error 1
def ctrlT (p:Int):Option Int :=
 if p=110 then some 10 else if p=116 then some 9 else if p=114 then some 13 else if p=102 then some 12 else if p=118 then some 11 else if p=97 then some 7 else if p=101 then some 27 else none
def emacsP (l:List Int) (at_ p:Int):TR :=
 if p=40 then openP 3 l at_
 else if p=41 then .ok ({ kind:=8 },at_)
 else if p=124 then .ok ({ kind:=9 },at_)
 else if p=123 then braceP 3 l at_ p
 else if p=119 then .ok ({ kind:=4,text:=[119,111,114,100] },at_)
 else if p=87 then .ok ({ kind:=4,text:=[119,111,114,100],not_:=true },at_)
 else if p=98 then .ok (lookT 7,at_)
 else if p=66 then .ok (lookT 8,at_)
 else if p=96 then .ok (lookT 5,at_)
 else if p=39 then .ok (lookT 6,at_)
 else if 49≤p∧p≤57 then .ok ({ kind:=10,num:=p - 48 },at_)
 else .ok (pointT p,at_)
/-- behind a backslash -/
def escapedP (d:Int) (l:List Int) (at_:Int):TR :=
 let p:=ptAt l at_
 if p < 0 then .error 1
 else if d=2 then .ok (pointT p,at_+1)
 else if d=3 then emacsP l (at_+1) p
 else match classT p with
 | some t=>.ok (t,at_+1)
 | none =>
  if p=65 then .ok (lookT 5,at_+1)
  else if p=122 then .ok (lookT 6,at_+1)
  else if p=98 then .ok (lookT 7,at_+1)
  else if p=66 then .ok (lookT 8,at_+1)
  else match ctrlT p with
  | some c=>.ok (pointT c,at_+1)
  | none =>
   if p=120∨p=117 then scalarP l (at_+1) p
   else if p=107 then namedP l (at_+1)
   else if 49≤p∧p≤57 then
    let k:=runLen isDig l at_ 2
    .ok ({ kind:=10,num:=decN (runPts l at_ k) },at_+k)
   else if isLet p=true∨p=48 then .error 1
   else .ok (pointT p,at_+1)
/-- the token at a place of a pattern that is right -/
def tokenP (d:Int) (l:List Int) (at_:Int):TR :=
 let p:=ptAt l at_
 if p=46 then .ok ({ kind:=2 },at_+1)
 else if p=94 then .ok (lookT 3,at_+1)
 else if p=36 then .ok (lookT 4,at_+1)
 else if p=91 then .ok ({ kind:=5 },at_+1)
 else if p=42 then .ok (repeatP d l (at_+1) 0 (-1))
 else if p=43 then .ok (repeatP d l (at_+1) 1 (-1))
 else if p=63 then .ok (repeatP d l (at_+1) 0 1)
 else if p=92 then escapedP d l (at_+1)
 else if d=3 then .ok (pointT p,at_+1)
 else if p=40 then openP d l (at_+1)
 else if p=41 then .ok ({ kind:=8 },at_+1)
 else if p=124 then .ok ({ kind:=9 },at_+1)
 else if p=123 then braceP d l (at_+1) p
 else .ok (pointT p,at_+1)
end Go.Proofs.YtbiahhojnjchnaaGreat
namespace Go.Proofs.YtbiahhojnjchnaaGreat
theorem pt_sh (a l:List Int) (p:Int) (h:0≤p):ptAt (a ++ l) (a.length+p)=ptAt l p:=by
 unfold ptAt
 by_cases hp:p < l.length
 ·rw [dif_pos ⟨by omega,by simp;omega⟩,dif_pos ⟨h,hp⟩]
  rw [List.getElem_append_right (by omega)]
  congr 1
  omega
 ·rw [dif_neg (by simp;omega),dif_neg (by omega)]
theorem run_sh (f:Int→Bool) (a l:List Int) (m:Nat):∀ (p:Int),0≤p→runLen f (a ++ l) (a.length+p) m=runLen f l p m:=by
 induction m with
 | zero=>intro p _;rfl
 | succ m ih =>
  intro p h
  unfold runLen
  rw [pt_sh a l p h,Int.add_assoc,ih (p+1) (by omega)]
theorem pts_sh (a l:List Int) (k:Nat) (p:Int) (h:0≤p):runPts (a ++ l) (a.length+p) k=runPts l p k:=by
 unfold runPts
 apply List.map_congr_left
 intro i _
 rw [Int.add_assoc,pt_sh _ _ _ (by omega)]
theorem name_sh (a l:List Int) (p:Int) (h:0≤p):nameLen (a ++ l) (a.length+p)=nameLen l p:=by
 unfold nameLen
 rw [pt_sh a l p h,run_sh _ _ _ _ _ h]
theorem comma_sh (a l:List Int) (p:Int) (h:0≤p):commaB (a ++ l) (a.length+p)=commaB l p:=by
 unfold commaB
 rw [run_sh _ _ _ _ _ h,Int.add_assoc,pt_sh _ _ _ (by omega)]
def shR (k:Int):TR→TR
 | .ok (t,n)=>.ok (t,k+n)
 | .error e=>.error e
theorem shR_ite (k:Int) (c:Prop) [Decidable c] (x y:TR):shR k (if c then x else y)=if c then shR k x else shR k y:=by split<;>rfl
theorem shR_ok (k:Int) (t:Tk) (n:Int):shR k (.ok (t,n))=.ok (t,k+n):=rfl
theorem shR_bad (k e:Int):shR k (.error e)=.error e:=rfl
theorem repeat_sh (d:Int) (a l:List Int) (p x y:Int) (h:0≤p):(Except.ok (repeatP d (a ++ l) (a.length+p) x y):TR)=shR a.length (.ok (repeatP d l p x y)):=by
 unfold repeatP
 rw [pt_sh a l p h]
 split
 ·simp only [shR_ok,Int.add_assoc]
 ·split
  ·simp only [shR_ok,Int.add_assoc]
  ·rfl
theorem times_sh (d:Int) (a l:List Int) (p x y:Int) (h:0≤p):timesP d (a ++ l) (a.length+p) x y=shR a.length (timesP d l p x y):=by
 unfold timesP
 rw [repeat_sh _ _ _ _ _ _ h]
 simp only [shR_ite,shR_bad]
theorem intervalE_sh (d:Int) (a l:List Int) (p:Int) (x y:List Int) (h:0≤p):intervalE d (a ++ l) (a.length+p) x y=(intervalE d l p x y).map (shR a.length):=by
 unfold intervalE
 simp only [Int.add_assoc]
 rw [pt_sh a l p h,pt_sh a l _ (by omega),times_sh _ _ _ _ _ _ (by omega),times_sh _ _ _ _ _ _ (by omega)]
 split
 ·split
  ·rfl
  ·split
   ·rfl
   ·split<;>rfl
 ·split
  ·rfl
  ·split<;>rfl
theorem second_sh (a l:List Int) (p:Int) (h:0≤p):secondP (a ++ l) (a.length+p)=((secondP l p).1,a.length+(secondP l p).2):=by
 unfold secondP
 rw [comma_sh _ _ _ h,run_sh _ _ _ _ _ h]
 simp only [Int.add_assoc]
 rw [run_sh _ _ _ _ _ (by omega),pts_sh _ _ _ _ (by omega),pts_sh _ _ _ _ h]
 split<;>rfl
theorem second_ge (l:List Int) (p:Int) (h:0≤p):p≤(secondP l p).2:=by
 unfold secondP
 split<;>simp<;>omega
theorem interval_sh (d:Int) (a l:List Int) (p:Int) (h:0≤p):intervalP d (a ++ l) (a.length+p)=(intervalP d l p).map (shR a.length):=by
 unfold intervalP
 rw [second_sh _ _ _ h,run_sh _ _ _ _ _ h,pts_sh _ _ _ _ h]
 exact intervalE_sh d a l _ _ _ (by have:=second_ge l p h;omega)
theorem brace_sh (d:Int) (a l:List Int) (p q:Int) (h:0≤p):braceP d (a ++ l) (a.length+p) q=shR a.length (braceP d l p q):=by
 unfold braceP
 rw [interval_sh _ _ _ _ h]
 cases intervalP d l p with
 | some r=>rfl
 | none=>simp only [Option.map_none,shR_ite,shR_ok,shR_bad]
theorem opt_sh (f:Int) (a l:List Int) (p:Int) (h:0≤p):optP f (a ++ l) (a.length+p)=shR a.length (optP f l p):=by
 unfold optP
 simp only [Int.add_assoc]
 rw [pt_sh a l p h,pt_sh a l _ (by omega)]
 simp only [shR_ite,shR_ok,shR_bad]
theorem group_sh (a l:List Int) (p:Int) (h:0≤p):groupP (a ++ l) (a.length+p)=shR a.length (groupP l p):=by
 unfold groupP
 simp only [Int.add_assoc]
 rw [name_sh a l p h,pt_sh a l _ (by omega),pts_sh a l _ _ h]
 simp only [shR_ite,shR_ok,shR_bad]
theorem open_sh (d:Int) (a l:List Int) (p:Int) (h:0≤p):openP d (a ++ l) (a.length+p)=shR a.length (openP d l p):=by
 unfold openP
 simp only [Int.add_assoc]
 rw [pt_sh a l p h,pt_sh a l _ (by omega),pt_sh a l _ (by omega),group_sh _ _ _ (by omega),opt_sh _ _ _ _ (by omega),opt_sh _ _ _ _ (by omega)]
 simp only [shR_ite,shR_ok,shR_bad]
theorem scalarEnd_sh (k:Int) (l:List Int) (t:Int):scalarEnd l (k+t)=shR k (scalarEnd l t):=by
 unfold scalarEnd
 simp only [shR_ite,shR_ok,shR_bad]
theorem scalar_sh (a l:List Int) (p q:Int) (h:0≤p):scalarP (a ++ l) (a.length+p) q=shR a.length (scalarP l p q):=by
 unfold scalarP
 simp only [Int.add_assoc]
 rw [run_sh _ _ _ _ _ h,run_sh _ _ _ _ _ h,pt_sh a l p h,run_sh _ _ _ _ _ (by omega),pt_sh a l _ (by omega),pts_sh _ _ _ _ h,pts_sh _ _ _ _ h,pts_sh _ _ _ _ (by omega)]
 simp only [scalarEnd_sh,shR_ite,shR_ok,shR_bad]
theorem num_sh (b:Bool) (a l:List Int) (p:Int) (h:0≤p):numP b (a ++ l) (a.length+p)=shR a.length (numP b l p):=by
 unfold numP
 simp only [Int.add_assoc]
 rw [run_sh _ _ _ _ _ h,pt_sh a l _ (by omega),pts_sh _ _ _ _ h]
 simp only [shR_ite,shR_ok,shR_bad]
theorem named_sh (a l:List Int) (p:Int) (h:0≤p):namedP (a ++ l) (a.length+p)=shR a.length (namedP l p):=by
 unfold namedP
 simp only [Int.add_assoc]
 rw [pt_sh a l p h,name_sh _ _ _ (by omega),pt_sh a l _ (by omega),pt_sh a l _ (by omega),pts_sh _ _ _ _ (by omega),num_sh _ _ _ _ (by omega),num_sh _ _ _ _ (by omega)]
 simp only [shR_ite,shR_ok,shR_bad]
theorem emacs_sh (a l:List Int) (p q:Int) (h:0≤p):emacsP (a ++ l) (a.length+p) q=shR a.length (emacsP l p q):=by
 unfold emacsP
 rw [open_sh _ _ _ _ h,brace_sh _ _ _ _ _ h]
 simp only [shR_ite,shR_ok,shR_bad]
theorem escaped_sh (d:Int) (a l:List Int) (p:Int) (h:0≤p):escapedP d (a ++ l) (a.length+p)=shR a.length (escapedP d l p):=by
 unfold escapedP
 simp only [Int.add_assoc]
 rw [pt_sh a l p h,emacs_sh _ _ _ _ (by omega),scalar_sh _ _ _ _ (by omega),named_sh _ _ _ (by omega),run_sh _ _ _ _ _ h,pts_sh _ _ _ _ h]
 cases classT (ptAt l p) with
 | some t=>simp only [shR_ite,shR_ok,shR_bad]
 | none =>
  cases ctrlT (ptAt l p) with
  | some c=>simp only [shR_ite,shR_ok,shR_bad]
  | none=>simp only [shR_ite,shR_ok,shR_bad]
theorem token_sh (d:Int) (a l:List Int) (p:Int) (h:0≤p):tokenP d (a ++ l) (a.length+p)=shR a.length (tokenP d l p):=by
 unfold tokenP
 simp only [Int.add_assoc]
 rw [pt_sh a l p h,escaped_sh _ _ _ _ (by omega),open_sh _ _ _ _ (by omega),brace_sh _ _ _ _ _ (by omega),repeat_sh _ _ _ _ _ _ (by omega),repeat_sh _ _ _ _ _ _ (by omega),repeat_sh _ _ _ _ _ _ (by omega)]
 simp only [shR_ite,shR_ok,shR_bad]
theorem pt_or (l:List Int) (q:Int):ptAt l q=-1∨(0≤q∧q < l.length):=by
 by_cases h:0≤q∧q < l.length
 ·exact .inr h
 ·exact .inl (ptAt_out l h)
theorem run_le (f:Int→Bool) (hf:f (-1)=false) (l:List Int) (m:Nat):∀ p:Int,p≤l.length→p+runLen f l p m≤l.length:=by
 induction m with
 | zero=>intro p h;simpa [runLen] using h
 | succ m ih =>
  intro p h
  unfold runLen
  split
  ·rename_i h1
   rcases pt_or l p with h2|h2
   ·rw [h2,hf] at h1;cases h1
   ·have:=ih (p+1) (by omega);omega
  ·simpa using h
theorem dig_le (l:List Int) (m:Nat) (p:Int) (h:p≤l.length):p+runLen isDig l p m≤l.length:=run_le _ rfl l m p h
theorem hex_le (l:List Int) (m:Nat) (p:Int) (h:p≤l.length):p+runLen isHexP l p m≤l.length:=run_le _ rfl l m p h
theorem name_le (l:List Int) (p:Int) (h:p≤l.length):p+nameLen l p≤l.length:=by
 unfold nameLen
 split
 ·exact run_le _ rfl l 20 p h
 ·simpa using h
/-- where it ends, if it does: between a place and the end -/
def Mv (l:List Int) (p:Int) (r:TR):Prop:=∀ t n,r=.ok (t,n)→p≤n∧n≤l.length
theorem mv_ite {l:List Int} {p:Int} {c:Prop} [Decidable c] {x y:TR} (h1:c→Mv l p x) (h2:¬ c→Mv l p y):Mv l p (if c then x else y):=by
 split
 ·exact h1 (by assumption)
 ·exact h2 (by assumption)
theorem mv_ok {l:List Int} {p n:Int} {t:Tk} (h:p≤n∧n≤l.length):Mv l p (.ok (t,n)):=by
 intro t' n' e;cases e;exact h
theorem mv_bad {l:List Int} {p e:Int}:Mv l p (.error e):=by intro t' n' e;cases e
theorem mv_le {l:List Int} {p q:Int} {r:TR} (h:Mv l q r) (hq:p≤q):Mv l p r:=fun t n e=>⟨by have:=(h t n e).1;omega,(h t n e).2⟩
theorem repeat_mv (d:Int) (l:List Int) (p x y:Int) (h0:p≤l.length):Mv l p (.ok (repeatP d l p x y)):=by
 unfold repeatP
 split
 ·rename_i h;have:=pt_or l p;exact mv_ok (by omega)
 ·split
  ·rename_i h;have:=pt_or l p;exact mv_ok (by omega)
  ·exact mv_ok (by omega)
theorem times_mv (d:Int) (l:List Int) (p x y:Int) (h0:p≤l.length):Mv l p (timesP d l p x y):=by
 unfold timesP
 exact mv_ite (fun _=>mv_bad) fun _=>mv_ite (fun _=>mv_bad) fun _=>repeat_mv d l p x y h0
theorem intervalE_mv (d:Int) (l:List Int) (p:Int) (x y:List Int) (h0:p≤l.length):∀ r,intervalE d l p x y=some r→Mv l p r:=by
 intro r
 unfold intervalE
 have h1:=pt_or l p
 have h2:=pt_or l (p+1)
 split
 ·split
  ·intro e;cases e
  ·split
   ·intro e;cases e
   ·split
    ·intro e;cases e
    ·intro e;cases e;exact mv_le (times_mv d l _ _ _ (by omega)) (by omega)
 ·split
  ·intro e;cases e
  ·split
   ·intro e;cases e
   ·intro e;cases e;exact mv_le (times_mv d l _ _ _ (by omega)) (by omega)
theorem second_le (l:List Int) (p:Int) (h0:p≤l.length):p≤(secondP l p).2∧(secondP l p).2≤l.length:=by
 have h1:=dig_le l 3 p h0
 unfold secondP commaB
 split
 ·rename_i h2
  have h2:=of_decide_eq_true h2
  have h3:=pt_or l (p+runLen isDig l p 3)
  have h4:=dig_le l 3 (p+runLen isDig l p 3+1) (by omega)
  simp only
  omega
 ·simp only;omega
theorem brace_mv (d:Int) (l:List Int) (p q:Int) (h0:p≤l.length):Mv l p (braceP d l p q):=by
 have h1:=second_le l p h0
 unfold braceP
 split
 ·rename_i r h
  exact mv_le (intervalE_mv d l _ _ _ h1.2 r h) h1.1
 ·exact mv_ite (fun _=>mv_ok (by omega)) fun _=>mv_bad
theorem opt_mv (f:Int) (l:List Int) (p:Int):Mv l p (optP f l p):=by
 unfold optP
 have h1:=pt_or l p
 have h2:=pt_or l (p+1)
 exact mv_ite (fun _=>mv_bad) fun _=>mv_ite (fun _=>mv_ok (by omega)) fun _=>mv_ite (fun _=>mv_ok (by omega)) fun _=>mv_bad
theorem group_mv (l:List Int) (p:Int) (h0:p≤l.length):Mv l p (groupP l p):=by
 unfold groupP
 have h1:=name_le l p h0
 have h2:=pt_or l (p+nameLen l p)
 exact mv_ite (fun _=>mv_bad) fun _=>mv_ite (fun _=>mv_ok (by omega)) fun _=>mv_bad
theorem open_mv (d:Int) (l:List Int) (p:Int) (h0:p≤l.length):Mv l p (openP d l p):=by
 unfold openP
 have h1:=pt_or l p
 have h2:=pt_or l (p+1)
 have h3:=pt_or l (p+1+1)
 refine mv_ite (fun _=>mv_ok (by omega)) fun _=>mv_ite (fun _=>mv_ok (by omega)) fun _=>mv_ite (fun _=>mv_ok (by omega)) fun _=>mv_ite (fun _=>mv_ok (by omega)) fun _=>mv_ite (fun _=>mv_ok (by omega)) fun _=>mv_ite (fun _=>mv_ok (by omega)) fun _=>mv_ite (fun _=>mv_ite (fun _=>mv_ok (by omega)) fun _=>mv_ite (fun _=>mv_ok (by omega)) fun _=>mv_le (group_mv l _ (by omega)) (by omega)) fun _=>mv_ite (fun _=>mv_le (opt_mv _ l _) (by omega)) fun _=>mv_le (opt_mv _ l _) (by omega)
theorem scalarEnd_mv (l x:List Int) (p n:Int) (h:p≤n∧n≤l.length):Mv l p (scalarEnd x n):=by
 unfold scalarEnd
 exact mv_ite (fun _=>mv_bad) fun _=>mv_ite (fun _=>mv_bad) fun _=>mv_ok h
theorem scalar_mv (l:List Int) (p q:Int) (h0:p≤l.length):Mv l p (scalarP l p q):=by
 unfold scalarP
 have h1:=hex_le l 4 p h0
 have h2:=hex_le l 2 p h0
 have h3:=pt_or l p
 refine mv_ite (fun _=>mv_ite (fun _=>mv_bad) fun _=>scalarEnd_mv _ _ _ _ (by omega)) fun _=>mv_ite (fun h4=>?_) fun _=>scalarEnd_mv _ _ _ _ (by omega)
 have h5:=hex_le l 6 (p+1) (by omega)
 have h6:=pt_or l (p+1+runLen isHexP l (p+1) 6)
 exact mv_ite (fun _=>mv_bad) fun _=>scalarEnd_mv _ _ _ _ (by omega)
theorem num_mv (b:Bool) (l:List Int) (p:Int) (h0:p≤l.length):Mv l p (numP b l p):=by
 unfold numP
 have h1:=dig_le l 3 p h0
 have h2:=pt_or l (p+runLen isDig l p 3)
 exact mv_ite (fun _=>mv_bad) fun _=>mv_ite (fun _=>mv_bad) fun _=>mv_ite (fun _=>mv_bad) fun _=>mv_ok (by omega)
theorem named_mv (l:List Int) (p:Int) (h0:p≤l.length):Mv l p (namedP l p):=by
 unfold namedP
 have h1:=pt_or l p
 have h2:=pt_or l (p+1)
 refine mv_ite (fun _=>mv_bad) fun _=>mv_ite (fun _=>mv_ite (fun _=>mv_le (num_mv _ l _ (by omega)) (by omega)) fun _=>mv_le (num_mv _ l _ (by omega)) (by omega)) fun _=>?_
 have h3:=name_le l (p+1) (by omega)
 have h4:=pt_or l (p+1+nameLen l (p+1))
 exact mv_ite (fun _=>mv_ok (by omega)) fun _=>mv_bad
theorem emacs_mv (l:List Int) (p q:Int) (h0:p≤l.length):Mv l p (emacsP l p q):=by
 unfold emacsP
 exact mv_ite (fun _=>open_mv _ l p h0) fun _=>mv_ite (fun _=>mv_ok (by omega)) fun _=>mv_ite (fun _=>mv_ok (by omega)) fun _=>mv_ite (fun _=>brace_mv _ l p q h0) fun _=>mv_ite (fun _=>mv_ok (by omega)) fun _=>mv_ite (fun _=>mv_ok (by omega)) fun _=>mv_ite (fun _=>mv_ok (by omega)) fun _=>mv_ite (fun _=>mv_ok (by omega)) fun _=>mv_ite (fun _=>mv_ok (by omega)) fun _=>mv_ite (fun _=>mv_ok (by omega)) fun _=>mv_ite (fun _=>mv_ok (by omega)) fun _=>mv_ok (by omega)
theorem escaped_mv (d:Int) (l:List Int) (p:Int) (h0:p≤l.length):Mv l p (escapedP d l p):=by
 unfold escapedP
 have h1:=pt_or l p
 have h2:=dig_le l 2 p h0
 simp only
 refine mv_ite (fun _=>mv_bad) fun h3=>mv_ite (fun _=>mv_ok (by omega)) fun _=>mv_ite (fun _=>mv_le (emacs_mv l _ _ (by omega)) (by omega)) fun _=>?_
 cases classT (ptAt l p) with
 | some t=>exact mv_ok (by omega)
 | none =>
  refine mv_ite (fun _=>mv_ok (by omega)) fun _=>mv_ite (fun _=>mv_ok (by omega)) fun _=>mv_ite (fun _=>mv_ok (by omega)) fun _=>mv_ite (fun _=>mv_ok (by omega)) fun _=>?_
  cases ctrlT (ptAt l p) with
  | some c=>exact mv_ok (by omega)
  | none=>exact mv_ite (fun _=>mv_le (scalar_mv l _ _ (by omega)) (by omega)) fun _=>mv_ite (fun _=>mv_le (named_mv l _ (by omega)) (by omega)) fun _=>mv_ite (fun _=>mv_ok (by omega)) fun _=>mv_ite (fun _=>mv_bad) fun _=>mv_ok (by omega)
/-- a token takes a point at least, and no more than there are -/
theorem token_mv (d:Int) (l:List Int) (p:Int) (h0:p < l.length):Mv l (p+1) (tokenP d l p):=by
 unfold tokenP
 simp only
 exact mv_ite (fun _=>mv_ok (by omega)) fun _=>mv_ite (fun _=>mv_ok (by omega)) fun _=>mv_ite (fun _=>mv_ok (by omega)) fun _=>mv_ite (fun _=>mv_ok (by omega)) fun _=>mv_ite (fun _=>repeat_mv _ _ _ _ _ (by omega)) fun _=>mv_ite (fun _=>repeat_mv _ _ _ _ _ (by omega)) fun _=>mv_ite (fun _=>repeat_mv _ _ _ _ _ (by omega)) fun _=>mv_ite (fun _=>escaped_mv _ _ _ (by omega)) fun _=>mv_ite (fun _=>mv_ok (by omega)) fun _=>mv_ite (fun _=>open_mv _ _ _ (by omega)) fun _=>mv_ite (fun _=>mv_ok (by omega)) fun _=>mv_ite (fun _=>mv_ok (by omega)) fun _=>mv_ite (fun _=>brace_mv _ _ _ _ (by omega)) fun _=>mv_ok (by omega)
/-- what is wrong is something -/
def Er (r:TR):Prop:=∀ e,r=.error e→e≠0
theorem er_ite {c:Prop} [Decidable c] {x y:TR} (h1:Er x) (h2:Er y):Er (if c then x else y):=by split<;>assumption
theorem er_ok {t:Tk × Int}:Er (.ok t):=by intro e h;cases h
theorem er_bad {e:Int} (h:e≠0):Er (.error e):=by intro e' h';cases h';exact h
theorem times_er (d:Int) (l:List Int) (p x y:Int):Er (timesP d l p x y):=er_ite (er_bad (by decide)) (er_ite (er_bad (by decide)) er_ok)
theorem intervalE_er (d:Int) (l:List Int) (p:Int) (x y:List Int):∀ r,intervalE d l p x y=some r→Er r:=by
 intro r
 unfold intervalE
 repeat' split
 all_goals (intro e;cases e)
 all_goals exact times_er _ _ _ _ _
theorem brace_er (d:Int) (l:List Int) (p q:Int):Er (braceP d l p q):=by
 unfold braceP
 split
 ·rename_i r h;exact intervalE_er d l _ _ _ r h
 ·exact er_ite er_ok (er_bad (by decide))
theorem opt_er (f:Int) (l:List Int) (p:Int):Er (optP f l p):=er_ite (er_bad (by decide)) (er_ite er_ok (er_ite er_ok (er_bad (by decide))))
theorem group_er (l:List Int) (p:Int):Er (groupP l p):=er_ite (er_bad (by decide)) (er_ite er_ok (er_bad (by decide)))
theorem open_er (d:Int) (l:List Int) (p:Int):Er (openP d l p) :=
 er_ite er_ok (er_ite er_ok (er_ite er_ok (er_ite er_ok (er_ite er_ok (er_ite er_ok (er_ite (er_ite er_ok (er_ite er_ok (group_er _ _))) (er_ite (opt_er _ _ _) (opt_er _ _ _))))))))
theorem scalarEnd_er (x:List Int) (n:Int):Er (scalarEnd x n):=er_ite (er_bad (by decide)) (er_ite (er_bad (by decide)) er_ok)
theorem scalar_er (l:List Int) (p q:Int):Er (scalarP l p q):=er_ite (er_ite (er_bad (by decide)) (scalarEnd_er _ _)) (er_ite (er_ite (er_bad (by decide)) (scalarEnd_er _ _)) (scalarEnd_er _ _))
theorem num_er (b:Bool) (l:List Int) (p:Int):Er (numP b l p):=er_ite (er_bad (by decide)) (er_ite (er_bad (by decide)) (er_ite (er_bad (by decide)) er_ok))
theorem named_er (l:List Int) (p:Int):Er (namedP l p):=er_ite (er_bad (by decide)) (er_ite (er_ite (num_er _ _ _) (num_er _ _ _)) (er_ite er_ok (er_bad (by decide))))
theorem emacs_er (l:List Int) (p q:Int):Er (emacsP l p q) :=
 er_ite (open_er _ _ _) (er_ite er_ok (er_ite er_ok (er_ite (brace_er _ _ _ _) (er_ite er_ok (er_ite er_ok (er_ite er_ok (er_ite er_ok (er_ite er_ok (er_ite er_ok (er_ite er_ok er_ok))))))))))
theorem escaped_er (d:Int) (l:List Int) (p:Int):Er (escapedP d l p):=by
 unfold escapedP
 simp only
 refine er_ite (er_bad (by decide)) (er_ite er_ok (er_ite (emacs_er _ _ _) ?_))
 cases classT (ptAt l p) with
 | some t=>exact er_ok
 | none =>
  refine er_ite er_ok (er_ite er_ok (er_ite er_ok (er_ite er_ok ?_)))
  cases ctrlT (ptAt l p) with
  | some c=>exact er_ok
  | none=>exact er_ite (scalar_er _ _ _) (er_ite (named_er _ _) (er_ite er_ok (er_ite (er_bad (by decide)) er_ok)))
theorem token_er (d:Int) (l:List Int) (p:Int):Er (tokenP d l p) :=
 er_ite er_ok (er_ite er_ok (er_ite er_ok (er_ite er_ok (er_ite er_ok (er_ite er_ok (er_ite er_ok (er_ite (escaped_er _ _ _) (er_ite er_ok (er_ite (open_er _ _ _) (er_ite er_ok (er_ite er_ok (er_ite (brace_er _ _ _ _) er_ok))))))))))))
def tkR:TR→Tk
 | .ok p=>p.1
 | .error _=>{}
def posR:TR→Int
 | .ok p=>p.2
 | .error _=>0
def errR:TR→Int
 | .ok _=>0
 | .error x=>x
end Go.Proofs.YtbiahhojnjchnaaGreat
