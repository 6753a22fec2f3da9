/- Tokens: what the document says, in plain Lean. -/
import GoSem.Claim
set_option linter.unusedVariables false
set_option linter.unusedSimpArgs false
namespace Go.Proofs.Ytmjlmjlkghpknaa
/-- a token -/
structure Tk where
 kind:Int:=0
 num:Int:=0
 text:List UInt8:=[]
 not_:Bool:=false
 least:Int:=0
 most:Int:=0
 way:Int:=0
 fold:Int:=0
def Tk.vals (t:Tk):List Value:=[.int .i64 t.kind,.int .i64 t.num,.string ⟨t.text.toArray⟩,.bool t.not_,.int .i64 t.least,.int .i64 t.most,.int .i64 t.way,.int .i64 t.fold]
/-- the point at a place, -1 beside the text -/
def ptAt (l:List Int) (p:Int):Int:=if h:0≤p∧p < l.length then l[p.toNat]'(by omega) else -1
theorem ptAt_in (l:List Int) {k:Nat} (h:k < l.length):ptAt l (k:Int)=l[k]:=by
 unfold ptAt;rw [dif_pos ⟨by omega,by omega⟩];simp
theorem ptAt_out (l:List Int) {p:Int} (h:¬ (0≤p∧p < l.length)):ptAt l p=-1:=dif_neg h
def isDig (p:Int):Bool:=decide (48≤p) && decide (p≤57)
def isLet (p:Int):Bool:=(decide (65≤p) && decide (p≤90)) || (decide (97≤p) && decide (p≤122))
def isHexP (p:Int):Bool:=isDig p || (decide (97≤p) && decide (p≤102)) || (decide (65≤p) && decide (p≤70))
def isNamP (p:Int):Bool:=isLet p || isDig p || p == 95
/-- how many points from a place on are something, most at most -/
def runLen (f:Int→Bool) (l:List Int):Int→Nat→Nat
 | _,0=>0
 | at_,m+1=>if f (ptAt l at_)=true then 1+runLen f l (at_+1) m else 0
def runPts (l:List Int) (p:Int) (k:Nat):List Int:=(List.range k).map fun i:Nat=>ptAt l (p+i)
def decN (l:List Int):Int:=l.foldl (fun n p=>10 * n+p - 48) 0
def hexV (p:Int):Int:=if isDig p=true then p - 48 else if 97≤p∧p≤102 then p - 87 else if 65≤p∧p≤70 then p - 55 else -1
def hexN (l:List Int):Int:=l.foldl (fun n p=>16 * n+hexV p) 0
/-- a name, or none: so many points -/
def nameLen (l:List Int) (at_:Int):Nat:=if isLet (ptAt l at_)=true∨ptAt l at_=95 then runLen isNamP l at_ 20 else 0
def bytesP (l:List Int):List UInt8:=l.map fun n=>UInt8.ofNat n.toNat
abbrev TR:=Except Int (Tk × Int)
def pointT (p:Int):Tk:={ kind:=1,num:=p }
def lookT (k:Int):Tk:={ kind:=3,num:=k }
def repeatP (d:Int) (l:List Int) (at_ least most:Int):Tk × Int :=
 if d=1∧ptAt l at_=63 then ({ kind:=6,least:=least,most:=most,way:=2 },at_+1)
 else if d=1∧ptAt l at_=43 then ({ kind:=6,least:=least,most:=most,way:=3 },at_+1)
 else ({ kind:=6,least:=least,most:=most,way:=1 },at_)
/-- how often: what is wrong, or the token -/
def timesP (d:Int) (l:List Int) (at_ least most:Int):TR :=
 if 0≤most∧most < least then .error 3
 else if 100 < max least most then .error 2
 else .ok (repeatP d l at_ least most)
/-- an interval, its numbers read: ka, kb digits -/
def intervalE (d:Int) (l:List Int) (a2:Int) (a b:List Int):Option TR :=
 if d=3 then
  if ptAt l a2≠92 then none
  else if ptAt l (a2+1)≠125 then none
  else if a.length+b.length=0 then none
  else some (timesP d l (a2+1+1) (decN a) (if 0 < b.length then decN b else -1))
 else if ptAt l a2≠125 then none
 else if a.length+b.length=0 then none
 else some (timesP d l (a2+1) (decN a) (if 0 < b.length then decN b else -1))
def commaB (l:List Int) (at_:Int):Bool:=decide (ptAt l (at_+runLen isDig l at_ 3)=44)
/-- the second number's digits, and behind them -/
def secondP (l:List Int) (at_:Int):List Int × Int :=
 if commaB l at_=true then (runPts l (at_+runLen isDig l at_ 3+1) (runLen isDig l (at_+runLen isDig l at_ 3+1) 3),at_+runLen isDig l at_ 3+1+runLen isDig l (at_+runLen isDig l at_ 3+1) 3)
 else (runPts l at_ (runLen isDig l at_ 3),at_+runLen isDig l at_ 3)
/-- an interval behind its brace: none, or what is wrong, or the token -/
def intervalP (d:Int) (l:List Int) (at_:Int):Option TR:=intervalE d l (secondP l at_).2 (runPts l at_ (runLen isDig l at_ 3)) (secondP l at_).1
def braceP (d:Int) (l:List Int) (at_ p:Int):TR :=
 match intervalP d l at_ with
 | some r=>r
 | none=>if d=1 then .ok (pointT p,at_) else .error 1
def openT (k fold:Int) (text:List UInt8):Tk:={ kind:=7,num:=k,fold:=fold,text:=text }
/-- options behind their question mark, the minus read -/
def optP (fold:Int) (l:List Int) (a:Int):TR :=
 if ptAt l a≠105 then .error 1
 else if ptAt l (a+1)=41 then .ok ({ kind:=11,fold:=fold },a+1+1)
 else if ptAt l (a+1)=58 then .ok (openT 1 fold [],a+1+1)
 else .error 1
/-- a group's name -/
def groupP (l:List Int) (a:Int):TR :=
 if nameLen l a=0 then .error 1
 else if ptAt l (a+nameLen l a)=62 then .ok (openT 11 0 (bytesP (runPts l a (nameLen l a))),a+nameLen l a+1)
 else .error 1
/-- behind an open bracket -/
def openP (d:Int) (l:List Int) (at_:Int):TR :=
 if d≠1 then .ok (openT 11 0 [],at_)
 else if ptAt l at_≠63 then .ok (openT 11 0 [],at_)
 else if ptAt l (at_+1)=58 then .ok (openT 1 0 [],at_+1+1)
 else if ptAt l (at_+1)=62 then .ok (openT 13 0 [],at_+1+1)
 else if ptAt l (at_+1)=61 then .ok (openT 14 0 [],at_+1+1)
 else if ptAt l (at_+1)=33 then .ok (openT 15 0 [],at_+1+1)
 else if ptAt l (at_+1)=60 then
  if ptAt l (at_+1+1)=61 then .ok (openT 16 0 [],at_+1+1+1)
  else if ptAt l (at_+1+1)=33 then .ok (openT 17 0 [],at_+1+1+1)
  else groupP l (at_+1+1)
 else if ptAt l (at_+1)=45 then optP (-1) l (at_+1+1)
 else optP 1 l (at_+1)
/-- a class by its letter -/
def classT (p:Int):Option Tk :=
 if p=100 then some { kind:=4,text:=[100,105,103,105,116] }
 else if p=119 then some { kind:=4,text:=[119,111,114,100] }
 else if p=115 then some { kind:=4,text:=[115,112,97,99,101] }
 else if p=104 then some { kind:=4,text:=[120,100,105,103,105,116] }
 else if p=68 then some { kind:=4,text:=[100,105,103,105,116],not_:=true }
 else if p=87 then some { kind:=4,text:=[119,111,114,100],not_:=true }
 else if p=83 then some { kind:=4,text:=[115,112,97,99,101],not_:=true }
 else if p=72 then some { kind:=4,text:=[120,100,105,103,105,116],not_:=true }
 else none
def scalarEnd (l:List Int) (to:Int):TR:=if l.length=0 then .error 1 else if 1114111 < hexN l then .error 3 else .ok (pointT (hexN l),to)
/-- behind x or u -/
def scalarP (l:List Int) (at_ p:Int):TR :=
 if p=117 then
  if runLen isHexP l at_ 4 < 4 then .error 1 else scalarEnd (runPts l at_ (runLen isHexP l at_ 4)) (at_+runLen isHexP l at_ 4)
 else if ptAt l at_=123 then
  if ptAt l (at_+1+runLen isHexP l (at_+1) 6)≠125 then .error 1
  else scalarEnd (runPts l (at_+1) (runLen isHexP l (at_+1) 6)) (at_+1+runLen isHexP l (at_+1) 6+1)
 else scalarEnd (runPts l at_ (runLen isHexP l at_ 2)) (at_+runLen isHexP l at_ 2)
/-- a number of a group, its sign read -/
def numP (minus:Bool) (l:List Int) (a:Int):TR :=
 if runLen isDig l a 3=0 then .error 1
 else if ptAt l (a+runLen isDig l a 3)≠62 then .error 1
 else if decN (runPts l a (runLen isDig l a 3))=0 then .error 3
 else .ok ({ kind:=10,num:=if minus=true then -decN (runPts l a (runLen isDig l a 3)) else decN (runPts l a (runLen isDig l a 3)) },a+runLen isDig l a 3+1)
/-- behind k -/
def namedP (l:List Int) (at_:Int):TR :=
 if ptAt l at_≠60 then .error 1
 else if nameLen l (at_+1)=0 then
  if ptAt l (at_+1)=45 then numP true l (at_+1+1) else numP false l (at_+1)
 else if ptAt l (at_+1+nameLen l (at_+1))=62 then .ok ({ kind:=10,text:=bytesP (runPts l (at_+1) (nameLen l (at_+1))) },at_+1+nameLen l (at_+1)+1)
 else .error 1
def ctrlT (p:Int):Option Int :=
 if p=110 then some 10 else if p=116 then some 9 else if p=114 then some 13 else if p=102 then some 12 else if p=118 then some 11 else if p=97 then some 7 else if p=101 then some 27 else none
def emacsP (l:List Int) (at_ p:Int):TR :=
 if p=40 then openP 3 l at_
 else if p=41 then .ok ({ kind:=8 },at_)
 else if p=124 then .ok ({ kind:=9 },at_)
 else if p=123 then braceP 3 l at_ p
 else if p=119 then .ok ({ kind:=4,text:=[119,111,114,100] },at_)
 else if p=87 then .ok ({ kind:=4,text:=[119,111,114,100],not_:=true },at_)
 else if p=98 then .ok (lookT 7,at_)
 else if p=66 then .ok (lookT 8,at_)
 else if p=96 then .ok (lookT 5,at_)
 else if p=39 then .ok (lookT 6,at_)
 else if 49≤p∧p≤57 then .ok ({ kind:=10,num:=p - 48 },at_)
 else .ok (pointT p,at_)
/-- behind a backslash -/
def escapedP (d:Int) (l:List Int) (at_:Int):TR :=
 let p:=ptAt l at_
 if p < 0 then .error 1
 else if d=2 then .ok (pointT p,at_+1)
 else if d=3 then emacsP l (at_+1) p
 else match classT p with
 | some t=>.ok (t,at_+1)
 | none =>
  if p=65 then .ok (lookT 5,at_+1)
  else if p=122 then .ok (lookT 6,at_+1)
  else if p=98 then .ok (lookT 7,at_+1)
  else if p=66 then .ok (lookT 8,at_+1)
  else match ctrlT p with
  | some c=>.ok (pointT c,at_+1)
  | none =>
   if p=120∨p=117 then scalarP l (at_+1) p
   else if p=107 then namedP l (at_+1)
   else if 49≤p∧p≤57 then
    let k:=runLen isDig l at_ 2
    .ok ({ kind:=10,num:=decN (runPts l at_ k) },at_+k)
   else if isLet p=true∨p=48 then .error 1
   else .ok (pointT p,at_+1)
/-- the token at a place of a pattern that is right -/
def tokenP (d:Int) (l:List Int) (at_:Int):TR :=
 let p:=ptAt l at_
 if p=46 then .ok ({ kind:=2 },at_+1)
 else if p=94 then .ok (lookT 3,at_+1)
 else if p=36 then .ok (lookT 4,at_+1)
 else if p=91 then .ok ({ kind:=5 },at_+1)
 else if p=42 then .ok (repeatP d l (at_+1) 0 (-1))
 else if p=43 then .ok (repeatP d l (at_+1) 1 (-1))
 else if p=63 then .ok (repeatP d l (at_+1) 0 1)
 else if p=92 then escapedP d l (at_+1)
 else if d=3 then .ok (pointT p,at_+1)
 else if p=40 then openP d l (at_+1)
 else if p=41 then .ok ({ kind:=8 },at_+1)
 else if p=124 then .ok ({ kind:=9 },at_+1)
 else if p=123 then braceP d l (at_+1) p
 else .ok (pointT p,at_+1)
end Go.Proofs.Ytmjlmjlkghpknaa
