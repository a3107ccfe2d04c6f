/- The plain model of chapters 1, 2, 9 (Cut), 10 (as a parameter) and 11: what an expansion comes to, over lists of bytes; no Go and no memory. -/
import Derived.Lib.Join
import Derived.Lib.SlTrimSet
import Derived.Lib.IndexMore
import Derived.Lib.IndexAny
import Derived.Lib.ItoaNum
import GoSem.Op.String
namespace Go.Proofs.YtopkcgdfebkbaaaGreatDoor
open Go

abbrev Bytes := List UInt8

/-- A variable: its name, its text, is it simple? -/
structure Var where
  name : Bytes
  text : Bytes
  simple : Bool

def getV : List Var → Bytes → Option Var
  | [], _ => none
  | x :: r, n => if x.name = n then some x else getV r n

/-- The variables with one more, in its place by its name. -/
def insV (x : Var) : List Var → List Var
  | [] => [x]
  | y :: r => if Op.bytesLess y.name x.name then y :: insV x r else if y.name = x.name then x :: r else x :: y :: r

/-! ### Words -/
def blanks : Bytes := [32, 9]
def isBlank (c : UInt8) : Bool := c == 32 || c == 9
def wordsF : Nat → Bytes → List Bytes
  | 0, _ => []
  | k + 1, s =>
    let t := Lib.trimLeftS s blanks
    if t = [] then [] else t.takeWhile (fun c => !isBlank c) :: wordsF k (t.dropWhile (fun c => !isBlank c))
def wordsB (s : Bytes) : List Bytes := wordsF (s.length + 1) s
def joinB (l : List Bytes) : Bytes := Lib.join l [32]
def trimB (s : Bytes) : Bytes := Lib.trimS s blanks

/-! ### Steps that are counted: what comes of it, or an error; how many there were. 'none': a function of words was asked for (chapter 10) that the parameter does not answer. -/
def St (α : Type) := Nat → Option (Except Nat α × Nat)
def okS {α : Type} (a : α) : St α := fun n => some (.ok a, n)
def errS {α : Type} (e : Nat) : St α := fun n => some (.error e, n)
def andS {α β : Type} (x : St α) (f : α → St β) : St β := fun n =>
  match x n with
  | none => none
  | some (.error e, n') => some (.error e, n')
  | some (.ok a, n') => f a n'
def stepS : St Unit := fun n => if 2000 < n + 1 then some (.error 12, n + 1) else some (.ok (), n + 1)
def shortS (b : Bytes) : St Bytes := if 4000 < b.length then errS 3 else okS b

/-! ### What an opening opens -/
/-- Over what is left of a text from place 'at' on; what closes what is open. -/
def innerF (s : Bytes) : Nat → Nat → Bytes → Option (Bytes × Bytes)
  | 0, _, _ => none
  | k + 1, at_, open_ =>
    if at_ < s.length then
      if Lib.hasPrefix (s.drop at_) [36, 40] then innerF s k (at_ + 2) (41 :: open_)
      else if Lib.hasPrefix (s.drop at_) [36, 123] then innerF s k (at_ + 2) (125 :: open_)
      else match open_ with
        | [] => innerF s k (at_ + 1) []
        | c :: r => if s.getD at_ 0 = c then (if r = [] then some ((s.drop 2).take (at_ - 2), s.drop (at_ + 1)) else innerF s k (at_ + 1) r) else innerF s k (at_ + 1) (c :: r)
    else none
def innerB (s : Bytes) : Option (Bytes × Bytes) := innerF s (s.length + 1) 0 []

/-! ### parse.Cut: the first of some signs that is outside -/
/-- One step over a text: what is open behind it (the innermost last), how many bytes, is it outside? -/
def stepB (k : Bytes) (s : Bytes) : Bytes × Nat × Bool :=
  if Lib.hasPrefix s [36, 40] then (k ++ [41], 2, false)
  else if Lib.hasPrefix s [36, 123] then (k ++ [125], 2, false)
  else if k ≠ [] ∧ s.headD 0 = k.getLastD 0 then (k.dropLast, 1, false)
  else (k, 1, k.isEmpty)
def signB (rest : Bytes) : List Bytes → Option Bytes
  | [] => none
  | g :: r => if g ≠ [] ∧ Lib.hasPrefix rest g = true then some g else signB rest r
def cutF (s : Bytes) (signs : List Bytes) : Nat → Bytes → Nat → Bytes × Bytes × Bytes
  | 0, _, _ => (s, [], [])
  | m + 1, k, at_ =>
    if at_ < s.length then
      let rest := s.drop at_
      let q := stepB k rest
      match (if q.2.2 then signB rest signs else none) with
      | some g => (s.take at_, g, rest.drop g.length)
      | none => cutF s signs m q.1 (at_ + q.2.1)
    else (s, [], [])
def cutB (s : Bytes) (signs : List Bytes) : Bytes × Bytes × Bytes := cutF s signs (s.length + 1) [] 0

/-! ### A function's name and arguments -/
def sIf : Bytes := [105, 102]
def sForeach : Bytes := [102, 111, 114, 101, 97, 99, 104]
def sCall : Bytes := [99, 97, 108, 108]
def argsF : Nat → Bytes → Nat → List Bytes → List Bytes
  | 0, s, _, l => l ++ [s]
  | k + 1, s, most, l =>
    if l.length + 1 < most then
      let q := cutB s [[44]]
      if q.2.1 = [] then l ++ [s] else argsF k q.2.2 most (l ++ [q.1])
    else l ++ [s]
def argsB (s : Bytes) (most : Nat) : List Bytes := argsF most s most []

/-! ### Expansion -/
/-- How one level of nesting expands a text, and tells a variable's value. -/
structure Lev where
  ex : List Var → Bytes → St Bytes
  vl : List Var → Bytes → St Bytes

def valueB (below : Option (List Var → Bytes → St Bytes)) (v : List Var) (name : Bytes) : St Bytes :=
  match getV v name with
  | none => okS []
  | some x => if x.simple then okS x.text else
    match below with
    | none => errS 15
    | some ex => andS stepS fun _ => ex v x.text

def scanF (rf vl : Bytes → St Bytes) : Nat → Bytes → Bytes → St Bytes
  | 0, _, _ => fun _ => none
  | k + 1, t, acc =>
    let q := Lib.cut t [36]
    let acc := acc ++ q.1
    if q.2.2 then
      match q.2.1 with
      | [] => errS 2
      | c :: r =>
        if c = 36 then scanF rf vl k r (acc ++ [36])
        else if c = 40 ∨ c = 123 then
          match innerB (36 :: c :: r) with
          | none => errS 2
          | some (x, rest) => andS (rf x) fun y => scanF rf vl k rest (acc ++ y)
        else andS (vl [c]) fun y => scanF rf vl k r (acc ++ y)
    else shortS acc

def allS (ex : Bytes → St Bytes) : List Bytes → List Bytes → St (List Bytes)
  | [], out => okS out
  | t :: r, out => andS (ex t) fun x => allS ex r (out ++ [x])

def eachS (f : Bytes → St Bytes) : List Bytes → List Bytes → St (List Bytes)
  | [], out => okS out
  | t :: r, out => andS (f t) fun x => eachS f r (out ++ [x])

def wordsS (f : Bytes → St Bytes) (t : Bytes) : St Bytes := andS (eachS f (wordsB t) []) fun l => shortS (joinB l)

/-- glob -/
def openB (p : Bytes) : Bool := Lib.countByte p 37 == 1
def rightB (p : Bytes) : Bool := p != [] && decide (Lib.countByte p 37 ≤ 1)
def matchB (p s : Bytes) : Option Bytes :=
  let q := Lib.cut p [37]
  if rightB p then
    if q.2.2 then
      if Lib.hasPrefix s q.1 then
        if Lib.hasSuffix (s.drop q.1.length) q.2.1 then some ((s.drop q.1.length).take (s.length - q.1.length - q.2.1.length)) else none
      else none
    else if p = s then some [] else none
  else none
def fillB (p stem : Bytes) : Bytes := if openB p then (Lib.cut p [37]).1 ++ stem ++ (Lib.cut p [37]).2.1 else p
def substB (p q s : Bytes) : Bytes := match matchB p s with | some stem => fillB q stem | none => s

def turnedB (L : Lev) (v : List Var) (name p q : Bytes) : St Bytes :=
  andS (allS (L.ex v) [name, p, q] []) fun l =>
  andS (L.vl v (l.getD 0 [])) fun s =>
  let p := l.getD 1 []
  let q := l.getD 2 []
  if openB p then wordsS (fun w => okS (substB p q w)) s else wordsS (fun w => okS (substB (37 :: p) (37 :: q) w)) s

def withArgs : List Var → Nat → List Bytes → List Var
  | v, _, [] => v
  | v, i, t :: r => withArgs (insV ⟨Lib.itoa (i + 1), t, true⟩ v) (i + 1) r

abbrev CallF := Bytes → List Bytes → Option (Except Nat Bytes)
def callS (cf : CallF) (name : Bytes) (l : List Bytes) : St Bytes := fun n => (cf name l).map fun r => (r, n)

def functionB (cf : CallF) (L : Lev) (v : List Var) (name : Bytes) (args : List Bytes) : St Bytes :=
  if name = sIf then
    andS (L.ex v (args.getD 0 [])) fun first =>
    if trimB first ≠ [] then L.ex v (args.getD 1 []) else if args.length < 3 then okS [] else L.ex v (args.getD 2 [])
  else if name = sForeach then
    andS (allS (L.ex v) (args.take 2) []) fun l =>
    wordsS (fun w => andS stepS fun _ => L.ex (insV ⟨trimB (l.getD 0 []), w, true⟩ v) (args.getD 2 [])) (l.getD 1 [])
  else
    andS (allS (L.ex v) args []) fun l =>
    if name ≠ sCall then callS cf name l else
    match getV v (trimB (l.getD 0 [])) with
    | none => okS []
    | some x => L.ex (withArgs (insV ⟨[48], trimB (l.getD 0 []), true⟩ v) 0 (l.drop 1)) x.text

/-- How many arguments a function takes: the least, the most; 0: there is none. -/
def manyB (name : Bytes) : Nat :=
  if name ∈ ([[115, 116, 114, 105, 112], [115, 111, 114, 116], [119, 111, 114, 100, 115], [102, 105, 114, 115, 116, 119, 111, 114, 100], [108, 97, 115, 116, 119, 111, 114, 100], [100, 105, 114], [110, 111, 116, 100, 105, 114], [115, 117, 102, 102, 105, 120], [98, 97, 115, 101, 110, 97, 109, 101]] : List Bytes) then 1
  else if name ∈ ([[102, 105, 110, 100, 115, 116, 114, 105, 110, 103], [102, 105, 108, 116, 101, 114], [102, 105, 108, 116, 101, 114, 45, 111, 117, 116], [119, 111, 114, 100], [97, 100, 100, 115, 117, 102, 102, 105, 120], [97, 100, 100, 112, 114, 101, 102, 105, 120], [106, 111, 105, 110]] : List Bytes) then 2
  else if name ∈ ([[115, 117, 98, 115, 116], [112, 97, 116, 115, 117, 98, 115, 116], [119, 111, 114, 100, 108, 105, 115, 116]] : List Bytes) then 3
  else 0
def takesB (name : Bytes) : Nat × Nat :=
  if name = sIf then (2, 3) else if name = sForeach then (3, 3) else if name = sCall then (1, 9) else (manyB name, manyB name)

def namedB (L : Lev) (v : List Var) (c : Bytes) : St Bytes :=
  let a := cutB c [[58]]
  let b := cutB a.2.2 [[61]]
  if a.2.1 ≠ [] ∧ b.2.1 ≠ [] then turnedB L v a.1 b.1 b.2.2 else andS (L.ex v c) fun name => L.vl v name

def referIn (cf : CallF) (L : Lev) (v : List Var) (c : Bytes) : St Bytes :=
  let at_ := Lib.indexAny c blanks
  if 0 < at_ then
    let word := c.take at_.toNat
    let args := argsB (Lib.trimLeftS (c.drop at_.toNat) blanks) (takesB word).2
    if (takesB word).2 = 0 then namedB L v c
    else if args.length < (takesB word).1 then errS 1
    else functionB cf L v word args
  else namedB L v c

def referB (cf : CallF) (below : Option Lev) (v : List Var) (c : Bytes) : St Bytes :=
  match below with
  | none => errS 15
  | some L => andS stepS fun _ => referIn cf L v c

def mkLev (cf : CallF) (below : Option Lev) : Lev :=
  { ex := fun v t => scanF (referB cf below v) (valueB (below.map (·.ex)) v) (t.length + 1) t [], vl := valueB (below.map (·.ex)) }
/-- What a text expands to with d levels of nesting left. -/
def lev (cf : CallF) : Nat → Lev
  | 0 => mkLev cf none
  | d + 1 => mkLev cf (some (lev cf d))

/-- Expand: from no step on, twenty levels. -/
def expandB (cf : CallF) (v : List Var) (t : Bytes) : Option (Except Nat Bytes) := ((lev cf 20).ex v t 0).map (·.1)

end Go.Proofs.YtopkcgdfebkbaaaGreatDoor
