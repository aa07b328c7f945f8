/- The plain reading of a configuration's text: what is a name, a path, a number; what a line says; the modules of a text. No program, no memory. No conditions. -/
import Derived.Lib.TrimByte
import Derived.Lib.IndexMore
import Derived.Lib.ItoaNum
import Derived.Lib.AtoiAll
namespace Go.Proofs.YtkbamneecfmibaaGreatDoor.C
abbrev Bs := List UInt8
structure Usr where
  name : Bs
  secret : Bs
  deriving DecidableEq
structure Mdl where
  name : Bs
  root : Bs
  write : Bool
  slots : Int
  quota : Int
  users : List Usr
  deriving DecidableEq

def splitOn (c : UInt8) : Bs → List Bs
  | [] => [[]]
  | b :: l => if b == c then [] :: splitOn c l else match splitOn c l with
    | [] => [[b]]
    | h :: t => (b :: h) :: t
def trim (l : Bs) : Bs := Lib.trimB l 32
def cut1 (c : UInt8) : Bs → Option (Bs × Bs)
  | [] => none
  | b :: l => if b == c then some ([], l) else (cut1 c l).map fun p => (b :: p.1, p.2)
def inR (lo hi : Nat) (b : UInt8) : Bool := decide (lo ≤ b.toNat) && decide (b.toNat ≤ hi)
def alnumB (b : UInt8) : Bool := inR 97 122 b || inR 65 90 b || inR 48 57 b
def nameB (s : Bs) : Bool := s != [] && decide (s.length ≤ 16) && s.all alnumB
def signB (b : UInt8) : Bool := inR 97 122 b || inR 48 57 b || b == 95 || b == 45 || b == 46
def segOk (p : Bs) : Bool := p != [] && p != [46] && p != [46, 46] && decide (p.length ≤ 16) && p.all signB
def pathOk (s : Bs) : Bool := s != [] && decide (s.length ≤ 64) && decide ((splitOn 47 s).length ≤ 6) && (splitOn 47 s).all segOk
def clash (a b : Bs) : Bool := (b ++ [47]).isPrefixOf a || (a ++ [47]).isPrefixOf b
def digitB (b : UInt8) : Bool := inR 48 57 b
def numR (s : Bs) : Int :=
  if s = [] ∨ 6 < s.length ∨ (s.head? = some 48 ∧ 1 < s.length) then -1
  else if s.all digitB then s.foldl (fun (n : Int) b => n * 10 + ((b.toNat : Int) - 48)) 0 else -1
def secretOf (us : List Usr) (n : Bs) : Option Bs := (us.find? (fun u => u.name == n)).map (·.secret)
def findM (ms : List Mdl) (n : Bs) : Option Mdl := ms.find? (fun m => m.name == n)

/-- What a pair says of a module: the error's number (0: none), the module, the keys that were said. -/
def setM (m : Mdl) (seen : List Bs) (key value : Bs) : Int × Mdl × List Bs :=
  if key = [117, 115, 101, 114] then
    match cut1 58 value with
    | none => (130, m, seen)
    | some (who, secret) =>
      if secret = [] ∨ 16 < secret.length then (130, m, seen)
      else if nameB who = false then (131, m, seen)
      else if m.users.any (fun u => u.name == who) then (5, m, seen)
      else if 8 ≤ m.users.length then (3, m, seen)
      else (0, { m with users := m.users ++ [⟨who, secret⟩] }, seen)
  else if seen.contains key then (5, m, seen)
  else if key = [114, 111, 111, 116] then
    if pathOk value then (0, { m with root := value }, key :: seen) else (90, m, key :: seen)
  else if key = [119, 114, 105, 116, 101] then
    if value = [121, 101, 115] ∨ value = [116, 114, 117, 101] then (0, { m with write := true }, key :: seen)
    else if value = [110, 111] ∨ value = [102, 97, 108, 115, 101] then (0, m, key :: seen)
    else (130, m, key :: seen)
  else if key = [115, 108, 111, 116, 115] then
    if 1 ≤ numR value ∧ numR value ≤ 16 then (0, { m with slots := numR value }, key :: seen) else (130, m, key :: seen)
  else if key = [113, 117, 111, 116, 97] then
    if 0 ≤ numR value ∧ numR value ≤ 262144 then (0, { m with quota := numR value }, key :: seen) else (130, m, key :: seen)
  else (130, m, key :: seen)

/-- What a line says: the error's number (0: none), the modules, the last one's keys. -/
def lineStep (ms : List Mdl) (seen : List Bs) (raw : Bs) : Int × List Mdl × List Bs :=
  match trim raw with
  | [] => (0, ms, seen)
  | b :: r =>
    if b = 35 then (0, ms, seen)
    else if b = 91 then
      if r.getLast? = some 93 then
        if nameB r.dropLast = false then (131, ms, seen)
        else if ms.any (fun m => m.name == r.dropLast) then (5, ms, seen)
        else if 8 ≤ ms.length then (3, ms, seen)
        else (0, ms ++ [⟨r.dropLast, [], false, 16, 262144, []⟩], [])
      else (130, ms, seen)
    else
      match cut1 61 (b :: r), ms.getLast? with
      | some (k, v), some m =>
        let x := setM m seen (Lib.trimRightB k 32) (Lib.trimLeftB v 32)
        (x.1, ms.dropLast ++ [x.2.1], x.2.2)
      | _, _ => (130, ms, seen)

/-- The lines from number i on: the error's number, its line, the modules. -/
def goLines : Nat → List Bs → List Mdl → List Bs → Int × Nat × List Mdl
  | _, [], ms, _ => (0, 0, ms)
  | i, l :: ls, ms, seen =>
    let x := lineStep ms seen l
    if x.1 = 0 then goLines (i + 1) ls x.2.1 x.2.2 else (x.1, i, [])

/-- What is wrong with modules as a whole, beside those ahead. -/
def checkFrom : Nat → List Mdl → List Mdl → Int × Nat
  | _, _, [] => (0, 0)
  | i, pre, m :: ms =>
    if m.root = [] then (4, i)
    else if pre.any (fun x => x.root == m.root || clash x.root m.root) then (90, i)
    else checkFrom (i + 1) (pre ++ [m]) ms
def checkMs (ms : List Mdl) : Int × Nat := checkFrom 0 [] ms

/-- The error's number (0: none), its place, the modules. -/
def parse (text : Bs) : Int × Nat × List Mdl :=
  if 8192 < text.length then (2, 0, [])
  else
    let x := goLines 0 (splitOn 10 text) [] []
    if x.1 = 0 then
      let y := checkMs x.2.2
      if y.1 = 0 then (0, 0, x.2.2) else (y.1, y.2, [])
    else (x.1, x.2.1, [])

def strB (s : String) : Bs := s.toUTF8.data.toList
def userText (u : Usr) : Bs := [117, 115, 101, 114, 32, 61, 32] ++ u.name ++ [58] ++ u.secret ++ [10]
def modText (m : Mdl) : Bs :=
  [91] ++ m.name ++ [93, 10, 114, 111, 111, 116, 32, 61, 32] ++ m.root ++ [10, 119, 114, 105, 116, 101, 32, 61, 32] ++ (if m.write then [121, 101, 115] else [110, 111])
    ++ [10, 115, 108, 111, 116, 115, 32, 61, 32] ++ Lib.itoa m.slots ++ [10, 113, 117, 111, 116, 97, 32, 61, 32] ++ Lib.itoa m.quota ++ [10] ++ m.users.flatMap userText
def textOf (ms : List Mdl) : Bs := ms.flatMap modText
end Go.Proofs.YtkbamneecfmibaaGreatDoor.C
