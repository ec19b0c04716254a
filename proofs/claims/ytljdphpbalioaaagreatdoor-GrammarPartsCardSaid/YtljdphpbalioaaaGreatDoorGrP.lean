/- Plain: programs are read: the parser. -/
import Derived.Test.YtljdphpbalioaaaGreatDoorPreK
namespace Go.Proofs.YtljdphpbalioaaaGreatDoor
open Go.RowKit

/-- a node as it is read: its kind, name, number and type; of a call the module; what is named -/
inductive Tr where
  | mk (kind : Nat) (name : List UInt8) (num : Int) (typ : Nat) (mod tgt : List UInt8) (kids : List Tr)

/-- where the parser stands -/
structure PS where
  pos : Nat
  deep : Nat
  bad : Bool

namespace Gr
variable (ts : List Tok)

def PS.adv (s : PS) : PS := ⟨s.pos + 1, s.deep, s.bad⟩
def PS.fail (s : PS) : PS := ⟨s.pos, s.deep, true⟩
def now (s : PS) : Tok := if s.bad then ⟨0, [], 0⟩ else (ts[s.pos]?).getD ⟨0, [], 0⟩
def isT (s : PS) (x : List UInt8) : Bool := decide ((now ts s).text = x) && (decide ((now ts s).kind = 3) || decide ((now ts s).kind = 4))
def take (s : PS) (x : List UInt8) : PS := if isT ts s x then PS.adv s else s
def want1 (s : PS) (x : List UInt8) : PS := if isT ts s x then PS.adv s else PS.fail s
def want : PS → List (List UInt8) → PS
  | s, [] => s
  | s, x :: r => want (want1 ts s x) r
def name (s : PS) : List UInt8 × PS := if (now ts s).kind = 1 then ((now ts s).text, PS.adv s) else ([], PS.fail s)
/-- the words -/
def wInt : List UInt8 := [105, 110, 116]
def wBool : List UInt8 := [98, 111, 111, 108]
def wLet : List UInt8 := [108, 101, 116]
def wIf : List UInt8 := [105, 102]
def wElse : List UInt8 := [101, 108, 115, 101]
def wWhile : List UInt8 := [119, 104, 105, 108, 101]
def wPrint : List UInt8 := [112, 114, 105, 110, 116]
def wDo : List UInt8 := [100, 111]
def wTrue : List UInt8 := [116, 114, 117, 101]
def wFalse : List UInt8 := [102, 97, 108, 115, 101]
def wRead : List UInt8 := [114, 101, 97, 100]
def wFunc : List UInt8 := [102, 117, 110, 99]
def wModule : List UInt8 := [109, 111, 100, 117, 108, 101]
def wReturn : List UInt8 := [114, 101, 116, 117, 114, 110]
def types (s : PS) : Nat × PS := if isT ts s wInt then (1, PS.adv s) else if isT ts s wBool then (2, PS.adv s) else (0, PS.fail s)

variable {α : Type}
def within (s : PS) (f : PS → α × PS) (d : α) : α × PS :=
  if s.bad || decide (90 < s.deep + 1) then (d, PS.fail s)
  else ((f ⟨s.pos, s.deep + 1, false⟩).1, ⟨(f ⟨s.pos, s.deep + 1, false⟩).2.pos, (f ⟨s.pos, s.deep + 1, false⟩).2.deep - 1, (f ⟨s.pos, s.deep + 1, false⟩).2.bad⟩)
/-- things with a comma between -/
def rounds (e : List UInt8) (f : PS → α × PS) : Nat → PS → List α × PS
  | 0, s => ([], s)
  | n + 1, s =>
    if s.bad then ([], s)
    else if isT ts (f s).2 e then ([(f s).1], PS.adv (f s).2)
    else ((f s).1 :: (rounds e f n (want1 ts (f s).2 [44])).1, (rounds e f n (want1 ts (f s).2 [44])).2)
def listOf (e : List UInt8) (f : PS → α × PS) (n : Nat) (s : PS) : List α × PS := if isT ts s e then ([], PS.adv s) else rounds ts e f n s
/-- things up to a word or sign, which is taken, or not -/
def till (e : List UInt8) (eat : Bool) (f : PS → α × PS) : Nat → PS → List α × PS
  | 0, s => ([], s)
  | n + 1, s =>
    if s.bad then ([], s)
    else if isT ts s e then ([], if eat then PS.adv s else s)
    else ((f s).1 :: (till e eat f n (f s).2).1, (till e eat f n (f s).2).2)

/-- the number of a sign of two sides -/
def ops : List (List UInt8) := [[43], [45], [42], [47], [37], [60], [60, 61], [62], [62, 61], [61, 61], [33, 61], [38, 38], [124, 124]]
def opNum (x : List UInt8) : Nat := if ops.idxOf x < ops.length then ops.idxOf x + 1 else 0

def leaf (kind : Nat) (num : Int) (tgt : List UInt8) : Tr := .mk kind [] num 0 [] tgt []
/-- what stands in brackets: two sides and a sign -/
def binOf (f : PS → Tr × PS) (s : PS) : (Nat × List Tr) × PS :=
  let a := f s
  let o := opNum (now ts a.2).text
  let b := f ⟨a.2.pos + 1, a.2.deep, a.2.bad || decide (o = 0)⟩
  ((o, [a.1, b.1]), want1 ts b.2 [41])
def oneOf (f : PS → Tr × PS) (s : PS) : List Tr × PS := ([(f s).1], (f s).2)
/-- the arguments of a call -/
def argsOf (f : PS → Tr × PS) (n : Nat) (s : PS) : List Tr × PS := listOf ts [41] f n (want1 ts s [40])
def callOf (f : PS → Tr × PS) (n : Nat) (mod : List UInt8) (s : PS) : Tr × PS :=
  let m := name ts (want1 ts s [46])
  let r := within m.2 (argsOf ts f n) []
  (.mk 19 [] 0 0 mod m.1 r.1, r.2)
def expr : Nat → PS → Tr × PS
  | 0, s => (leaf 0 0 [], s)
  | n + 1, s =>
    if (now ts s).kind = 2 then (leaf 13 (valOf (now ts s).text) [], PS.adv s)
    else if (now ts s).kind = 1 then
      if isT ts (PS.adv s) [46] then callOf ts (expr n) n (now ts s).text (PS.adv s) else (leaf 15 0 (now ts s).text, PS.adv s)
    else if isT ts s wTrue then (leaf 14 1 [], PS.adv s)
    else if isT ts s wFalse then (leaf 14 0 [], PS.adv s)
    else if isT ts s wRead then (leaf 20 0 [], PS.adv s)
    else if isT ts s [33] then
      let r := within (PS.adv s) (oneOf (expr n)) []
      (.mk 16 [] 0 0 [] [] r.1, r.2)
    else if isT ts s [45] then
      let r := within (PS.adv s) (oneOf (expr n)) []
      (.mk 17 [] 0 0 [] [] r.1, r.2)
    else if isT ts s [40] then
      let r := within (PS.adv s) (binOf ts (expr n)) (0, [])
      (.mk 18 [] r.1.1 0 [] [] r.1.2, r.2)
    else (leaf 0 0 [], PS.fail s)

def blockOf (st : PS → Tr × PS) (n : Nat) (s : PS) : Tr × PS :=
  let r := within s (fun s => till ts [125] true st n (want1 ts s [123])) []
  (.mk 5 [] 0 0 [] [] r.1, r.2)
def stmt (m : Nat) : Nat → PS → Tr × PS
  | 0, s => (leaf 0 0 [], s)
  | n + 1, s =>
    if isT ts s wLet then
      let a := name ts (PS.adv s)
      let b := types ts a.2
      let e := expr ts m (want1 ts b.2 [61])
      (.mk 6 a.1 0 b.1 [] [] [e.1], want1 ts e.2 [59])
    else if isT ts s wIf then
      let e := expr ts m (PS.adv s)
      let b := blockOf ts (stmt m n) n e.2
      let c := blockOf ts (stmt m n) n (want1 ts b.2 wElse)
      (.mk 8 [] 0 0 [] [] [e.1, b.1, c.1], c.2)
    else if isT ts s wWhile then
      let e := expr ts m (PS.adv s)
      let b := blockOf ts (stmt m n) n e.2
      (.mk 9 [] 0 0 [] [] [e.1, b.1], b.2)
    else if isT ts s wPrint then
      let e := expr ts m (PS.adv s)
      (.mk 11 [] 0 0 [] [] [e.1], want1 ts e.2 [59])
    else if isT ts s wDo then
      let a := name ts (PS.adv s)
      let c := callOf ts (expr ts m) m a.1 a.2
      (.mk 12 [] 0 0 [] [] [c.1], want1 ts c.2 [59])
    else
      let a := name ts s
      let e := expr ts m (want1 ts a.2 [61])
      (.mk 7 [] 0 0 [] a.1 [e.1], want1 ts e.2 [59])
def param (s : PS) : Tr × PS :=
  let a := name ts s
  let b := types ts a.2
  (.mk 4 a.1 0 b.1 [] [] [], b.2)
def funcOf (m : Nat) (s : PS) : Tr × PS :=
  let a := name ts (want1 ts s wFunc)
  let ps := listOf ts [41] (param ts) m (want1 ts a.2 [40])
  let ty := types ts ps.2
  let b := till ts wReturn false (stmt ts m m) m (want1 ts ty.2 [123])
  let e := expr ts m (want1 ts b.2 wReturn)
  (.mk 3 a.1 0 ty.1 [] [] (ps.1 ++ [.mk 5 [] 0 0 [] [] (b.1 ++ [.mk 10 [] 0 0 [] [] [e.1]])]), want ts e.2 [[59], [125]])
def modOf (m : Nat) (s : PS) : Tr × PS :=
  let a := name ts (want1 ts s wModule)
  let fs := till ts [125] true (funcOf ts m) m (want1 ts a.2 [123])
  (.mk 2 a.1 0 0 [] [] fs.1, fs.2)
def mods (m : Nat) : Nat → PS → List Tr × PS
  | 0, s => ([], s)
  | n + 1, s =>
    if s.bad || decide (ts.length ≤ s.pos) then ([], s)
    else ((modOf ts m s).1 :: (mods m n (modOf ts m s).2).1, (mods m n (modOf ts m s).2).2)
def program (m : Nat) : Tr × PS :=
  let r := mods ts m m ⟨0, 0, false⟩
  (.mk 1 [] 0 0 [] [] r.1, r.2)
end Gr
end Go.Proofs.YtljdphpbalioaaaGreatDoor
