/- Plain: programs are read: numbers, names, and the arena. -/
import Derived.Test.YtljdphpbalioaaaGreatDoorGrP
import Derived.Test.YtljdphpbalioaaaGreatDoorPreB
namespace Go.Proofs.YtljdphpbalioaaaGreatDoor
open Go.RowKit

abbrev Bs := List UInt8
/-- trees with something at each node -/
inductive LT (α : Type) where
  | mk (lab : α) (kind : Nat) (name : Bs) (num : Int) (typ : Nat) (mod tgt : Bs) (kids : List (LT α))
namespace LT
variable {α β : Type}
def lab : LT α → α | .mk a _ _ _ _ _ _ _ => a
def kind : LT α → Nat | .mk _ k _ _ _ _ _ _ => k
def name : LT α → Bs | .mk _ _ n _ _ _ _ _ => n
def num : LT α → Int | .mk _ _ _ n _ _ _ _ => n
def typ : LT α → Nat | .mk _ _ _ _ t _ _ _ => t
def mod : LT α → Bs | .mk _ _ _ _ _ m _ _ => m
def tgt : LT α → Bs | .mk _ _ _ _ _ _ t _ => t
def kids : LT α → List (LT α) | .mk _ _ _ _ _ _ _ k => k
mutual
/-- all nodes, each ahead of its kids -/
def nodes : LT α → List (LT α)
  | .mk a k n u t m g ks => .mk a k n u t m g ks :: nodesL ks
def nodesL : List (LT α) → List (LT α)
  | [] => []
  | t :: r => nodes t ++ nodesL r
end
mutual
def count : LT α → Nat
  | .mk _ _ _ _ _ _ _ ks => countL ks + 1
def countL : List (LT α) → Nat
  | [] => 0
  | t :: r => count t + countL r
end
mutual
def map (h : α → β) : LT α → LT β
  | .mk a k n u t m g ks => .mk (h a) k n u t m g (mapL h ks)
def mapL (h : α → β) : List (LT α) → List (LT β)
  | [] => []
  | t :: r => map h t :: mapL h r
end
mutual
/-- what a tree is without its labels -/
def bare : LT α → Tr
  | .mk _ k n u t m g ks => .mk k n u t m g (bareL ks)
def bareL : List (LT α) → List Tr
  | [] => []
  | t :: r => bare t :: bareL r
end
end LT
/-- a function that is another one at one place -/
def updF {α β : Type} [DecidableEq α] (f : α → β) (a : α) (b : β) : α → β := fun x => if x = a then b else f x
theorem updF_same {α β : Type} [DecidableEq α] (f : α → β) (a : α) (b : β) : updF f a b a = b := by simp [updF]
theorem updF_other {α β : Type} [DecidableEq α] (f : α → β) {a x : α} (b : β) (h : x ≠ a) : updF f a b x = f x := by simp [updF, h]

namespace Nm
variable {α : Type} [DecidableEq α]
mutual
/-- the nodes' numbers, from n on: each ahead of its kids -/
def numT (I : α → Nat) (n : Nat) : LT α → (α → Nat) × Nat
  | .mk a _ _ _ _ _ _ ks => numL (updF I a n) (n + 1) ks
def numL (I : α → Nat) (n : Nat) : List (LT α) → (α → Nat) × Nat
  | [] => (I, n)
  | t :: r => numL (numT I n t).1 (numT I n t).2 r
end
/-- what is known inside a function: names used; names in sight, innermost first; calls so far; what names what -/
structure St (α : Type) where
  used : Bs → Bool
  scope : List (Bs → Option α)
  calls : List (Bs × Bs × α)
  ref : α → Nat
def findS (x : Bs) : List (Bs → Option α) → Option α
  | [] => none
  | f :: r => match f x with
    | some a => some a
    | none => findS x r
def putF {κ β : Type} [DecidableEq κ] (f : κ → Option β) (key : κ) (v : β) : κ → Option β := fun x => if x = key then some v else f x
/-- a parameter, or a Let -/
def declare (x : Bs) (a : α) (s : St α) : Nat × St α :=
  if s.used x then (10, s)
  else (0, ⟨fun y => decide (y = x) || s.used y, match s.scope with
    | [] => []
    | f :: r => putF f x a :: r, s.calls, s.ref⟩)
variable (idOf : α → Nat)
/-- ahead of the kids -/
def pre (a : α) (k : Nat) (mod tgt : Bs) (s : St α) : Nat × St α :=
  if k = 7 ∨ k = 15 then
    match findS tgt s.scope with
    | some b => (0, ⟨s.used, s.scope, s.calls, updF s.ref a (idOf b)⟩)
    | none => (9, s)
  else if k = 19 then (0, ⟨s.used, s.scope, s.calls ++ [(mod, tgt, a)], s.ref⟩)
  else if k = 5 then (0, ⟨s.used, (fun _ => none) :: s.scope, s.calls, s.ref⟩)
  else (0, s)
/-- behind them -/
def post (a : α) (k : Nat) (name : Bs) (s : St α) : Nat × St α :=
  if k = 5 then (0, ⟨s.used, s.scope.tail, s.calls, s.ref⟩)
  else if k = 6 then declare name a s
  else (0, s)
mutual
/-- a statement, or an expression, in the order of the text -/
def visit : LT α → St α → Nat × St α
  | .mk a k name _ _ mod tgt ks, s =>
    let p := pre idOf a k mod tgt s
    if p.1 = 0 then
      let q := visitL ks p.2
      if q.1 = 0 then post a k name q.2 else q
    else p
def visitL : List (LT α) → St α → Nat × St α
  | [], s => (0, s)
  | t :: r, s =>
    let p := visit t s
    if p.1 = 0 then visitL r p.2 else p
end
/-- of all functions -/
structure Fs (α : Type) where
  funcs : Bs × Bs → Option α
  calls : List (Bs × Bs × α)
  ref : α → Nat
/-- a function's kids: parameters, and its Block -/
def funcL : List (LT α) → St α → Nat × St α
  | [], s => (0, s)
  | t :: r, s =>
    let p := if t.kind = 4 then declare t.name t.lab s else visit idOf t s
    if p.1 = 0 then funcL r p.2 else p
def func (mod : Bs) (f : LT α) (s : Fs α) : Nat × Fs α :=
  if (s.funcs (mod, f.name)).isSome then (10, s)
  else
    let p := funcL idOf f.kids ⟨fun _ => false, [fun _ => none], s.calls, s.ref⟩
    (p.1, ⟨putF s.funcs (mod, f.name) f.lab, p.2.calls, p.2.ref⟩)
def funcsL (mod : Bs) : List (LT α) → Fs α → Nat × Fs α
  | [], s => (0, s)
  | f :: r, s =>
    let p := func idOf mod f s
    if p.1 = 0 then funcsL mod r p.2 else p
def modsL : List (LT α) → (Bs → Bool) → Fs α → Nat × Fs α
  | [], _, s => (0, s)
  | m :: r, ms, s =>
    if ms m.name then (10, s)
    else
      let p := funcsL idOf m.name m.kids s
      if p.1 = 0 then modsL r (fun y => decide (y = m.name) || ms y) p.2 else p
def callsL : List (Bs × Bs × α) → (Bs × Bs → Option α) → (α → Nat) → Nat × (α → Nat)
  | [], _, R => (0, R)
  | c :: r, fs, R =>
    match fs (c.1, c.2.1) with
    | none => (9, R)
    | some b => callsL r fs (updF R c.2.2 (idOf b))
/-- names, and what they name -/
def all (t : LT α) : Nat × (α → Nat) :=
  let p := modsL idOf t.kids (fun _ => false) ⟨fun _ => none, [], fun _ => 0⟩
  if p.1 = 0 then callsL idOf p.2.calls p.2.funcs p.2.ref else (p.1, p.2.ref)
/-- the node that is laid -/
def ndOf (R : α → Nat) (t : LT α) : Nd := ⟨t.kind, mk8 t.name, t.num, t.typ, R t.lab, t.kids.map fun k => idOf k.lab⟩
mutual
def layT (R : α → Nat) (l : List (Nat × Nd)) : LT α → List (Nat × Nd)
  | .mk a k n u t _ _ ks => putA (layL R l ks) (idOf a) ⟨k, mk8 n, u, t, R a, ks.map fun x => idOf x.lab⟩
def layL (R : α → Nat) (l : List (Nat × Nd)) : List (LT α) → List (Nat × Nd)
  | [] => l
  | t :: r => layL R (layT R l t) r
end
end Nm
end Go.Proofs.YtljdphpbalioaaaGreatDoor
