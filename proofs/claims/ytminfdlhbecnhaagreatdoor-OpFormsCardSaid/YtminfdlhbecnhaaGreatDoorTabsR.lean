/- From the listed variables to what the reading of a line asks. -/
import Derived.Test.YtminfdlhbecnhaaGreatDoorTabs
import Derived.Test.YtminfdlhbecnhaaGreatDoorLaysR
import Derived.LaidSub
import Derived.MakeChecks
namespace Go.Proofs.YtminfdlhbecnhaaGreatDoor
open Go.RowKit

theorem iface_of_trod {H : Type} {enc : TypeId × Value → H} {P : Program} {w : World} {b : Nat} {sp : Nat → Bool} {held : Bool} {fuel : Nat} {t : TypeId} {ms : Array (String × TypeId)} {cs : List Value} {n : String} {d : DataW H} {p : List MemPlace}
    (ht : P.underlying t = some (.interface ms)) (h : DataW.trod enc P w b sp held fuel t cs = some (.iface n d, p)) : ∃ u v, cs = [.iface u v] := by
  cases fuel with
  | zero => simp [DataW.trod] at h
  | succ fuel =>
    simp only [DataW.trod, ht] at h
    split at h <;> simp_all

theorem err_of {L : List (String × DataW Unit)} {W : World} {name tn : String} {d : DataW Unit} {g : Nat} {t : TypeId} {ms : Array (String × TypeId)}
    (hg : Tryz.prog.globalNamed name = some g) (hty : (Tryz.prog.globals[g]?).map (·.type) = some t) (ht : Tryz.prog.underlying t = some (.interface ms))
    (hp : (L.all fun x => x.2.handleName?.isNone) = true) (hf : L.filter (fun x => x.1 == name) = [(name, .iface tn d)]) (h : laidMetH Tryz.prog L W) : ∃ u v, W.cell? ⟨g, 0, none⟩ = some (.iface u v) := by
  rw [MakeChecks.laidMetH_plain _ _ _ hp] at h
  have h2 := laidMet.filter (fun x => x.1 == name) h
  rw [hf] at h2
  obtain ⟨ps, ⟨g', t', cs, fuel, p, q, hg', ht', hvar, hd, _, _⟩, _⟩ := h2
  obtain rfl := Option.some.inj (hg.symm.trans hg')
  obtain rfl := Option.some.inj (hty.symm.trans ht')
  obtain ⟨u, v, hcs⟩ := iface_of_trod ht hd
  refine ⟨u, v, ?_⟩
  have := World.var?_cell hg hvar 0
  rw [this, ← Array.getElem?_toList, hcs]
  rfl

theorem rd_of {L : List (String × DataW Unit)} {W : World} {tn tn' : String} {d d' : DataW Unit} (hp : (L.all fun x => x.2.handleName?.isNone) = true)
    (h3 : L.filter (fun x => x.1 == "strconv.ErrSyntax") = [("strconv.ErrSyntax", .iface tn d)]) (h4 : L.filter (fun x => x.1 == "strconv.ErrRange") = [("strconv.ErrRange", .iface tn' d')]) (h : laidMetH Tryz.prog L W) (hsh : W.ShapedOpen Tryz.prog) : RdVars W :=
  ⟨Tryz.lays146.s1_3 W hsh, err_of (g := 3) (t := 70) (by kernel_rfl) (by kernel_rfl) Tryz.underlying70 hp h3 h, err_of (g := 4) (t := 70) (by kernel_rfl) (by kernel_rfl) Tryz.underlying70 hp h4 h⟩
end Go.Proofs.YtminfdlhbecnhaaGreatDoor
