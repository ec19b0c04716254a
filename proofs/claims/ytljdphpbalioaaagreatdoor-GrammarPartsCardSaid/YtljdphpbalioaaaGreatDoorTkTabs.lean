/- From the listed variables to what the walks ask. -/
import Derived.Test.YtljdphpbalioaaaGreatDoorPreK
import Derived.LaidSub
import Derived.MakeChecks
namespace Go.Proofs.YtljdphpbalioaaaGreatDoor
open Go.RowKit

theorem tab_of {L : List (String × DataW Unit)} {W : World} {name : String} {k : IntKind} {zs : List Int} {g : Nat} {t e : TypeId} {n : Nat}
    (hg : Tryz.prog.globalNamed name = some g) (hty : (Tryz.prog.globals[g]?).map (·.type) = some t) (ht : Tryz.prog.underlying t = some (.array n e)) (he : Tryz.prog.underlying e = some (.int k)) (hce : Tryz.prog.cellsOf e = 1) (hct : Tryz.prog.cellsOf t = n)
    (hp : (L.all fun x => x.2.handleName?.isNone) = true) (hf : L.filter (fun x => x.1 == name) = [(name, Lib.tabData k zs)]) (h : laidMetH Tryz.prog L W) : Lib.TabIs Tryz.prog W name k zs := by
  rw [MakeChecks.laidMetH_plain _ _ _ hp] at h
  have h2 := laidMet.filter (fun x => x.1 == name) h
  rw [hf] at h2
  exact Lib.tabIs_of_head hg hty ht he hce hct h2

theorem iface_of_trod {H : Type} {enc : TypeId × Value → H} {P : Program} {w : World} {b : Nat} {sp : Nat → Bool} {held : Bool} {fuel : Nat} {t : TypeId} {ms : Array (String × TypeId)} {cs : List Value} {n : String} {d : DataW H} {p : List MemPlace}
    (ht : P.underlying t = some (.interface ms)) (h : DataW.trod enc P w b sp held fuel t cs = some (.iface n d, p)) : ∃ u v, cs = [.iface u v] := by
  cases fuel with
  | zero => simp [DataW.trod] at h
  | succ fuel =>
    simp only [DataW.trod, ht] at h
    split at h <;> simp_all

theorem err_of {L : List (String × DataW Unit)} {W : World} {name tn : String} {d : DataW Unit} {g : Nat} {t : TypeId} {ms : Array (String × TypeId)}
    (hg : Tryz.prog.globalNamed name = some g) (hty : (Tryz.prog.globals[g]?).map (·.type) = some t) (ht : Tryz.prog.underlying t = some (.interface ms))
    (hp : (L.all fun x => x.2.handleName?.isNone) = true) (hf : L.filter (fun x => x.1 == name) = [(name, .iface tn d)]) (h : laidMetH Tryz.prog L W) : ∃ u v, W.cell? ⟨g, 0, none⟩ = some (.iface u v) := by
  rw [MakeChecks.laidMetH_plain _ _ _ hp] at h
  have h2 := laidMet.filter (fun x => x.1 == name) h
  rw [hf] at h2
  obtain ⟨ps, ⟨g', t', cs, fuel, p, q, hg', ht', hvar, hd, _, _⟩, _⟩ := h2
  obtain rfl := Option.some.inj (hg.symm.trans hg')
  obtain rfl := Option.some.inj (hty.symm.trans ht')
  obtain ⟨u, v, hcs⟩ := iface_of_trod ht hd
  refine ⟨u, v, ?_⟩
  have := World.var?_cell hg hvar 0
  rw [this, ← Array.getElem?_toList, hcs]
  rfl

theorem tb_of {L : List (String × DataW Unit)} {W : World} {tn tn' : String} {d d' : DataW Unit} (hp : (L.all fun x => x.2.handleName?.isNone) = true)
    (h1 : L.filter (fun x => x.1 == "strings.asciiSpace") = [("strings.asciiSpace", Lib.tabData .u8 Lib.asciiSpaceTab)])
    (h2 : L.filter (fun x => x.1 == "internal/strconv.uint64pow10") = [("internal/strconv.uint64pow10", Lib.tabData .u64 Lib.pow10Tab)])
    (h3 : L.filter (fun x => x.1 == "strconv.ErrSyntax") = [("strconv.ErrSyntax", .iface tn d)]) (h4 : L.filter (fun x => x.1 == "strconv.ErrRange") = [("strconv.ErrRange", .iface tn' d')]) (h : laidMetH Tryz.prog L W) : Tb W.heap.size W :=
  Tb.mk' (Sp.of_tab (tab_of (g := 1) (t := 84) (e := 5) (n := 256) (by kernel_rfl) (by kernel_rfl) (by kernel_rfl) (by kernel_rfl) (by kernel_rfl) (by kernel_rfl) hp h1 h))
    (tab_of (g := 5) (t := 150) (e := 33) (n := 20) (by kernel_rfl) (by kernel_rfl) (by kernel_rfl) (by kernel_rfl) (by kernel_rfl) (by kernel_rfl) hp h2 h)
    ⟨err_of (g := 3) (t := 90) (by kernel_rfl) (by kernel_rfl) Tryz.underlying90 hp h3 h, err_of (g := 4) (t := 90) (by kernel_rfl) (by kernel_rfl) Tryz.underlying90 hp h4 h⟩
end Go.Proofs.YtljdphpbalioaaaGreatDoor
