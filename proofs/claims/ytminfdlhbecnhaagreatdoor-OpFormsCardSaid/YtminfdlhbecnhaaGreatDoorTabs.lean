/- From the listed tables to what the walks ask. -/
import Derived.Test.YtminfdlhbecnhaaGreatDoorOpAwake
import Derived.LaidSub
import Derived.MakeChecks
namespace Go.Proofs.YtminfdlhbecnhaaGreatDoor
open Go.RowKit

theorem tab_of {L : List (String × DataW Unit)} {W : World} {name : String} {k : IntKind} {zs : List Int} {g : Nat} {t e : TypeId} {n : Nat}
    (hg : Tryz.prog.globalNamed name = some g) (hty : (Tryz.prog.globals[g]?).map (·.type) = some t) (ht : Tryz.prog.underlying t = some (.array n e)) (he : Tryz.prog.underlying e = some (.int k)) (hce : Tryz.prog.cellsOf e = 1) (hct : Tryz.prog.cellsOf t = n)
    (hp : (L.all fun x => x.2.handleName?.isNone) = true) (hf : L.filter (fun x => x.1 == name) = [(name, Lib.tabData k zs)]) (h : laidMetH Tryz.prog L W) : Lib.TabIs Tryz.prog W name k zs := by
  rw [MakeChecks.laidMetH_plain _ _ _ hp] at h
  have h2 := laidMet.filter (fun x => x.1 == name) h
  rw [hf] at h2
  exact Lib.tabIs_of_head hg hty ht he hce hct h2

theorem tabs_of {L : List (String × DataW Unit)} {W : World} (hp : (L.all fun x => x.2.handleName?.isNone) = true)
    (h1 : L.filter (fun x => x.1 == "strings.asciiSpace") = [("strings.asciiSpace", Lib.tabData .u8 Lib.asciiSpaceTab)])
    (h2 : L.filter (fun x => x.1 == "internal/strconv.uint64pow10") = [("internal/strconv.uint64pow10", Lib.tabData .u64 Lib.pow10Tab)]) (h : laidMetH Tryz.prog L W) : Tabs W :=
  ⟨Sp.of_tab (tab_of (g := 0) (t := 95) (e := 5) (n := 256) (by kernel_rfl) (by kernel_rfl) (by kernel_rfl) (by kernel_rfl) (by kernel_rfl) (by kernel_rfl) hp h1 h),
   tab_of (g := 2) (t := 123) (e := 22) (n := 20) (by kernel_rfl) (by kernel_rfl) (by kernel_rfl) (by kernel_rfl) (by kernel_rfl) (by kernel_rfl) hp h2 h⟩
end Go.Proofs.YtminfdlhbecnhaaGreatDoor
