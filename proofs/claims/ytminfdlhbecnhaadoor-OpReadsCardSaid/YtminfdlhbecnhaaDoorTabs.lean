/- From the listed tables to what the walks ask. -/
import Derived.Test.YtminfdlhbecnhaaDoorOpAwake
import Derived.LaidSub
import Derived.MakeChecks
namespace Go.Proofs.YtminfdlhbecnhaaDoor
open Go.RowKit

theorem tab_of {L : List (String × DataW Unit)} {W : World} {name : String} {k : IntKind} {zs : List Int} {g : Nat} {t e : TypeId} {n : Nat}
    (hg : Tryd.prog.globalNamed name = some g) (hty : (Tryd.prog.globals[g]?).map (·.type) = some t) (ht : Tryd.prog.underlying t = some (.array n e)) (he : Tryd.prog.underlying e = some (.int k)) (hce : Tryd.prog.cellsOf e = 1) (hct : Tryd.prog.cellsOf t = n)
    (hp : (L.all fun x => x.2.handleName?.isNone) = true) (hf : L.filter (fun x => x.1 == name) = [(name, Lib.tabData k zs)]) (h : laidMetH Tryd.prog L W) : Lib.TabIs Tryd.prog W name k zs := by
  rw [MakeChecks.laidMetH_plain _ _ _ hp] at h
  have h2 := laidMet.filter (fun x => x.1 == name) h
  rw [hf] at h2
  exact Lib.tabIs_of_head hg hty ht he hce hct h2

theorem tabs_of {L : List (String × DataW Unit)} {W : World} (hp : (L.all fun x => x.2.handleName?.isNone) = true)
    (h1 : L.filter (fun x => x.1 == "strings.asciiSpace") = [("strings.asciiSpace", Lib.tabData .u8 Lib.asciiSpaceTab)])
    (h2 : L.filter (fun x => x.1 == "internal/strconv.uint64pow10") = [("internal/strconv.uint64pow10", Lib.tabData .u64 Lib.pow10Tab)]) (h : laidMetH Tryd.prog L W) : Tabs W :=
  ⟨Sp.of_tab (tab_of (g := 0) (t := 74) (e := 5) (n := 256) (by kernel_rfl) (by kernel_rfl) (by kernel_rfl) (by kernel_rfl) (by kernel_rfl) (by kernel_rfl) hp h1 h),
   tab_of (g := 2) (t := 121) (e := 31) (n := 20) (by kernel_rfl) (by kernel_rfl) (by kernel_rfl) (by kernel_rfl) (by kernel_rfl) (by kernel_rfl) hp h2 h⟩
end Go.Proofs.YtminfdlhbecnhaaDoor
