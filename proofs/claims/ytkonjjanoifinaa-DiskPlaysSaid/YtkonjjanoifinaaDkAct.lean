/- The document's Do, whatever the call. -/
import Derived.Test.YtkonjjanoifinaaDkActDo
import Derived.Test.YtkonjjanoifinaaRkDoSync
import Derived.Test.YtkonjjanoifinaaRkDoRotE
import Derived.Test.YtkonjjanoifinaaRkDoRot
import Derived.Test.YtkonjjanoifinaaRkDoCrash
import Derived.Test.YtkonjjanoifinaaRkDoWriteE
import Derived.Test.YtkonjjanoifinaaRkDoWrite
namespace Go.Proofs.Ytkonjjanoifinaa
open Go.RowKit

theorem refdo_any : RefDoSpec := by
  intro r d F v a w m h ha hao hs hm hpf
  have hw : d.wait.length ≤ 1000000 := by have := hs.wait; omega
  have hl1 := hs.left
  unfold Dk.act
  by_cases h6 : a.do_ % 7 = 6
  · rw [if_pos h6]
    refine (refdo_limit r d F v a w h ha hao h6).mono ?_
    rintro e w' ⟨F', he, h1, h2⟩
    exact ⟨r, F', he, h1, h2⟩
  rw [if_neg h6]
  by_cases h3 : a.do_ % 7 = 3
  · rw [if_pos h3]
    by_cases hy : d.may = true
    · rw [if_pos hy]
      refine (refdo_sync r d F v a w h ha hao h3 hs.bound hy hl1 hw).mono ?_
      rintro e w' ⟨he, h1, h2⟩
      exact ⟨r, F, he, h1, h2⟩
    · rw [if_neg hy]
      refine (refdo_sync_off r d F v a w h ha hao h3 (d.off_left hy)).mono ?_
      rintro e w' ⟨he, h1, h2⟩
      exact ⟨r, F, he, h1, Moved.of_below F h2⟩
  rw [if_neg h3]
  by_cases h4 : a.do_ % 7 = 4
  · rw [if_pos h4]
    by_cases hb : a.n < 0 ∨ 32 < a.n ∨ a.bit < 0 ∨ 4096 < a.bit + a.n
    · rw [if_pos hb]
      refine (refdo_rot_arg r d F v a w h ha hao h4 hb).mono ?_
      rintro e w' ⟨he, h1, h2⟩
      exact ⟨r, F, he, h1, Moved.of_below F h2⟩
    · rw [if_neg hb]
      by_cases hi : 0 ≤ a.i ∧ a.i < d.safe.length
      · rw [if_pos hi]
        refine (refdo_rot r d F v a w h ha hao h4 (by omega) (by omega) (by omega) (by omega) hi.1 hi.2 hw).mono ?_
        rintro e w' ⟨F', he, h1, h2⟩
        exact ⟨r, F', he, h1, h2⟩
      · rw [if_neg hi]
        refine (refdo_rot_index r d F v a w h ha hao h4 (by omega) (by omega) (by omega) (by omega) hi).mono ?_
        rintro e w' ⟨he, h1, h2⟩
        exact ⟨r, F, he, h1, Moved.of_below F h2⟩
  rw [if_neg h4]
  by_cases h5 : a.do_ % 7 = 5
  · rw [if_pos h5]
    refine (refdo_crash r d F v a w h ha hao h5 hw).mono ?_
    rintro e w' ⟨r', F', he, h1, h2⟩
    exact ⟨r', F', he, h1, h2⟩
  rw [if_neg h5]
  have hz : a.do_ % 7 < 3 := by omega
  by_cases ho : a.odd = true
  · rw [if_pos ho]
    refine (refdo_write_odd r d F v a w h ha hao _ hz rfl ho).mono ?_
    rintro e w' ⟨he, h1, h2⟩
    exact ⟨r, F, he, h1, Moved.of_below F h2⟩
  rw [if_neg ho]
  have ho' : a.odd = false := by simpa using ho
  by_cases hi : 0 ≤ a.i ∧ a.i < d.safe.length
  · rw [if_pos hi]
    by_cases hy : d.may = true
    · rw [if_pos hy]
      refine (refdo_write r d F v a w h ha hao _ hz rfl ho' hi.1 hi.2 hs.bound hy hl1 hw hpf).mono ?_
      rintro e w' ⟨F', he, h1, h2⟩
      exact ⟨r, F', he, h1, h2⟩
    · rw [if_neg hy]
      refine (refdo_write_off r d F v a w h ha hao _ hz rfl ho' hi (d.off_left hy)).mono ?_
      rintro e w' ⟨he, h1, h2⟩
      exact ⟨r, F, he, h1, Moved.of_below F h2⟩
  · rw [if_neg hi]
    refine (refdo_write_index r d F v a w h ha hao _ hz rfl ho' hi).mono ?_
    rintro e w' ⟨he, h1, h2⟩
    exact ⟨r, F, he, h1, Moved.of_below F h2⟩
end Go.Proofs.Ytkonjjanoifinaa
