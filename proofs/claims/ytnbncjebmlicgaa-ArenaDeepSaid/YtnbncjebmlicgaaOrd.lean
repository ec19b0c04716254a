/- A region that draws its order, its last step apart: what is read ahead of it may be taken first, whatever it stores. No program is in sight. -/
import Derived.Test.YtnbncjebmlicgaaStill
import Derived.OrdersHeld
namespace Go.Proofs.Ytnbncjebmlicgaa
open Go.RowKit

section
variable {P : Program} {ops : Array Oper} {Q : Exit → Act → World → Prop} {md : Region.Mode} {S : World → Prop}

/-- whatever order is picked from here on, and S holds as long as number z has not come up -/
def AnyZ (P : Program) (md : Region.Mode) (ops : Array Oper) (Q : Exit → Act → World → Prop) (S : World → Prop) (z : Nat) : Nat → Array Bool → Act → World → Prop
  | 0, listed, a, w => Region.ready md ops listed = [] ∧ Q .normal a w
  | fuel + 1, listed, a, w =>
    (Region.ready md ops listed = [] → Q .normal a w) ∧
    ∀ i ∈ Region.ready md ops listed, wpOp P ops Q i (fun a' w' => ((listed.setIfInBounds i true).getD z true = false → S w') ∧ AnyZ P md ops Q S z fuel (listed.setIfInBounds i true) a' w') a w

theorem any_of_anyZ {z : Nat} : ∀ (fuel : Nat) (listed : Array Bool) (a : Act) (w : World), AnyZ P md ops Q S z fuel listed a w → wpAny P md ops Q fuel listed a w
  | 0, _, _, _, h => h
  | fuel + 1, _, _, _, h => ⟨h.1, fun i hi => wpOp_mono (fun a' w' h' => any_of_anyZ fuel _ a' w' h'.2) (h.2 i hi)⟩

/-- whatever has come up, what it waits for has come up -/
def Closed (md : Region.Mode) (ops : Array Oper) (listed : Array Bool) : Prop := ∀ j i, Region.waitsFor md ops j i = true → listed.getD j false = true → listed.getD i false = true

/-- number z waits for number i, perhaps through others -/
def Blocks (md : Region.Mode) (ops : Array Oper) : Nat → Nat → Nat → Bool
  | 0, z, i => Region.waitsFor md ops z i
  | n + 1, z, i => Region.waitsFor md ops z i || (List.range ops.size).any fun k => Region.waitsFor md ops z k && Blocks md ops n k i

theorem blocks_listed {listed : Array Bool} (hc : Closed md ops listed) : ∀ (n z i : Nat), Blocks md ops n z i = true → listed.getD z false = true → listed.getD i false = true
  | 0, z, i, h, hz => hc z i h hz
  | n + 1, z, i, h, hz => by
    simp only [Blocks, Bool.or_eq_true, List.any_eq_true, Bool.and_eq_true] at h
    rcases h with h | ⟨k, _, h1, h2⟩
    · exact hc z i h hz
    · exact blocks_listed hc n k i h2 (hc z k h1 hz)

theorem closed_start (n : Nat) : Closed md ops (Array.replicate n false) := fun j i _ h => by rw [getD_replicate_false] at h; cases h

theorem ready_listed {listed : Array Bool} {j k : Nat} (hj : j ∈ Region.ready md ops listed) (hw : Region.waitsFor md ops j k = true) : listed.getD k false = true := by
  obtain ⟨_, oj, hoj, hall⟩ := mem_ready.1 hj
  obtain ⟨oz, hoz, e, he, hb, hon⟩ := Region.waitsFor_spec hw
  rw [hoj] at hoz
  cases hoz
  have := hall e he hb
  rw [hon] at this
  exact this

theorem ready_un {listed : Array Bool} {i : Nat} (hi : i ∈ Region.ready md ops listed) : listed.getD i false = false := getD_both (mem_ready.1 hi).1

theorem Closed.set {listed : Array Bool} {j : Nat} (hc : Closed md ops listed) (hj : j ∈ Region.ready md ops listed) : Closed md ops (listed.setIfInBounds j true) := by
  intro a b hab ha
  have keep : ∀ c, listed.getD c false = true → (listed.setIfInBounds j true).getD c false = true := fun c h => by
    by_cases hjc : j = c
    · subst hjc; rw [ready_un hj] at h; cases h
    · rw [getD_set_ne false hjc]; exact h
  by_cases hja : j = a
  · subst hja; exact keep b (ready_listed hj hab)
  · rw [getD_set_ne false hja] at ha
    exact keep b (hc a b hab ha)

theorem blocks_not_ready {listed : Array Bool} (hc : Closed md ops listed) {n z i : Nat} (hb : Blocks md ops n z i = true) (hi : listed.getD i false = false) : z ∉ Region.ready md ops listed := by
  intro hz
  have key : listed.getD i false = true := by
    cases n with
    | zero => exact ready_listed hz hb
    | succ n =>
      simp only [Blocks, Bool.or_eq_true, List.any_eq_true, Bool.and_eq_true] at hb
      rcases hb with h | ⟨k, _, h1, h2⟩
      · exact ready_listed hz h
      · exact blocks_listed hc n k i h2 (ready_listed hz h1)
  rw [hi] at key
  cases key

theorem anyZ_first {n i z : Nat} (hiz : i ≠ z) {oi : Oper} {v : Value} {T : World → Prop} (hT : ∀ w, S w → T w) (hi : ops[i]? = some oi) (hsel : ∀ (j : Nat) (o : Oper) cs b, ops[j]? = some o → o.op ≠ .select cs b)
    (hQ : ∀ c a w, Q (.panic c) (a.put oi.dst v) w → Q (.panic c) a w) :
    ∀ (fuel : Nat) (listed : Array Bool) (a : Act) (w : World), Closed md ops listed → ((∀ w, T w) ∨ (Blocks md ops n z i = true ∧ listed.getD z true = false)) →
      (∀ j oj, ops[j]? = some oj → j ≠ i → listed.getD j true = false → (∀ e ∈ oj.after, Region.binds md e = true → e.on ≠ i) → oi.apart ops oj = true) →
      i ∈ Region.ready md ops listed → YieldsIf P ops T oi v a → T w → ((listed.setIfInBounds i true).getD z true = false → S w) →
      AnyZ P md ops Q S z fuel (listed.setIfInBounds i true) (a.put oi.dst v) w → AnyZ P md ops Q S z (fuel + 1) listed a w := by
  intro fuel
  induction fuel with
  | zero =>
    intro listed a w _ hz _ hr hy hTw hS H
    refine ⟨fun h => (by rw [h] at hr; cases hr), fun j hj => ?_⟩
    by_cases hji : j = i
    · subst hji; exact hy.wpOp hi hTw ⟨hS, H⟩
    · have := ready_mono hj hji
      rw [H.1] at this
      cases this
  | succ fuel ih =>
    intro listed a w hcl hz hfree hr hy hTw hS H
    refine ⟨fun h => (by rw [h] at hr; cases hr), fun j hj => ?_⟩
    by_cases hji : j = i
    · subst hji; exact hy.wpOp hi hTw ⟨hS, H⟩
    · have h1 := H.2 j (ready_mono hj hji)
      obtain ⟨hjun, oj, hoj, hall⟩ := mem_ready.1 hj
      have hnot : ∀ e ∈ oj.after, Region.binds md e = true → e.on ≠ i := fun e he hb heq => by
        have h1 := hall e he hb
        have h0 := (mem_ready.1 hr).1
        rw [heq] at h1
        rcases Nat.lt_or_ge i listed.size with h' | h'
        · simp [h'] at h0 h1; rw [h0] at h1; cases h1
        · simp [Array.getElem?_eq_none h'] at h1
      have h2 := wpOp_putIf hoj (hfree j oj hoj hji hjun hnot) (fun cs b => hsel i oi cs b hi) (fun cs b => hsel j oj cs b hoj) hQ hy h1
      have hfree' : ∀ k ok, ops[k]? = some ok → k ≠ i → (listed.setIfInBounds j true).getD k true = false →
          (∀ e ∈ ok.after, Region.binds md e = true → e.on ≠ i) → oi.apart ops ok = true := fun k ok hk hki hun hno => by
        refine hfree k ok hk hki ?_ hno
        by_cases hjk : j = k
        · subst hjk; exact hjun
        · rw [getD_set_ne true hjk] at hun; exact hun
      have hz' : (∀ w, T w) ∨ (Blocks md ops n z i = true ∧ (listed.setIfInBounds j true).getD z true = false) := by
        rcases hz with h | ⟨hw, hzl⟩
        · exact .inl h
        · refine .inr ⟨hw, ?_⟩
          have hjz : j ≠ z := by
            rintro rfl
            exact blocks_not_ready hcl hw (ready_un hr) hj
          rw [getD_set_ne true hjz]; exact hzl
      have hzi : (listed.setIfInBounds i true).setIfInBounds j true = (listed.setIfInBounds j true).setIfInBounds i true := (Array.setIfInBounds_comm _ _ (Ne.symm hji)) 
      refine wpOp_mono (fun a' w' h3 => ?_) h2
      obtain ⟨h3a, h3b, h3c⟩ := h3
      have hge : (listed.setIfInBounds j true).getD z true = ((listed.setIfInBounds i true).setIfInBounds j true).getD z true := by
        rw [hzi]; exact (getD_set_ne true hiz).symm
      refine ⟨fun hzl => ?_, ih (listed.setIfInBounds j true) a' w' (hcl.set hj) hz' hfree' (ready_mono hr (Ne.symm hji)) h3a ?_ ?_ ?_⟩
      · exact h3b (hge ▸ hzl)
      · rcases hz' with h | ⟨hw, hzl⟩
        · exact h w'
        · exact hT w' (h3b (hge ▸ hzl))
      · intro h; rw [← hzi] at h; exact h3b h
      · rw [← hzi]; exact h3c

theorem anyZ_take {i z : Nat} {oi : Oper} {v : Value} {fuel : Nat} {listed : Array Bool} {a : Act} {w : World} (hi : ops[i]? = some oi) (hiz : (i != z) = true)
    (hs : Region.noSelect ops = true) (hf : Region.free md ops listed i = true) (hr : (Region.ready md ops listed).contains i = true) (hcl : Closed md ops listed) (n : Nat) (hw : Blocks md ops n z i = true) (hzl : listed.getD z true = false)
    (hQ : ∀ c a w, Q (.panic c) (a.put oi.dst v) w → Q (.panic c) a w) (hy : YieldsIf P ops S oi v a) (hS : S w)
    (h : Closed md ops (listed.setIfInBounds i true) → AnyZ P md ops Q S z fuel (listed.setIfInBounds i true) (a.put oi.dst v) w) : AnyZ P md ops Q S z (fuel + 1) listed a w :=
  anyZ_first (by simpa using hiz) (fun _ h => h) hi (Region.noSelect_spec hs) hQ fuel listed a w hcl (.inr ⟨hw, hzl⟩) (Region.free_spec hi hf) (by simpa using hr) hy hS (fun _ => hS) (h (hcl.set (by simpa using hr)))

/-- what yields in whatever world -/
theorem anyZ_pure {i z : Nat} {oi : Oper} {v : Value} {fuel : Nat} {listed : Array Bool} {a : Act} {w : World} (hi : ops[i]? = some oi) (hiz : (i != z) = true)
    (hs : Region.noSelect ops = true) (hf : Region.free md ops listed i = true) (hr : (Region.ready md ops listed).contains i = true) (hcl : Closed md ops listed)
    (hQ : ∀ c a w, Q (.panic c) (a.put oi.dst v) w → Q (.panic c) a w) (hy : YieldsIf P ops (fun _ => True) oi v a) (hS : (listed.setIfInBounds i true).getD z true = false → S w)
    (h : Closed md ops (listed.setIfInBounds i true) → AnyZ P md ops Q S z fuel (listed.setIfInBounds i true) (a.put oi.dst v) w) : AnyZ P md ops Q S z (fuel + 1) listed a w :=
  anyZ_first (n := 0) (T := fun _ => True) (by simpa using hiz) (fun _ _ => trivial) hi (Region.noSelect_spec hs) hQ fuel listed a w hcl (.inl fun _ => trivial) (Region.free_spec hi hf) (by simpa using hr) hy trivial hS (h (hcl.set (by simpa using hr)))

/-- the one that may come up -/
theorem anyZ_one {i z : Nat} {oi : Oper} {fuel : Nat} {listed : Array Bool} {a : Act} {w : World} (hcl : Closed md ops listed) (hr : Region.ready md ops listed = [i]) (hi : ops[i]? = some oi) (hg : oi.guard = none)
    (h : Closed md ops (listed.setIfInBounds i true) → ∀ K : Act → World → Prop, (∀ a' w', ((listed.setIfInBounds i true).getD z true = false → S w') → AnyZ P md ops Q S z fuel (listed.setIfInBounds i true) a' w' → K a' w') → oi.wp P a w K Q) :
    AnyZ P md ops Q S z (fuel + 1) listed a w := by
  refine ⟨fun h0 => (by rw [hr] at h0; cases h0), fun j hj => ?_⟩
  rw [hr] at hj
  have hji : j = i := by simpa using hj
  subst hji
  unfold wpOp
  simp only [hi]
  rw [if_pos (by simp [Region.wanted, hg])]
  exact .inl (h (hcl.set (by rw [hr]; simp)) _ fun a' w' h1 h2 => ⟨h1, h2⟩)

theorem anyZ_two {i j z : Nat} {oi oj : Oper} {fuel : Nat} {listed : Array Bool} {a : Act} {w : World} (hcl : Closed md ops listed) (hr : Region.ready md ops listed = [i, j]) (hi : ops[i]? = some oi) (hgi : oi.guard = none) (hj : ops[j]? = some oj) (hgj : oj.guard = none)
    (h1 : Closed md ops (listed.setIfInBounds i true) → ∀ K : Act → World → Prop, (∀ a' w', ((listed.setIfInBounds i true).getD z true = false → S w') → AnyZ P md ops Q S z fuel (listed.setIfInBounds i true) a' w' → K a' w') → oi.wp P a w K Q)
    (h2 : Closed md ops (listed.setIfInBounds j true) → ∀ K : Act → World → Prop, (∀ a' w', ((listed.setIfInBounds j true).getD z true = false → S w') → AnyZ P md ops Q S z fuel (listed.setIfInBounds j true) a' w' → K a' w') → oj.wp P a w K Q) :
    AnyZ P md ops Q S z (fuel + 1) listed a w := by
  refine ⟨fun h0 => (by rw [hr] at h0; cases h0), fun k hk => ?_⟩
  rw [hr] at hk
  rcases List.mem_cons.1 hk with rfl | hk
  · unfold wpOp
    simp only [hi]
    rw [if_pos (by simp [Region.wanted, hgi])]
    exact .inl (h1 (hcl.set (by rw [hr]; simp)) _ fun a' w' h1 h2 => ⟨h1, h2⟩)
  · have hkj : k = j := by simpa using hk
    subst hkj
    unfold wpOp
    simp only [hj]
    rw [if_pos (by simp [Region.wanted, hgj])]
    exact .inl (h2 (hcl.set (by rw [hr]; simp)) _ fun a' w' h1 h2 => ⟨h1, h2⟩)

theorem anyZ_done {z : Nat} {listed : Array Bool} {a : Act} {w : World} (hr : Region.ready md ops listed = []) (h : Q .normal a w) : ∀ fuel, AnyZ P md ops Q S z fuel listed a w
  | 0 => ⟨hr, h⟩
  | _ + 1 => ⟨fun _ => h, by rw [hr]; simp⟩

theorem region_anyZ {z id : Nat} {a : Act} {w : World} (hm : P.follows .mixedOrders = true)
    (h : AnyZ P .any ops Q S z ops.size (Array.replicate ops.size false) a w.drew) : (Code.region id ops true).wp P Q a w :=
  wp_region_any hm (any_of_anyZ _ _ _ _ h)

/-- from number z on, one order -/
theorem anyZ_chain {z : Nat} : ∀ (l : List Oper) (k : Nat) (listed : Array Bool) (a : Act) (w : World), (∀ j, l[j]? = ops[k + j]?) → Region.seqB md ops l.length k listed = true → (z = k ∨ listed.getD z true = true) → (z < listed.size) →
    wpList P ops Q l a w → AnyZ P md ops Q S z l.length listed a w
  | [], k, listed, a, w, hl, hB, _, _, h => ⟨by simpa [Region.seqB] using hB, h⟩
  | o :: l, k, listed, a, w, hl, hB, hz, hzs, h => by
    have h0 : ops[k]? = some o := by simpa using (hl 0).symm
    simp only [List.length_cons, Region.seqB, Bool.and_eq_true, decide_eq_true_eq] at hB
    refine ⟨fun h1 => (by rw [hB.1] at h1; cases h1), fun i hi => ?_⟩
    rw [hB.1] at hi
    have hik : i = k := by simpa using hi
    subst hik
    have hzt : (listed.setIfInBounds i true).getD z true = true := by
      rcases hz with rfl | hz
      · simp [hzs]
      · by_cases hiz : i = z
        · subst hiz; simp [hzs]
        · rw [getD_set_ne true hiz]; exact hz
    have hw : wpOp P ops Q i (wpList P ops Q l) a w := by unfold wpOp; simp only [h0]; exact h
    exact wpOp_mono (fun a' w' h' => ⟨(fun h => by rw [hzt] at h; cases h), anyZ_chain l (i + 1) _ a' w' (fun j => by have := hl (j + 1); simpa [Nat.add_assoc, Nat.add_comm 1 j] using this) hB.2 (.inr hzt) (by simpa using hzs) h'⟩) hw

theorem anyZ_begin {z n fuel : Nat} {a : Act} {w : World} (h : Closed md ops (Array.replicate n false) → AnyZ P md ops Q S z fuel (Array.replicate n false) a w) : AnyZ P md ops Q S z fuel (Array.replicate n false) a w := h (closed_start n)
theorem anyZ_held {z fuel : Nat} {listed : Array Bool} {a : Act} {w : World} (hS : S w) (h : S w → AnyZ P md ops Q S z fuel listed a w) : AnyZ P md ops Q S z fuel listed a w := h hS

/-- from number z on, where all ahead of it have come up -/
theorem anyZ_chain_at {z fuel : Nat} {listed : Array Bool} {a : Act} {w : World} (hB : (Region.seqB md ops fuel z listed && decide (z < listed.size) && decide (fuel = ops.size - z)) = true)
    (h : wpList P ops Q (ops.toList.drop z) a w) : AnyZ P md ops Q S z fuel listed a w := by
  simp only [Bool.and_eq_true, decide_eq_true_eq] at hB
  obtain ⟨⟨h1, h2⟩, h3⟩ := hB
  have hl : (ops.toList.drop z).length = fuel := by simp [h3]
  have := anyZ_chain (P := P) (Q := Q) (S := S) (md := md) (ops := ops) (z := z) (ops.toList.drop z) z listed a w (fun j => by simp) (by rw [hl]; exact h1) (.inl rfl) h2 h
  rw [hl] at this
  exact this
end
end Go.Proofs.Ytnbncjebmlicgaa
