/- Plain and laws: what is read so far of a half; an append of bytes. -/
import Derived.Test.YtacfkhnajdneeaaDoorRlNum
namespace Go.Proofs.YtacfkhnajdneeaaDoor
open Go.RowKit

/-- so far -/
def Been (gen : Nat) (xs : List (List UInt8)) (k a : Nat) (P : List UInt8) (so : List Nat) : Prop :=
  scanR gen 0 0 xs = ((scanR gen k a (xs.drop k)).1, P ++ (scanR gen k a (xs.drop k)).2.1, so ++ (scanR gen k a (xs.drop k)).2.2)

theorem been_start (gen : Nat) (xs : List (List UInt8)) : Been gen xs 0 0 [] [] := by
  unfold Been
  simp
theorem half_len (d : Dk) (fr n : Nat) : (halfOf d fr n).length = n := by unfold halfOf; simp
theorem half_drop (d : Dk) (fr n k : Nat) (hk : k < n) : (halfOf d fr n).drop k = d.now (fr + k) :: (halfOf d fr n).drop (k + 1) := by
  have e : (halfOf d fr n)[k]? = some (d.now (fr + k)) := by
    unfold halfOf
    rw [List.getElem?_map, List.getElem?_range hk]
    rfl
  rw [List.drop_eq_getElem_cons (by rw [half_len]; exact hk), (List.getElem?_eq_some_iff.1 e).2]

section
variable {gen fr n k a : Nat} {d : Dk} {P : List UInt8} {so : List Nat}
theorem been_end (h : Been gen (halfOf d fr n) n a P so) : scanR gen 0 0 (halfOf d fr n) = (none, P, so) := by
  unfold Been at h
  rw [List.drop_of_length_le (by rw [half_len]; exact Nat.le_refl _), scanR] at h
  simpa using h
theorem been_bad (h : Been gen (halfOf d fr n) k a P so) (hk : k < n) (h1 : (parseOf (d.now (fr + k))).1 ≠ 0) (h2 : (parseOf (d.now (fr + k))).1 ≠ 3) : scanR gen 0 0 (halfOf d fr n) = (some k, P, so) := by
  unfold Been at h
  rw [half_drop d fr n k hk, scanR, if_pos ⟨h1, h2⟩] at h
  simpa using h
theorem been_stop (h : Been gen (halfOf d fr n) k a P so) (hk : k < n) (h1 : (parseOf (d.now (fr + k))).1 = 0 ∨ (parseOf (d.now (fr + k))).1 = 3) (h2 : (parseOf (d.now (fr + k))).1 ≠ 0 ∨ followsB gen k a (parseOf (d.now (fr + k))).2 = false) : scanR gen 0 0 (halfOf d fr n) = (none, P, so) := by
  unfold Been at h
  rw [half_drop d fr n k hk, scanR, if_neg (fun hh => by rcases h1 with e | e; exact hh.1 e; exact hh.2 e), if_pos h2] at h
  simpa using h
theorem been_last (h : Been gen (halfOf d fr n) k a P so) (hk : k < n) (h1 : (parseOf (d.now (fr + k))).1 = 0) (h2 : followsB gen k a (parseOf (d.now (fr + k))).2 = true) (h3 : (parseOf (d.now (fr + k))).2.data.length ≠ 491) :
    scanR gen 0 0 (halfOf d fr n) = (none, P ++ (parseOf (d.now (fr + k))).2.data.drop 4, so ++ [(parseOf (d.now (fr + k))).2.serial]) := by
  have hroom := parse_room (d.now (fr + k))
  unfold Been at h
  rw [half_drop d fr n k hk, scanR, if_neg (fun hh => hh.1 h1), if_neg (fun hh => by
    rcases hh with e | e
    · exact e h1
    · rw [h2] at e; cases e), if_pos (by omega)] at h
  simpa using h
theorem been_on (h : Been gen (halfOf d fr n) k a P so) (hk : k < n) (h1 : (parseOf (d.now (fr + k))).1 = 0) (h2 : followsB gen k a (parseOf (d.now (fr + k))).2 = true) (h3 : (parseOf (d.now (fr + k))).2.data.length = 491) :
    Been gen (halfOf d fr n) (k + 1) (parseOf (d.now (fr + k))).2.serial (P ++ (parseOf (d.now (fr + k))).2.data.drop 4) (so ++ [(parseOf (d.now (fr + k))).2.serial]) := by
  unfold Been at h ⊢
  rw [half_drop d fr n k hk, scanR, if_neg (fun hh => hh.1 h1), if_neg (fun hh => by
    rcases hh with e | e
    · exact e h1
    · rw [h2] at e; cases e), if_neg (by omega)] at h
  rw [h]
  simp
end

theorem follows_len {gen i a : Nat} {q : Pg} (h : followsB gen i a q = true) : 4 ≤ q.data.length := by
  unfold followsB at h
  simp only [Bool.and_eq_true, decide_eq_true_eq] at h
  have := congrArg List.length h.2
  rw [List.length_take, be4_len] at this
  omega

/-- 'own = append(own, u...)' as one operation -/
theorem wp_app8 {P : Program} {w : World} {o : Oper} {a : Act} {K : Act → World → Prop} {Q : Exit → Act → World → Prop} (s x : Operand)
    (t e : Nat) (T : RowTy P t e 1 1) (ho : o.op = .call { callee := .builtin .append, args := #[s, x], argTypes := #[t, t] })
    (base : Nat) (v : Value) (l : List UInt8) (hs : a.eval s = v) (hown : Own8 e base w v l)
    (u : Value) (m : List UInt8) (hx : a.eval x = u) (hm : Bytes w u m) (hbytes : l.length + m.length ≤ 140737488355328) (hbase : base ≤ w.heap.size)
    (h : ∀ v' w', Own8 e base w' v' (l ++ m) → w.grownBy w' v.ownBlock → Stays w v v' → K (a.put o.dst v') w') : o.wp P a w K Q := by
  obtain ⟨ad, c, rfl, hm0, hmc, hn, hl⟩ := hm.lies
  obtain ⟨i, z, hi, hz, hsz, hby, hzs⟩ := T.ex
  cases ad with
  | none =>
    have hc0 := hn rfl
    subst hc0
    have hm0' : m = [] := List.length_eq_zero_iff.1 (by omega)
    subst hm0'
    have hrun := run_append_owned_none (P := P) (w := w) base t o.type e i 1 T.ht hi v l.length (l.map B8) hown
    unfold Oper.wp
    simp [execOp, ho, resolve, invoke, builtin, hs, hx, hrun, Result.andThen]
    exact h v w (by simpa using hown) ⟨rfl, rfl, rfl, Nat.le_refl _, fun _ _ _ => rfl⟩ (.inl rfl)
  | some ad =>
    have hnews : ∀ j u, (m.map B8)[j]? = some u → w.cell? (ad.add j) = some u := by
      intro j u hu
      rcases hl with h0 | ⟨g, o', ha, hr⟩
      · rw [h0] at hu; simp at hu
      · cases ha
        rw [Addr.add_mid]
        exact hr j u hu
    obtain ⟨v', w', hr, h2, h3, h4⟩ := run_append_own' (P := P) (w := w) base t o.type e i z 1 1 T.ht hi hz hsz hby hzs T.pos v l.length (l.map B8) hown ad m.length c (m.map B8) (by simp) hnews (B8_one m) (by unfold maxLen; omega) (by omega) hbase
    unfold Oper.wp execOp
    simp only [ho, resolve, invoke, builtin, Sem.run_bind, Sem.run_pure, Result.andThen_ok, List.map_toArray, List.map_cons, List.map_nil, hs, hx, hr]
    exact h v' w' (Own8.app h2) h3 h4
end Go.Proofs.YtacfkhnajdneeaaDoor
