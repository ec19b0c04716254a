/- Rows that came in, opened. -/
import Derived.Test.YtnbncjebmlicgaaPreD
import Derived.Test.YtnbncjebmlicgaaPreA
namespace Go.Proofs.Ytnbncjebmlicgaa
open Go.RowKit Go.Deep

/-- a slice of structs that came in, of whatever fields -/
theorem recsN_of_reads {H : Type} {enc : TypeId × Value → H} {P : Program} {w : World} {α : Type} {R : World → List Value → α → Prop} {t e : TypeId} {C : Nat} {fuel : Nat} {v : Value} {x : DataW H × List MemPlace}
    (ht : P.underlying t = some (.slice e)) (hC : P.cellsOf e = C) (hpos : 0 < C) (h : Reads enc P w fuel t [v] x)
    (hel : ∀ (n : Nat) (us : List Value) (y : DataW H × List MemPlace), us.length = C → Reads enc P w n e us y → ∃ b : α, R w us b) (i0 : α) :
    ∃ l : List α, Recs C R w v l := by
  rcases open_slice ht h with ⟨h0, _⟩ | ⟨a, len, cap, m, n, D, Pl, hcs, hb, hl, hm, hmm, hx, hi⟩
  · cases h0
    exact ⟨[], none, 0, rfl, by simp, Nat.le_refl _, fun _ => rfl, .inl rfl⟩
  · cases hcs
    simp only [if_true] at hmm
    subst hmm
    have hb : ∀ i, i < m → ∃ q : List Value × α, q.1.length = C ∧ R w q.1 q.2 ∧ ∀ (j : Nat) u, q.1[j]? = some u → w.cell? (a.add (i * C + j)) = some u := by
      intro i him
      obtain ⟨cs', hc, ht'⟩ := hi i him
      rw [hC] at hc
      obtain ⟨_, hcl, hat⟩ := World.cells?_some hc
      have hcl' : cs'.length = C := hcl
      obtain ⟨b, hb⟩ := hel _ cs' _ hcl' ht'
      refine ⟨(cs', b), hcl', hb, fun j u hu => ?_⟩
      have hjl : j < C := by have := (List.getElem?_eq_some_iff.1 hu).1; simp only at this; omega
      have := hat j hjl
      rw [← Go.Deep.add_add, this]
      exact hu
    have hne : Nonempty α := ⟨i0⟩
    obtain ⟨F, hF⟩ : ∃ F : Nat → List Value × α, ∀ i, i < m → (F i).1.length = C ∧ R w (F i).1 (F i).2 ∧ ∀ (j : Nat) u, (F i).1[j]? = some u → w.cell? (a.add (i * C + j)) = some u := by
      refine ⟨fun i => if h : i < m then Classical.choose (hb i h) else ([], i0), fun i hi => ?_⟩
      simp only [dif_pos hi]
      exact Classical.choose_spec (hb i hi)
    have hlen : ((List.range len).map fun i => (F i).2).length = len := by simp
    refine ⟨(List.range len).map fun i => (F i).2, some a, m, by rw [hlen], by omega, by omega, fun h => (by cases h), ?_⟩
    by_cases hz : len = 0
    · left; subst hz; rfl
    · right
      obtain ⟨h1, h2, h3⟩ := hF 0 (by omega)
      have hx0 := spot_none (x := a) (by simpa [Addr.add] using h3 0 _ (List.getElem?_eq_getElem (by omega)))
      refine ⟨a.block, a.off, by rw [← hx0], fun j b hjb => ?_⟩
      have hj : j < len := by have := (List.getElem?_eq_some_iff.1 hjb).1; omega
      simp [hj] at hjb
      subst hjb
      obtain ⟨h1, h2, h3⟩ := hF j (by omega)
      refine ⟨(F j).1, h1, fun k u hu => ?_, h2⟩
      have h6 := h3 k u hu
      rw [hx0, Addr.add_mid] at h6
      rw [Nat.add_assoc]
      exact h6

theorem wf_i64x {n : Int} (h : (Lit.int .i64 n).wf = true) : (Lit.int .i64 n).wf = true := h
theorem ids_of_reads {H : Type} {enc : TypeId × Value → H} {w : World} {fuel : Nat} {v : Value} {x : DataW H × List MemPlace} (h : Reads enc Try.prog w fuel 27 [v] x) : ∃ l : List Nat, Ids w v l ∧ ∀ y ∈ l, y < 18446744073709551616 := by
  obtain ⟨l, hl⟩ := slice_of_reads (R := fun _ u (x : Nat) => u = U64 x ∧ x < 18446744073709551616) Try.underlying27 (by kernel_rfl) h fun _ u _ hy => by
    obtain ⟨n, e0, _, hw⟩ := DataW.trod_int Try.underlying26 hy
    cases e0
    obtain ⟨p0, q0⟩ := wf_u64' hw
    obtain ⟨k0, rfl⟩ := Int.eq_ofNat_of_zero_le p0
    exact ⟨k0, rfl, by omega⟩
  obtain ⟨a, c, rfl, hm, hc, hn, hr⟩ := hl
  refine ⟨l, ⟨a, c, rfl, hm, hc, hn, ?_⟩, fun y hy => ?_⟩
  · rcases hr with h0 | ⟨g, o, ha, hr⟩
    · exact .inl h0
    · exact .inr ⟨g, o, ha, fun j x hx => by obtain ⟨u, hu, he, -⟩ := hr j x hx; exact ⟨u, hu, he⟩⟩
  · rcases hr with h0 | ⟨g, o, ha, hr⟩
    · rw [h0] at hy; cases hy
    · obtain ⟨j, hj⟩ := List.getElem?_of_mem hy
      obtain ⟨u, hu, he, h6⟩ := hr j y hj
      exact h6

theorem six_of (us : List Value) (h : us.length = 6) : ∃ a b c d e f, us = [a, b, c, d, e, f] := by
  match us, h with
  | [a, b, c, d, e, f], _ => exact ⟨a, b, c, d, e, f, rfl⟩
theorem seven_of (us : List Value) (h : us.length = 7) : ∃ i a b c d e f, us = [i, a, b, c, d, e, f] := by
  match us, h with
  | [i, a, b, c, d, e, f], _ => exact ⟨i, a, b, c, d, e, f, rfl⟩
theorem node_of_reads {H : Type} {enc : TypeId × Value → H} {w : World} {fuel : Nat} {us : List Value} {x : DataW H × List MemPlace} (h : Reads enc Try.prog w fuel 29 us x) :
    ∃ (n : Nd) (kv : Value), us = [.int .u8 n.kind, .string n.name, .int .i64 n.num, .int .u8 n.typ, .int .u64 n.ref, kv] ∧ Ids w kv n.kids ∧ n.Okw := by
  obtain ⟨ys, n', -, -, hlen, hyl, hf⟩ := DataW.trod_struct Try.underlying29 h
  have c6 : Try.prog.cellsOf 29 = 6 := by kernel_rfl
  have c5 : Try.prog.cellsOf 5 = 1 := by kernel_rfl
  have c9 : Try.prog.cellsOf 9 = 1 := by kernel_rfl
  have c2 : Try.prog.cellsOf 2 = 1 := by kernel_rfl
  have c26 : Try.prog.cellsOf 26 = 1 := by kernel_rfl
  have c27 : Try.prog.cellsOf 27 = 1 := by kernel_rfl
  have hlen6 : us.length = 6 := hlen.trans c6
  obtain ⟨a, b, c, d, e, f, rfl⟩ := six_of us hlen6
  clear hlen hlen6 h
  have hy : ∀ k, k < 6 → ∃ y, ys[k]? = some y := fun k hk => ⟨_, List.getElem?_eq_getElem (by rw [hyl]; exact hk)⟩
  obtain ⟨y0, e0⟩ := hy 0 (by omega)
  obtain ⟨y1, e1⟩ := hy 1 (by omega)
  obtain ⟨y2, e2⟩ := hy 2 (by omega)
  obtain ⟨y3, e3⟩ := hy 3 (by omega)
  obtain ⟨y4, e4⟩ := hy 4 (by omega)
  obtain ⟨y5, e5⟩ := hy 5 (by omega)
  have r0 := (hf 0 _ rfl).trans e0
  have r1 := (hf 1 _ rfl).trans e1
  have r2 := (hf 2 _ rfl).trans e2
  have r3 := (hf 3 _ rfl).trans e3
  have r4 := (hf 4 _ rfl).trans e4
  have r5 := (hf 5 _ rfl).trans e5
  simp only [List.getElem_toArray, List.getElem_cons_zero, List.getElem_cons_succ, c5, c9, c2, c26, c27, List.drop_zero, List.drop_succ_cons, List.take_succ_cons, List.take_zero] at r0 r1 r2 r3 r4 r5
  obtain ⟨k0, h0, _, g0⟩ := DataW.trod_int Try.underlying5 r0
  obtain ⟨k1, h1, _, g1⟩ := DataW.trod_string Try.underlying9 r1
  obtain ⟨k2, h2, _, g2⟩ := DataW.trod_int Try.underlying2 r2
  obtain ⟨k3, h3, _, g3⟩ := DataW.trod_int Try.underlying5 r3
  obtain ⟨k4, h4, _, g4⟩ := DataW.trod_int Try.underlying26 r4
  obtain ⟨kids, hk, hk6⟩ := ids_of_reads r5
  cases h0
  cases h1
  cases h2
  cases h3
  cases h4
  obtain ⟨p0, q0⟩ := wf_u8' g0
  obtain ⟨p3, q3⟩ := wf_u8' g3
  obtain ⟨p4, q4⟩ := wf_u64' g4
  obtain ⟨k0, rfl⟩ := Int.eq_ofNat_of_zero_le p0
  obtain ⟨k3, rfl⟩ := Int.eq_ofNat_of_zero_le p3
  obtain ⟨k4, rfl⟩ := Int.eq_ofNat_of_zero_le p4
  exact ⟨⟨k0, k1, k2, k3, k4, kids⟩, f, rfl, hk, ⟨by show k0 < 256; omega, by show k3 < 256; omega, by show k4 < 18446744073709551616; omega, g2, g1, hk6⟩⟩

theorem rowsin_of_reads {H : Type} {enc : TypeId × Value → H} {w : World} {fuel : Nat} {v : Value} {x : DataW H × List MemPlace} (h : Reads enc Try.prog w fuel 37 [v] x) : ∃ l : List (Nat × Nd), RowsIn w v l := by
  refine recsN_of_reads (C := 7) (R := RowIn) Try.underlying37 (by kernel_rfl) (by omega) h (fun n us y hlen hr => ?_) (0, .zero)
  obtain ⟨ys, n', -, -, -, hyl, hf⟩ := DataW.trod_struct Try.underlying80 hr
  have c6 : Try.prog.cellsOf 29 = 6 := by kernel_rfl
  have c26 : Try.prog.cellsOf 26 = 1 := by kernel_rfl
  obtain ⟨i, a, b, c, d, e, f, rfl⟩ := seven_of us hlen
  clear hlen hr h
  have hy : ∀ k, k < 2 → ∃ y, ys[k]? = some y := fun k hk => ⟨_, List.getElem?_eq_getElem (by rw [hyl]; exact hk)⟩
  obtain ⟨y0, e0⟩ := hy 0 (by omega)
  obtain ⟨y1, e1⟩ := hy 1 (by omega)
  have r0 := (hf 0 _ rfl).trans e0
  have r1 := (hf 1 _ rfl).trans e1
  simp only [List.getElem_toArray, List.getElem_cons_zero, List.getElem_cons_succ, c6, c26, List.drop_zero, List.drop_succ_cons, List.take_succ_cons, List.take_zero] at r0 r1
  obtain ⟨k0, h0, _, g0⟩ := DataW.trod_int Try.underlying26 r0
  cases h0
  obtain ⟨p0, q0⟩ := wf_u64' g0
  obtain ⟨k0, rfl⟩ := Int.eq_ofNat_of_zero_le p0
  obtain ⟨nd, kv, hn, hk, ok⟩ := node_of_reads r1
  injection hn with n0 hn
  injection hn with n1 hn
  injection hn with n2 hn
  injection hn with n3 hn
  injection hn with n4 hn
  injection hn with n5 hn
  subst n0 n1 n2 n3 n4 n5
  exact ⟨(k0, nd), f, rfl, hk, ok, by show k0 < 18446744073709551616; omega⟩
end Go.Proofs.Ytnbncjebmlicgaa
