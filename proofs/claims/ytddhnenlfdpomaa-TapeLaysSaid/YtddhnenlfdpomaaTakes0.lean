/- Plain: what is taken of bytes is a field, and its bytes stood ahead of what is left. -/
import Derived.Test.YtddhnenlfdpomaaFew
import Derived.Test.YtddhnenlfdpomaaRTakeD
namespace Go.Proofs.Ytddhnenlfdpomaa
open Go.RowKit

theorem zig_zag (n : Nat) : zig (zag n) = n := by
  unfold zig zag
  split <;> split <;> omega
theorem zag_bound {n : Nat} (h : n < 18446744073709551616) : -9223372036854775808 ≤ zag n ∧ zag n ≤ 9223372036854775807 := by
  unfold zag; split <;> omega

theorem num_cases (most : Nat) (o : Option (List UInt8)) : (∃ n r, o = some (Vi.varint n ++ r) ∧ n < 18446744073709551616 ∧ n ≤ most ∧ Rd.num most o = (n, some r)) ∨ Rd.num most o = (0, none) := by
  cases o with
  | none => exact .inr rfl
  | some p =>
    cases h : Rd.dec 0 0 p with
    | none => exact .inr (Rd.num_none (by simpa using h))
    | some q =>
      obtain ⟨n, r⟩ := q
      obtain ⟨hp, hn, _⟩ := dec_front h
      rw [num_of_dec h]
      by_cases hm : n ≤ most
      · exact .inl ⟨n, r, by rw [hp], hn, hm, by rw [if_pos hm]⟩
      · exact .inr (by rw [if_neg hm])

theorem takeOf_fld (f : Fld) (o : Option (List UInt8)) : ∃ f' : Fld, takeOf f o = FldV f' ∧ f'.kind = f.kind ∧ f'.most = f.most ∧ f'.s.size ≤ 1000 ∧ (∀ r, takeRest f o = some r → ∃ p, o = some p ∧ p = layOf f' ++ r) ∧
    (takeRest f o = none → takeOf f o = .agg #[.int .u8 f.kind, .int .u64 0, .string ⟨#[]⟩, .int .u64 f.most]) := by
  have hcase : f.kind % 5 = 0 ∨ f.kind % 5 = 1 ∨ f.kind % 5 = 2 ∨ f.kind % 5 = 3 ∨ f.kind % 5 = 4 := by omega
  have z : (⟨#[]⟩ : ByteArray).size = 0 := rfl
  rcases hcase with h | h | h | h | h
  · have hT : takeOf f o = .agg #[.int .u8 f.kind, .int .u64 (Rd.num f.most o).1, .string ⟨#[]⟩, .int .u64 f.most] := by
      unfold takeOf; rw [if_neg (by omega), if_neg (by omega), if_neg (by omega), if_neg (by omega)]
    have hR : takeRest f o = (Rd.num f.most o).2 := by
      unfold takeRest; rw [if_neg (by omega), if_neg (by omega), if_neg (by omega), if_neg (by omega)]
    rw [hT, hR]
    rcases num_cases f.most o with ⟨n, r, hp, hn, hm, e⟩ | e
    · rw [e]
      refine ⟨⟨f.kind, n, ⟨#[]⟩, f.most, f.hk, hn, f.hm⟩, rfl, rfl, rfl, by rw [z]; omega, fun r' hr => ?_, fun h => by cases h⟩
      cases hr
      refine ⟨_, hp, ?_⟩
      unfold layOf
      rw [if_neg (show ¬ f.kind % 5 = 1 by omega), if_neg (show ¬ f.kind % 5 = 2 by omega), if_neg (show ¬ f.kind % 5 = 3 by omega), if_neg (show ¬ f.kind % 5 = 4 by omega)]
    · rw [e]
      exact ⟨⟨f.kind, 0, ⟨#[]⟩, f.most, f.hk, by omega, f.hm⟩, rfl, rfl, rfl, by rw [z]; omega, (fun r hr => by cases hr), fun _ => rfl⟩
  · have hT : takeOf f o = .agg #[.int .u8 f.kind, .int .u64 (IntKind.u64.wrap (Rd.int o).1), .string ⟨#[]⟩, .int .u64 f.most] := by
      unfold takeOf; rw [if_pos h]
    have hR : takeRest f o = (Rd.int o).2 := by
      unfold takeRest; rw [if_pos h]
    rw [hT, hR]
    unfold Rd.int
    rcases num_cases 18446744073709551615 o with ⟨n, r, hp, hn, hm, e⟩ | e
    · rw [e]
      have hb := zag_bound hn
      have hw : 0 ≤ IntKind.u64.wrap (zag n) ∧ IntKind.u64.wrap (zag n) < 18446744073709551616 := by rw [IntKind.wrap_u64]; omega
      refine ⟨⟨f.kind, (IntKind.u64.wrap (zag n)).toNat, ⟨#[]⟩, f.most, f.hk, by omega, f.hm⟩, ?_, rfl, rfl, by rw [z]; omega, fun r' hr => ?_, fun h => by cases h⟩
      · unfold FldV Fld.cells; simp only; rw [Int.toNat_of_nonneg hw.1]
      · cases hr
        refine ⟨_, hp, ?_⟩
        unfold layOf
        rw [if_pos h]
        simp only
        rw [Int.toNat_of_nonneg hw.1, show wrap64 (IntKind.u64.wrap (zag n)) = zag n by rw [IntKind.wrap_u64]; unfold wrap64; omega, zig_zag]
    · rw [e]
      exact ⟨⟨f.kind, 0, ⟨#[]⟩, f.most, f.hk, by omega, f.hm⟩, rfl, rfl, rfl, by rw [z]; omega, (fun r hr => by cases hr), fun _ => rfl⟩
  · have hT : takeOf f o = .agg #[.int .u8 f.kind, .int .u64 0, .string (strOf (Rd.text (f.most % 1000) o).1), .int .u64 f.most] := by
      unfold takeOf; rw [if_neg (by omega), if_pos h]
    have hR : takeRest f o = (Rd.text (f.most % 1000) o).2 := by
      unfold takeRest; rw [if_neg (by omega), if_pos h]
    rw [hT, hR]
    unfold Rd.text
    rcases num_cases (f.most % 1000) o with ⟨n, r, hp, hn, hm, e⟩ | e
    · rw [e]
      simp only
      by_cases hnl : n ≤ r.length
      · rw [if_pos hnl]
        have hsz : (strOf (r.take n)).size = n := by
          show (r.take n).toArray.size = n
          simp; omega
        refine ⟨⟨f.kind, 0, strOf (r.take n), f.most, f.hk, by omega, f.hm⟩, rfl, rfl, rfl, by rw [hsz]; omega, fun r' hr => ?_, fun h => by cases h⟩
        cases hr
        refine ⟨_, hp, ?_⟩
        unfold layOf
        rw [if_neg (show ¬ f.kind % 5 = 1 by omega), if_pos h, hsz]
        show Vi.varint n ++ r = Vi.varint n ++ (r.take n).toArray.toList ++ r.drop n
        simp
      · rw [if_neg hnl]
        exact ⟨⟨f.kind, 0, ⟨#[]⟩, f.most, f.hk, by omega, f.hm⟩, rfl, rfl, rfl, by rw [z]; omega, (fun r hr => by cases hr), fun _ => rfl⟩
    · rw [e]
      exact ⟨⟨f.kind, 0, ⟨#[]⟩, f.most, f.hk, by omega, f.hm⟩, rfl, rfl, rfl, by rw [z]; omega, (fun r hr => by cases hr), fun _ => rfl⟩
  · have hT : takeOf f o = .agg #[.int .u8 f.kind, .int .u64 (Rd.take o).1.toNat, .string ⟨#[]⟩, .int .u64 f.most] := by
      unfold takeOf; rw [if_neg (by omega), if_neg (by omega), if_pos h]
    have hR : takeRest f o = (Rd.take o).2 := by
      unfold takeRest; rw [if_neg (by omega), if_neg (by omega), if_pos h]
    rw [hT, hR]
    rcases o with _ | (_ | ⟨b, r⟩)
    · exact ⟨⟨f.kind, 0, ⟨#[]⟩, f.most, f.hk, by omega, f.hm⟩, rfl, rfl, rfl, by rw [z]; omega, (fun r hr => by cases hr), fun _ => rfl⟩
    · exact ⟨⟨f.kind, 0, ⟨#[]⟩, f.most, f.hk, by omega, f.hm⟩, rfl, rfl, rfl, by rw [z]; omega, (fun r hr => by cases hr), fun _ => rfl⟩
    · have hB : b.toNat < 256 := b.toNat_lt
      refine ⟨⟨f.kind, b.toNat, ⟨#[]⟩, f.most, f.hk, by omega, f.hm⟩, rfl, rfl, rfl, by rw [z]; omega, fun r' hr => ?_, fun h => by cases h⟩
      cases hr
      refine ⟨_, rfl, ?_⟩
      unfold layOf
      rw [if_neg (show ¬ f.kind % 5 = 1 by omega), if_neg (show ¬ f.kind % 5 = 2 by omega), if_pos h]
      simp only
      rw [Nat.mod_eq_of_lt hB]
      simp
  · have hT : takeOf f o = .agg #[.int .u8 f.kind, .int .u64 (if (Rd.bool o).1 then 1 else 0), .string ⟨#[]⟩, .int .u64 f.most] := by
      unfold takeOf; rw [if_neg (by omega), if_neg (by omega), if_neg (by omega), if_pos h]
    have hR : takeRest f o = (Rd.bool o).2 := by
      unfold takeRest; rw [if_neg (by omega), if_neg (by omega), if_neg (by omega), if_pos h]
    rw [hT, hR]
    rcases o with _ | (_ | ⟨b, r⟩)
    · exact ⟨⟨f.kind, 0, ⟨#[]⟩, f.most, f.hk, by omega, f.hm⟩, rfl, rfl, rfl, by rw [z]; omega, (fun r hr => by cases hr), fun _ => rfl⟩
    · exact ⟨⟨f.kind, 0, ⟨#[]⟩, f.most, f.hk, by omega, f.hm⟩, rfl, rfl, rfl, by rw [z]; omega, (fun r hr => by cases hr), fun _ => rfl⟩
    · have hB : b.toNat < 256 := b.toNat_lt
      rcases (by omega : b.toNat = 0 ∨ b.toNat = 1 ∨ 1 < b.toNat) with hb | hb | hb
      · have e : Rd.bool (some (b :: r)) = (false, some r) := Prod.ext (decide_eq_false (show ¬ b.toNat = 1 by omega)) (if_neg (show ¬ 1 < b.toNat by omega))
        rw [e]
        refine ⟨⟨f.kind, 0, ⟨#[]⟩, f.most, f.hk, by omega, f.hm⟩, rfl, rfl, rfl, by rw [z]; omega, fun r' hr => ?_, fun h => by cases h⟩
        cases hr
        refine ⟨_, rfl, ?_⟩
        unfold layOf
        rw [if_neg (show ¬ f.kind % 5 = 1 by omega), if_neg (show ¬ f.kind % 5 = 2 by omega), if_neg (show ¬ f.kind % 5 = 3 by omega), if_pos h]
        have hb0 : b = 0 := UInt8.toNat_inj.1 hb
        rw [hb0]; rfl
      · have e : Rd.bool (some (b :: r)) = (true, some r) := Prod.ext (decide_eq_true hb) (if_neg (show ¬ 1 < b.toNat by omega))
        rw [e]
        refine ⟨⟨f.kind, 1, ⟨#[]⟩, f.most, f.hk, by omega, f.hm⟩, rfl, rfl, rfl, by rw [z]; omega, fun r' hr => ?_, fun h => by cases h⟩
        cases hr
        refine ⟨_, rfl, ?_⟩
        unfold layOf
        rw [if_neg (show ¬ f.kind % 5 = 1 by omega), if_neg (show ¬ f.kind % 5 = 2 by omega), if_neg (show ¬ f.kind % 5 = 3 by omega), if_pos h]
        have hb0 : b = 1 := UInt8.toNat_inj.1 hb
        rw [hb0]; rfl
      · have e : Rd.bool (some (b :: r)) = (false, none) := Prod.ext (decide_eq_false (show ¬ b.toNat = 1 by omega)) (if_pos hb)
        rw [e]
        exact ⟨⟨f.kind, 0, ⟨#[]⟩, f.most, f.hk, by omega, f.hm⟩, rfl, rfl, rfl, by rw [z]; omega, (fun r hr => by cases hr), fun _ => rfl⟩

/-- bytes stay where only a reader turns -/
theorem bytes_turn {B : Nat} {w w' : World} {r u : Value} {o : Option (List UInt8)} {l : List UInt8} (hr : RdAt B w r o) (ht : Turned w w' r) (hu : Bytes w u l) : Bytes w' u l := by
  rcases hr with ⟨rfl, rfl⟩ | ⟨g, u0, rfl, hg, h⟩
  · exact hu.only ht fun g o n c _ _ e => by cases e
  · obtain ⟨x, b, hrow⟩ : ∃ x b, w.heap[g]? = some (.cells #[x, .bool b] 64 (0, 0)) ∧ ∀ k, x ≠ .int .u8 k := by
      rcases h with ⟨_, h⟩ | ⟨l, _, h, hy, _⟩
      · exact ⟨_, _, h, fun k e => by cases e⟩
      · obtain ⟨a, c, rfl, _⟩ := hy
        exact ⟨_, _, h, fun k e => by cases e⟩
    refine hu.only ht fun k o n c hl e hs => ?_
    cases hs
    subst e
    obtain ⟨a', c', e, _, _, _, h | ⟨g', o', ha, h⟩⟩ := hu
    · exact hl h
    · cases e
      cases ha
      cases l with
      | nil => exact hl rfl
      | cons y l =>
        obtain ⟨z, hz, rfl⟩ := h 0 y rfl
        rw [cell_row hrow.1] at hz
        rcases o with _ | _ | o
        · simp at hz
          exact hrow.2 _ hz
        · cases hz
        · simp at hz
end Go.Proofs.Ytddhnenlfdpomaa
