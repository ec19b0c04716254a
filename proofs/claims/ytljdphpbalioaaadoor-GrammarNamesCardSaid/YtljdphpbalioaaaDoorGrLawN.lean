/- Walk: the law of names. -/
import Derived.Test.YtljdphpbalioaaaDoorGrLawA
import Derived.BigQuiet
namespace Go.Proofs.YtljdphpbalioaaaDoor
open Go.RowKit

def nmOf (i : Nat) : Bs := if i = 0 then [97] else if i = 1 then [98] else [99]
def textN (r i j : Nat) : Bs :=
  if r = 0 then [109, 111, 100, 117, 108, 101, 32] ++ nmOf i ++ [32, 123, 32, 125, 32, 109, 111, 100, 117, 108, 101, 32] ++ nmOf j ++ [32, 123, 32, 125]
  else if r = 1 then [109, 111, 100, 117, 108, 101, 32, 109, 32, 123, 32, 102, 117, 110, 99, 32] ++ nmOf i ++ [40, 41, 32, 105, 110, 116, 32, 123, 32, 114, 101, 116, 117, 114, 110, 32, 49, 59, 32, 125, 32, 102, 117, 110, 99, 32] ++ nmOf j ++ [40, 41, 32, 105, 110, 116, 32, 123, 32, 114, 101, 116, 117, 114, 110, 32, 49, 59, 32, 125, 32, 125]
  else if r = 2 then [109, 111, 100, 117, 108, 101, 32, 109, 32, 123, 32, 102, 117, 110, 99, 32, 102, 40] ++ nmOf i ++ [32, 105, 110, 116, 44, 32] ++ nmOf j ++ [32, 105, 110, 116, 41, 32, 105, 110, 116, 32, 123, 32, 114, 101, 116, 117, 114, 110, 32, 49, 59, 32, 125, 32, 125]
  else if r = 3 then [109, 111, 100, 117, 108, 101, 32, 109, 32, 123, 32, 102, 117, 110, 99, 32, 102, 40] ++ nmOf i ++ [32, 105, 110, 116, 41, 32, 105, 110, 116, 32, 123, 32, 108, 101, 116, 32] ++ nmOf j ++ [32, 105, 110, 116, 32, 61, 32, 49, 59, 32, 114, 101, 116, 117, 114, 110, 32, 49, 59, 32, 125, 32, 125]
  else if r = 4 then [109, 111, 100, 117, 108, 101, 32, 109, 32, 123, 32, 102, 117, 110, 99, 32, 102, 40, 41, 32, 105, 110, 116, 32, 123, 32, 105, 102, 32, 116, 114, 117, 101, 32, 123, 32, 108, 101, 116, 32] ++ nmOf i ++ [32, 105, 110, 116, 32, 61, 32, 49, 59, 32, 125, 32, 101, 108, 115, 101, 32, 123, 32, 108, 101, 116, 32] ++ nmOf j ++ [32, 105, 110, 116, 32, 61, 32, 49, 59, 32, 125, 32, 114, 101, 116, 117, 114, 110, 32, 49, 59, 32, 125, 32, 125]
  else if r = 5 then [109, 111, 100, 117, 108, 101, 32, 109, 32, 123, 32, 102, 117, 110, 99, 32, 102, 40] ++ nmOf i ++ [32, 105, 110, 116, 41, 32, 105, 110, 116, 32, 123, 32, 114, 101, 116, 117, 114, 110, 32] ++ nmOf j ++ [59, 32, 125, 32, 125]
  else [109, 111, 100, 117, 108, 101, 32, 109, 32, 123, 32, 102, 117, 110, 99, 32] ++ nmOf i ++ [40, 41, 32, 105, 110, 116, 32, 123, 32, 114, 101, 116, 117, 114, 110, 32, 109, 46] ++ nmOf j ++ [40, 41, 59, 32, 125, 32, 125]
def wantN (r i j : Nat) : Nat := if r < 5 then (if i = j then 10 else 0) else (if i = j then 0 else 9)
theorem names_all : ((List.range 7).all fun r => (List.range 3).all fun i => (List.range 3).all fun j => (parsed (textN r i j)).1 == wantN r i j) = true := by kernel_rfl
theorem names_one {r i j : Nat} (hr : r < 7) (hi : i < 3) (hj : j < 3) : (parsed (textN r i j)).1 = wantN r i j := by
  have h := names_all
  simp only [List.all_eq_true, List.mem_range, beq_iff_eq] at h
  exact h r hr i hi j hj

theorem names_parse {r i j : Nat} (hr : r < 7) (hi : i < 3) (hj : j < 3) (w : World) (ht : Tb w.heap.size w) :
    Calls Tryd.prog 6 #[.string (mk8 (textN r i j))] w fun e w' => ∃ p, e = .returned (.tuple #[.pointer p, .int .i64 (wantN r i j : Nat)]) ∧ Below w.heap.size w w' := by
  refine (parse_text (textN r i j) w ht).mono ?_
  rintro e w' ⟨hb, h⟩
  rw [names_one hr hi hj] at h
  rcases h with ⟨-, rfl⟩ | ⟨h0, ga, ba, rfl, -⟩
  · exact ⟨_, rfl, hb⟩
  · rw [h0]
    exact ⟨_, rfl, hb⟩
theorem mk8_app (a b : Bs) : mk8 a ++ mk8 b = mk8 (a ++ b) := by
  apply ByteArray.ext
  rw [ByteArray.data_append]
  show a.toArray ++ b.toArray = (a ++ b).toArray
  simp
theorem mk8_size (a : Bs) : (mk8 a).size = a.length := by show a.toArray.size = _; simp
theorem nmOf_len (i : Nat) : (nmOf i).length = 1 := by
  unfold nmOf
  split
  · rfl
  split <;> rfl

set_option maxRecDepth 100000 in
set_option maxHeartbeats 3200000 in
theorem gnames_calls (i j k : Nat) (w : World) (ht : Tb w.heap.size w) :
    Calls Tryd.prog 3 #[.int .u8 i, .int .u8 j, .int .u8 k] w fun e w' => e = .returned (.bool true) ∧ Below w.heap.size w w' := by
  have HT := Lib.hid ht
  obtain ⟨a, ha⟩ : ∃ a, a = i % 3 := ⟨_, rfl⟩
  obtain ⟨b, hb⟩ : ∃ b, b = j % 3 := ⟨_, rfl⟩
  obtain ⟨r, hr⟩ : ∃ r, r = k % 7 := ⟨_, rfl⟩
  have hai : (i : Int) % 3 = a := by omega
  have hbi : (j : Int) % 3 = b := by omega
  have hri : (k : Int) % 7 = r := by omega
  have ha3 : a < 3 := by omega
  have hb3 : b < 3 := by omega
  have hr7 : r < 7 := by omega
  have HA := Lib.hid ha3
  have HB := Lib.hid hb3
  have HR := Lib.hid hr7
  clear ht ha hb hr
  go_enter Tryd.func3, Tryd.ntmps3
  go_wp2_with fail
  refine (awake_any w HT.out).mono ?_
  rintro e w1 ⟨rfl, hb1⟩
  have HB1 := Lib.hid hb1
  have HT1 := Lib.hid (tb_on HT.out hb1)
  clear hb1 HT
  go_upto_region 4 with fail
  have hb2 := bal (bre w1) (.cells #[.string ⟨#[97]⟩, .string ⟨#[98]⟩, .string ⟨#[99]⟩] 9)
  have hrow := heap_alloc_new w1 (.cells #[.string ⟨#[97]⟩, .string ⟨#[98]⟩, .string ⟨#[99]⟩] 9)
  obtain ⟨n, hn⟩ : ∃ n, n = w1.heap.size := ⟨_, rfl⟩
  generalize w1.alloc (.cells #[.string ⟨#[97]⟩, .string ⟨#[98]⟩, .string ⟨#[99]⟩] 9) = W at *
  rw [← hn] at hrow ⊢
  have hu : ∀ q, q < 3 → W.cell? ⟨n, q, none⟩ = some (.string (mk8 (nmOf q))) := fun q hq => by
    rw [cell_of_row W n q _ _ _ hrow]
    rcases (by omega : q = 0 ∨ q = 1 ∨ q = 2) with rfl | rfl | rfl <;> rfl
  have ca := hu a ha3
  have cb := hu b hb3
  have a1 : (0 : Int) ≤ (a : Int) := by omega
  have a2 : (a : Int) < 3 := by omega
  have b1 : (0 : Int) ≤ (b : Int) := by omega
  have b2 : (b : Int) < 3 := by omega
  have HBW := Lib.hid (btr HB1.out hb2)
  have HTW := Lib.hid (tb_on HT1.out hb2)
  have HX := Lib.hid (nmOf_len a)
  have HY := Lib.hid (nmOf_len b)
  have HWN : Hid (∀ r, wantN r a b = if r < 5 then (if a = b then 10 else 0) else (if a = b then 0 else 9)) := Lib.hid fun _ => rfl
  have HTX : Hid (∀ r, textN r a b = textN r a b) := Lib.hid fun _ => rfl
  have heq : ((((a : Int) == (b : Int)) = true ∧ (!((a : Int) == (b : Int))) = false) ∧ a = b) ∨ ((((a : Int) == (b : Int)) = false ∧ (!((a : Int) == (b : Int))) = true) ∧ a ≠ b) := by
    by_cases h : a = b
    · exact .inl ⟨⟨by rw [h]; exact beq_self_eq_true _, by rw [h, beq_self_eq_true]; rfl⟩, h⟩
    · exact .inr ⟨⟨beq_eq_false_iff_ne.2 (by omega), by rw [beq_eq_false_iff_ne.2 (by omega)]; rfl⟩, h⟩
  clear hrow hu hb2 hn HB1 HT1
  go_quiet (fail)
  go_upto_region 7 with fail
  have hbd : Below W.heap.size W (W.drewN nq) := bdn (bre W) nq
  have HBD := Lib.hid (btr HBW.out hbd)
  have HTD := Lib.hid (tb_on HTW.out hbd)
  generalize W.drewN nq = V at *
  have HPR := Lib.hid (fun r (hr : r < 7) => names_parse hr HA.out HB.out V HTD.out)
  clear ca cb a1 a2 b1 b2 hbd HBW HTW HTD HTX ha3 hb3 hai hbi
  generalize wantN = wn at *
  obtain ⟨sa, hsa⟩ : ∃ s, s = mk8 (nmOf a) := ⟨_, rfl⟩
  obtain ⟨sb, hsb⟩ : ∃ s, s = mk8 (nmOf b) := ⟨_, rfl⟩
  rw [← hsa, ← hsb]
  have z1 : sa.size = 1 := by rw [hsa, mk8_size, HX.out]
  have z2 : sb.size = 1 := by rw [hsb, mk8_size, HY.out]
  have HSA := Lib.hid (And.intro z1 hsa)
  have HSB := Lib.hid (And.intro z2 hsb)
  clear hsa hsb HX HY
  rcases (by omega : r = 0 ∨ r = 1 ∨ r = 2 ∨ r = 3 ∨ r = 4 ∨ r = 5 ∨ r = 6) with rfl | rfl | rfl | rfl | rfl | rfl | rfl
  · have s1 : ((⟨#[109, 111, 100, 117, 108, 101, 32]⟩ : ByteArray) ++ sa).size ≤ 300 := by rw [ByteArray.size_append, HSA.out.1]; decide
    have s2 : ((⟨#[109, 111, 100, 117, 108, 101, 32]⟩ : ByteArray) ++ sa ++ (⟨#[32, 123, 32, 125, 32, 109, 111, 100, 117, 108, 101, 32]⟩ : ByteArray)).size ≤ 300 := by rw [ByteArray.size_append, ByteArray.size_append, HSA.out.1]; decide
    have s3 : ((⟨#[109, 111, 100, 117, 108, 101, 32]⟩ : ByteArray) ++ sa ++ (⟨#[32, 123, 32, 125, 32, 109, 111, 100, 117, 108, 101, 32]⟩ : ByteArray) ++ sb).size ≤ 300 := by rw [ByteArray.size_append, ByteArray.size_append, ByteArray.size_append, HSA.out.1, HSB.out.1]; decide
    have HE : Hid ((⟨#[109, 111, 100, 117, 108, 101, 32]⟩ : ByteArray) ++ sa ++ (⟨#[32, 123, 32, 125, 32, 109, 111, 100, 117, 108, 101, 32]⟩ : ByteArray) ++ sb ++ (⟨#[32, 123, 32, 125]⟩ : ByteArray) = mk8 (textN 0 a b)) := Lib.hid (by
      rw [HSA.out.2, HSB.out.2]
      show mk8 [109, 111, 100, 117, 108, 101, 32] ++ mk8 (nmOf a) ++ mk8 [32, 123, 32, 125, 32, 109, 111, 100, 117, 108, 101, 32] ++ mk8 (nmOf b) ++ mk8 [32, 123, 32, 125] = _
      rw [mk8_app, mk8_app, mk8_app, mk8_app]
      rfl)
    have s4 : ((⟨#[109, 111, 100, 117, 108, 101, 32]⟩ : ByteArray) ++ sa ++ (⟨#[32, 123, 32, 125, 32, 109, 111, 100, 117, 108, 101, 32]⟩ : ByteArray) ++ sb ++ (⟨#[32, 123, 32, 125]⟩ : ByteArray)).size ≤ 300 := by rw [ByteArray.size_append, ByteArray.size_append, ByteArray.size_append, ByteArray.size_append, HSA.out.1, HSB.out.1]; decide
    go_upto_region 23 with fail
    rw [HE.out]
    have HP := Lib.hid (HPR.out 0 (by decide))
    clear s1 s2 s3 s4 HE HPR HSA HSB
    go_wp2_with fail
    refine HP.out.mono ?_
    rintro e w5 ⟨p5, rfl, hb5⟩
    have HB5 := Lib.hid (btr HBD.out hb5)
    clear hb5 HP HBD
    rw [HWN.out 0]
    rcases heq with ⟨⟨q1, q3⟩, rfl⟩ | ⟨⟨q1, q3⟩, q2⟩
    · simp only [if_true]
      go_wp2_with fail
      go_ret
      exact ⟨rfl, HB5.out⟩
    · simp only [if_neg q2]
      go_wp2_with fail
      go_ret
      exact ⟨rfl, HB5.out⟩
  · have s1 : ((⟨#[109, 111, 100, 117, 108, 101, 32, 109, 32, 123, 32, 102, 117, 110, 99, 32]⟩ : ByteArray) ++ sa).size ≤ 300 := by rw [ByteArray.size_append, HSA.out.1]; decide
    have s2 : ((⟨#[109, 111, 100, 117, 108, 101, 32, 109, 32, 123, 32, 102, 117, 110, 99, 32]⟩ : ByteArray) ++ sa ++ (⟨#[40, 41, 32, 105, 110, 116, 32, 123, 32, 114, 101, 116, 117, 114, 110, 32, 49, 59, 32, 125, 32, 102, 117, 110, 99, 32]⟩ : ByteArray)).size ≤ 300 := by rw [ByteArray.size_append, ByteArray.size_append, HSA.out.1]; decide
    have s3 : ((⟨#[109, 111, 100, 117, 108, 101, 32, 109, 32, 123, 32, 102, 117, 110, 99, 32]⟩ : ByteArray) ++ sa ++ (⟨#[40, 41, 32, 105, 110, 116, 32, 123, 32, 114, 101, 116, 117, 114, 110, 32, 49, 59, 32, 125, 32, 102, 117, 110, 99, 32]⟩ : ByteArray) ++ sb).size ≤ 300 := by rw [ByteArray.size_append, ByteArray.size_append, ByteArray.size_append, HSA.out.1, HSB.out.1]; decide
    have HE : Hid ((⟨#[109, 111, 100, 117, 108, 101, 32, 109, 32, 123, 32, 102, 117, 110, 99, 32]⟩ : ByteArray) ++ sa ++ (⟨#[40, 41, 32, 105, 110, 116, 32, 123, 32, 114, 101, 116, 117, 114, 110, 32, 49, 59, 32, 125, 32, 102, 117, 110, 99, 32]⟩ : ByteArray) ++ sb ++ (⟨#[40, 41, 32, 105, 110, 116, 32, 123, 32, 114, 101, 116, 117, 114, 110, 32, 49, 59, 32, 125, 32, 125]⟩ : ByteArray) = mk8 (textN 1 a b)) := Lib.hid (by
      rw [HSA.out.2, HSB.out.2]
      show mk8 [109, 111, 100, 117, 108, 101, 32, 109, 32, 123, 32, 102, 117, 110, 99, 32] ++ mk8 (nmOf a) ++ mk8 [40, 41, 32, 105, 110, 116, 32, 123, 32, 114, 101, 116, 117, 114, 110, 32, 49, 59, 32, 125, 32, 102, 117, 110, 99, 32] ++ mk8 (nmOf b) ++ mk8 [40, 41, 32, 105, 110, 116, 32, 123, 32, 114, 101, 116, 117, 114, 110, 32, 49, 59, 32, 125, 32, 125] = _
      rw [mk8_app, mk8_app, mk8_app, mk8_app]
      rfl)
    have s4 : ((⟨#[109, 111, 100, 117, 108, 101, 32, 109, 32, 123, 32, 102, 117, 110, 99, 32]⟩ : ByteArray) ++ sa ++ (⟨#[40, 41, 32, 105, 110, 116, 32, 123, 32, 114, 101, 116, 117, 114, 110, 32, 49, 59, 32, 125, 32, 102, 117, 110, 99, 32]⟩ : ByteArray) ++ sb ++ (⟨#[40, 41, 32, 105, 110, 116, 32, 123, 32, 114, 101, 116, 117, 114, 110, 32, 49, 59, 32, 125, 32, 125]⟩ : ByteArray)).size ≤ 300 := by rw [ByteArray.size_append, ByteArray.size_append, ByteArray.size_append, ByteArray.size_append, HSA.out.1, HSB.out.1]; decide
    go_upto_region 23 with fail
    rw [HE.out]
    have HP := Lib.hid (HPR.out 1 (by decide))
    clear s1 s2 s3 s4 HE HPR HSA HSB
    go_wp2_with fail
    refine HP.out.mono ?_
    rintro e w5 ⟨p5, rfl, hb5⟩
    have HB5 := Lib.hid (btr HBD.out hb5)
    clear hb5 HP HBD
    rw [HWN.out 1]
    rcases heq with ⟨⟨q1, q3⟩, rfl⟩ | ⟨⟨q1, q3⟩, q2⟩
    · simp only [if_true]
      go_wp2_with fail
      go_ret
      exact ⟨rfl, HB5.out⟩
    · simp only [if_neg q2]
      go_wp2_with fail
      go_ret
      exact ⟨rfl, HB5.out⟩
  · have s1 : ((⟨#[109, 111, 100, 117, 108, 101, 32, 109, 32, 123, 32, 102, 117, 110, 99, 32, 102, 40]⟩ : ByteArray) ++ sa).size ≤ 300 := by rw [ByteArray.size_append, HSA.out.1]; decide
    have s2 : ((⟨#[109, 111, 100, 117, 108, 101, 32, 109, 32, 123, 32, 102, 117, 110, 99, 32, 102, 40]⟩ : ByteArray) ++ sa ++ (⟨#[32, 105, 110, 116, 44, 32]⟩ : ByteArray)).size ≤ 300 := by rw [ByteArray.size_append, ByteArray.size_append, HSA.out.1]; decide
    have s3 : ((⟨#[109, 111, 100, 117, 108, 101, 32, 109, 32, 123, 32, 102, 117, 110, 99, 32, 102, 40]⟩ : ByteArray) ++ sa ++ (⟨#[32, 105, 110, 116, 44, 32]⟩ : ByteArray) ++ sb).size ≤ 300 := by rw [ByteArray.size_append, ByteArray.size_append, ByteArray.size_append, HSA.out.1, HSB.out.1]; decide
    have HE : Hid ((⟨#[109, 111, 100, 117, 108, 101, 32, 109, 32, 123, 32, 102, 117, 110, 99, 32, 102, 40]⟩ : ByteArray) ++ sa ++ (⟨#[32, 105, 110, 116, 44, 32]⟩ : ByteArray) ++ sb ++ (⟨#[32, 105, 110, 116, 41, 32, 105, 110, 116, 32, 123, 32, 114, 101, 116, 117, 114, 110, 32, 49, 59, 32, 125, 32, 125]⟩ : ByteArray) = mk8 (textN 2 a b)) := Lib.hid (by
      rw [HSA.out.2, HSB.out.2]
      show mk8 [109, 111, 100, 117, 108, 101, 32, 109, 32, 123, 32, 102, 117, 110, 99, 32, 102, 40] ++ mk8 (nmOf a) ++ mk8 [32, 105, 110, 116, 44, 32] ++ mk8 (nmOf b) ++ mk8 [32, 105, 110, 116, 41, 32, 105, 110, 116, 32, 123, 32, 114, 101, 116, 117, 114, 110, 32, 49, 59, 32, 125, 32, 125] = _
      rw [mk8_app, mk8_app, mk8_app, mk8_app]
      rfl)
    have s4 : ((⟨#[109, 111, 100, 117, 108, 101, 32, 109, 32, 123, 32, 102, 117, 110, 99, 32, 102, 40]⟩ : ByteArray) ++ sa ++ (⟨#[32, 105, 110, 116, 44, 32]⟩ : ByteArray) ++ sb ++ (⟨#[32, 105, 110, 116, 41, 32, 105, 110, 116, 32, 123, 32, 114, 101, 116, 117, 114, 110, 32, 49, 59, 32, 125, 32, 125]⟩ : ByteArray)).size ≤ 300 := by rw [ByteArray.size_append, ByteArray.size_append, ByteArray.size_append, ByteArray.size_append, HSA.out.1, HSB.out.1]; decide
    go_upto_region 23 with fail
    rw [HE.out]
    have HP := Lib.hid (HPR.out 2 (by decide))
    clear s1 s2 s3 s4 HE HPR HSA HSB
    go_wp2_with fail
    refine HP.out.mono ?_
    rintro e w5 ⟨p5, rfl, hb5⟩
    have HB5 := Lib.hid (btr HBD.out hb5)
    clear hb5 HP HBD
    rw [HWN.out 2]
    rcases heq with ⟨⟨q1, q3⟩, rfl⟩ | ⟨⟨q1, q3⟩, q2⟩
    · simp only [if_true]
      go_wp2_with fail
      go_ret
      exact ⟨rfl, HB5.out⟩
    · simp only [if_neg q2]
      go_wp2_with fail
      go_ret
      exact ⟨rfl, HB5.out⟩
  · have s1 : ((⟨#[109, 111, 100, 117, 108, 101, 32, 109, 32, 123, 32, 102, 117, 110, 99, 32, 102, 40]⟩ : ByteArray) ++ sa).size ≤ 300 := by rw [ByteArray.size_append, HSA.out.1]; decide
    have s2 : ((⟨#[109, 111, 100, 117, 108, 101, 32, 109, 32, 123, 32, 102, 117, 110, 99, 32, 102, 40]⟩ : ByteArray) ++ sa ++ (⟨#[32, 105, 110, 116, 41, 32, 105, 110, 116, 32, 123, 32, 108, 101, 116, 32]⟩ : ByteArray)).size ≤ 300 := by rw [ByteArray.size_append, ByteArray.size_append, HSA.out.1]; decide
    have s3 : ((⟨#[109, 111, 100, 117, 108, 101, 32, 109, 32, 123, 32, 102, 117, 110, 99, 32, 102, 40]⟩ : ByteArray) ++ sa ++ (⟨#[32, 105, 110, 116, 41, 32, 105, 110, 116, 32, 123, 32, 108, 101, 116, 32]⟩ : ByteArray) ++ sb).size ≤ 300 := by rw [ByteArray.size_append, ByteArray.size_append, ByteArray.size_append, HSA.out.1, HSB.out.1]; decide
    have HE : Hid ((⟨#[109, 111, 100, 117, 108, 101, 32, 109, 32, 123, 32, 102, 117, 110, 99, 32, 102, 40]⟩ : ByteArray) ++ sa ++ (⟨#[32, 105, 110, 116, 41, 32, 105, 110, 116, 32, 123, 32, 108, 101, 116, 32]⟩ : ByteArray) ++ sb ++ (⟨#[32, 105, 110, 116, 32, 61, 32, 49, 59, 32, 114, 101, 116, 117, 114, 110, 32, 49, 59, 32, 125, 32, 125]⟩ : ByteArray) = mk8 (textN 3 a b)) := Lib.hid (by
      rw [HSA.out.2, HSB.out.2]
      show mk8 [109, 111, 100, 117, 108, 101, 32, 109, 32, 123, 32, 102, 117, 110, 99, 32, 102, 40] ++ mk8 (nmOf a) ++ mk8 [32, 105, 110, 116, 41, 32, 105, 110, 116, 32, 123, 32, 108, 101, 116, 32] ++ mk8 (nmOf b) ++ mk8 [32, 105, 110, 116, 32, 61, 32, 49, 59, 32, 114, 101, 116, 117, 114, 110, 32, 49, 59, 32, 125, 32, 125] = _
      rw [mk8_app, mk8_app, mk8_app, mk8_app]
      rfl)
    have s4 : ((⟨#[109, 111, 100, 117, 108, 101, 32, 109, 32, 123, 32, 102, 117, 110, 99, 32, 102, 40]⟩ : ByteArray) ++ sa ++ (⟨#[32, 105, 110, 116, 41, 32, 105, 110, 116, 32, 123, 32, 108, 101, 116, 32]⟩ : ByteArray) ++ sb ++ (⟨#[32, 105, 110, 116, 32, 61, 32, 49, 59, 32, 114, 101, 116, 117, 114, 110, 32, 49, 59, 32, 125, 32, 125]⟩ : ByteArray)).size ≤ 300 := by rw [ByteArray.size_append, ByteArray.size_append, ByteArray.size_append, ByteArray.size_append, HSA.out.1, HSB.out.1]; decide
    go_upto_region 23 with fail
    rw [HE.out]
    have HP := Lib.hid (HPR.out 3 (by decide))
    clear s1 s2 s3 s4 HE HPR HSA HSB
    go_wp2_with fail
    refine HP.out.mono ?_
    rintro e w5 ⟨p5, rfl, hb5⟩
    have HB5 := Lib.hid (btr HBD.out hb5)
    clear hb5 HP HBD
    rw [HWN.out 3]
    rcases heq with ⟨⟨q1, q3⟩, rfl⟩ | ⟨⟨q1, q3⟩, q2⟩
    · simp only [if_true]
      go_wp2_with fail
      go_ret
      exact ⟨rfl, HB5.out⟩
    · simp only [if_neg q2]
      go_wp2_with fail
      go_ret
      exact ⟨rfl, HB5.out⟩
  · have s1 : ((⟨#[109, 111, 100, 117, 108, 101, 32, 109, 32, 123, 32, 102, 117, 110, 99, 32, 102, 40, 41, 32, 105, 110, 116, 32, 123, 32, 105, 102, 32, 116, 114, 117, 101, 32, 123, 32, 108, 101, 116, 32]⟩ : ByteArray) ++ sa).size ≤ 300 := by rw [ByteArray.size_append, HSA.out.1]; decide
    have s2 : ((⟨#[109, 111, 100, 117, 108, 101, 32, 109, 32, 123, 32, 102, 117, 110, 99, 32, 102, 40, 41, 32, 105, 110, 116, 32, 123, 32, 105, 102, 32, 116, 114, 117, 101, 32, 123, 32, 108, 101, 116, 32]⟩ : ByteArray) ++ sa ++ (⟨#[32, 105, 110, 116, 32, 61, 32, 49, 59, 32, 125, 32, 101, 108, 115, 101, 32, 123, 32, 108, 101, 116, 32]⟩ : ByteArray)).size ≤ 300 := by rw [ByteArray.size_append, ByteArray.size_append, HSA.out.1]; decide
    have s3 : ((⟨#[109, 111, 100, 117, 108, 101, 32, 109, 32, 123, 32, 102, 117, 110, 99, 32, 102, 40, 41, 32, 105, 110, 116, 32, 123, 32, 105, 102, 32, 116, 114, 117, 101, 32, 123, 32, 108, 101, 116, 32]⟩ : ByteArray) ++ sa ++ (⟨#[32, 105, 110, 116, 32, 61, 32, 49, 59, 32, 125, 32, 101, 108, 115, 101, 32, 123, 32, 108, 101, 116, 32]⟩ : ByteArray) ++ sb).size ≤ 300 := by rw [ByteArray.size_append, ByteArray.size_append, ByteArray.size_append, HSA.out.1, HSB.out.1]; decide
    have HE : Hid ((⟨#[109, 111, 100, 117, 108, 101, 32, 109, 32, 123, 32, 102, 117, 110, 99, 32, 102, 40, 41, 32, 105, 110, 116, 32, 123, 32, 105, 102, 32, 116, 114, 117, 101, 32, 123, 32, 108, 101, 116, 32]⟩ : ByteArray) ++ sa ++ (⟨#[32, 105, 110, 116, 32, 61, 32, 49, 59, 32, 125, 32, 101, 108, 115, 101, 32, 123, 32, 108, 101, 116, 32]⟩ : ByteArray) ++ sb ++ (⟨#[32, 105, 110, 116, 32, 61, 32, 49, 59, 32, 125, 32, 114, 101, 116, 117, 114, 110, 32, 49, 59, 32, 125, 32, 125]⟩ : ByteArray) = mk8 (textN 4 a b)) := Lib.hid (by
      rw [HSA.out.2, HSB.out.2]
      show mk8 [109, 111, 100, 117, 108, 101, 32, 109, 32, 123, 32, 102, 117, 110, 99, 32, 102, 40, 41, 32, 105, 110, 116, 32, 123, 32, 105, 102, 32, 116, 114, 117, 101, 32, 123, 32, 108, 101, 116, 32] ++ mk8 (nmOf a) ++ mk8 [32, 105, 110, 116, 32, 61, 32, 49, 59, 32, 125, 32, 101, 108, 115, 101, 32, 123, 32, 108, 101, 116, 32] ++ mk8 (nmOf b) ++ mk8 [32, 105, 110, 116, 32, 61, 32, 49, 59, 32, 125, 32, 114, 101, 116, 117, 114, 110, 32, 49, 59, 32, 125, 32, 125] = _
      rw [mk8_app, mk8_app, mk8_app, mk8_app]
      rfl)
    have s4 : ((⟨#[109, 111, 100, 117, 108, 101, 32, 109, 32, 123, 32, 102, 117, 110, 99, 32, 102, 40, 41, 32, 105, 110, 116, 32, 123, 32, 105, 102, 32, 116, 114, 117, 101, 32, 123, 32, 108, 101, 116, 32]⟩ : ByteArray) ++ sa ++ (⟨#[32, 105, 110, 116, 32, 61, 32, 49, 59, 32, 125, 32, 101, 108, 115, 101, 32, 123, 32, 108, 101, 116, 32]⟩ : ByteArray) ++ sb ++ (⟨#[32, 105, 110, 116, 32, 61, 32, 49, 59, 32, 125, 32, 114, 101, 116, 117, 114, 110, 32, 49, 59, 32, 125, 32, 125]⟩ : ByteArray)).size ≤ 300 := by rw [ByteArray.size_append, ByteArray.size_append, ByteArray.size_append, ByteArray.size_append, HSA.out.1, HSB.out.1]; decide
    go_upto_region 23 with fail
    rw [HE.out]
    have HP := Lib.hid (HPR.out 4 (by decide))
    clear s1 s2 s3 s4 HE HPR HSA HSB
    go_wp2_with fail
    refine HP.out.mono ?_
    rintro e w5 ⟨p5, rfl, hb5⟩
    have HB5 := Lib.hid (btr HBD.out hb5)
    clear hb5 HP HBD
    rw [HWN.out 4]
    rcases heq with ⟨⟨q1, q3⟩, rfl⟩ | ⟨⟨q1, q3⟩, q2⟩
    · simp only [if_true]
      go_wp2_with fail
      go_ret
      exact ⟨rfl, HB5.out⟩
    · simp only [if_neg q2]
      go_wp2_with fail
      go_ret
      exact ⟨rfl, HB5.out⟩
  · have s1 : ((⟨#[109, 111, 100, 117, 108, 101, 32, 109, 32, 123, 32, 102, 117, 110, 99, 32, 102, 40]⟩ : ByteArray) ++ sa).size ≤ 300 := by rw [ByteArray.size_append, HSA.out.1]; decide
    have s2 : ((⟨#[109, 111, 100, 117, 108, 101, 32, 109, 32, 123, 32, 102, 117, 110, 99, 32, 102, 40]⟩ : ByteArray) ++ sa ++ (⟨#[32, 105, 110, 116, 41, 32, 105, 110, 116, 32, 123, 32, 114, 101, 116, 117, 114, 110, 32]⟩ : ByteArray)).size ≤ 300 := by rw [ByteArray.size_append, ByteArray.size_append, HSA.out.1]; decide
    have s3 : ((⟨#[109, 111, 100, 117, 108, 101, 32, 109, 32, 123, 32, 102, 117, 110, 99, 32, 102, 40]⟩ : ByteArray) ++ sa ++ (⟨#[32, 105, 110, 116, 41, 32, 105, 110, 116, 32, 123, 32, 114, 101, 116, 117, 114, 110, 32]⟩ : ByteArray) ++ sb).size ≤ 300 := by rw [ByteArray.size_append, ByteArray.size_append, ByteArray.size_append, HSA.out.1, HSB.out.1]; decide
    have HE : Hid ((⟨#[109, 111, 100, 117, 108, 101, 32, 109, 32, 123, 32, 102, 117, 110, 99, 32, 102, 40]⟩ : ByteArray) ++ sa ++ (⟨#[32, 105, 110, 116, 41, 32, 105, 110, 116, 32, 123, 32, 114, 101, 116, 117, 114, 110, 32]⟩ : ByteArray) ++ sb ++ (⟨#[59, 32, 125, 32, 125]⟩ : ByteArray) = mk8 (textN 5 a b)) := Lib.hid (by
      rw [HSA.out.2, HSB.out.2]
      show mk8 [109, 111, 100, 117, 108, 101, 32, 109, 32, 123, 32, 102, 117, 110, 99, 32, 102, 40] ++ mk8 (nmOf a) ++ mk8 [32, 105, 110, 116, 41, 32, 105, 110, 116, 32, 123, 32, 114, 101, 116, 117, 114, 110, 32] ++ mk8 (nmOf b) ++ mk8 [59, 32, 125, 32, 125] = _
      rw [mk8_app, mk8_app, mk8_app, mk8_app]
      rfl)
    have s4 : ((⟨#[109, 111, 100, 117, 108, 101, 32, 109, 32, 123, 32, 102, 117, 110, 99, 32, 102, 40]⟩ : ByteArray) ++ sa ++ (⟨#[32, 105, 110, 116, 41, 32, 105, 110, 116, 32, 123, 32, 114, 101, 116, 117, 114, 110, 32]⟩ : ByteArray) ++ sb ++ (⟨#[59, 32, 125, 32, 125]⟩ : ByteArray)).size ≤ 300 := by rw [ByteArray.size_append, ByteArray.size_append, ByteArray.size_append, ByteArray.size_append, HSA.out.1, HSB.out.1]; decide
    go_upto_region 23 with fail
    rw [HE.out]
    have HP := Lib.hid (HPR.out 5 (by decide))
    clear s1 s2 s3 s4 HE HPR HSA HSB
    go_wp2_with fail
    refine HP.out.mono ?_
    rintro e w5 ⟨p5, rfl, hb5⟩
    have HB5 := Lib.hid (btr HBD.out hb5)
    clear hb5 HP HBD
    rw [HWN.out 5]
    rcases heq with ⟨⟨q1, q3⟩, rfl⟩ | ⟨⟨q1, q3⟩, q2⟩
    · simp only [if_true]
      go_wp2_with fail
      all_goals first
        | (exfalso; revert q1; simp_all; done)
        | (go_ret; exact ⟨rfl, HB5.out⟩)
    · simp only [if_neg q2]
      go_wp2_with fail
      all_goals first
        | (exfalso; revert q1; simp_all; done)
        | (go_ret; exact ⟨rfl, HB5.out⟩)
  · have s1 : ((⟨#[109, 111, 100, 117, 108, 101, 32, 109, 32, 123, 32, 102, 117, 110, 99, 32]⟩ : ByteArray) ++ sa).size ≤ 300 := by rw [ByteArray.size_append, HSA.out.1]; decide
    have s2 : ((⟨#[109, 111, 100, 117, 108, 101, 32, 109, 32, 123, 32, 102, 117, 110, 99, 32]⟩ : ByteArray) ++ sa ++ (⟨#[40, 41, 32, 105, 110, 116, 32, 123, 32, 114, 101, 116, 117, 114, 110, 32, 109, 46]⟩ : ByteArray)).size ≤ 300 := by rw [ByteArray.size_append, ByteArray.size_append, HSA.out.1]; decide
    have s3 : ((⟨#[109, 111, 100, 117, 108, 101, 32, 109, 32, 123, 32, 102, 117, 110, 99, 32]⟩ : ByteArray) ++ sa ++ (⟨#[40, 41, 32, 105, 110, 116, 32, 123, 32, 114, 101, 116, 117, 114, 110, 32, 109, 46]⟩ : ByteArray) ++ sb).size ≤ 300 := by rw [ByteArray.size_append, ByteArray.size_append, ByteArray.size_append, HSA.out.1, HSB.out.1]; decide
    have HE : Hid ((⟨#[109, 111, 100, 117, 108, 101, 32, 109, 32, 123, 32, 102, 117, 110, 99, 32]⟩ : ByteArray) ++ sa ++ (⟨#[40, 41, 32, 105, 110, 116, 32, 123, 32, 114, 101, 116, 117, 114, 110, 32, 109, 46]⟩ : ByteArray) ++ sb ++ (⟨#[40, 41, 59, 32, 125, 32, 125]⟩ : ByteArray) = mk8 (textN 6 a b)) := Lib.hid (by
      rw [HSA.out.2, HSB.out.2]
      show mk8 [109, 111, 100, 117, 108, 101, 32, 109, 32, 123, 32, 102, 117, 110, 99, 32] ++ mk8 (nmOf a) ++ mk8 [40, 41, 32, 105, 110, 116, 32, 123, 32, 114, 101, 116, 117, 114, 110, 32, 109, 46] ++ mk8 (nmOf b) ++ mk8 [40, 41, 59, 32, 125, 32, 125] = _
      rw [mk8_app, mk8_app, mk8_app, mk8_app]
      rfl)
    have s4 : ((⟨#[109, 111, 100, 117, 108, 101, 32, 109, 32, 123, 32, 102, 117, 110, 99, 32]⟩ : ByteArray) ++ sa ++ (⟨#[40, 41, 32, 105, 110, 116, 32, 123, 32, 114, 101, 116, 117, 114, 110, 32, 109, 46]⟩ : ByteArray) ++ sb ++ (⟨#[40, 41, 59, 32, 125, 32, 125]⟩ : ByteArray)).size ≤ 300 := by rw [ByteArray.size_append, ByteArray.size_append, ByteArray.size_append, ByteArray.size_append, HSA.out.1, HSB.out.1]; decide
    go_upto_region 23 with fail
    rw [HE.out]
    have HP := Lib.hid (HPR.out 6 (by decide))
    clear s1 s2 s3 s4 HE HPR HSA HSB
    go_wp2_with fail
    refine HP.out.mono ?_
    rintro e w5 ⟨p5, rfl, hb5⟩
    have HB5 := Lib.hid (btr HBD.out hb5)
    clear hb5 HP HBD
    rw [HWN.out 6]
    rcases heq with ⟨⟨q1, q3⟩, rfl⟩ | ⟨⟨q1, q3⟩, q2⟩
    · simp only [if_true]
      go_wp2_with fail
      all_goals first
        | (exfalso; revert q1; simp_all; done)
        | (go_ret; exact ⟨rfl, HB5.out⟩)
    · simp only [if_neg q2]
      go_wp2_with fail
      all_goals first
        | (exfalso; revert q1; simp_all; done)
        | (go_ret; exact ⟨rfl, HB5.out⟩)
end Go.Proofs.YtljdphpbalioaaaDoor
