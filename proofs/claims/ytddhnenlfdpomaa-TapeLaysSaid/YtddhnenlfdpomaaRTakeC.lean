/- Walk: the document's Take of a text. -/
import Derived.Test.YtddhnenlfdpomaaRTake
namespace Go.Proofs.Ytddhnenlfdpomaa
open Go.RowKit

set_option maxRecDepth 10000 in
set_option maxHeartbeats 1600000 in
theorem rtake2_any (v : Value) (p : List UInt8) (f : Fld) (w : World) (hv : Bytes w v p) (h : f.kind % 5 = 2) (h1000 : f.most < 1000) :
    Calls Try.prog 18 #[v, FldV f] w fun e w' => TakeSays v f p e ∧ Below w.heap.size w w' := by
  have hT : ∀ o, takeOf f o = .agg #[.int .u8 f.kind, .int .u64 0, .string (strOf (Rd.text f.most o).1), .int .u64 f.most] := fun o => by unfold takeOf; rw [if_neg (show ¬ f.kind % 5 = 1 by omega), if_pos h, Nat.mod_eq_of_lt h1000]
  have hR : ∀ o, takeRest f o = (Rd.text f.most o).2 := fun o => by unfold takeRest; rw [if_neg (show ¬ f.kind % 5 = 1 by omega), if_pos h, Nat.mod_eq_of_lt h1000]
  have HT := Lib.hid hT
  have HR := Lib.hid hR
  clear hT hR
  obtain ⟨kind, n, s, most, hk, hn, hm⟩ := f
  have HV := Lib.hid hv
  obtain ⟨a, c, rfl, hmax, hcap, _⟩ := hv
  have hmax2 : p.length ≤ 9223372036854775807 := by unfold maxLen at hmax; omega
  unfold FldV Fld.cells
  simp only at h h1000 ⊢
  go_enter Try.func18, Try.ntmps18
  go_wp2_with fail
  have hG0 := two_new w (.cells #[.int .u8 kind, .int .u64 n, .string s, .int .u64 most] 40) (.cells #[.int .u8 0, .int .u64 0, .string ⟨#[]⟩, .int .u64 0] 40) (.cells #[.int .u8 kind, .int .u64 0, .string ⟨#[]⟩, .int .u64 most] 40)
  obtain ⟨hG1, hG2⟩ := three_new w (.cells #[.int .u8 kind, .int .u64 n, .string s, .int .u64 most] 40) (.cells #[.int .u8 0, .int .u64 0, .string ⟨#[]⟩, .int .u64 0] 40) (.cells #[.int .u8 kind, .int .u64 0, .string ⟨#[]⟩, .int .u64 most] 40)
  have hbW := bal (bal (bal (bre w) (.cells #[.int .u8 kind, .int .u64 n, .string s, .int .u64 most] 40)) (.cells #[.int .u8 0, .int .u64 0, .string ⟨#[]⟩, .int .u64 0] 40)) (.cells #[.int .u8 kind, .int .u64 0, .string ⟨#[]⟩, .int .u64 most] 40)
  generalize (((w.alloc (.cells #[.int .u8 kind, .int .u64 n, .string s, .int .u64 most] 40)).alloc (.cells #[.int .u8 0, .int .u64 0, .string ⟨#[]⟩, .int .u64 0] 40)).alloc (.cells #[.int .u8 kind, .int .u64 0, .string ⟨#[]⟩, .int .u64 most] 40)) = W at *
  refine (number_any _ p W (HV.out.below hbW)).mono ?_
  rintro e w1 ⟨rfl, rfl⟩
  obtain ⟨b0, b1, b2, b3, er⟩ := row4 hG0
  obtain ⟨c0, c1, c2, c3, fr⟩ := row4 hG1
  obtain ⟨d0, d1, d2, d3, gr⟩ := row4 hG2
  have HW := Lib.hid hbW
  clear hG0 hG1 hG2 hbW
  cases hdec : Rd.dec 0 0 p with
  | none =>
    rw [numOf_none hdec]
    have e1 := HT.out (some p)
    have e2 := HR.out (some p)
    rw [show Rd.text most (some p) = ([], none) by unfold Rd.text; rw [Rd.num_none (by simpa using hdec)]] at e1 e2
    rw [show strOf (([], none) : List UInt8 × Option (List UInt8)).1 = ⟨#[]⟩ by rfl] at e1
    have E1 := Lib.hid e1
    have E2 := Lib.hid e2
    clear e1 e2 hdec
    generalize hg : w.heap.size = g at *
    have HG := Lib.hid hg
    clear hg
    go_wp2_with fail
    all_goals
      refine bodyPost_ret (v := .tuple #[.agg #[.int .u8 kind, .int .u64 0, .string ⟨#[]⟩, .int .u64 most], .slice none 0 0, .bool false]) (by simp [results, Try.results18, go_sem, c0, c1, c2, c3]) rfl ?_
      exact rt_fin (b := false) (q := []) HG.out HW.out (by repeat (first | exact Below.refl _ _ | refine Below.drew ?_ | refine bset ?_ _ _ _ (by omega))) E1.out E2.out (fun _ => rfl) (fun _ _ => (Own8.nil 5 0 _).bytes)
  | some q =>
    obtain ⟨m, r⟩ := q
    obtain ⟨hp, hm64, hn1, hn2, hpos⟩ := dec_front hdec
    have hdrop : p.drop (Vi.varint m).length = r := by rw [hp]; simp
    have hle2 : (Vi.varint m).length ≤ p.length := by rw [hp]; simp
    have hrl : p.length - (Vi.varint m).length = r.length := by rw [hp]; simp
    have e1 := HT.out (some p)
    have e2 := HR.out (some p)
    have hKr : p.length = (Vi.varint m).length + r.length := by rw [hp]; simp
    by_cases hmm : m ≤ most
    · have hmd : decide (most < m) = false := by simp; omega
      by_cases hml : m ≤ r.length
      · rw [show Rd.text most (some p) = (r.take m, some (r.drop m)) by unfold Rd.text; rw [num_of_dec hdec, if_pos hmm]; simp only [if_pos hml]] at e1 e2
        have hm5 : (m : Int) ≤ (p.length : Int) - (Vi.varint m).length := by omega
        have hm7 : decide ((p.length : Int) - (Vi.varint m).length < m) = false := by simp; omega
        have hm6 : (((Vi.varint m).length : Int) + m) = (((Vi.varint m).length + m : Nat) : Int) := by omega
        have hk1 : (Vi.varint m).length + m ≤ p.length := by omega
        obtain ⟨A1, C1, hrun1, hby1⟩ := run_mid (P := Try.prog) (HV.out) (Vi.varint m).length ((Vi.varint m).length + m) 24 5 (by omega) hk1 row8
        rw [Nat.add_sub_cancel_left] at hrun1 hby1
        have hmid : (p.take ((Vi.varint m).length + m)).drop (Vi.varint m).length = r.take m := by rw [hp]; simp [List.take_append]
        rw [hmid] at hby1
        have HY1 := Lib.hid hby1
        obtain ⟨A, N, C, hrun, hby, hN⟩ := run_suffix_all (P := Try.prog) HV.out ((Vi.varint m).length + m) 24 5 hk1 row8
        rw [show p.drop ((Vi.varint m).length + m) = r.drop m by rw [← List.drop_drop, hdrop]] at hby
        have hs : ∀ w', Below w.heap.size w w' → (convert 24 9 (.slice A1 m C1)).run Try.prog w' = .ok (.string (strOf (r.take m))) w' := fun w' hb => run_str (P := Try.prog) w' 24 9 5 _ _ (HY1.out.below hb) Try.underlying24 Try.underlying5 Try.underlying9
        have hs2 := hs _ HW.out
        have HY := Lib.hid hby
        have E1 := Lib.hid e1
        have E2 := Lib.hid e2
        rw [← hm6] at hrun1 hrun
        clear hmid e1 e2 hdec hp hdrop hby hN hrl hs hby1 hKr hm6
        rw [hn1, hn2]
        clear hn1 hn2
        generalize strOf (r.take m) = T at *
        generalize (Vi.varint m).length = K at *
        generalize hg : w.heap.size = g at *
        have HG := Lib.hid hg
        clear hg
        go_wp2_with fail
        go_region
        all_goals
          go_wp2_with fail
          refine bodyPost_ret (v := .tuple #[.agg #[.int .u8 kind, .int .u64 0, .string T, .int .u64 most], .slice A N C, .bool true]) (by simp [results, Try.results18, go_sem, c0, c1, c2, c3]) rfl ?_
          exact rt_fin (b := true) (q := r.drop m) HG.out HW.out (by repeat (first | exact Below.refl _ _ | refine Below.drew ?_ | refine bset ?_ _ _ _ (by omega))) E1.out E2.out (fun h => by cases h) HY.out
      · have hm5 : (p.length : Int) - (Vi.varint m).length < m := by omega
        rw [show Rd.text most (some p) = ([], none) by unfold Rd.text; rw [num_of_dec hdec, if_pos hmm]; simp only [if_neg hml]] at e1 e2
        rw [show strOf (([], none) : List UInt8 × Option (List UInt8)).1 = ⟨#[]⟩ by rfl] at e1
        obtain ⟨A, N, C, hrun, hby, hN⟩ := run_suffix_all (P := Try.prog) HV.out (Vi.varint m).length 24 5 hle2 row8
        rw [hdrop] at hby
        have HY := Lib.hid hby
        have E1 := Lib.hid e1
        have E2 := Lib.hid e2
        clear e1 e2 hdec hp hdrop hby hN hrl hKr
        rw [hn1, hn2]
        clear hn1 hn2
        generalize (Vi.varint m).length = K at *
        generalize hg : w.heap.size = g at *
        have HG := Lib.hid hg
        clear hg
        go_wp2_with fail
        all_goals
          refine bodyPost_ret (v := .tuple #[.agg #[.int .u8 kind, .int .u64 0, .string ⟨#[]⟩, .int .u64 most], .slice none 0 0, .bool false]) (by simp [results, Try.results18, go_sem, c0, c1, c2, c3]) rfl ?_
          exact rt_fin (b := false) (q := []) HG.out HW.out (by repeat (first | exact Below.refl _ _ | refine Below.drew ?_ | refine bset ?_ _ _ _ (by omega))) E1.out E2.out (fun _ => rfl) (fun _ _ => (Own8.nil 5 0 _).bytes)
    · have hmd : decide (most < m) = true := by simp; omega
      rw [show Rd.text most (some p) = ([], none) by unfold Rd.text; rw [num_of_dec hdec, if_neg hmm]] at e1 e2
      rw [show strOf (([], none) : List UInt8 × Option (List UInt8)).1 = ⟨#[]⟩ by rfl] at e1
      obtain ⟨A, N, C, hrun, hby, hN⟩ := run_suffix_all (P := Try.prog) HV.out (Vi.varint m).length 24 5 hle2 row8
      rw [hdrop] at hby
      have HY := Lib.hid hby
      have E1 := Lib.hid e1
      have E2 := Lib.hid e2
      clear e1 e2 hdec hp hdrop hby hN hrl hKr
      rw [hn1, hn2]
      clear hn1 hn2
      generalize (Vi.varint m).length = K at *
      generalize hg : w.heap.size = g at *
      have HG := Lib.hid hg
      clear hg
      go_wp2_with fail
      all_goals
        refine bodyPost_ret (v := .tuple #[.agg #[.int .u8 kind, .int .u64 0, .string ⟨#[]⟩, .int .u64 most], .slice none 0 0, .bool false]) (by simp [results, Try.results18, go_sem, c0, c1, c2, c3]) rfl ?_
        exact rt_fin (b := false) (q := []) HG.out HW.out (by repeat (first | exact Below.refl _ _ | refine Below.drew ?_ | refine bset ?_ _ _ _ (by omega))) E1.out E2.out (fun _ => rfl) (fun _ _ => (Own8.nil 5 0 _).bytes)
end Go.Proofs.Ytddhnenlfdpomaa
