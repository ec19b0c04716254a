/- Walk: programs. -/
import Derived.Test.YtljdphpbalioaaaGreatDoorGrZ
namespace Go.Proofs.YtljdphpbalioaaaGreatDoor
open Go.RowKit

section
variable {ts : List Tok} {m n : Nat} {s : PS}
theorem want1_b (x : List UInt8) (h : s.bad = true) : (Gr.want1 ts s x).bad = true := by rw [Gr.want1_bad h]; exact h
theorem name_b (h : s.bad = true) : (Gr.name ts s).2.bad = true := by
  unfold Gr.name
  rw [Gr.now_bad h]
  rfl
theorem types_b (h : s.bad = true) : (Gr.types ts s).2.bad = true := by
  unfold Gr.types
  rw [Gr.isT_bad h, Gr.isT_bad h]
  rfl
theorem list_b {α : Type} {f : PS → α × PS} (e : List UInt8) (n : Nat) (h : s.bad = true) : (Gr.listOf ts e f n s).2.bad = true := by
  unfold Gr.listOf
  rw [Gr.isT_bad h]
  cases n with
  | zero => exact h
  | succ n => unfold Gr.rounds; rw [h]; exact h
theorem till_b {α : Type} {f : PS → α × PS} (e : List UInt8) (eat : Bool) (n : Nat) (h : s.bad = true) : (Gr.till ts e eat f n s).2.bad = true := by rw [till_bad e eat h]; exact h
theorem expr_b (n : Nat) (h : s.bad = true) : (Gr.expr ts n s).2.bad = true := by rw [Gr.expr_bad h]; exact h
theorem want_b : ∀ (l : List (List UInt8)) (s : PS), s.bad = true → (Gr.want ts s l).bad = true
  | [], _, h => h
  | x :: r, _, h => want_b r _ (want1_b x h)
theorem want_fwd : ∀ (l : List (List UInt8)) (s : PS), s.pos ≤ (Gr.want ts s l).pos
  | [], _ => Nat.le_refl _
  | x :: r, s => Nat.le_trans (Gr.want1_fwd s x) (want_fwd r _)
theorem func_adv : (Gr.funcOf ts m s).2.bad = true ∨ s.pos + 1 ≤ (Gr.funcOf ts m s).2.pos := by
  rw [funcOf_eq]
  cases h : Gr.isT ts s Gr.wFunc with
  | true =>
    have e : Gr.want1 ts s Gr.wFunc = Gr.PS.adv s := by unfold Gr.want1; rw [h]; rfl
    rw [e]
    exact .inr (Nat.le_trans (Nat.le_refl (s.pos + 1)) (Nat.le_trans (Gr.name_keeps.fwd (Gr.PS.adv s)) (Nat.le_trans (Gr.want1_fwd _ _) (Nat.le_trans ((Gr.list_keeps (ts := ts) [41] Gr.param_keeps m).fwd _) (Nat.le_trans (Gr.types_keeps.fwd _) (Nat.le_trans (Gr.want1_fwd _ _) (Nat.le_trans ((Gr.till_keeps (ts := ts) Gr.wReturn false (Gr.stmt_keeps m m) m).fwd _) (Nat.le_trans (Gr.want1_fwd _ _) (Nat.le_trans ((Gr.expr_keeps (ts := ts) m).fwd _) (want_fwd _ _))))))))))
  | false =>
    have e : (Gr.want1 ts s Gr.wFunc).bad = true := by unfold Gr.want1; rw [h]; rfl
    exact .inl (want_b _ _ (expr_b _ (want1_b _ (till_b _ _ _ (want1_b _ (types_b (list_b _ _ (want1_b _ (name_b e)))))))))
theorem modOf_eq (ts : List Tok) (m : Nat) (s : PS) : Gr.modOf ts m s = (.mk 2 (Gr.name ts (Gr.want1 ts s Gr.wModule)).1 0 0 [] [] (Gr.till ts [125] true (Gr.funcOf ts m) m (Gr.want1 ts (Gr.name ts (Gr.want1 ts s Gr.wModule)).2 [123])).1, (Gr.till ts [125] true (Gr.funcOf ts m) m (Gr.want1 ts (Gr.name ts (Gr.want1 ts s Gr.wModule)).2 [123])).2) := rfl
theorem mod_adv : (Gr.modOf ts m s).2.bad = true ∨ s.pos + 1 ≤ (Gr.modOf ts m s).2.pos := by
  rw [modOf_eq]
  cases h : Gr.isT ts s Gr.wModule with
  | true =>
    have e : Gr.want1 ts s Gr.wModule = Gr.PS.adv s := by unfold Gr.want1; rw [h]; rfl
    rw [e]
    exact .inr (Nat.le_trans (Nat.le_refl (s.pos + 1)) (Nat.le_trans (Gr.name_keeps.fwd (Gr.PS.adv s)) (Nat.le_trans (Gr.want1_fwd _ _) ((Gr.till_keeps (ts := ts) [125] true (Gr.funcOf_keeps m) m).fwd _))))
  | false =>
    have e : (Gr.want1 ts s Gr.wModule).bad = true := by unfold Gr.want1; rw [h]; rfl
    exact .inl (till_b _ _ _ (want1_b _ (name_b e)))
theorem mods_end (h : s.bad = true ∨ ts.length ≤ s.pos) : ∀ n, Gr.mods ts m n s = ([], s)
  | 0 => rfl
  | n + 1 => by
    unfold Gr.mods
    rw [if_pos (by simpa using h)]
theorem mods_more (hb : s.bad = false) (hp : s.pos < ts.length) : Gr.mods ts m (n + 1) s = ((Gr.modOf ts m s).1 :: (Gr.mods ts m n (Gr.modOf ts m s).2).1, (Gr.mods ts m n (Gr.modOf ts m s).2).2) := by
  unfold Gr.mods
  rw [if_neg (by rw [hb]; simp; omega)]
  cases n <;> rfl
theorem mods_len : ∀ (n : Nat) (s : PS), (Gr.mods ts m n s).1.length ≤ n
  | 0, _ => Nat.le_refl _
  | n + 1, s => by
    unfold Gr.mods
    split
    · exact Nat.zero_le _
    · exact Nat.succ_le_succ (mods_len n _)
end
set_option linter.unusedSimpArgs false in
set_option maxRecDepth 20000 in
set_option maxHeartbeats 3200000 in
theorem program_walk (g : Nat) (ta : Option Addr) (tc : Nat) (ts : List Tok) (B m : Nat) (w : World) (hm : ts.length + 1 ≤ m) (hm2 : m ≤ 2000000) (hT : TokOk ts) (h : Asks w g ta tc ts B ⟨0, 0, false⟩) :
    Calls Tryz.prog 13 #[.pointer (some ⟨g, 0, none⟩)] w (TreeSays g ta tc ts w (Gr.program ts m)) := by
  have HM := Lib.hid (And.intro hm hm2)
  have HTK := Lib.hid hT
  have hg := (Array.getElem?_eq_some_iff.1 h.pat.row).1
  have hfew := h.pat.few
  have hn0 : NS (fun _ => True) w (w.alloc (.cells #[.int .u8 1, .string ⟨#[]⟩, .int .i64 0, .int .u8 0, .int .u64 0, .slice none 0 0, .string ⟨#[]⟩, .string ⟨#[]⟩, .slice none 0 0, .int .u64 0] 75)) g ta tc ts B ⟨0, 0, false⟩ w.heap.size w.heap.size 1 [] 0 0 [] [] [] [] [] [] [] := NS.first h.pat h.tb (Only.refl _ _) ⟨h.big, hg, h.low⟩ h.hta 1 [] 0 0 [] []
  have HN0 := Lib.hid hn0
  obtain ⟨R, hR⟩ : ∃ R, R = Gr.mods ts m m ⟨0, 0, false⟩ := ⟨_, rfl⟩
  have HPR : Hid (Gr.program ts m = (.mk 1 [] 0 0 [] [] R.1, R.2)) := Lib.hid (by rw [hR]; rfl)
  have HR := Lib.hid hR
  clear h hn0 hg hT hm hm2 hR
  go_enter Tryz.func13, Tryz.ntmps13
  go_upto_region 2 with fail
  generalize w.alloc (.cells #[.int .u8 1, .string ⟨#[]⟩, .int .i64 0, .int .u8 0, .int .u64 0, .slice none 0 0, .string ⟨#[]⟩, .string ⟨#[]⟩, .slice none 0 0, .int .u64 0] 75) = W at *
  go_loopw [] (fun wr => ∃ (q : Nat) (s2 : PS) (l : List Tr) (bs : List Nat), Hid (muOf ts s2 ≤ q) ∧ Hid (q ≤ m ∧ q + l.length ≤ m) ∧ Hid ((l ++ (Gr.mods ts m q s2).1, (Gr.mods ts m q s2).2) = R) ∧ Hid (Gr.Ok ts s2) ∧ Hid (NS (fun _ => True) w wr g ta tc ts B s2 w.heap.size w.heap.size 1 [] 0 0 [] [] l bs [] [] [])) (fun wr => muCell g ts.length wr)
  case atStart => exact ⟨m, _, [], [], Lib.hid (mu_top HM.out.1 _), Lib.hid ⟨Nat.le_refl _, Nat.le_refl _⟩, Lib.hid (by rw [HR.out]; rfl), Lib.hid ⟨Nat.zero_le _, Nat.zero_le _, fun _ => Nat.zero_le _⟩, HN0⟩
  case round =>
    clear HN0 HR
    obtain ⟨q, s2, l, bs, hq, hqn, hrd, hok2, hns⟩ := hrel
    rename World => wr
    have c0 := cell_of_row wr g 0 _ _ _ hns.out.pat.row
    replace c0 : wr.cell? ⟨g, 0, none⟩ = some (.slice ta ts.length tc) := c0
    have c1 := cell_of_row wr g 1 _ _ _ hns.out.pat.row
    replace c1 : wr.cell? ⟨g, 1, none⟩ = some (.int .i64 (s2.pos : Nat)) := c1
    have c3 := cell_of_row wr g 3 _ _ _ hns.out.pat.row
    replace c3 : wr.cell? ⟨g, 3, none⟩ = some (.bool s2.bad) := c3
    obtain ⟨b, hb⟩ : ∃ b, b = s2.bad := ⟨_, rfl⟩
    rw [← hb] at c3
    have HBB := Lib.hid hb.symm
    clear hb
    cases b with
    | true =>
      have HR2 : Hid ((l, s2) = R) := Lib.hid (by rw [← hrd.out, mods_end (.inl HBB.out), List.append_nil])
      clear hq hqn hrd hok2
      go_upto_region 2 with fail
      go_quiet (fail)
      have HPA := Lib.hid (hns.out.below (bdn (bre wr) nq))
      clear hns c0 c1 c3
      generalize wr.drewN nq = w3 at *
      go_wp2_with fail
      refine bodyPost_ret (v := .pointer (some ⟨w.heap.size, 0, none⟩)) (by simp [results, Tryz.results13, go_sem]) rfl ?_
      rw [HPR.out, ← HR2.out]
      exact ⟨_, _, rfl, HPA.out.done, HPA.out.pat, HPA.out.only⟩
    | false =>
      by_cases hlt : s2.pos < ts.length
      · have e1 : decide ((s2.pos : Int) < (ts.length : Int)) = true := decide_eq_true (by omega)
        have e1n : decide (s2.pos < ts.length) = true := decide_eq_true hlt
        obtain ⟨q', hq'⟩ : ∃ x, q = x + 1 := ⟨q - 1, by
          have h1 := hq.out
          unfold muOf at h1
          rw [HBB.out] at h1
          simp only [Bool.false_eq_true, if_false] at h1
          omega⟩
        subst hq'
        have HMD : Hid (muOf ts (Gr.modOf ts m s2).2 < muOf ts s2) := Lib.hid (mu_next HBB.out (Nat.le_of_lt hlt) mod_adv)
        have HRD : Hid ((l ++ [(Gr.modOf ts m s2).1] ++ (Gr.mods ts m q' (Gr.modOf ts m s2).2).1, (Gr.mods ts m q' (Gr.modOf ts m s2).2).2) = R) := Lib.hid (by rw [← hrd.out, mods_more HBB.out hlt, List.append_assoc]; rfl)
        have HMC : Hid (muOf ts (Gr.modOf ts m s2).2 < muCell g ts.length wr) := Lib.hid (by rw [hns.out.pat.mu]; exact HMD.out)
        have HOKM : Hid (Gr.Ok ts (Gr.modOf ts m s2).2) := Lib.hid ((Gr.modOf_keeps m).ok _ hok2.out)
        obtain ⟨M, hM⟩ : ∃ M, M = Gr.modOf ts m s2 := ⟨_, rfl⟩
        rw [← hM] at HMD HRD HMC HOKM
        have HME := Lib.hid (hM.trans (modOf_eq ts m s2))
        clear hM hrd hlt
        go_upto_region 2 with fail
        go_quiet (fail)
        have HPA := Lib.hid (hns.out.below (bdn (bre wr) nq))
        clear hns c0 c1 c3
        generalize wr.drewN nq = w3 at *
        go_wp2_with fail
        have hb5 := bal (bre w3) (.cells #[.string (mk8 Gr.wModule)] 9)
        have hr5 := heap_alloc_new w3 (.cells #[.string (mk8 Gr.wModule)] 9)
        have hng : w3.heap.size ≠ g := fun e => by have := (Array.getElem?_eq_some_iff.1 HPA.out.pat.row).1; omega
        have hn5 := HPA.out.below hb5
        refine (want_tok g ta tc ts s2 [Gr.wModule] w3.heap.size 1 1 _ hn5.pat rfl (by have := hok2.out.pos; omega) (fun j x hx => ?_) hng).mono ?_
        · match j, hx with
          | 0, hx => cases hx; exact cell_of_row _ _ 0 _ _ _ hr5
        rintro e w1 ⟨rfl, h1, ho1⟩
        have HN1 : Hid (NS (fun _ => True) w w1 g ta tc ts B (Gr.want1 ts s2 Gr.wModule) w.heap.size w.heap.size 1 [] 0 0 [] [] l bs [] [] []) := Lib.hid (hn5.call h1 ho1)
        clear hb5 hr5 hng hn5 h1 ho1 HPA
        have HO1 : Hid (Gr.Ok ts (Gr.want1 ts s2 Gr.wModule)) := Lib.hid (hok2.out.want1 _)
        go_wp2_with fail
        refine (name_tok g ta tc ts (Gr.want1 ts s2 Gr.wModule) _ HN1.out.pat (by have := HO1.out.pos; omega)).mono ?_
        rintro e w4 ⟨rfl, hp3, ho3⟩
        have HO2 : Hid (Gr.Ok ts (Gr.name ts (Gr.want1 ts s2 Gr.wModule)).2) := Lib.hid (Gr.name_keeps.ok _ HO1.out)
        have hn3 := HN1.out.call hp3 ho3
        obtain ⟨A, hA⟩ : ∃ A, A = Gr.name ts (Gr.want1 ts s2 Gr.wModule) := ⟨_, rfl⟩
        rw [← hA] at hn3 HME HO2 ⊢
        have hn4 : NS (Outer (fun _ => True) g w4.heap.size w.heap.size w.heap.size 1 [] 0 0 [] [] l bs) w (w4.alloc (.cells #[.int .u8 2, .string (mk8 A.1), .int .i64 0, .int .u8 0, .int .u64 0, .slice none 0 0, .string ⟨#[]⟩, .string ⟨#[]⟩, .slice none 0 0, .int .u64 0] 75)) g ta tc ts B A.2 w4.heap.size w4.heap.size 2 A.1 0 0 [] [] [] [] [] [] [] := hn3.nest 2 A.1 0 0 [] []
        have HLOW : Hid (w.heap.size ≤ w4.heap.size ∧ g < w.heap.size ∧ w.heap.size ≤ w.heap.size ∧ (∀ q, ta = some ⟨q, 0, none⟩ → q < w.heap.size) ∧ ∀ b ∈ w.heap.size :: bs, b < w4.heap.size) := Lib.hid ⟨hn3.only.size, hn3.low.2.1, Nat.le_refl _, hn3.hta, fun b hb => (hn3.op.new b hb).2⟩
        clear hA hp3 ho3 HN1 hn3
        go_upto_region 5 with fail
        generalize w4.alloc (.cells #[.int .u8 2, .string (mk8 A.1), .int .i64 0, .int .u8 0, .int .u64 0, .slice none 0 0, .string ⟨#[]⟩, .string ⟨#[]⟩, .slice none 0 0, .int .u64 0] 75) = w5 at *
        have HN5 := Lib.hid hn4
        clear hn4
        go_wp2_with fail
        have hb5 := bal (bre w5) (.cells #[.string (mk8 [123])] 9)
        have hr5 := heap_alloc_new w5 (.cells #[.string (mk8 [123])] 9)
        have hng : w5.heap.size ≠ g := fun e => by have := (Array.getElem?_eq_some_iff.1 HN5.out.pat.row).1; omega
        have hn5 := HN5.out.below hb5
        refine (want_tok g ta tc ts A.2 [[123]] w5.heap.size 1 1 _ hn5.pat rfl (by have := HO2.out.pos; omega) (fun j x hx => ?_) hng).mono ?_
        · match j, hx with
          | 0, hx => cases hx; exact cell_of_row _ _ 0 _ _ _ hr5
        rintro e w6 ⟨rfl, h1, ho1⟩
        have HN6 : Hid (NS (Outer (fun _ => True) g w4.heap.size w.heap.size w.heap.size 1 [] 0 0 [] [] l bs) w w6 g ta tc ts B (Gr.want1 ts A.2 [123]) w4.heap.size w4.heap.size 2 A.1 0 0 [] [] [] [] [] [] []) := Lib.hid (hn5.call h1 ho1)
        clear hb5 hr5 hng hn5 h1 ho1 HN5
        have HO3 : Hid (Gr.Ok ts (Gr.want1 ts A.2 [123])) := Lib.hid (HO2.out.want1 _)
        obtain ⟨S3, hS3⟩ : ∃ S3, S3 = Gr.want1 ts A.2 [123] := ⟨_, rfl⟩
        rw [← hS3] at HN6 HO3 HME
        obtain ⟨BD, hBD⟩ : ∃ BD, BD = Gr.till ts [125] true (Gr.funcOf ts m) m S3 := ⟨_, rfl⟩
        rw [← hBD] at HME
        have HBD := Lib.hid hBD
        clear hBD hS3
        have HBL : Hid (l.length < 3000000) := Lib.hid (by have := hqn.out; have := HM.out.2; omega)
        go_upto_block 2 with fail
        go_cut [] from 36 to 57 (fun w' => ∃ bs2, Hid (NS (Outer (fun _ => True) g w4.heap.size w.heap.size w.heap.size 1 [] 0 0 [] [] l bs) w w' g ta tc ts B BD.2 w4.heap.size w4.heap.size 2 A.1 0 0 [] [] BD.1 bs2 [] [] []))
        case first =>
          clear HRD HMC HMD HOKM HME hqn hq
          go_wp2_with fail
          go_loopw [] (fun wv => ∃ (qi : Nat) (s3 : PS) (li : List Tr) (bsi : List Nat), Hid (muOf ts s3 ≤ qi) ∧ Hid (qi ≤ m ∧ qi + li.length ≤ m) ∧ Hid ((li ++ (Gr.till ts [125] true (Gr.funcOf ts m) qi s3).1, (Gr.till ts [125] true (Gr.funcOf ts m) qi s3).2) = BD) ∧ Hid (Gr.Ok ts s3) ∧ Hid (NS (Outer (fun _ => True) g w4.heap.size w.heap.size w.heap.size 1 [] 0 0 [] [] l bs) w wv g ta tc ts B s3 w4.heap.size w4.heap.size 2 A.1 0 0 [] [] li bsi [] [] [])) (fun wv => muCell g ts.length wv)
          case atStart => exact ⟨m, _, [], [], Lib.hid (mu_top HM.out.1 _), Lib.hid ⟨Nat.le_refl _, Nat.le_refl _⟩, Lib.hid (by rw [HBD.out]; rfl), HO3, HN6⟩
          case round =>
            clear HN6 HO3 HBD
            obtain ⟨qi, s3, li, bsi, hqi, hqni, hrdi, hok3, hnsi⟩ := hrel
            rename World => wv
            have c3 := cell_of_row wv g 3 _ _ _ hnsi.out.pat.row
            replace c3 : wv.cell? ⟨g, 3, none⟩ = some (.bool s3.bad) := c3
            obtain ⟨b, hb⟩ : ∃ b, b = s3.bad := ⟨_, rfl⟩
            rw [← hb] at c3
            have HBBi := Lib.hid hb.symm
            clear hb
            cases b with
            | true =>
              have HR2 : Hid (BD = (li, s3)) := Lib.hid (by rw [← hrdi.out, till_bad _ _ HBBi.out, List.append_nil])
              have HPAi := hnsi
              clear hqi hqni hrdi hok3 hnsi
              go_wp2_with fail
              go_meet
              exact ⟨bsi, Lib.hid (by rw [HR2.out]; exact HPAi.out)⟩
            | false =>
              have hpl := hok3.out.here HBBi.out
              obtain ⟨q', hq'⟩ : ∃ x, qi = x + 1 := ⟨qi - 1, by
                have h1 := hqi.out
                unfold muOf at h1
                rw [HBBi.out] at h1
                simp only [Bool.false_eq_true, if_false] at h1
                omega⟩
              subst hq'
              have HMDi : Hid (muOf ts (Gr.funcOf ts m s3).2 < muOf ts s3) := Lib.hid (mu_next HBBi.out hpl func_adv)
              go_wp2_with fail
              refine (take_tok g ta tc ts s3 [125] wv hnsi.out.pat (by omega)).mono ?_
              rintro e w8 ⟨rfl, hp8, ho8⟩
              obtain ⟨b, hb⟩ : ∃ b, b = Gr.isT ts s3 [125] := ⟨_, rfl⟩
              rw [← hb]
              have HBV : Hid (Gr.isT ts s3 [125] = b) := Lib.hid hb.symm
              have hn2 := hnsi.out.call hp8 ho8
              clear hb hp8 ho8 c3
              cases b with
              | true =>
                rw [take_yes HBV.out] at hn2
                have HR2 : Hid (BD = (li, Gr.PS.adv s3)) := Lib.hid (by rw [← hrdi.out, till_end HBBi.out HBV.out, List.append_nil]; rfl)
                have HPAi := Lib.hid hn2
                clear hqi hqni hrdi hok3 hnsi hn2
                go_wp2_with fail
                go_meet
                exact ⟨bsi, Lib.hid (by rw [HR2.out]; exact HPAi.out)⟩
              | false =>
                rw [take_no HBV.out] at hn2
                have HRDi : Hid ((li ++ [(Gr.funcOf ts m s3).1] ++ (Gr.till ts [125] true (Gr.funcOf ts m) q' (Gr.funcOf ts m s3).2).1, (Gr.till ts [125] true (Gr.funcOf ts m) q' (Gr.funcOf ts m s3).2).2) = BD) := Lib.hid (by rw [← hrdi.out, till_more HBBi.out HBV.out, List.append_assoc]; rfl)
                have HMCi : Hid (muOf ts (Gr.funcOf ts m s3).2 < muCell g ts.length wv) := Lib.hid (by rw [hnsi.out.pat.mu]; exact HMDi.out)
                have HOKi : Hid (Gr.Ok ts (Gr.funcOf ts m s3).2) := Lib.hid ((Gr.funcOf_keeps m).ok _ hok3.out)
                have hn0 := hn2.below (bdr (bre w8))
                obtain ⟨W, hW⟩ : ∃ W, W = w8 := ⟨_, rfl⟩
                rw [← hW] at hn0 ⊢
                clear hW
                obtain ⟨kv, ps0, hrow0, -, -⟩ := hn0.box
                have hlow := hn0.low
                have hgtl := hn0.new w4.heap.size (List.mem_cons_self ..)
                have HROW : Hid (∀ w', Only W.drew w' (fun k => k = g) → w'.heap[w4.heap.size]? = some (.cells (boxRow 2 A.1 0 0 0 (.slice none 0 0) [] [] kv 0) 75 (0, 0))) := Lib.hid (fun w' ho => (ho.block w4.heap.size hgtl.2 (fun e => by omega)).trans hrow0)
                have HSS : Hid (∀ w', Only W.drew w' (fun k => k = g) → (Outer (fun _ => True) g w4.heap.size w.heap.size w.heap.size 1 [] 0 0 [] [] l bs) w' → (Outer (fun _ => True) g w4.heap.size w.heap.size w.heap.size 1 [] 0 0 [] [] l bs) w' ∧ w'.cell? ⟨w4.heap.size, 8, none⟩ = some kv) := Lib.hid (fun w' ho hi => ⟨hi, cell_of_row w' w4.heap.size 8 _ _ _ (HROW.out w' ho)⟩)
                have HN0 := Lib.hid hn0
                clear hn0 hrow0 hlow hgtl
                have hlen : li.length < 3000000 := by have := hqni.out; have := HM.out.2; omega
                clear hnsi hn2 hrdi
                go_upto_region 7 with fail
                refine region_anyZ (z := 9) (S := fun w' => (Outer (fun _ => True) g w4.heap.size w.heap.size w.heap.size 1 [] 0 0 [] [] l bs) w' ∧ w'.cell? ⟨w4.heap.size, 8, none⟩ = some kv) (by kernel_rfl) ?_
                refine anyZ_begin (fun hcl0 => ?_)
                refine anyZ_held (by exact HSS.out _ (Only.refl _ _) HN0.out.holds) (fun hHeld => ?_)
                -- 0: Op.move (Operand.tmp 4)
                refine' anyZ_pure (i := 0) (v := _) rfl (by rfl) (by kernel_rfl) (by kernel_rfl) (by kernel_rfl) hcl0 (fun _ _ _ h => h) (Or.inl ⟨by rfl, fun w _ => ?hy1⟩) (fun _ => hHeld) (fun hcl1 => ?ry1)
                case hy1 => (simp only [List.getElem_toArray, List.getElem_cons_zero]; first | (go_simp; with_reducible rfl) | (go_simp; done) | rfl)
                simp only [List.getElem_toArray, List.getElem_cons_zero, Act.put, List.setIfInBounds_toArray, List.set_cons_zero, List.set_cons_succ]
                -- 1: Op.move (Operand.tmp 4)
                refine' anyZ_pure (i := 1) (v := _) rfl (by rfl) (by kernel_rfl) (by kernel_rfl) (by kernel_rfl) hcl1 (fun _ _ _ h => h) (Or.inl ⟨by rfl, fun w _ => ?hy2⟩) (fun _ => hHeld) (fun hcl2 => ?ry2)
                case hy2 => (simp only [List.getElem_toArray, List.getElem_cons_succ, List.getElem_cons_zero]; first | (go_simp; with_reducible rfl) | (go_simp; done) | rfl)
                simp only [List.getElem_toArray, List.getElem_cons_succ, List.getElem_cons_zero, Act.put, List.setIfInBounds_toArray, List.set_cons_zero, List.set_cons_succ]
                -- 2: Op.nilCheck (Operand.tmp 47)
                refine' anyZ_pure (i := 2) (v := _) rfl (by rfl) (by kernel_rfl) (by kernel_rfl) (by kernel_rfl) hcl2 (fun _ _ _ h => h) (Or.inl ⟨by rfl, fun w _ => ?hy3⟩) (fun _ => hHeld) (fun hcl3 => ?ry3)
                case hy3 => (simp only [List.getElem_toArray, List.getElem_cons_succ, List.getElem_cons_zero]; first | (go_simp; with_reducible rfl) | (go_simp; done) | rfl)
                simp only [List.getElem_toArray, List.getElem_cons_succ, List.getElem_cons_zero, Act.put, List.setIfInBounds_toArray, List.set_cons_zero, List.set_cons_succ]
                -- 3: Op.fieldAddr 74 (Operand.tmp 48) 3
                refine' anyZ_pure (i := 3) (v := _) rfl (by rfl) (by kernel_rfl) (by kernel_rfl) (by kernel_rfl) hcl3 (fun _ _ _ h => h) (Or.inl ⟨by rfl, fun w _ => ?hy4⟩) (fun _ => hHeld) (fun hcl4 => ?ry4)
                case hy4 => (simp only [List.getElem_toArray, List.getElem_cons_succ, List.getElem_cons_zero]; first | (go_simp; with_reducible rfl) | (go_simp; done) | rfl)
                simp only [List.getElem_toArray, List.getElem_cons_succ, List.getElem_cons_zero, Act.put, List.setIfInBounds_toArray, List.set_cons_zero, List.set_cons_succ]
                -- 4: Op.load 54 (Operand.tmp 49)
                refine' anyZ_take (i := 4) (v := _) rfl (by rfl) (by kernel_rfl) (by kernel_rfl) (by kernel_rfl) hcl4 8 (by kernel_rfl) (by kernel_rfl) (fun _ _ _ h => h) (Or.inl ⟨by rfl, fun w hSw => ?hy5⟩) hHeld (fun hcl5 => ?ry5)
                case hy5 => (simp only [List.getElem_toArray, List.getElem_cons_succ, List.getElem_cons_zero]; obtain ⟨hSi, hS8⟩ := hSw; first | (go_simp; with_reducible rfl) | (go_simp; done) | rfl)
                simp only [List.getElem_toArray, List.getElem_cons_succ, List.getElem_cons_zero, Act.put, List.setIfInBounds_toArray, List.set_cons_zero, List.set_cons_succ]
                -- 5: Op.move (Operand.tmp 0)
                refine' anyZ_pure (i := 5) (v := _) rfl (by rfl) (by kernel_rfl) (by kernel_rfl) (by kernel_rfl) hcl5 (fun _ _ _ h => h) (Or.inl ⟨by rfl, fun w _ => ?hy6⟩) (fun _ => hHeld) (fun hcl6 => ?ry6)
                case hy6 => (simp only [List.getElem_toArray, List.getElem_cons_succ, List.getElem_cons_zero]; first | (go_simp; with_reducible rfl) | (go_simp; done) | rfl)
                simp only [List.getElem_toArray, List.getElem_cons_succ, List.getElem_cons_zero, Act.put, List.setIfInBounds_toArray, List.set_cons_zero, List.set_cons_succ]
                -- 6: Op.call { callee := Callee.value (Operand.func 28), args := 
                refine anyZ_one (i := 6) hcl6 (by kernel_rfl) (by simp only [List.getElem?_toArray, List.getElem?_cons_succ, List.getElem?_cons_zero]; rfl) (by rfl) (fun hcl7 K hK => ?_)
                go_simp
                refine (func_walk g ta tc ts B m s3 _ HM.out.1 HM.out.2 hok3.out HTK.out HN0.out.asks).mono ?_
                rintro e w2 ⟨v, b2, rfl, hd2, hp2, ho2⟩
                obtain ⟨gv, rfl⟩ := hd2.ptr
                have HN2 := Lib.hid (HN0.out.got hp2 ho2 hd2)
                have HO2 := Lib.hid ho2
                clear hd2 hp2 ho2
                refine hK _ _ (fun _ => ?_) ?_
                · exact HSS.out _ HO2.out HN2.out.holds
                clear hK K hHeld
                try simp only [Act.put, List.setIfInBounds_toArray, List.set_cons_zero, List.set_cons_succ]
                -- 7: Op.buildSlice 54 1 #[(0, Operand.tmp 52)]
                refine anyZ_one (i := 7) hcl7 (by kernel_rfl) (by simp only [List.getElem?_toArray, List.getElem?_cons_succ, List.getElem?_cons_zero]; rfl) (by rfl) (fun hcl8 K hK => ?_)
                go_simp
                refine hK _ _ (fun _ => ?_) ?_
                · exact HSS.out _ (HO2.out.trans (Only.of_below (bal (bre w2) _) _) fun _ _ h => h) (HN2.out.below (bal (bre w2) _)).holds
                clear hK K
                try simp only [Act.put, List.setIfInBounds_toArray, List.set_cons_zero, List.set_cons_succ]
                -- 8: Op.call { callee := Callee.builtin Builtin.append, args := #
                refine anyZ_one (i := 8) hcl8 (by kernel_rfl) (by simp only [List.getElem?_toArray, List.getElem?_cons_succ, List.getElem?_cons_zero]; rfl) (by rfl) (fun hcl9 K hK => ?_)
                have hb3 := bal (bre w2) (.cells #[.pointer (some ⟨gv, 0, none⟩)] 47)
                have hrow3 := HROW.out _ (HO2.out.trans (Only.of_below hb3 _) fun _ _ h => h)
                obtain ⟨ps, hown, hlen, hngt, hinv, happ⟩ := (HN2.out.below hb3).app hrow3
                have hDsz := (HN2.out.below hb3).new w4.heap.size (List.mem_cons_self ..)
                have hnews : ∀ j u, [Value.pointer (some ⟨gv, 0, none⟩)][j]? = some u → (w2.alloc (.cells #[.pointer (some ⟨gv, 0, none⟩)] 47)).cell? ((⟨w2.heap.size, 0, none⟩ : Addr).add j) = some u := fun j u hu => by
                  match j, hu with
                  | 0, hu => cases hu; exact cell_of_row _ _ 0 _ _ _ (heap_alloc_new w2 _)
                generalize w2.alloc (.cells #[.pointer (some ⟨gv, 0, none⟩)] 47) = W3 at *
                refine wp_app' _ _ 53 47 1 8 rowPtr rfl _ _ ps.length ps rfl hown ⟨w2.heap.size, 0, none⟩ 1 1 [.pointer (some ⟨gv, 0, none⟩)] rfl rfl hnews (by simp [Value.oneCell']) (by unfold maxLen; omega) (by omega) (Nat.le_of_lt (Nat.lt_of_le_of_lt hDsz.1 hDsz.2)) ?_
                intro v8 w8 k8 hg8 hs8
                have HN8 := Lib.hid (happ w8 v8 hg8 hs8 (by unfold OwnPtrs; rw [List.length_append, List.length_singleton]; exact k8))
                obtain ⟨a8, c8, rfl, -⟩ := ownsRow_lies k8
                have hr8 := ((Only.of_grown hg8).block w4.heap.size hDsz.2 hngt).trans hrow3
                have HI8 := Lib.hid (hinv w8 hg8)
                have HR8 := Lib.hid hr8
                clear hb3 hrow3 hown hlen hngt hinv happ hDsz hnews hg8 hs8 k8 hr8
                refine hK _ _ (fun _ => ?_) ?_
                · exact ⟨HI8.out, cell_of_row w8 w4.heap.size 8 _ _ _ HR8.out⟩
                clear hK K
                try simp only [Act.put, List.setIfInBounds_toArray, List.set_cons_zero, List.set_cons_succ]
                refine anyZ_chain_at (by kernel_rfl) ?_
                simp only [List.drop_succ_cons, List.drop_zero]
                have hf8 := fun i => frozen_of_row w8 w4.heap.size i _ _ HR8.out
                have hk8 := cell_of_row w8 w4.heap.size 8 _ _ _ HR8.out
                obtain ⟨bs', hn8⟩ := HN8.out
                have HNZ := Lib.hid hn8
                clear HR8 HI8 HN8 hn8 HN2 HN0
                go_wp2_with fail
                go_roundw
                case rel => exact ⟨q', _, _, bs', Lib.hid (by have := HMDi.out; have := hqi.out; omega), Lib.hid (by have := hqni.out; rw [List.length_append, List.length_singleton]; omega), HRDi, HOKi, HNZ⟩
                case measure => (rw [HNZ.out.pat.mu]; exact HMCi.out)
        case rest =>
          obtain ⟨bsb, HNb⟩ := hcut
          clear HN6 HO3 HBD
          have hn0 := NS.unnest HNb.out HLOW.out.1 HLOW.out.2.1 HLOW.out.2.2.1 HLOW.out.2.2.2.1 HLOW.out.2.2.2.2
          have hME : M = (Tr.mk 2 A.1 0 0 [] [] BD.1, BD.2) := HME.out
          have hb3 := bal (bre wc) (.cells #[.pointer (some ⟨w4.heap.size, 0, none⟩)] 47)
          have hn3 := hn0.below hb3
          obtain ⟨kv, ps0, hrow0, -, -⟩ := hn0.box
          have hk0 := cell_of_row wc w.heap.size 8 _ _ _ hrow0
          replace hk0 : wc.cell? ⟨w.heap.size, 8, none⟩ = some kv := hk0
          have hlt0 := (hn0.new w.heap.size (List.mem_cons_self ..)).2
          have hrow3 := (hb3.block w.heap.size hlt0).trans hrow0
          obtain ⟨ps, hown, hlen, hngt, hinv, happ⟩ := hn3.app hrow3
          have hDsz := hn3.new w.heap.size (List.mem_cons_self ..)
          have hnews : ∀ j u, [Value.pointer (some ⟨w4.heap.size, 0, none⟩)][j]? = some u → (wc.alloc (.cells #[.pointer (some ⟨w4.heap.size, 0, none⟩)] 47)).cell? ((⟨wc.heap.size, 0, none⟩ : Addr).add j) = some u := fun j u hu => by
            match j, hu with
            | 0, hu => cases hu; exact cell_of_row _ _ 0 _ _ _ (heap_alloc_new wc _)
          have HAPP := Lib.hid happ
          have HOWN := Lib.hid hown
          have HNEWS := Lib.hid hnews
          have HROW3 := Lib.hid hrow3
          have HNG := Lib.hid hngt
          have HDSZ := Lib.hid hDsz
          have HPL : Hid (ps.length < 3000000) := Lib.hid (by rw [hlen]; exact HBL.out)
          have HME2 := Lib.hid hME
          clear hb3 hn3 hn0 hrow0 hlt0 hrow3 hown hlen hngt hinv happ hDsz hnews hME HME HNb
          go_wp2_with (at_builtin; refine wpList_app' rfl _ _ 53 47 1 8 rowPtr rfl _ _ ps.length ps rfl HOWN.out _ 1 1 [.pointer (some ⟨w4.heap.size, 0, none⟩)] rfl rfl HNEWS.out (by simp [Value.oneCell']) (by have := HPL.out; unfold maxLen; omega) (by have := HPL.out; omega) (Nat.le_of_lt (Nat.lt_of_le_of_lt HDSZ.out.1 HDSZ.out.2)) ?_; intro v8 w8 k8 hg8 hs8; have HN8 := Lib.hid (HAPP.out w8 v8 hg8 hs8 (by unfold OwnPtrs; rw [List.length_append, List.length_singleton]; exact k8)); obtain ⟨a8, c8, rfl, -⟩ := ownsRow_lies k8; have hr8 := ((Only.of_grown hg8).block w.heap.size HDSZ.out.2 HNG.out).trans HROW3.out; have hf8 := fun i => frozen_of_row w8 w.heap.size i _ _ hr8; have hk8 := cell_of_row w8 w.heap.size 8 _ _ _ hr8; clear hr8 k8 hg8 hs8)
          obtain ⟨bs', hn8⟩ := HN8.out
          have HNZ := Lib.hid hn8
          clear HN8 hn8
          go_roundw
          case rel => exact ⟨q', M.2, l ++ [M.1], bs', Lib.hid (by have := HMD.out; have := hq.out; omega), Lib.hid (by have := hqn.out; rw [List.length_append, List.length_singleton]; omega), HRD, HOKM, Lib.hid (by rw [HME2.out]; exact HNZ.out)⟩
          case measure => (rw [HNZ.out.pat.mu]; have := HMC.out; rw [HME2.out] at this; exact this)
      · have e1 : decide ((s2.pos : Int) < (ts.length : Int)) = false := decide_eq_false (by omega)
        have e1n : decide (s2.pos < ts.length) = false := decide_eq_false hlt
        have HR2 : Hid ((l, s2) = R) := Lib.hid (by rw [← hrd.out, mods_end (.inr (Nat.le_of_not_lt hlt)), List.append_nil])
        clear hq hqn hrd hok2
        go_upto_region 2 with fail
        go_quiet (fail)
        have HPA := Lib.hid (hns.out.below (bdn (bre wr) nq))
        clear hns c0 c1 c3
        generalize wr.drewN nq = w3 at *
        go_wp2_with fail
        refine bodyPost_ret (v := .pointer (some ⟨w.heap.size, 0, none⟩)) (by simp [results, Tryz.results13, go_sem]) rfl ?_
        rw [HPR.out, ← HR2.out]
        exact ⟨_, _, rfl, HPA.out.done, HPA.out.pat, HPA.out.only⟩
end Go.Proofs.YtljdphpbalioaaaGreatDoor
