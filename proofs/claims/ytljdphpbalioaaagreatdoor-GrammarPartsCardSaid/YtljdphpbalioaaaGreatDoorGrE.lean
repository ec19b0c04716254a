/- Walk: the parser's lists: things with a comma between, up to a sign. -/
import Derived.Test.YtljdphpbalioaaaGreatDoorGrD
namespace Go.Proofs.YtljdphpbalioaaaGreatDoor
open Go.RowKit

/-- how far it may still go -/
def muOf (ts : List Tok) (s : PS) : Nat := if s.bad then 0 else ts.length + 1 - s.pos
def muCell (g N : Nat) (w : World) : Nat := match w.cell? ⟨g, 3, none⟩ with | some (.bool true) => 0 | _ => N + 1 - (intOf ((w.cell? ⟨g, 1, none⟩).getD undef)).toNat
theorem PAt.mu {w : World} {g : Nat} {ta : Option Addr} {tc : Nat} {ts : List Tok} {s : PS} (h : PAt w g ta tc ts s) : muCell g ts.length w = muOf ts s := by
  have c1 := cell_of_row w g 1 _ _ _ h.row
  have c3 := cell_of_row w g 3 _ _ _ h.row
  replace c1 : w.cell? ⟨g, 1, none⟩ = some (.int .i64 (s.pos : Nat)) := c1
  replace c3 : w.cell? ⟨g, 3, none⟩ = some (.bool s.bad) := c3
  unfold muCell muOf
  rw [c3, c1]
  cases s.bad with
  | true => rfl
  | false => simp [intOf]
theorem mu_want1 {ts : List Tok} {s s2 : PS} {x : List UInt8} (hb : s.bad = false) (hp : s.pos ≤ ts.length) (h2 : s.pos ≤ s2.pos) : muOf ts (Gr.want1 ts s2 x) < muOf ts s := by
  unfold muOf Gr.want1
  rw [hb]
  cases hi : Gr.isT ts s2 x with
  | true =>
    show (if (Gr.PS.adv s2).bad then 0 else ts.length + 1 - (Gr.PS.adv s2).pos) < ts.length + 1 - s.pos
    have h3 : (Gr.PS.adv s2).pos = s2.pos + 1 := rfl
    rw [h3]
    split <;> omega
  | false =>
    show (0 : Nat) < ts.length + 1 - s.pos
    omega
/-- what is asked of the things: they keep the word J, and don't go back -/
structure Goes {α : Type} (ts : List Tok) (J : PS → Prop) (f : PS → α × PS) : Prop where
  pos : ∀ s, J s → s.pos ≤ 2000000 ∧ (s.bad = false → s.pos ≤ ts.length)
  adv : ∀ s x, J s → Gr.isT ts s x = true → J (Gr.PS.adv s)
  fail : ∀ s, J s → J (Gr.PS.fail s)
  next : ∀ s, J s → s.bad = false → J (f s).2 ∧ s.pos ≤ (f s).2.pos
theorem Goes.want1 {α : Type} {ts : List Tok} {J : PS → Prop} {f : PS → α × PS} (h : Goes ts J f) {s : PS} (x : List UInt8) (hj : J s) : J (Gr.want1 ts s x) := by
  unfold Gr.want1
  split
  · rename_i hi; exact h.adv s x hj hi
  · exact h.fail s hj

set_option maxRecDepth 20000 in
set_option maxHeartbeats 1600000 in
theorem list_tok {α : Type} (g : Nat) (ta : Option Addr) (tc : Nat) (ts : List Tok) (s : PS) (en : List UInt8) (F : Nat) (caps : Array Value) (f : PS → α × PS) (n : Nat) (I : List α → World → Prop) (J : PS → Prop) (l0 : List α) (w : World)
    (h : PAt w g ta tc ts s) (hF : ∀ w', Sem.run Tryz.prog (callFunc F caps) w' = .ok (.enter F caps) w') (hi : I l0 w) (hj : J s) (hG : Goes ts J f) (hn : muOf ts s ≤ n)
    (hI : ∀ l w1 w2 s', I l w1 → Only w1 w2 (fun k => k = g) → PAt w2 g ta tc ts s' → I l w2)
    (hcall : ∀ l s w', PAt w' g ta tc ts s → J s → s.bad = false → I l w' → muOf ts s ≤ n → l.length < l0.length + n → Calls Tryz.prog F caps w' fun e w2 => e = .returned (.tuple #[]) ∧ PAt w2 g ta tc ts (f s).2 ∧ I (l ++ [(f s).1]) w2) :
    Calls Tryz.prog 46 #[.pointer (some ⟨g, 0, none⟩), .string (mk8 en), .func (.func F) #[] caps] w fun e w' => e = .returned (.tuple #[]) ∧ PAt w' g ta tc ts (Gr.listOf ts en f n s).2 ∧ I (l0 ++ (Gr.listOf ts en f n s).1) w' := by
  have H := Lib.hid h
  have HC := Lib.hid hcall
  have HI := Lib.hid hI
  have HG := Lib.hid hG
  have HI0 := Lib.hid hi
  have HJ := Lib.hid hj
  have hp := (hG.pos s hj).1
  clear h hcall hI hi hj hG
  obtain ⟨R, hR⟩ : ∃ R, R = Gr.listOf ts en f n s := ⟨_, rfl⟩
  rw [← hR]
  go_enter Tryz.func46, Tryz.ntmps46
  go_wp2_with fail
  refine (take_tok g ta tc ts s en w H.out (by omega)).mono ?_
  rintro e w1 ⟨rfl, h1, ho1⟩
  obtain ⟨b, hb⟩ : ∃ b, b = Gr.isT ts s en := ⟨_, rfl⟩
  rw [← hb]
  have HBV : Hid (Gr.isT ts s en = b) := Lib.hid hb.symm
  have HI1 := Lib.hid (HI.out _ _ _ _ HI0.out ho1 h1)
  have H1 := Lib.hid h1
  clear hb h1 ho1 H HI0
  cases b with
  | true =>
    have HR : Hid (R = ([], Gr.PS.adv s)) := Lib.hid (by rw [hR]; unfold Gr.listOf; rw [HBV.out]; rfl)
    have H2 : Hid (PAt w1 g ta tc ts (Gr.PS.adv s)) := Lib.hid (by have h1 := H1.out; unfold Gr.take at h1; rw [HBV.out] at h1; exact h1)
    clear H1 hR
    go_wp2_with fail
    refine bodyPost_ret (v := .tuple #[]) (by simp [results, Tryz.results46, go_sem]) rfl ?_
    exact ⟨rfl, by rw [HR.out]; exact H2.out, by rw [HR.out, List.append_nil]; exact HI1.out⟩
  | false =>
    have HR : Hid (R = Gr.rounds ts en f n s) := Lib.hid (by rw [hR]; unfold Gr.listOf; rw [HBV.out]; rfl)
    have H2 : Hid (PAt w1 g ta tc ts s) := Lib.hid (by have h1 := H1.out; unfold Gr.take at h1; rw [HBV.out] at h1; exact h1)
    clear H1 hR
    go_wp2_with fail
    go_loopw [] (fun wr => ∃ (m : Nat) (s2 : PS) (l : List α), Hid (muOf ts s2 ≤ m) ∧ Hid (m ≤ n ∧ m + l.length ≤ l0.length + n) ∧ Hid ((l ++ (Gr.rounds ts en f m s2).1, (Gr.rounds ts en f m s2).2) = (l0 ++ R.1, R.2)) ∧ Hid (PAt wr g ta tc ts s2) ∧ Hid (J s2) ∧ Hid (I l wr)) (fun wr => muCell g ts.length wr)
    case atStart => exact ⟨n, s, l0, Lib.hid hn, Lib.hid ⟨Nat.le_refl _, by omega⟩, Lib.hid (by rw [HR.out]), H2, HJ, HI1⟩
    case round =>
      clear H2 HI1
      obtain ⟨m, s2, l, hm, hmn, hrd, hpa, hj, hil⟩ := hrel
      rename World => wr
      have c3 := cell_of_row wr g 3 _ _ _ hpa.out.row
      replace c3 : wr.cell? ⟨g, 3, none⟩ = some (.bool s2.bad) := c3
      obtain ⟨b, hb⟩ : ∃ b, b = s2.bad := ⟨_, rfl⟩
      rw [← hb] at c3
      have HBB := Lib.hid hb
      clear hb
      cases b with
      | true =>
        have HR2 : Hid (R = R ∧ l = l0 ++ R.1 ∧ s2 = R.2) := Lib.hid (by
          have h1 := hrd.out
          have e : Gr.rounds ts en f m s2 = ([], s2) := by
            cases m with
            | zero => rfl
            | succ m => unfold Gr.rounds; rw [← HBB.out]; rfl
          rw [e, List.append_nil] at h1
          exact ⟨rfl, (congrArg Prod.fst h1), (congrArg Prod.snd h1)⟩)
        have HPA := hpa
        have HIL := hil
        clear hm hmn hrd hpa hj hil
        go_wp2_with fail
        refine bodyPost_end (results_none rfl _ _ _) rfl ?_
        exact ⟨rfl, by rw [← HR2.out.2.2]; exact HPA.out, by rw [← HR2.out.2.1]; exact HIL.out⟩
      | false =>
        have hps := HG.out.pos s2 hj.out
        have hpl := hps.2 HBB.out.symm
        have hmu : 1 ≤ muOf ts s2 := by unfold muOf; rw [← HBB.out]; show 1 ≤ ts.length + 1 - s2.pos; omega
        obtain ⟨m', hm'⟩ : ∃ q, m = q + 1 := ⟨m - 1, by have := hm.out; omega⟩
        subst hm'
        have HUN : Hid (Gr.rounds ts en f (m' + 1) s2 = if Gr.isT ts (f s2).2 en then ([(f s2).1], Gr.PS.adv (f s2).2) else ((f s2).1 :: (Gr.rounds ts en f m' (Gr.want1 ts (f s2).2 [44])).1, (Gr.rounds ts en f m' (Gr.want1 ts (f s2).2 [44])).2)) := Lib.hid (by
          rw [Gr.rounds, ← HBB.out]; rfl)
        have hnx := HG.out.next s2 hj.out HBB.out.symm
        have hps3 := (HG.out.pos _ hnx.1).1
        have HNX := Lib.hid hnx
        go_wp2_with fail
        refine (HC.out l s2 wr hpa.out hj.out HBB.out.symm hil.out (Nat.le_trans hm.out hmn.out.1) (by have := hmn.out.2; omega)).mono ?_
        rintro e w2 ⟨rfl, hpa2, hil2⟩
        have HPA2 := Lib.hid hpa2
        have HML : Hid (muOf ts (Gr.want1 ts (f s2).2 [44]) < muCell g ts.length wr) := Lib.hid (by rw [hpa.out.mu]; exact mu_want1 HBB.out.symm hpl hnx.2)
        have HIL2 := Lib.hid hil2
        have HMU : Hid (muOf ts (Gr.want1 ts (f s2).2 [44]) ≤ m') := Lib.hid (by
          have := mu_want1 (x := [44]) HBB.out.symm hpl hnx.2
          have := hm.out
          omega)
        clear hpa2 hil2 c3 hil hpa hj hnx
        go_wp2_with fail
        refine (take_tok g ta tc ts (f s2).2 en w2 HPA2.out (by omega)).mono ?_
        rintro e w3 ⟨rfl, h3, ho3⟩
        obtain ⟨b, hb⟩ : ∃ b, b = Gr.isT ts (f s2).2 en := ⟨_, rfl⟩
        rw [← hb]
        have HBV3 : Hid (Gr.isT ts (f s2).2 en = b) := Lib.hid hb.symm
        have HI3 := Lib.hid (HI.out _ _ _ _ HIL2.out ho3 h3)
        have H3 := Lib.hid h3
        clear hb h3 ho3 HPA2 HIL2
        cases b with
        | true =>
          have HR3 : Hid (l ++ [(f s2).1] = l0 ++ R.1 ∧ Gr.PS.adv (f s2).2 = R.2) := Lib.hid (by
            have h1 := hrd.out
            rw [HUN.out, HBV3.out] at h1
            exact ⟨congrArg Prod.fst h1, congrArg Prod.snd h1⟩)
          have H4 : Hid (PAt w3 g ta tc ts (Gr.PS.adv (f s2).2)) := Lib.hid (by have h1 := H3.out; unfold Gr.take at h1; rw [HBV3.out] at h1; exact h1)
          clear H3 hrd HUN
          go_wp2_with fail
          refine bodyPost_ret (v := .tuple #[]) (by simp [results, Tryz.results46, go_sem]) rfl ?_
          exact ⟨rfl, by rw [← HR3.out.2]; exact H4.out, by rw [← HR3.out.1]; exact HI3.out⟩
        | false =>
          have HRD : Hid ((l ++ [(f s2).1] ++ (Gr.rounds ts en f m' (Gr.want1 ts (f s2).2 [44])).1, (Gr.rounds ts en f m' (Gr.want1 ts (f s2).2 [44])).2) = (l0 ++ R.1, R.2)) := Lib.hid (by
            have h1 := hrd.out
            rw [HUN.out, HBV3.out] at h1
            rw [List.append_assoc]
            exact h1)
          have H4 : Hid (PAt w3 g ta tc ts (f s2).2) := Lib.hid (by have h1 := H3.out; unfold Gr.take at h1; rw [HBV3.out] at h1; exact h1)
          have HJ4 : Hid (J (Gr.want1 ts (f s2).2 [44])) := Lib.hid (HG.out.want1 _ HNX.out.1)
          clear H3 hrd HUN
          go_wp2_with fail
          have hb5 := bal (bre w3) (.cells #[.string (mk8 [44])] 9)
          have hr5 := heap_alloc_new w3 (.cells #[.string (mk8 [44])] 9)
          have hng : w3.heap.size ≠ g := fun e => by have := (Array.getElem?_eq_some_iff.1 H4.out.row).1; omega
          refine (want_tok g ta tc ts (f s2).2 [[44]] w3.heap.size 1 1 _ (H4.out.below hb5) rfl (by omega) (fun j x hx => ?_) hng).mono ?_
          · match j, hx with
            | 0, hx => cases hx; exact cell_of_row _ _ 0 _ _ _ hr5
          rintro e w6 ⟨rfl, h6, ho6⟩
          have H6 : Hid (PAt w6 g ta tc ts (Gr.want1 ts (f s2).2 [44])) := Lib.hid h6
          have HI6 := Lib.hid (HI.out _ _ _ _ HI3.out ((Only.of_below hb5 (fun k => k = g)).trans ho6 fun _ _ h => h) h6)
          clear hb5 hr5 hng h6 ho6 H4
          go_wp2_with fail
          go_roundw
          case rel => exact ⟨m', _, _, HMU, Lib.hid (by have := hmn.out; rw [List.length_append, List.length_singleton]; omega), HRD, H6, HJ4, HI6⟩
          case measure => (rw [H6.out.mu]; exact HML.out)
end Go.Proofs.YtljdphpbalioaaaGreatDoor
