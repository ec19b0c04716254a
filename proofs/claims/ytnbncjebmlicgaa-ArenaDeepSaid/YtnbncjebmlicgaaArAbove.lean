/- Above: the nearest of a kind: plainly, and the walk. -/
import Derived.Test.YtnbncjebmlicgaaArParent
namespace Go.Proofs.Ytnbncjebmlicgaa
open Go.RowKit

/-- how many entries a map's block holds -/
def mapSize (w : World) (b : Nat) : Nat := match w.heap[b]? with | some (.map es _) => es.size | _ => 0
theorem MapU.size {P : Program} {k : TypeId} {w : World} {b : Nat} {l : List (Nat × Value)} (h : MapU P k w b l) : mapSize w b = l.length := by
  obtain ⟨es, clock, hb, F, -, hD⟩ := h.1
  unfold mapSize
  rw [hb]
  have h1 := congrArg Maps.size hD
  rw [size_dU] at h1
  have h2 : Maps.size (DataW.map ((es.toList.map (Go.WideElems.rg P k rawE)).foldr DataW.insert [])) = es.size := by
    show (List.foldr DataW.insert [] (es.toList.map (Go.WideElems.rg P k rawE))).length = es.size
    rw [length_sorted]
    simp
  show es.size = _
  omega

theorem sub_len {α β : Type} {sl : List (Nat × α)} {l : List (Nat × β)} (hs : AscA sl) (hl : AscA l) (h : ∀ p ∈ sl, (getA l p.1).isSome = true) : sl.length ≤ l.length := by
  have h1 := hs.1
  clear hs
  induction sl generalizing l with
  | nil => exact Nat.zero_le _
  | cons p r ih =>
    have hp := List.pairwise_cons.1 h1
    obtain ⟨v, hv⟩ := Option.isSome_iff_exists.1 (h p (List.mem_cons_self ..))
    have hd := length_del_some hl hv
    have := ih (hl.del p.1) (fun q hq => by rw [getA_del_other _ _ _ (by have := hp.1 q hq; omega)]; exact h q (List.mem_cons_of_mem _ hq)) hp.2
    rw [List.length_cons]
    omega

def aboveF (l : List (Nat × Nd)) (kind : Nat) : Nat → List (Nat × Value) → Nat → Nat
  | 0, _, _ => 0
  | f + 1, sl, x => if x = 0 ∨ (getA sl x).isSome = true then 0 else match getA l x with
    | none => 0
    | some n => if n.kind = kind then x else aboveF l kind f (putA sl x (.bool true)) (parOf l x).1
/-- the nearest one of a kind, on the way up -/
def aboveOf (l : List (Nat × Nd)) (x kind : Nat) : Nat := aboveF l kind (l.length + 1) [] x

theorem parOf_lt {l : List (Nat × Nd)} (ha : AscA l) (x : Nat) : (parOf l x).1 < 18446744073709551616 := by
  unfold parOf
  cases h : l.find? (fun p => p.2.kids.contains x) with
  | none => exact (by decide : (0 : Nat) < 18446744073709551616)
  | some p => exact ha.2 p (List.mem_of_find?_eq_some h)

/-- what stands on the way up -/
structure AbSt (w wr : World) (g b bs : Nat) (l : List (Nat × Nd)) (kind R : Nat) (sl : List (Nat × Value)) (x : Nat) : Prop where
  ar : ArAt wr g b l
  mp : MapU Try.prog 26 wr bs sl
  tr : ∀ p ∈ sl, p.2 = .bool true
  sub : ∀ p ∈ sl, (getA l p.1).isSome = true
  lt : x < 18446744073709551616
  is : aboveF l kind (l.length + 1 - sl.length) sl x = R
  new : w.heap.size ≤ bs
  bel : Below w.heap.size w wr
theorem AbSt.below {w wr w' : World} {g b bs kind R x : Nat} {l : List (Nat × Nd)} {sl : List (Nat × Value)} (h : AbSt w wr g b bs l kind R sl x) (hb : Below wr.heap.size wr w') : AbSt w w' g b bs l kind R sl x :=
  ⟨h.ar.below hb, h.mp.below hb, h.tr, h.sub, h.lt, h.is, h.new, btr h.bel hb⟩
theorem AbSt.len {w wr : World} {g b bs kind R x : Nat} {l : List (Nat × Nd)} {sl : List (Nat × Value)} (h : AbSt w wr g b bs l kind R sl x) : sl.length ≤ l.length := sub_len h.mp.2 h.ar.asc h.sub
theorem AbSt.seen {w wr : World} {g b bs kind R x : Nat} {l : List (Nat × Nd)} {sl : List (Nat × Value)} (h : AbSt w wr g b bs l kind R sl x) :
    (Instr.lookup 74 (.map (some bs)) (.int .u64 x) false).run Try.prog wr = .ok (.bool (getA sl x).isSome) wr := by
  have h1 := h.mp.look1 (t := 74) Try.underlying26 Try.underlying74 (z := .bool false) (by kernel_rfl) x h.lt
  cases hg : getA sl x with
  | none => rw [hg] at h1; exact h1
  | some v =>
    rw [hg] at h1
    have := h.tr _ (getA_mem hg)
    change v = _ at this
    subst this
    exact h1
theorem AbSt.step {w wr w' : World} {g b bs kind R x : Nat} {l : List (Nat × Nd)} {sl : List (Nat × Value)} {n : Nd} (h : AbSt w wr g b bs l kind R sl x) (hx : x ≠ 0) (hs : getA sl x = none) (hn : getA l x = some n) (hk : n.kind ≠ kind)
    (hm : MapU Try.prog 26 w' bs (putA sl x (.bool true))) (ho : Only wr w' (fun q => q = bs)) : AbSt w w' g b bs l kind R (putA sl x (.bool true)) (parOf l x).1 := by
  obtain ⟨es, c, hbm⟩ := h.mp.isMap
  have hlen : (putA sl x (.bool true)).length = sl.length + 1 := by unfold putA; rw [length_insA, delA_not _ _ hs]
  refine ⟨h.ar.only ho (fun e => ?_) (fun e => ?_) (fun k hk' cs fr e => by subst hk'; rw [hbm] at e; cases e), hm, fun p hp => ?_, fun p hp => ?_, parOf_lt h.ar.asc x, ?_, h.new, h.bel.trans (ho.below w.heap.size h.bel.size fun i hi e => by have := h.new; omega)⟩
  · subst e; rw [h.ar.box] at hbm; cases hbm
  · obtain ⟨vl, h1, h2⟩ := h.ar.ex
    subst e
    obtain ⟨es1, c1, hb1, F1, -, hD1⟩ := h1.1
    obtain ⟨es2, c2, hb2, F2, -, hD2⟩ := h.mp.1
    rw [hb1] at hb2
    cases hb2
    have hd : dU vl = dU sl := hD1.trans hD2.symm
    have hv : vl = sl := by
      have h3 : entU vl = entU sl := by injection hd
      have h4 : ∀ (a c : List (Nat × Value)), entU a = entU c → a = c := by
        intro a
        induction a with
        | nil => intro c h; cases c with
          | nil => rfl
          | cons y r => cases h
        | cons y r ih => intro c h; cases c with
          | nil => cases h
          | cons y' r' =>
            have h5 := List.cons.inj h
            have h6 : kU y.1 = kU y'.1 ∧ (DataW.held y.2 : DataW Value) = .held y'.2 := by simpa using h5.1
            have h7 : y.1 = y'.1 := by have := h6.1; unfold kU at this; injection this with _ h8; omega
            have h8 : y.2 = y'.2 := by have := h6.2; injection this
            rw [ih r' h5.2, Prod.ext h7 h8]
      exact h4 _ _ h3
    rcases h2.get x with ⟨-, h9⟩ | ⟨a, c, h9, -⟩
    · rw [hn] at h9; cases h9
    · rw [hv, hs] at h9; cases h9
  · rcases mem_insA.1 hp with rfl | hp
    · rfl
    · exact h.tr p (List.mem_filter.1 hp).1
  · rcases mem_insA.1 hp with rfl | hp
    · show (getA l x).isSome = true
      rw [hn]; rfl
    · exact h.sub p (List.mem_filter.1 hp).1
  · have h1 := h.is
    have h2 := h.len
    rw [hlen, show l.length + 1 - sl.length = (l.length + 1 - (sl.length + 1)) + 1 by omega] at *
    rw [aboveF, if_neg (by rw [hs]; rintro (h | h); exact hx h; cases h), hn] at h1
    simp only at h1
    rwa [if_neg hk] at h1
theorem AbSt.stop {w wr : World} {g b bs kind R x : Nat} {l : List (Nat × Nd)} {sl : List (Nat × Value)} (h : AbSt w wr g b bs l kind R sl x) : (x = 0 ∨ (getA sl x).isSome = true → R = 0) ∧ (x ≠ 0 → getA sl x = none → (getA l x = none → R = 0) ∧ ∀ n, getA l x = some n → n.kind = kind → R = x) := by
  have h1 := h.is
  have h2 := h.len
  rw [show l.length + 1 - sl.length = (l.length - sl.length) + 1 by omega, aboveF] at h1
  refine ⟨fun hh => by rw [if_pos hh] at h1; exact h1.symm, fun hx hs => ?_⟩
  rw [if_neg (by rw [hs]; rintro (h | h); exact hx h; cases h)] at h1
  refine ⟨fun hn => by rw [hn] at h1; exact h1.symm, fun n hn hk => ?_⟩
  rw [hn] at h1
  simp only at h1
  rw [if_pos hk] at h1
  exact h1.symm

set_option maxRecDepth 10000 in
set_option maxHeartbeats 1600000 in
theorem arabove_any (g b : Nat) (l : List (Nat × Nd)) (x kind : Nat) (w : World) (h : ArAt w g b l) (hx : x < 18446744073709551616) :
    Calls Try.prog 13 #[.pointer (some ⟨g, 0, none⟩), .int .u64 x, .int .u8 kind] w fun e w' => e = .returned (.int .u64 (aboveOf l x kind)) ∧ Below w.heap.size w w' := by
  obtain ⟨R, hR⟩ : ∃ R, R = aboveOf l x kind := ⟨_, rfl⟩
  rw [← hR]
  have hmm := @run_makeMap Try.prog
  have hm0 : MapU Try.prog 26 (w.alloc (.map #[] 0)) w.heap.size [] := MapU.new w
  have hb0 := bal (bre w) (.map #[] 0)
  have hst : AbSt w (w.alloc (.map #[] 0)) g b w.heap.size l kind R [] x := ⟨h.below hb0, hm0, (fun p hp => nomatch hp), (fun p hp => nomatch hp), hx, hR.symm, Nat.le_refl _, hb0⟩
  have HST := Lib.hid hst
  clear h hx hR hm0 hb0 hst
  go_enter Try.func13, Try.ntmps13
  go_wp2_with fail
  go_loopw [1, 8, 9] (fun i _ _ wr => ∃ (sl : List (Nat × Value)) (x : Nat), i = .int .u64 x ∧ Hid (AbSt w wr g b w.heap.size l kind R sl x)) (fun _ _ _ wr => l.length + 1 - mapSize wr w.heap.size)
  case atStart => exact ⟨[], x, rfl, HST⟩
  case round =>
    clear HST hmm
    obtain ⟨sl, y, rfl, hst⟩ := hrel
    by_cases hy0 : y = 0
    · subst hy0
      have hR0 := hst.out.stop.1 (.inl rfl)
      have HB := Lib.hid hst.out.bel
      clear hst
      subst hR0
      go_wp2_with fail
      go_ret
      exact ⟨rfl, HB.out⟩
    · have q1 : ((y : Int) == 0) = false := beq_false_of_ne (by omega)
      have q2 : decide ((y : Int) = 0) = false := decide_eq_false (by omega)
      have q3 : ((y : Int) != 0) = true := by rw [bne, q1]; rfl
      have q4 : ¬ (y : Int) = 0 := by omega
      have hsn := hst.out.seen
      cases hs : getA sl y with
      | some u =>
        rw [hs] at hsn
        have hR0 := hst.out.stop.1 (.inr (by rw [hs]; rfl))
        have HB := Lib.hid hst.out.bel
        replace hsn : _ = Result.ok (Value.bool true) wr := hsn
        clear hst hs
        subst hR0
        go_wp2_with fail
        go_ret
        exact ⟨rfl, HB.out⟩
      | none =>
        rw [hs] at hsn
        replace hsn : _ = Result.ok (Value.bool false) wr := hsn
        have HS := Lib.hid hs
        have HY0 := Lib.hid hy0
        clear hs hy0
        go_wp2_with fail
        refine (arget_any g b l y wr hst.out.ar hst.out.lt).mono ?_
        rintro e w1 ⟨v1, rfl, ho1, hb1⟩
        have HST1 := Lib.hid (hst.out.below hb1)
        have HSZ := Lib.hid (show mapSize w1 w.heap.size = sl.length from HST1.out.mp.size)
        have HSW := Lib.hid (show mapSize wr w.heap.size = sl.length from hst.out.mp.size)
        have hstop := (HST1.out.stop.2 HY0.out HS.out)
        have HSTOP := Lib.hid hstop
        obtain ⟨kv, rfl, hk, ok⟩ := ho1
        obtain ⟨ka, kc, rfl⟩ := hk.slice
        clear hb1 hst hstop hsn hk ok
        unfold NdVal
        cases hn : getA l y with
        | none =>
          have hR0 := HSTOP.out.1 hn
          have hat : atN l y = .zero := by unfold atN; rw [hn]; rfl
          rw [hat]
          have HB := Lib.hid HST1.out.bel
          clear hn hat HSTOP HST1 HSZ HSW
          subst hR0
          go_wp2_with fail
          go_ret
          exact ⟨rfl, bal HB.out _⟩
        | some n =>
          have hat : atN l y = n := by unfold atN; rw [hn]; rfl
          rw [hat]
          have HN := Lib.hid hn
          obtain ⟨KL, hKL⟩ : ∃ q, q = n.kids.length := ⟨_, rfl⟩
          rw [← hKL]
          clear hn hat hKL
          go_upto_region 4 with fail
          have hb2 := bal (bre w1) (.cells #[.int .u8 n.kind, .string n.name, .int .i64 n.num, .int .u8 n.typ, .int .u64 n.ref, .slice ka KL kc] 29)
          have hr2 := heap_alloc_new w1 (.cells #[.int .u8 n.kind, .string n.name, .int .i64 n.num, .int .u8 n.typ, .int .u64 n.ref, .slice ka KL kc] 29)
          generalize w1.alloc (.cells #[.int .u8 n.kind, .string n.name, .int .i64 n.num, .int .u8 n.typ, .int .u64 n.ref, .slice ka KL kc] 29) = w2 at *
          obtain ⟨n8, hn8⟩ : ∃ q, q = w1.heap.size := ⟨_, rfl⟩
          rw [← hn8] at hr2 ⊢
          have hR2 : Row6 w2 n8 n (.slice ka KL kc) := hr2
          have y0 := hR2.c0
          have HST2 := Lib.hid (HST1.out.below hb2)
          clear hb2 hr2 hR2 hn8 HST1 HSZ
          by_cases hk : n.kind = kind
          · have d1 : ((n.kind : Int) == (kind : Int)) = true := beq_iff_eq.2 (by omega)
            have d2 : decide ((n.kind : Int) = (kind : Int)) = true := decide_eq_true (by omega)
            have hR0 := HSTOP.out.2 n HN.out hk
            have HB := Lib.hid HST2.out.bel
            clear HSTOP HST2
            subst hR0
            go_wp2_with fail
            go_ret
            exact ⟨rfl, HB.out⟩
          · have d1 : ((n.kind : Int) == (kind : Int)) = false := beq_false_of_ne (by omega)
            have d2 : decide ((n.kind : Int) = (kind : Int)) = false := decide_eq_false (by omega)
            obtain ⟨w3, hrun, hm3, ho3, hs3⟩ := HST2.out.mp.store (t := 74) Try.underlying26 Try.underlying74 y HST2.out.lt (.bool true) (by have := HST2.out.len; have := HST2.out.ar.few; unfold maxLen; omega)
            have hst3 := HST2.out.step HY0.out HS.out HN.out hk hm3 ho3
            have HST3 := Lib.hid hst3
            have HM3 := Lib.hid (show mapSize w3 w.heap.size = sl.length + 1 by rw [hm3.size]; unfold putA; rw [length_insA, delA_not _ _ HS.out])
            have HLE := Lib.hid HST2.out.len
            clear hm3 ho3 hs3 hst3 HSTOP HST2 hk
            go_wp2_with fail
            refine (arparent_any g b l y w3 HST3.out.ar).mono ?_
            rintro e w4 ⟨rfl, hb4⟩
            have HST4 := Lib.hid (HST3.out.below hb4)
            have HM4 := Lib.hid (show mapSize w4 w.heap.size = sl.length + 1 by rw [HST4.out.mp.size, ← HST3.out.mp.size]; exact HM3.out)
            clear hb4 hrun HST3 HM3
            go_wp2_with fail
            go_roundw
            case rel => exact ⟨_, _, rfl, HST4⟩
            case measure => rw [HM4.out, HSW.out]; have := HLE.out; omega
end Go.Proofs.Ytnbncjebmlicgaa
