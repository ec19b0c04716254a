/- Walks: slices.Sort of IDs; maps.Keys' iterator; AppendSeq, Collect, Sorted; an arena's IDs. -/
import Derived.Test.YtnbncjebmlicgaaSrtPdq
import Derived.Test.YtnbncjebmlicgaaArDrop
namespace Go.Proofs.Ytnbncjebmlicgaa
open Go Go.RowKit Go.Sort
attribute [local go_sem] Oper.semAt_some

set_option maxRecDepth 20000 in
theorem srtins_nil (w : World) : Calls Try.prog 78 #[.slice none 0 0, .int .i64 0, .int .i64 0] w fun e w' => e = .returned (.tuple #[]) ∧ w' = w := by
  go_enter Try.func78, Try.ntmps78
  go_wp2_with fail
  go_loopw [6] (fun i wr => i = .int .i64 1 ∧ wr = w) (fun _ _ => 0)
  case atStart => exact ⟨rfl, rfl⟩
  case round =>
    obtain ⟨rfl, rfl⟩ := hrel
    go_wp2_with fail
    go_end0
    exact ⟨rfl, rfl⟩
set_option maxRecDepth 20000 in
theorem srtpdq_nil (lim : Int) (w : World) : Calls Try.prog 76 #[.slice none 0 0, .int .i64 0, .int .i64 0, .int .i64 lim] w fun e w' => e = .returned (.tuple #[]) ∧ w' = w := by
  go_enter Try.func76, Try.ntmps76
  go_wp2_with fail
  go_loopw [1, 2, 3, 8, 9] (fun a b _ _ _ wr => a = .int .i64 0 ∧ b = .int .i64 0 ∧ wr = w) (fun _ _ _ _ _ _ => 0)
  case atStart => exact ⟨rfl, rfl, rfl⟩
  case round =>
    obtain ⟨rfl, rfl, rfl⟩ := hrel
    go_wp2_with fail
    refine (srtins_nil wr).mono ?_
    rintro e w1 ⟨rfl, rfl⟩
    go_wp2_with fail
    refine bodyPost_ret (results_none rfl _ _ _) rfl ?_
    exact ⟨rfl, rfl⟩
theorem sort_perm {d d' : Array Nat} {n : Nat} (hn : d.size = n) (hp : PermIn 0 n d d') : d'.toList.Perm d.toList := by
  obtain ⟨h1, -, h3⟩ := hp
  subst hn
  rw [Array.extract_eq_self_of_le (by omega), Array.extract_eq_self_of_le (Nat.le_refl _)] at h3
  exact h3

set_option maxRecDepth 20000 in
set_option maxHeartbeats 1600000 in
theorem srtsort_any (B : Nat) (v : Value) (l : List Nat) (w : World) (h : OwnIds B w v l) (hl : ∀ x ∈ l, x < 18446744073709551616) (hn : l.length ≤ 1000000000) :
    Calls Try.prog 66 #[v] w fun e w' => e = .returned (.tuple #[]) ∧ ∃ l', OwnIds B w' v l' ∧ l'.Perm l ∧ l'.Pairwise (fun x y => ltN y x = false) ∧ Only w w' (fun q => v.ownBlock = some q) := by
  obtain ⟨-, h2 | ⟨g, c, cur, e2, hB, hg, h3⟩⟩ := id h
  · obtain ⟨rfl, h2⟩ := h2
    have h0 : l = [] := List.eq_nil_of_length_eq_zero (by simpa using h2)
    subst h0
    go_enter Try.func66, Try.ntmps66
    go_wp2_with fail
    refine (len_any 0 w (by omega)).mono ?_
    rintro e w1 ⟨rfl, rfl⟩
    go_wp2_with fail
    refine (srtpdq_nil _ w1).mono ?_
    rintro e w2 ⟨rfl, rfl⟩
    go_wp2_with fail
    go_end0
    exact ⟨rfl, [], OwnIds.nil _ _, List.Perm.refl _, List.Pairwise.nil, Only.refl _ _⟩
  · subst e2
    obtain ⟨n, hnl⟩ : ∃ n, n = l.length := ⟨_, rfl⟩
    rw [← hnl] at h hn ⊢
    have HR : Hid (SRow B w g n c l.toArray) := Lib.hid ⟨by simpa using h, by simpa using hl⟩
    have HN := Lib.hid hnl
    have hu : IntKind.u64.wrap (n : Int) = (n : Int) := by rw [IntKind.wrap_u64]; omega
    clear h hl h3 hB hg hnl
    go_enter Try.func66, Try.ntmps66
    go_wp2_with fail
    refine (len_any n w (by omega)).mono ?_
    rintro e w1 ⟨rfl, hw⟩
    have hw' := hw.symm
    subst hw'
    go_wp2_with fail
    refine (show Calls Try.prog 76 #[.slice (some ⟨g, 0, none⟩) n c, .int .i64 (0 : Nat), .int .i64 n, _] _ _ from srtpdq_any B g n c hn n 0 n _ l.toArray _ (by omega) HR.out (by omega) (Nat.le_refl _) (.inl rfl)).mono ?_
    rintro e w2 ⟨rfl, d', hp, hs, hr, ho⟩
    go_wp2_with fail
    go_end0
    refine ⟨rfl, d'.toList, hr.1, by simpa using sort_perm (by rw [HR.out.size.1]) hp, ?_, ho.mono fun i _ e => by subst e; rfl⟩
    rw [List.pairwise_iff_getElem]
    intro i j hi hj hij
    have hz := hr.size.1
    have h1 := hs i j (by omega) hij (by simp at hj; omega)
    rw [getElem!_pos d' i (by simp at hi; omega), getElem!_pos d' j (by simp at hj; omega)] at h1
    simpa using h1

/-- sorted, and a permutation of what rises: it is that -/
theorem sorted_is {l' l : List Nat} (hp : l'.Perm l) (hs : l'.Pairwise (fun x y => ltN y x = false)) (hl : l.Pairwise (· < ·)) : l' = l := by
  refine hp.eq_of_pairwise (le := fun x y => x ≤ y) ?_ ?_ ?_
  · intro a b _ _ h1 h2
    omega
  · exact hs.imp fun h => by have := of_decide_eq_false h; omega
  · exact hl.imp fun h => by omega

set_option maxRecDepth 10000 in
theorem keys_any (b : Nat) (w : World) :
    Calls Try.prog 42 #[.map (some b)] w fun e w' => e = .returned (.func (.func 67) #[] #[.pointer (some ⟨w.heap.size, 0, none⟩)]) ∧ w' = w.alloc (.cells #[.map (some b)] 68) := by
  go_enter Try.func42, Try.ntmps42
  go_wp2_with fail
  go_ret
  exact ⟨rfl, rfl⟩

/-- where the iterator of the keys stands -/
structure KySt (w0 : World) (b r : Nat) (vl : List (Nat × Value)) (J : List Nat → (Nat → Prop) → World → Prop) (A : World) (C : Nat → Prop) (pre : List Nat) (left : Nat → Bool) : Prop where
  jj : J pre C A
  cb : ∀ q, C q → w0.heap.size ≤ q
  rr : w0.heap.size ≤ r ∧ ¬ C r
  rng : RngAt Try.prog 26 A b r vl left
  lf : ∀ p ∈ vl, (left p.1 = true ↔ p.1 ∉ pre)
  sub : ∀ x ∈ pre, x ∈ vl.map (·.1)
  nd : pre.Nodup
  bel : Below w0.heap.size w0 A
  bb : b < w0.heap.size

theorem ascA_keys {vl : List (Nat × Value)} (h : AscA vl) : (vl.map (·.1)).Pairwise (· < ·) := by
  rw [List.pairwise_map]
  exact h.1
theorem KySt.perm {w0 : World} {b r : Nat} {vl : List (Nat × Value)} {J : List Nat → (Nat → Prop) → World → Prop} {A : World} {C : Nat → Prop} {pre : List Nat} {left : Nat → Bool} (h : KySt w0 b r vl J A C pre left) (he : ∀ p ∈ vl, left p.1 = false) : pre.Perm (vl.map (·.1)) := by
  have hk : (vl.map (·.1)).Nodup := (ascA_keys h.rng.map.2).imp fun h => by omega
  refine (List.perm_ext_iff_of_nodup h.nd hk).2 fun x => ⟨h.sub x, fun hx => ?_⟩
  obtain ⟨p, hp, rfl⟩ := List.mem_map.1 hx
  refine Decidable.byContradiction fun hc => ?_
  have h1 := he p hp
  rw [(h.lf p hp).2 hc] at h1
  cases h1
theorem KySt.few {w0 : World} {b r : Nat} {vl : List (Nat × Value)} {J : List Nat → (Nat → Prop) → World → Prop} {A : World} {C : Nat → Prop} {pre : List Nat} {left : Nat → Bool} (h : KySt w0 b r vl J A C pre left) {x : Nat} (hx : x ∈ vl.map (·.1)) (hn : x ∉ pre) : pre.length < vl.length := by
  have h1 : (x :: pre).Nodup := List.nodup_cons.2 ⟨hn, h.nd⟩
  have h2 := h1.length_le_of_subset (l₂ := vl.map (·.1)) (by
    intro y hy
    rcases List.mem_cons.1 hy with rfl | hy
    · exact hx
    · exact h.sub y hy)
  simp at h2
  omega

set_option maxRecDepth 10000 in
set_option maxHeartbeats 1600000 in
theorem keys_seq (bm b : Nat) (vl : List (Nat × Value)) (w0 : World) (hm : MapU Try.prog 26 w0 b vl) (hc : w0.cell? ⟨bm, 0, none⟩ = some (.map (some b))) (n : Nat) :
    SeqOwn Fence.wide n Try.prog 67 #[.pointer (some ⟨bm, 0, none⟩)] (fun x : Nat => #[.int .u64 x]) (fun _ _ => True) (fun pre x => x < 18446744073709551616 ∧ pre.length < vl.length)
      (fun xs => xs.Perm (vl.map (·.1))) (fun _ => True) (fun q => w0.heap.size ≤ q) w0 := by
  intro lp J Jx C0 W hW hJ hJx hJs hC0 hY hJ0
  refine callsIn_of_wp Try.func67 rfl trivial ?_
  simp only [Try.ntmps67, List.size_toArray, List.length_cons, List.length_nil, Nat.reduceAdd, Nat.reduceSub, Array.replicate_succ, Array.replicate_zero, List.push_toArray, List.append_toArray, List.nil_append, List.cons_append]
  have hc1 := (hW.cell (p := ⟨bm, 0, none⟩) (block_lt_of_cell hc)).trans hc
  have hmW : MapU Try.prog 26 W b vl := hm.below hW
  obtain ⟨W1, hrun, hr1, hb1, hs1⟩ := hmW.range (t := 68) Try.underlying26 Try.underlying68
  obtain ⟨r, hr⟩ : ∃ r, r = W.heap.size := ⟨_, rfl⟩
  have hst : KySt w0 b r vl J W1 C0 [] (fun _ => true) := by
    refine ⟨hJ _ _ _ _ hJ0 ((Only.of_below hb1 fun _ => False).mono fun _ _ h => h.elim), hC0, ⟨by rw [hr]; exact hW.size, fun h => by have := hJs _ _ _ hJ0 _ h; omega⟩, by rw [hr]; exact hr1, fun p _ => by simp, (fun x hx => nomatch hx), List.nodup_nil, hW.trans (hb1.mono hW.size), hm.lt⟩
  rw [← hr] at hrun
  have HST := Lib.hid hst
  have HY := Lib.hid hY
  have HJ : Hid (Holds r J) := Lib.hid (by rw [hr]; exact hJ)
  have HJS := Lib.hid hJs
  clear hst hr1 hb1 hs1 hY hJ hJx hJs hC0 hJ0 hm hmW hW hc hr
  gi_wp2_with fail
  gi_loopw [3] (fun _ wr => ∃ (C : Nat → Prop) (pre : List Nat) (left : Nat → Bool), Hid (KySt w0 b r vl J wr C pre left)) (fun _ wr => wr.rangeLeft b r)
  case atStart => exact ⟨C0, [], _, HST⟩
  case round =>
    clear HST hrun hc1
    obtain ⟨C, pre, left, hst⟩ := hrel
    rcases hst.out.rng.next Try.underlying26 0 with ⟨hend, hnx⟩ | ⟨p, w1, hp, hl, hnx, hr', hlt, ho, hs, hen⟩
    · gi_wp2_with fail
      go_end0
      exact ⟨⟨_, rfl⟩, .inl ⟨pre, C, hst.out.perm hend, hst.out.jj⟩⟩
    · have hnp := (hst.out.lf p hp).1 hl
      have hmem : p.1 ∈ vl.map (·.1) := List.mem_map.2 ⟨p, hp, rfl⟩
      have h64 : p.1 < 18446744073709551616 := hst.out.rng.map.2.2 p hp
      have hj1 : J pre C w1 := HJ.out _ _ _ _ hst.out.jj (ho.mono fun i _ e => by subst e; exact ⟨Nat.le_refl _, hst.out.rr.2⟩)
      obtain ⟨fn, tmps, assign, body, hy, hR⟩ := HY.out pre p.1 C w1 hj1 trivial ⟨h64, hst.out.few hmem hnp⟩
      have HRO := Lib.hid hR
      have HP : Hid (p ∈ vl ∧ p.1 ∉ pre ∧ w1.rangeLeft b r < wr.rangeLeft b r ∧ w1.heap.size = wr.heap.size) := Lib.hid ⟨hp, hnp, hlt, hs⟩
      have HRG := Lib.hid hr'
      have HBE : Hid (Below w0.heap.size w0 w1) := Lib.hid (hst.out.bel.trans (ho.below _ hst.out.bel.size fun i hi e => by have := hst.out.rr.1; omega))
      obtain ⟨pk, pv⟩ := p
      replace hnx : _ = Result.ok (Value.tuple #[.bool true, .int .u64 (pk : Int), pv]) w1 := hnx
      replace hen : _ = Result.ok (Value.tuple #[.int .u64 (pk : Int), pv]) w1 := hen
      clear hR hr' hlt ho hs hj1 hnp hmem hp hl
      gi_wp2_with fail
      refine ⟨fun h => (by cases h), ?_⟩
      refine HRO.out.mono ?_
      rintro e w4 ⟨ho4, C', hC', ⟨rfl, hj4⟩ | ⟨rfl, hj4⟩⟩
      · have hnb : ¬ C b := fun h => by have := hst.out.cb b h; have := hst.out.bb; omega
        have hg4 := HRG.out.only ho4 hnb hst.out.rr.2
        have HST4 : Hid (KySt w0 b r vl J w4 C' (pre ++ [pk]) (fun x => left x && !(x == pk))) := Lib.hid (by
          refine ⟨hj4, fun q hq => ?_, ⟨hst.out.rr.1, fun h => ?_⟩, hg4.1, fun p hp => ?_, fun x hx => ?_, ?_, HBE.out.trans (ho4.below _ HBE.out.size fun i hi e => by have := hst.out.cb i e; omega), hst.out.bb⟩
          · rcases hC' q hq with h | h
            · exact hst.out.cb q h
            · exact Nat.le_trans HBE.out.size h
          · rcases hC' r h with h | h
            · exact hst.out.rr.2 h
            · have := HRG.out.lt; omega
          · rw [Bool.and_eq_true, hst.out.lf p hp, List.mem_append]
            simp
          · rcases List.mem_append.1 hx with hx | hx
            · exact hst.out.sub x hx
            · simp at hx; subst hx; exact List.mem_map.2 ⟨_, HP.out.1, rfl⟩
          · rw [List.nodup_append]
            refine ⟨hst.out.nd, by simp, fun x hx y hy e => ?_⟩
            simp at hy
            subst hy
            subst e
            exact HP.out.2.1 hx)
        have HLT : Hid (w4.rangeLeft b r < wr.rangeLeft b r) := Lib.hid (by rw [hg4.2]; exact HP.out.2.2.1)
        clear hg4 hj4 ho4 hC' hst HRG HBE HRO hnx hen hy
        gi_wp2_with fail
        exact ⟨⟨C', _, _, HST4⟩, HLT.out⟩
      · have HJX4 := Lib.hid hj4
        clear hj4 ho4 hC'
        gi_wp2_with fail
        refine bodyPost_ret (results_none rfl _ _ _) rfl ?_
        exact ⟨⟨_, rfl⟩, .inr ⟨_, C', trivial, HJX4.out⟩⟩
end Go.Proofs.Ytnbncjebmlicgaa
