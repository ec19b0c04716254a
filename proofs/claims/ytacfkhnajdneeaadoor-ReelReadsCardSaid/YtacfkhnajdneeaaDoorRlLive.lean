/- Plain: a log, its disk, and what may be read of it. -/
import Derived.Test.YtacfkhnajdneeaaDoorRlAppend
import Derived.Test.YtacfkhnajdneeaaDoorRlOpen
import Derived.Test.YtacfkhnajdneeaaDoorDkCrash
namespace Go.Proofs.YtacfkhnajdneeaaDoor
open Go.RowKit
set_option maxRecDepth 20000

/-- what may stand in a sector behind a crash -/
def Dk.Can (d : Dk) (i : Nat) (x : List UInt8) : Prop := x = d.safe.getD i [] ∨ ∃ y ∈ d.wait, y.1 = i ∧ y.2 = x

theorem lastOf_can (l : List (Nat × List UInt8)) (i : Nat) : ∀ p : List UInt8, lastOf l i p = p ∨ ∃ y ∈ l, y.1 = i ∧ y.2 = lastOf l i p := by
  induction l with
  | nil => intro p; exact .inl rfl
  | cons x l ih =>
    intro p
    have e : lastOf (x :: l) i p = lastOf l i (if x.1 = i then x.2 else p) := rfl
    rw [e]
    rcases ih (if x.1 = i then x.2 else p) with h | ⟨y, h1, h2, h3⟩
    · by_cases hx : x.1 = i
      · rw [if_pos hx] at h ⊢
        exact .inr ⟨x, by simp, hx, h.symm⟩
      · rw [if_neg hx] at h ⊢
        exact .inl h
    · exact .inr ⟨y, by simp [h1], h2, h3⟩
theorem Dk.now_can (d : Dk) (i : Nat) : d.Can i (d.now i) := lastOf_can d.wait i _
theorem set_getD (s : List (List UInt8)) (k i : Nat) (x : List UInt8) (hi : i < s.length) : (s.set k x).getD i [] = if k = i then x else s.getD i [] := by
  rw [List.getD_eq_getElem?_getD, List.getD_eq_getElem?_getD, List.getElem?_set]
  by_cases h : k = i
  · subst h
    rw [if_pos rfl, if_pos hi, if_pos rfl]
    rfl
  · rw [if_neg h, if_neg h]
theorem sync_get (ws : List (Nat × List UInt8)) : ∀ (s : List (List UInt8)) (i : Nat), i < s.length → (syncOf s ws).getD i [] = lastOf ws i (s.getD i []) := by
  induction ws with
  | nil => intro s i _; rfl
  | cons x ws ih =>
    intro s i hi
    have h1 := ih (s.set x.1 x.2) i (by rw [List.length_set]; exact hi)
    have e1 : syncOf s (x :: ws) = syncOf (s.set x.1 x.2) ws := rfl
    have e2 : lastOf (x :: ws) i (s.getD i []) = lastOf ws i (if x.1 = i then x.2 else s.getD i []) := rfl
    rw [e1, h1, e2, set_getD s x.1 i x.2 hi]
theorem crash_get (keep : List Bool) (ws : List (Nat × List UInt8)) : ∀ (k : Nat) (s : List (List UInt8)) (i : Nat), i < s.length → (crashOf keep k ws s).getD i [] = s.getD i [] ∨ ∃ y ∈ ws, y.1 = i ∧ y.2 = (crashOf keep k ws s).getD i [] := by
  induction ws with
  | nil => intro k s i _; exact .inl rfl
  | cons x ws ih =>
    intro k s i hi
    have e1 : crashOf keep k (x :: ws) s = crashOf keep (k + 1) ws (if keep.getD k false then s.set x.1 x.2 else s) := rfl
    rw [e1]
    have hl : i < (if keep.getD k false then s.set x.1 x.2 else s).length := by split <;> simp [hi]
    rcases ih (k + 1) _ i hl with h | ⟨y, h1, h2, h3⟩
    · by_cases hk : keep.getD k false = true
      · rw [if_pos hk] at h ⊢
        rw [set_getD s x.1 i x.2 hi] at h
        by_cases hx : x.1 = i
        · rw [if_pos hx] at h
          exact .inr ⟨x, by simp, hx, h.symm⟩
        · rw [if_neg hx] at h
          exact .inl h
      · rw [if_neg hk] at h ⊢
        exact .inl h
    · exact .inr ⟨y, by simp [h1], h2, h3⟩

/-- a log and its disk -/
structure Live (z : Sess) (r : Rl) (d : Dk) (all : List (List UInt8)) (synced : Nat) : Prop where
  gen : r.gen = z.gen
  n : r.n = z.n
  ser : r.serial = z.S
  ls : r.ls = all
  free : d.Free
  ok : d.Ok
  fits : r.fr + r.n ≤ d.safe.length
  g32 : z.gen < 4294967296
  so1 : (layAll all).length / 487 ≤ r.so.length
  so2 : aheadOf r.so ((layAll all).length / 487) = z.ahead ((layAll all).length / 487)
  so3 : ∀ s ∈ r.so, s < 4294967296
  so4 : r.so.length ≤ 5000
  poss : Inv z (fun j x => d.Can (r.fr + j) x) all synced
  now : Inv z (fun j x => x = d.now (r.fr + j)) all all.length

theorem Live.i0 {z : Sess} {r : Rl} {d : Dk} {all : List (List UInt8)} {synced : Nat} (h : Live z r d all synced) : z.i0 ≤ (layAll all).length / 487 := by
  obtain ⟨f1, f2, f3⟩ := h.poss.front
  have hq0 : z.q0 ≤ (layAll all).length := by
    have := congrArg List.length f1
    rw [List.length_take] at this
    have e : (layAll z.all0).length = z.q0 := rfl
    omega
  unfold Sess.i0
  omega
theorem Live.ahead32 {z : Sess} {r : Rl} {d : Dk} {all : List (List UInt8)} {synced : Nat} (h : Live z r d all synced) (j : Nat) : z.ahead j < 4294967296 := by
  have h1 := h.poss.ok.split.2.2.1
  have h2 := h.poss.ok.S32
  by_cases h0 : j = z.i0
  · rw [h0]; exact h1
  · unfold Sess.ahead
    rw [if_neg h0]
    split
    · omega
    · exact h2

/-- one page of those that a record turns -/
theorem Live.page {z : Sess} {r : Rl} {d : Dk} {all : List (List UInt8)} {synced : Nat} (h : Live z r d all synced) (st' : List UInt8) (t : Nat) (ht : t < pagesN (layAll all).length st'.length) (hle : (layAll all).length ≤ st'.length) (hn : st'.length ≤ 487 * z.n) :
    TurnPg z (layAll all) st' ((layAll all).length / 487 + t) (r.pageAt st' ((layAll all).length / 487) t).2 := by
  have hd := (pages_div (layAll all).length st'.length t hle).2 ht
  refine ⟨by omega, hd, ?_⟩
  have hi0 := h.i0
  have hfew := h.ok.few
  have hfit := h.fits
  rw [h.n] at hfit
  have ha : (if t = 0 then aheadOf r.so ((layAll all).length / 487) else r.serial) = z.ahead ((layAll all).length / 487 + t) := by
    by_cases h0 : t = 0
    · subst h0; rw [if_pos rfl, h.so2]; rfl
    · rw [if_neg h0, h.ser]
      unfold Sess.ahead
      rw [if_neg (by omega), if_neg (by omega)]
  show IsPg z.gen (pgBytes r.gen r.serial _ (if t = 0 then aheadOf r.so ((layAll all).length / 487) else r.serial) _) _ _ _ _
  rw [ha, h.gen, h.ser]
  exact pgBytes_is h.g32 h.poss.ok.S32 (by omega) (h.ahead32 _) (by rw [chunk_len]; omega)

theorem pages_mem {r : Rl} {st : List UInt8} {m T : Nat} {y : Nat × List UInt8} (h : y ∈ r.pages st m T) : ∃ t, t < T ∧ y = r.pageAt st m t := by
  unfold Rl.pages at h
  obtain ⟨t, h1, h2⟩ := List.mem_map.1 h
  exact ⟨t, List.mem_range.1 h1, h2.symm⟩

/-- the page that stands behind the writes -/
theorem pages_last (r : Rl) (st : List UInt8) (m : Nat) (p : List UInt8) (j : Nat) : ∀ T, lastOf (r.pages st m T) (r.fr + j) p = if m ≤ j ∧ j < m + T then (r.pageAt st m (j - m)).2 else p := by
  intro T
  induction T with
  | zero => rw [if_neg (by omega)]; rfl
  | succ T ih =>
    rw [Rl.pages_next, lastOf_append]
    show (if (r.pageAt st m T).1 = r.fr + j then (r.pageAt st m T).2 else lastOf (r.pages st m T) (r.fr + j) p) = _
    have e : (r.pageAt st m T).1 = r.fr + (m + T) := rfl
    rw [e]
    by_cases hj : j = m + T
    · rw [if_pos (by omega), if_pos (by omega)]
      congr 2
      omega
    · rw [if_neg (by omega), ih]
      by_cases h2 : m ≤ j ∧ j < m + T
      · rw [if_pos h2, if_pos (by omega)]
      · rw [if_neg h2, if_neg (by omega)]

theorem Live.append {z : Sess} {r : Rl} {d : Dk} {all : List (List UInt8)} {synced : Nat} (h : Live z r d all synced) (x : List UInt8) (hx : x.length ≤ 65536) (hroom : (layAll (all ++ [x])).length ≤ 487 * z.n) :
    Live z (r.more x) (d.writes (r.pages (layAll (all ++ [x])) ((layAll all).length / 487) (pagesN (layAll all).length (layAll (all ++ [x])).length))) (all ++ [x]) synced := by
  have hst : layAll (all ++ [x]) = layAll all ++ layOne x := by rw [layAll_app, layAll_one]
  have hpos := layOne_pos x
  have hlen : (layAll (all ++ [x])).length = (layAll all).length + (layOne x).length := by rw [hst, List.length_append]
  obtain ⟨q1, q2, q3, q4⟩ := Dk.writes_are (r.pages (layAll (all ++ [x])) ((layAll all).length / 487) (pagesN (layAll all).length (layAll (all ++ [x])).length)) d h.free
  have hi0 := h.i0
  have hfew := h.ok.few
  have hfit := h.fits
  have hpage := h.page (layAll (all ++ [x]))
  have hpn : pagesN (layAll all).length (layAll (all ++ [x])).length = ((layAll (all ++ [x])).length + 486) / 487 - (layAll all).length / 487 := rfl
  generalize hT : pagesN (layAll all).length (layAll (all ++ [x])).length = T at *
  generalize hm : (layAll all).length / 487 = m at *
  have hnow : ∀ j, (d.writes (r.pages (layAll (all ++ [x])) m T)).now (r.fr + j) = if m ≤ j ∧ j < m + T then (r.pageAt (layAll (all ++ [x])) m (j - m)).2 else d.now (r.fr + j) := fun j => by
    unfold Dk.now
    rw [q1, q2, lastOf_append, pages_last]
  have hso : (r.more x).so = r.soAt m T := by
    unfold Rl.more
    rw [h.ls]
    show r.soAt ((layAll all).length / 487) (pagesN (layAll all).length (layAll (all ++ [x])).length) = _
    rw [hm, hT]
  have hso1 := h.so1
  rw [hm] at hso1
  have hnr := h.n
  refine ⟨h.gen, h.n, h.ser, by show r.ls ++ [x] = _; rw [h.ls], q4, ⟨by rw [q1]; exact h.ok.safe, ?_, by rw [q1]; exact h.ok.few⟩, by rw [q1]; exact h.fits, h.g32, ?_, ?_, ?_, ?_, ?_, ?_⟩
  · rw [q1, q2]
    intro y hy
    rcases List.mem_append.1 hy with hy | hy
    · exact h.ok.wait y hy
    · obtain ⟨t, ht, rfl⟩ := pages_mem hy
      refine ⟨pgBytes_len (by rw [chunk_len]; omega), ?_⟩
      show r.fr + (m + t) < _
      omega
  · rw [hso]
    have := Rl.soAt_len hso1 T
    omega
  · rw [hso]
    have hT1 : 0 < T := by omega
    by_cases hmm : (layAll (all ++ [x])).length / 487 = m
    · rw [hmm]
      have h2 := h.so2
      rw [hm] at h2
      rw [← h2]
      unfold Rl.soAt aheadOf
      by_cases h0 : m = 0
      · rw [if_pos h0, if_pos h0]
      · rw [if_neg h0, if_neg h0, if_neg (by omega), List.getD_eq_getElem?_getD, List.getD_eq_getElem?_getD, List.getElem?_append_left (by rw [List.length_take]; omega), List.getElem?_take, if_pos (by omega)]
    · have hz : z.ahead ((layAll (all ++ [x])).length / 487) = z.S := by
        unfold Sess.ahead
        rw [if_neg (by omega), if_neg (by omega)]
      rw [hz]
      unfold Rl.soAt aheadOf
      rw [if_neg (by omega), if_neg (by omega), List.getD_eq_getElem?_getD, List.getElem?_append_right (by rw [List.length_take]; omega), List.getElem?_replicate, if_pos (by rw [List.length_take]; omega)]
      exact h.ser
  · rw [hso]
    exact Rl.soAt_lt h.so3 (by rw [h.ser]; exact h.poss.ok.S32) m T
  · rw [hso]
    unfold Rl.soAt
    rw [if_neg (by omega), List.length_append, List.length_take, List.length_replicate]
    omega
  · refine h.poss.append x hx hroom _ fun j y hj hy => ?_
    rcases hy with hy | ⟨u, hu, e1, e2⟩
    · rw [q1] at hy
      exact .inl (.inl hy)
    · rw [q2] at hu
      rcases List.mem_append.1 hu with hu | hu
      · exact .inl (.inr ⟨u, hu, e1, e2⟩)
      · obtain ⟨t, ht, rfl⟩ := pages_mem hu
        have hjt : j = m + t := by
          have : r.fr + (m + t) = r.fr + j := e1
          omega
        right
        rw [← e2, hjt]
        exact hpage t ht (by omega) hroom
  · have hl : (all ++ [x]).length = all.length + 1 := by rw [List.length_append]; rfl
    rw [hl]
    refine h.now.now x hx hroom _ fun j y hj hy => ?_
    have hy' : y = (d.writes (r.pages (layAll (all ++ [x])) m T)).now (r.fr + j) := hy
    rw [hnow j] at hy'
    by_cases hc : m ≤ j ∧ j < m + T
    · rw [if_pos hc] at hy'
      right
      have := hpage (j - m) (by omega) (by omega) hroom
      rw [show m + (j - m) = j by omega] at this
      rw [hy']
      exact this
    · rw [if_neg hc] at hy'
      refine .inl ⟨hy', fun hcc => hc ?_⟩
      rw [hm] at hcc
      omega

theorem Live.sync {z : Sess} {r : Rl} {d : Dk} {all : List (List UInt8)} {synced : Nat} (h : Live z r d all synced) : Live z r d.synced all all.length := by
  have hfit := h.fits
  have hget : ∀ j, j < z.n → d.synced.safe.getD (r.fr + j) [] = d.now (r.fr + j) := fun j hj => sync_get d.wait d.safe (r.fr + j) (by rw [h.n] at hfit; omega)
  have hnow : ∀ j, j < z.n → d.synced.now (r.fr + j) = d.now (r.fr + j) := hget
  refine ⟨h.gen, h.n, h.ser, h.ls, ⟨h.free.1, by show (if d.bound then d.left - 1 else d.left) = 0; rw [h.free.1]; exact h.free.2⟩, ⟨syncOf_ok _ (fun x hx => (h.ok.wait x hx).1) _ h.ok.safe, fun x hx => (by cases hx), by show (syncOf d.safe d.wait).length ≤ _; rw [syncOf_length]; exact h.ok.few⟩, by show _ ≤ (syncOf d.safe d.wait).length; rw [syncOf_length]; exact h.fits, h.g32, h.so1, h.so2, h.so3, h.so4, h.now.sub fun j x hj hx => ?_, h.now.sub fun j x hj hx => ?_⟩
  · rcases hx with hx | ⟨y, hy, -⟩
    · rw [hx]; exact hget j hj
    · cases hy
  · rw [hx]; exact hnow j hj

theorem scan_so (gen S : Nat) (xs : List (List UInt8)) (P : List UInt8) (so : List Nat) (ht : ∀ i x, xs[i]? = some x → Tame gen S i x) (h : scanR gen 0 0 xs = (none, P, so)) : ∀ s ∈ so, s < S :=
  scan_serials gen S xs 0 0 P so (by omega) (fun i x hx => by rw [Nat.zero_add]; exact ht i x hx) h

theorem scan_so_len (gen : Nat) : ∀ (xs : List (List UInt8)) (j a : Nat), (scanR gen j a xs).2.2.length ≤ xs.length := by
  intro xs
  induction xs with
  | nil => intro j a; rw [scanR]; simp
  | cons b rest ih =>
    intro j a
    rw [scanR, List.length_cons]
    split
    · simp
    · split
      · simp
      · split
        · simp
        · simp only [List.length_cons]
          have := ih (j + 1) (parseOf b).2.serial
          omega

theorem half_get (d : Dk) (fr n i : Nat) : (halfOf d fr n)[i]? = if i < n then some (d.now (fr + i)) else none := map_range_get (fun j => d.now (fr + j)) n i

/-- a log that is opened on a disk on which nothing waits -/
theorem Live.start {gen fr n S : Nat} {d : Dk} {P : List UInt8} {so : List Nat} (hfree : d.Free) (hok : d.Ok) (hfit : fr + n ≤ d.safe.length) (hg : gen < 4294967296) (hw : d.wait = []) (hS : S < 4294967296)
    (hsc : scanR gen 0 0 (halfOf d fr n) = (none, P, so)) (ht : ∀ j, j < n → Tame gen S j (d.now (fr + j))) :
    Live ⟨gen, n, S, fun j => d.now (fr + j), P, so⟩ ⟨gen, fr, n, S, cutL P, so⟩ d (cutL P) (cutL P).length := by
  have zok : Sess.Ok ⟨gen, n, S, fun j => d.now (fr + j), P, so⟩ := ⟨hsc, ht, hS⟩
  have hcan : ∀ i x, d.Can i x → x = d.now i := fun i x h => by
    unfold Dk.now
    rcases h with h | ⟨y, hy, -⟩
    · rw [hw]; exact h
    · rw [hw] at hy; cases hy
  obtain ⟨s1, s2, s3, s4, s5, s6⟩ := zok.split
  have hi : Inv ⟨gen, n, S, fun j => d.now (fr + j), P, so⟩ (fun j x => x = d.now (fr + j)) (cutL P) (cutL P).length := Inv.start _ zok
  refine ⟨rfl, rfl, rfl, rfl, hfree, hok, hfit, hg, s2, ?_, ?_, ?_, hi.sub fun j x hj hx => hcan _ _ hx, hi⟩
  · show aheadOf so ((layAll (cutL P)).length / 487) = Sess.ahead ⟨gen, n, S, fun j => d.now (fr + j), P, so⟩ (Sess.i0 ⟨gen, n, S, fun j => d.now (fr + j), P, so⟩)
    unfold aheadOf Sess.ahead
    by_cases h0 : (layAll (cutL P)).length / 487 = 0
    · rw [if_pos h0, if_pos (show Sess.i0 ⟨gen, n, S, fun j => d.now (fr + j), P, so⟩ = 0 from h0)]
    · rw [if_neg h0, if_neg (show ¬ Sess.i0 ⟨gen, n, S, fun j => d.now (fr + j), P, so⟩ = 0 from h0), if_pos rfl]
      rfl
  · intro s hs
    have := scan_so gen S (halfOf d fr n) P so (fun i x hx => by
      rw [half_get] at hx
      by_cases hi : i < n
      · rw [if_pos hi] at hx
        cases hx
        exact ht i hi
      · rw [if_neg hi] at hx; cases hx) hsc s hs
    omega
  · have := scan_so_len gen (halfOf d fr n) 0 0
    rw [hsc, half_len] at this
    have hfew := hok.few
    have this' : so.length ≤ n := this
    show so.length ≤ 5000
    omega

theorem top_ge (gen : Nat) : ∀ (bs : List (List UInt8)) (s : Nat), s ≤ topOf gen s bs ∧ ∀ b ∈ bs, (parseOf b).1 = 0 → (parseOf b).2.gen = gen → (parseOf b).2.serial ≤ topOf gen s bs := by
  intro bs
  induction bs with
  | nil => intro s; exact ⟨Nat.le_refl _, fun b hb => by cases hb⟩
  | cons x rest ih =>
    intro s
    obtain ⟨h1, h2⟩ := ih (topStep gen s x)
    have e : topOf gen s (x :: rest) = topOf gen (topStep gen s x) rest := rfl
    rw [e]
    have hs : s ≤ topStep gen s x := by unfold topStep; split <;> omega
    refine ⟨by omega, fun b hb hp hg => ?_⟩
    rcases List.mem_cons.1 hb with rfl | hb
    · have : (parseOf b).2.serial ≤ topStep gen s b := by unfold topStep; rw [if_pos ⟨hp, hg⟩]; omega
      omega
    · exact h2 b hb hp hg
theorem top_le (gen B : Nat) : ∀ (bs : List (List UInt8)) (s : Nat), s ≤ B → (∀ b ∈ bs, (parseOf b).1 = 0 → (parseOf b).2.gen = gen → (parseOf b).2.serial ≤ B) → topOf gen s bs ≤ B := by
  intro bs
  induction bs with
  | nil => intro s hs _; exact hs
  | cons x rest ih =>
    intro s hs h
    refine ih (topStep gen s x) ?_ fun b hb => h b (by simp [hb])
    unfold topStep
    split
    · next hc => exact Nat.max_le.2 ⟨hs, h x (by simp) hc.1 hc.2⟩
    · exact hs

/-- a log that is opened anew behind a crash (or on what was synced): its serial, and what is read -/
theorem Live.again {z : Sess} {r : Rl} {d d' : Dk} {all : List (List UInt8)} {synced : Nat} (h : Live z r d all synced) (c : Cr) (hcg : c.gen = z.gen) (hcs : c.serial ≤ z.S) (hz : z.S < 4294967290) (hfr : (c.from d'.safe.length) = (r.fr, r.n)) (hlen : d'.safe.length = d.safe.length)
    (hfree : d'.Free) (hok : d'.Ok) (hw : d'.wait = []) (hcan : ∀ j, j < z.n → d.Can (r.fr + j) (d'.now (r.fr + j))) :
    ∃ Q so k, scanR c.gen 0 0 (halfOf d' (c.from d'.safe.length).1 (c.from d'.safe.length).2) = (none, Q, so) ∧ cutL Q = all.take k ∧ synced ≤ k ∧ k ≤ all.length ∧ serialOf c d' ≤ z.S + 1 ∧ 0 < serialOf c d' ∧
      Live ⟨c.gen, r.n, serialOf c d', fun j => d'.now (r.fr + j), Q, so⟩ ⟨c.gen, r.fr, r.n, serialOf c d', cutL Q, so⟩ d' (cutL Q) (cutL Q).length := by
  obtain ⟨Q, so, k, h1, h2, h3, h4⟩ := h.poss.reads (fun j => d'.now (r.fr + j)) hcan
  have hh : halfOf d' (c.from d'.safe.length).1 (c.from d'.safe.length).2 = (List.range z.n).map fun j => d'.now (r.fr + j) := by
    rw [hfr, ← h.n]
    rfl
  have htop1 := top_ge c.gen (halfOf d' (c.from d'.safe.length).1 (c.from d'.safe.length).2) c.serial
  have hmem : ∀ b ∈ halfOf d' (c.from d'.safe.length).1 (c.from d'.safe.length).2, ∃ j, j < z.n ∧ b = d'.now (r.fr + j) := fun b hb => by
    rw [hh] at hb
    obtain ⟨j, hj, rfl⟩ := List.mem_map.1 hb
    exact ⟨j, List.mem_range.1 hj, rfl⟩
  have htop2 := top_le c.gen z.S (halfOf d' (c.from d'.safe.length).1 (c.from d'.safe.length).2) c.serial hcs fun b hb hp hg => by
    obtain ⟨j, hj, rfl⟩ := hmem b hb
    rcases h.poss.tame j hj _ (hcan j hj) with e | ⟨s, a, c', g1, g2, g3⟩
    · rw [e] at hp; cases hp
    · rw [g1.1]; exact g3
  have hser : serialOf c d' = topOf c.gen c.serial (halfOf d' (c.from d'.safe.length).1 (c.from d'.safe.length).2) + 1 := by
    unfold serialOf
    omega
  have hsc : scanR c.gen 0 0 (halfOf d' (c.from d'.safe.length).1 (c.from d'.safe.length).2) = (none, Q, so) := by rw [hh, hcg]; exact h1
  refine ⟨Q, so, k, hsc, h2, h3, h4, by omega, by omega, ?_⟩
  have hsc2 : scanR c.gen 0 0 (halfOf d' r.fr r.n) = (none, Q, so) := by
    have := hsc
    rw [hfr] at this
    exact this
  refine Live.start hfree hok (by rw [hlen]; exact h.fits) (by rw [hcg]; exact h.g32) hw (by omega) hsc2 fun j hj => ?_
  rw [h.n] at hj
  rcases h.poss.tame j hj _ (hcan j hj) with e | ⟨s, a, c', g1, g2, g3⟩
  · exact .inl e
  · refine .inr ⟨s, a, c', by rw [hcg]; exact g1, g2, ?_⟩
    have := htop1.2 (d'.now (r.fr + j)) (by rw [hh]; exact List.mem_map.2 ⟨j, List.mem_range.2 hj, rfl⟩) (by rw [g1.1]) (by rw [g1.1]; exact hcg.symm)
    rw [g1.1] at this
    have this' : s ≤ topOf c.gen c.serial (halfOf d' (c.from d'.safe.length).1 (c.from d'.safe.length).2) := this
    omega

theorem blank_three (b : List UInt8) (hb : b = List.replicate 512 0) : (parseOf b).1 = 3 := by
  subst hb
  decide +kernel
theorem scan_none (gen : Nat) (xs : List (List UInt8)) (h : ∀ b ∈ xs, (parseOf b).1 = 3) : scanR gen 0 0 xs = (none, [], []) := by
  cases xs with
  | nil => rfl
  | cons x rest => exact scan_blank (h x (by simp)) 0 0 rest

theorem new_now (N i : Nat) (hi : i < N) : (Dk.new N).now i = List.replicate 512 0 := by
  unfold Dk.now
  show lastOf (Dk.new N).wait i ((Dk.new N).safe.getD i []) = _
  have e1 : (Dk.new N).wait = [] := rfl
  have e2 : (Dk.new N).safe = List.replicate N (List.replicate 512 0) := rfl
  rw [e1, e2, List.getD_eq_getElem?_getD, List.getElem?_replicate, if_pos hi]
  rfl
/-- a log on a new disk -/
theorem live_new {N : Nat} {c : Cr} (hN : N ≤ 4096) (ok : c.Ok) (hs : c.serial < 4294967295) :
    scanR c.gen 0 0 (halfOf (Dk.new N) (c.from N).1 (c.from N).2) = (none, [], []) ∧ (c.serial + 1 = serialOf c (Dk.new N)) ∧
    Live ⟨c.gen, (c.from N).2, c.serial + 1, fun j => (Dk.new N).now ((c.from N).1 + j), [], []⟩ ⟨c.gen, (c.from N).1, (c.from N).2, c.serial + 1, [], []⟩ (Dk.new N) [] 0 := by
  have hle := cr_from_le c N
  have hlen : (Dk.new N).safe.length = N := by show (List.replicate N (List.replicate 512 0)).length = N; simp
  have hall : ∀ b ∈ halfOf (Dk.new N) (c.from N).1 (c.from N).2, (parseOf b).1 = 3 := fun b hb => by
    obtain ⟨j, hj, rfl⟩ := List.mem_map.1 hb
    have := List.mem_range.1 hj
    exact blank_three _ (new_now N _ (by omega))
  have hsc := scan_none c.gen _ hall
  have htop : topOf c.gen c.serial (halfOf (Dk.new N) (c.from N).1 (c.from N).2) = c.serial := by
    have h1 := (top_ge c.gen (halfOf (Dk.new N) (c.from N).1 (c.from N).2) c.serial).1
    have h2 := top_le c.gen c.serial (halfOf (Dk.new N) (c.from N).1 (c.from N).2) c.serial (Nat.le_refl _) fun b hb hp _ => by rw [hall b hb] at hp; cases hp
    omega
  refine ⟨hsc, ?_, ?_⟩
  · unfold serialOf
    rw [hlen, htop]
    omega
  · exact Live.start ⟨rfl, rfl⟩ (Dk.new_ok hN) (by rw [hlen]; exact hle) ok.gen rfl (by omega) hsc fun j hj => .inl (blank_three _ (new_now N _ (by omega)))

/-- a record is appended to a live log -/
theorem live_append_any (z : Sess) (g gd : Nat) (r : Rl) (d : Dk) (F G : Nat → Prop) (all : List (List UInt8)) (synced : Nat) (v : Value) (p : List UInt8) (w : World) (hl : Live z r d all synced) (hd : DiskAt w gd d F) (hr : RlIn w g gd r G) (hv : Rec8 0 w v p) (hp : p.length ≤ 65536)
    (hc : d.count ≤ 900000) (hw : d.wait.length ≤ 900000) (ha : all.length ≤ 1000000) :
    Calls Tryd.prog 24 #[.pointer (some ⟨g, 0, none⟩), v] w fun e w' =>
      (487 * z.n < (layAll (all ++ [p])).length → e = .returned (.int .i64 5) ∧ Below w.heap.size w w') ∧
      ((layAll (all ++ [p])).length ≤ 487 * z.n → e = .returned (.int .i64 0) ∧ ∃ r' d' F' G', DiskAt w' gd d' F' ∧ RlIn w' g gd r' G' ∧ Live z r' d' (all ++ [p]) synced ∧ Moved w w' (fun k => F k ∨ G k) (fun k => F' k ∨ G' k) ∧ r'.fr = r.fr ∧ d'.safe = d.safe ∧ d'.count ≤ d.count + 5000 ∧ d'.wait.length ≤ d.wait.length + 5000) := by
  have hso1 := hl.so1
  have hroom := hl.poss.room
  have hso4 := hl.so4
  refine (rappend_any g gd r d F G v p w hd hr hv (by omega) (by rw [hl.ls, hl.n]; exact hroom) hl.fits (by rw [hl.ls]; exact hso1) hl.so3 (by omega) (by rw [hl.gen]; exact hl.g32) (by rw [hl.ser]; exact hl.poss.ok.S32) hl.free hc hw (by rw [hl.ls]; exact ha)).mono ?_
  rintro e w' ⟨-, h2, h3⟩
  rw [hl.ls, hl.n] at h2 h3
  refine ⟨fun h => h2 hp h, fun h => ?_⟩
  obtain ⟨rfl, F', G', k1, k2, k3⟩ := h3 hp h
  have hfew := hl.ok.few
  have hfit := hl.fits
  rw [hl.n] at hfit
  have hT : pagesN (layAll all).length (layAll (all ++ [p])).length ≤ 5000 := by unfold pagesN; omega
  obtain ⟨q1, q2, q3, q4⟩ := Dk.writes_are (r.pages (layAll (all ++ [p])) ((layAll all).length / 487) (pagesN (layAll all).length (layAll (all ++ [p])).length)) d hl.free
  rw [Rl.pages_len] at q3
  exact ⟨rfl, _, _, F', G', k1, k2, hl.append p hp h, k3, rfl, q1, by rw [q3]; omega, by rw [q2, List.length_append, Rl.pages_len]; omega⟩
end Go.Proofs.YtacfkhnajdneeaaDoor
