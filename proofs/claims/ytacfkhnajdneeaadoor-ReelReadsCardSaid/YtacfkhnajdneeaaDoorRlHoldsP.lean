/- Plain: a log that is written, synced, and opened anew behind crashes. -/
import Derived.Test.YtacfkhnajdneeaaDoorRlGoesP
namespace Go.Proofs.YtacfkhnajdneeaaDoor
open Go.RowKit

/-- what stands between two acts -/
structure Hol (w wr : World) (gd n3 g N k : Nat) (c : Cr) (va : Value) (all : List (List UInt8)) (z : Sess) (r : Rl) (d : Dk) (F G : Nat → Prop) (synced : Nat) : Prop where
  st : St w wr gd g z r d F G all synced
  cr : Row3 wr n3 c
  recs : RecsAt w.heap.size wr va all
  ap : ∀ q, va.ownBlock = some q → ¬ (F q ∨ G q)
  zg : z.gen = c.gen
  zs : c.serial < z.S ∧ z.S ≤ c.serial + 1 + k
  fr : c.from N = (r.fr, r.n)
  len : d.safe.length = N
  few : d.count ≤ 5000 * k ∧ d.wait.length ≤ 5000 * k

theorem Hol.below {w wr w' : World} {gd n3 g N k synced : Nat} {c : Cr} {va : Value} {all : List (List UInt8)} {z : Sess} {r : Rl} {d : Dk} {F G : Nat → Prop} (h : Hol w wr gd n3 g N k c va all z r d F G synced) (hb : Below wr.heap.size wr w') : Hol w w' gd n3 g N k c va all z r d F G synced :=
  ⟨h.st.below hb, h.cr.below hb, h.recs.below hb, h.ap, h.zg, h.zs, h.fr, h.len, h.few⟩
theorem Hol.later {w wr : World} {gd n3 g N k k' synced : Nat} {c : Cr} {va : Value} {all : List (List UInt8)} {z : Sess} {r : Rl} {d : Dk} {F G : Nat → Prop} (h : Hol w wr gd n3 g N k c va all z r d F G synced) (hk : k ≤ k') : Hol w wr gd n3 g N k' c va all z r d F G synced :=
  ⟨h.st, h.cr, h.recs, h.ap, h.zg, ⟨h.zs.1, by have := h.zs.2; omega⟩, h.fr, h.len, ⟨by have := h.few.1; omega, by have := h.few.2; omega⟩⟩

theorem Hol.sync {w wr w' : World} {gd n3 g N k synced : Nat} {c : Cr} {va : Value} {all : List (List UInt8)} {z : Sess} {r : Rl} {d : Dk} {F F' G : Nat → Prop} (h : Hol w wr gd n3 g N k c va all z r d F G synced) (hs : St w w' gd g z r d.synced F' G all all.length) (hm : Moved wr w' (fun q => F q ∨ G q) (fun q => F' q ∨ G q)) :
    Hol w w' gd n3 g N k c va all z r d.synced F' G all.length := by
  obtain ⟨k1, k2⟩ := h.recs.moved h.st hm h.ap
  exact ⟨hs, h.cr.moved h.st hm, k1, k2, h.zg, h.zs, h.fr, by rw [← h.len]; exact syncOf_length _ _, ⟨h.few.1, Nat.zero_le _⟩⟩

theorem crashed_can (d : Dk) (keep : List Bool) (i : Nat) (hi : i < d.safe.length) : d.Can i ((d.crashed keep).now i) := crash_get keep d.wait 0 d.safe i hi
theorem crashed_ok {d : Dk} (h : d.Ok) (keep : List Bool) : (d.crashed keep).Ok := ⟨crashOf_ok keep d.wait (fun x hx => (h.wait x hx).1) 0 d.safe h.safe, fun x hx => (by cases hx), by show (crashOf keep 0 d.wait d.safe).length ≤ _; rw [crashOf_length]; exact h.few⟩
theorem crashed_len (d : Dk) (keep : List Bool) : (d.crashed keep).safe.length = d.safe.length := crashOf_length keep d.wait 0 d.safe

/-- behind a crash, opened anew, and told: what was told is all there is now -/
theorem Hol.crash {w wr wc w' : World} {gd gn n3 g g' N k synced kk : Nat} {c : Cr} {va va' : Value} {all : List (List UInt8)} {z z' : Sess} {r r' : Rl} {d : Dk} {F F' G G' : Nat → Prop} {keep : List Bool} (h : Hol w wr gd n3 g N k c va all z r d F G synced)
    (hd : DiskAt wc gn (d.crashed keep) F') (hF : ∀ q, F' q → wr.heap.size ≤ q) (hbc : Below wr.heap.size wr wc) (hb : Below wc.heap.size wc w') (hr : RlIn w' g' gn r' G') (hG : ∀ q, G' q → wc.heap.size ≤ q) (hl : Live z' r' (d.crashed keep) (all.take kk) (all.take kk).length)
    (hn : z'.n = z.n) (hg : z'.gen = z.gen) (hs : z'.S ≤ z.S + 1) (hc : c.serial < z'.S) (hf : r'.fr = r.fr) (hv : RecsAt w.heap.size w' va' (all.take kk)) (ha : ∀ q, va'.ownBlock = some q → ¬ (F' q ∨ G' q)) :
    Hol w w' gn n3 g' N (k + 1) c va' (all.take kk) z' r' (d.crashed keep) F' G' (all.take kk).length := by
  have hb2 := btr hbc hb
  refine ⟨⟨hd.below hb, hr, hl, fun q hq => ?_, btr h.st.bel hb2⟩, h.cr.below hb2, hv, ha, hg.trans h.zg, ⟨hc, by have := h.zs.2; omega⟩, ?_, (crashed_len d keep).trans h.len, ⟨Nat.zero_le _, Nat.zero_le _⟩⟩
  · rcases hq with hq | hq
    · exact Nat.le_trans h.st.bel.size (hF q hq)
    · exact Nat.le_trans (Nat.le_trans h.st.bel.size hbc.size) (hG q hq)
  · rw [h.fr, hf]
    congr 1
    rw [hl.n, hn, ← h.st.lv.n]

/-- one record more: the list is made anew -/
theorem Hol.more {w wr w1 w' : World} {gd n3 g N k synced : Nat} {c : Cr} {va va' : Value} {all : List (List UInt8)} {x : List UInt8} {z : Sess} {r r' : Rl} {d d' : Dk} {F F' G G' : Nat → Prop} (h : Hol w wr gd n3 g N k c va all z r d F G synced)
    (hs : St w w1 gd g z r' d' F' G' (all ++ [x]) synced) (hm : Moved wr w1 (fun q => F q ∨ G q) (fun q => F' q ∨ G' q)) (hf : r'.fr = r.fr) (hsafe : d'.safe = d.safe) (hc1 : d'.count ≤ d.count + 5000) (hw1 : d'.wait.length ≤ d.wait.length + 5000)
    (hb : Below w1.heap.size w1 w') (hv : RecsAt w.heap.size w' va' (all ++ [x])) (ha : ∀ q, va'.ownBlock = some q → w1.heap.size ≤ q) : Hol w w' gd n3 g N (k + 1) c va' (all ++ [x]) z r' d' F' G' synced := by
  refine ⟨hs.below hb, (h.cr.moved h.st hm).below hb, hv, fun q hq hFG => ?_, h.zg, ⟨h.zs.1, by have := h.zs.2; omega⟩, ?_, by rw [hsafe]; exact h.len, ⟨by have := h.few.1; omega, by have := h.few.2; omega⟩⟩
  · have h1 := ha q hq
    rcases hFG with hF | hG
    · have := hs.dk.lt q hF; omega
    · have := hs.rl.lt q hG; omega
  · rw [h.fr, hf]
    congr 1
    rw [hs.lv.n, ← h.st.lv.n]

/-- the row behind two appends -/
theorem recs_of_row {B n0 : Nat} {w : World} {v u : Value} {us : List Value} {all : List (List UInt8)} {x : List UInt8} (hrow : w.ownsRow n0 23 1 v (us.length + 1) (us ++ [u])) (hlen : us.length = all.length) (hel : ∀ (j : Nat) (y : Value) (l : List UInt8), us[j]? = some y → all[j]? = some l → Rec8 B w y l) (hu : Rec8 B w u x) (hB : B ≤ n0) :
    RecsAt B w v (all ++ [x]) := by
  refine ⟨us ++ [u], by rw [List.length_append, List.length_append, hlen]; rfl, ?_, fun j y l hy hl => ?_⟩
  · rw [List.length_append]
    exact ownsRow_base hrow hB
  · by_cases hj : j < us.length
    · rw [List.getElem?_append_left hj] at hy
      rw [List.getElem?_append_left (by omega)] at hl
      exact hel j y l hy hl
    · rw [List.getElem?_append_right (by omega)] at hy
      rw [List.getElem?_append_right (by omega), ← hlen] at hl
      rcases hjj : j - us.length with _ | m
      · rw [hjj] at hy hl
        cases hy
        cases hl
        exact hu
      · rw [hjj] at hy
        cases hy
theorem own_empty (w : World) (T : Nat) : (w.alloc (.cells #[] T)).ownsRow w.heap.size T 1 (.slice (some ⟨w.heap.size, 0, none⟩) 0 0) 0 [] :=
  ⟨rfl, .inr ⟨_, 0, #[], rfl, Nat.le_refl _, heap_alloc_new w _, Nat.le_refl _, Nat.zero_le _, rfl, rfl⟩⟩
end Go.Proofs.YtacfkhnajdneeaaDoor
