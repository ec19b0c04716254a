/- Walks: a log, its disk, and all that they lie in, behind a beginning. -/
import Derived.Test.YtacfkhnajdneeaaDoorRlMore
namespace Go.Proofs.YtacfkhnajdneeaaDoor
open Go.RowKit

structure St (w0 w : World) (gd g : Nat) (z : Sess) (r : Rl) (d : Dk) (F G : Nat → Prop) (all : List (List UInt8)) (synced : Nat) : Prop where
  dk : DiskAt w gd d F
  rl : RlIn w g gd r G
  lv : Live z r d all synced
  low : ∀ k, F k ∨ G k → w0.heap.size ≤ k
  bel : Below w0.heap.size w0 w

theorem St.below {w0 w w' : World} {gd g : Nat} {z : Sess} {r : Rl} {d : Dk} {F G : Nat → Prop} {all : List (List UInt8)} {synced : Nat} (h : St w0 w gd g z r d F G all synced) (hb : Below w.heap.size w w') : St w0 w' gd g z r d F G all synced :=
  ⟨h.dk.below hb, h.rl.below hb, h.lv, h.low, btr h.bel hb⟩
theorem St.no8 {w0 w : World} {gd g : Nat} {z : Sess} {r : Rl} {d : Dk} {F G : Nat → Prop} {all : List (List UInt8)} {synced : Nat} (h : St w0 w gd g z r d F G all synced) : ∀ k, F k ∨ G k → ∀ cs fr, w.heap[k]? ≠ some (.cells cs 5 fr) := fun k hk => by
  rcases hk with hk | hk
  · exact h.dk.no8 k hk
  · exact h.rl.no8 k hk
theorem Moved.two {w w' : World} {F F' G : Nat → Prop} (h : Moved w w' F F') : Moved w w' (fun k => F k ∨ G k) (fun k => F' k ∨ G k) :=
  ⟨h.only.mono fun k _ hk => .inl hk, fun k hk => by
    rcases hk with hk | hk
    · rcases h.fresh k hk with e | e
      · exact .inl (.inl e)
      · exact .inr e
    · exact .inl (.inr hk)⟩
/-- what is kept while a log goes on -/
theorem Rec8.moved {base : Nat} {w0 w w' : World} {gd g : Nat} {z : Sess} {r : Rl} {d : Dk} {F G B' : Nat → Prop} {all : List (List UInt8)} {synced : Nat} {v : Value} {p : List UInt8} (h : Rec8 base w v p) (hs : St w0 w gd g z r d F G all synced) (hm : Moved w w' (fun k => F k ∨ G k) B') : Rec8 base w' v p :=
  h.only hm.only hs.no8
theorem RecsAt.moved {base : Nat} {w0 w w' : World} {gd g : Nat} {z : Sess} {r : Rl} {d : Dk} {F G B' : Nat → Prop} {all : List (List UInt8)} {synced : Nat} {v : Value} {ls : List (List UInt8)} (h : RecsAt base w v ls) (hs : St w0 w gd g z r d F G all synced) (hm : Moved w w' (fun k => F k ∨ G k) B')
    (hn : ∀ k, v.ownBlock = some k → ¬ (F k ∨ G k)) : RecsAt base w' v ls ∧ ∀ k, v.ownBlock = some k → ¬ B' k := by
  obtain ⟨us, -, q2, -⟩ := id h
  refine ⟨h.only hm.only fun k hk => ⟨hs.no8 k hk, fun e => hn k e hk⟩, fun k hk hB => ?_⟩
  rcases hm.fresh k hB with e | e
  · exact hn k hk e
  · have := (World.ownsRow.lt q2 k hk).2
    omega

theorem st_append_any {w0 w : World} {gd g : Nat} {z : Sess} {r : Rl} {d : Dk} {F G : Nat → Prop} {all : List (List UInt8)} {synced : Nat} (h : St w0 w gd g z r d F G all synced) (v : Value) (p : List UInt8) (hv : Rec8 0 w v p) (hp : p.length ≤ 65536) (hc : d.count ≤ 900000) (hw : d.wait.length ≤ 900000) (ha : all.length ≤ 1000000) :
    Calls Tryd.prog 24 #[.pointer (some ⟨g, 0, none⟩), v] w fun e w' =>
      (487 * z.n < (layAll (all ++ [p])).length → e = .returned (.int .i64 5) ∧ Below w.heap.size w w') ∧
      ((layAll (all ++ [p])).length ≤ 487 * z.n → e = .returned (.int .i64 0) ∧ ∃ r' d' F' G', St w0 w' gd g z r' d' F' G' (all ++ [p]) synced ∧ Moved w w' (fun k => F k ∨ G k) (fun k => F' k ∨ G' k) ∧ r'.fr = r.fr ∧ d'.safe = d.safe ∧ d'.count ≤ d.count + 5000 ∧ d'.wait.length ≤ d.wait.length + 5000) := by
  refine (live_append_any z g gd r d F G all synced v p w h.lv h.dk h.rl hv hp hc hw ha).mono ?_
  rintro e w' ⟨h1, h2⟩
  refine ⟨h1, fun hle => ?_⟩
  obtain ⟨he, r', d', F', G', k1, k2, k3, k4, k5⟩ := h2 hle
  exact ⟨he, r', d', F', G', ⟨k1, k2, k3, k4.ge h.bel.size h.low, h.bel.trans (k4.below h.bel.size h.low)⟩, k4, k5⟩

theorem st_sync_any {w0 w : World} {gd g : Nat} {z : Sess} {r : Rl} {d : Dk} {F G : Nat → Prop} {all : List (List UInt8)} {synced : Nat} (h : St w0 w gd g z r d F G all synced) (hw : d.wait.length ≤ 1000000) :
    Calls Tryd.prog 21 #[.pointer (some ⟨g, 0, none⟩)] w fun e w' => e = .returned (.int .i64 0) ∧ ∃ F', St w0 w' gd g z r d.synced F' G all all.length ∧ Moved w w' (fun k => F k ∨ G k) (fun k => F' k ∨ G k) := by
  refine (live_sync_any h.lv h.dk h.rl hw).mono ?_
  rintro e w' ⟨he, F', k1, k2, k3, k4⟩
  have hm : Moved w w' (fun k => F k ∨ G k) (fun k => F' k ∨ G k) := k4.two
  exact ⟨he, F', ⟨k1, k2, k3, hm.ge h.bel.size h.low, h.bel.trans (hm.below h.bel.size h.low)⟩, hm⟩

theorem all_len_le (l : List (List UInt8)) : l.length ≤ (layAll l).length := by
  induction l with
  | nil => exact Nat.le_refl _
  | cons x l ih => rw [layAll_cons, List.length_append, List.length_cons]; have := layOne_pos x; omega

/-- what is read of a disk as it stands -/
theorem open_now_any (gd : Nat) (F : Nat → Prop) (c : Cr) (ok : c.Ok) (w : World) {z : Sess} {r : Rl} {d : Dk} {all : List (List UInt8)} {synced : Nat} (h : Live z r d all synced) (hd : DiskAt w gd d F) (hh : c.half ≤ 1) (h4 : 4 ≤ d.safe.length)
    (hcg : c.gen = z.gen) (hfr : (c.from d.safe.length) = (r.fr, r.n)) (hw : d.wait.length ≤ 1000000) :
    Calls Tryd.prog 20 #[.pointer (some ⟨gd, 0, none⟩), CrVal c] w fun e w' => Below w.heap.size w w' ∧ ∃ g G r', e = .returned (.tuple #[.pointer (some ⟨g, 0, none⟩), .int .i64 0, .int .i64 0]) ∧ RlIn w' g gd r' G ∧ (∀ k, G k → w.heap.size ≤ k) ∧ r'.ls = all ∧ r'.n = r.n ∧ r'.serial = serialOf c d := by
  obtain ⟨Q, so, k, h1, h2, h3, h4'⟩ := h.now.reads (fun j => d.now (r.fr + j)) fun j _ => rfl
  have hk : k = all.length := by omega
  have hh2 : halfOf d (c.from d.safe.length).1 (c.from d.safe.length).2 = (List.range z.n).map fun j => d.now (r.fr + j) := by
    rw [hfr, ← h.n]
    rfl
  refine (ropen_any gd d F c ok w hd hh hw).mono ?_
  rintro e w' ⟨hb, -, hgood⟩
  obtain ⟨s, P, so', hsc, -, hg⟩ := hgood h4
  rw [hh2, hcg, h1] at hsc
  cases hsc
  obtain ⟨g, G, he, hr, hG⟩ := hg rfl
  refine ⟨hb, g, G, _, he, hr, hG, ?_, ?_, rfl⟩
  · show cutL Q = all
    rw [h2, hk, List.take_length]
  · show (c.from d.safe.length).2 = r.n
    rw [hfr]
end Go.Proofs.YtacfkhnajdneeaaDoor
