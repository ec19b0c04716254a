/- Walks: what a log tells of itself, as a whole. -/
import Derived.Test.YtacfkhnajdneeaaDoorRlHalf
import Derived.Test.YtacfkhnajdneeaaDoorPreD
import Derived.Lib.SlBytesConst
namespace Go.Proofs.YtacfkhnajdneeaaDoor
open Go.RowKit

theorem RlIn.parts {w : World} {g gd : Nat} {r : Rl} {G : Nat → Prop} (h : RlIn w g gd r G) : ∃ al cl ap cp vs, RlRow w g gd r.gen r.fr r.n r.serial (.slice al r.ls.length cl) (.slice ap (layAll r.ls).length cp) vs ∧ RecsAt 0 w (.slice al r.ls.length cl) r.ls := by
  obtain ⟨vl, vp, vs, h1, h2, h3, h4, h5⟩ := h
  obtain ⟨al, cl, rfl, -, -, -, -⟩ := id h2.rows
  obtain ⟨ap, cp, rfl, -, -, -, -⟩ := id h3.1
  exact ⟨al, cl, ap, cp, vs, h1, h2⟩

section
variable {g gd : Nat} {r : Rl} {G : Nat → Prop} {w : World}
theorem rserial_in (hr : RlIn w g gd r G) : Calls Tryd.prog 22 #[.pointer (some ⟨g, 0, none⟩)] w fun e w' => e = .returned (.int .u32 r.serial) ∧ w' = w := by
  obtain ⟨al, cl, ap, cp, vs, h1, h2⟩ := hr.parts
  exact rserial_any w g gd _ _ _ _ _ _ _ h1
theorem rcount_in (hr : RlIn w g gd r G) : Calls Tryd.prog 29 #[.pointer (some ⟨g, 0, none⟩)] w fun e w' => e = .returned (.int .i64 r.ls.length) ∧ w' = w := by
  obtain ⟨al, cl, ap, cp, vs, h1, h2⟩ := hr.parts
  exact rcount_any w g gd _ _ _ _ _ _ _ _ _ h1
theorem rsize_in (hr : RlIn w g gd r G) : Calls Tryd.prog 32 #[.pointer (some ⟨g, 0, none⟩)] w fun e w' => e = .returned (.int .i64 (layAll r.ls).length) ∧ w' = w := by
  obtain ⟨al, cl, ap, cp, vs, h1, h2⟩ := hr.parts
  exact rsize_any w g gd _ _ _ _ _ _ _ _ _ h1
theorem rroom_in (hr : RlIn w g gd r G) (hn : r.n ≤ 5000) (hk : (layAll r.ls).length ≤ 487 * r.n) : Calls Tryd.prog 23 #[.pointer (some ⟨g, 0, none⟩)] w fun e w' => e = .returned (.int .i64 ((487 * r.n - (layAll r.ls).length : Nat) : Int)) ∧ Below w.heap.size w w' := by
  obtain ⟨al, cl, ap, cp, vs, h1, h2⟩ := hr.parts
  exact rroom_any w g gd _ _ _ _ _ _ _ _ _ hn hk h1
theorem rrecords_in (hr : RlIn w g gd r G) (hlen : r.ls.length ≤ 1000000) (hx : ∀ x ∈ r.ls, x.length ≤ 65536) :
    Calls Tryd.prog 25 #[.pointer (some ⟨g, 0, none⟩)] w fun e w' => ∃ v', e = .returned v' ∧ RecsAt w.heap.size w' v' r.ls ∧ Below w.heap.size w w' := by
  obtain ⟨al, cl, ap, cp, vs, h1, h2⟩ := hr.parts
  exact rrecords_any w g gd _ _ _ _ _ _ _ r.ls h1 h2 hlen hx
theorem live_sync_any {z : Sess} {d : Dk} {F : Nat → Prop} {all : List (List UInt8)} {synced : Nat} (hl : Live z r d all synced) (hd : DiskAt w gd d F) (hr : RlIn w g gd r G) (hw : d.wait.length ≤ 1000000) :
    Calls Tryd.prog 21 #[.pointer (some ⟨g, 0, none⟩)] w fun e w' => e = .returned (.int .i64 0) ∧ ∃ F', DiskAt w' gd d.synced F' ∧ RlIn w' g gd r G ∧ Live z r d.synced all all.length ∧ Moved w w' F F' := by
  obtain ⟨al, cl, ap, cp, vs, h1, h2⟩ := hr.parts
  refine (rsync_any w g gd _ _ _ _ _ _ _ d F hd hl.free hw h1).mono ?_
  rintro e w' ⟨F', rfl, k1, k2⟩
  exact ⟨rfl, F', k1, hr.moved hd k2, hl.sync, k2⟩
end

theorem convert_const (w : World) (C : Array Value) (n c k : Nat) (hk : k = w.heap.size) :
    (convert 23 23 (.slice (some ⟨k, 0, none⟩) n c)).run Tryd.prog (w.alloc (.cells C 5)) = .ok (.slice (some ⟨k, 0, none⟩) n c) (w.alloc (.cells C 5 (C.size, C.size + 1))) := by
  subst hk
  exact Lib.run_convert_bytes_const (P := Tryd.prog) w 23 5 C n c Tryd.underlying23 Tryd.underlying5

/-- a literal of bytes that is read, the cells behind it marked as never written -/
theorem bytes_frozen (w : World) (cs : Array Value) (l : List UInt8) (e n k : Nat) (fr : Nat × Nat) (h : cs.toList = l.map B8) (hn : n = l.length) (hm : l.length ≤ maxLen) (hk : k = w.heap.size) :
    Bytes (w.alloc (.cells cs e fr)) (.slice (some ⟨k, 0, none⟩) n n) l := by
  subst hn hk
  refine ⟨_, _, rfl, hm, Nat.le_refl _, fun h => (by cases h), .inr ⟨_, _, rfl, fun j x hx => ⟨B8 x, ?_, rfl⟩⟩⟩
  rw [Nat.zero_add, cell_of_row _ _ j cs e fr (heap_alloc_new w _), ← Array.getElem?_toList, h, List.getElem?_map, hx]
  rfl

theorem rec_lit (w : World) (b : UInt8) (x k : Nat) (hk : k = w.heap.size) (hx : x = b.toNat) : Rec8 0 (w.alloc (.cells #[.int .u8 x] 5 (1, 2))) (.slice (some ⟨k, 0, none⟩) 1 1) [b] := by
  refine ⟨bytes_frozen w _ [b] _ 1 k _ (by rw [hx]; rfl) rfl (by simp [maxLen]) hk, fun k' o n c _ e => ⟨Nat.zero_le _, ?_⟩⟩
  cases e
  rw [hk]
  exact ⟨_, _, heap_alloc_new w _⟩

theorem Live.big {z : Sess} {r : Rl} {d : Dk} {all : List (List UInt8)} {synced : Nat} (h : Live z r d all synced) : ∀ x ∈ all, x.length ≤ 65536 := h.poss.big
theorem Live.few {z : Sess} {r : Rl} {d : Dk} {all : List (List UInt8)} {synced : Nat} (h : Live z r d all synced) : all.length ≤ 2000000 := by
  have h1 := h.poss.room
  have h2 := h.ok.few
  have h3 := h.fits
  have h4 := h.n
  have h5 : ∀ l : List (List UInt8), l.length ≤ (layAll l).length := fun l => by
    induction l with
    | nil => exact Nat.le_refl _
    | cons x l ih => rw [layAll_cons, List.length_append, List.length_cons]; have := layOne_pos x; omega
  have := h5 all
  omega
end Go.Proofs.YtacfkhnajdneeaaDoor
