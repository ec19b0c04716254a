/- An arena in memory: New, Root, Len, Get, Put. -/
import Derived.Test.YtnbncjebmlicgaaNd
import Derived.Carry
namespace Go.Proofs.Ytnbncjebmlicgaa
open Go.RowKit

/-- the arena at g, whose map lies at b, has just these nodes -/
structure ArAt (w : World) (g b : Nat) (l : List (Nat × Nd)) : Prop where
  box : w.heap[g]? = some (.cells #[.map (some b)] 70 (0, 0))
  ex : ∃ vl, MapU Try.prog 26 w b vl ∧ StepA (fun v n => OwnNd 0 w v n) vl l
  nz : ∀ p ∈ l, p.1 ≠ 0
  few : l.length ≤ 20000

theorem MapU.isMap {P : Program} {k : TypeId} {w : World} {b : Nat} {l : List (Nat × Value)} (h : MapU P k w b l) : ∃ es c, w.heap[b]? = some (.map es c) := by
  obtain ⟨es, c, hb, -⟩ := h.1
  exact ⟨es, c, hb⟩
theorem ArAt.lt {w : World} {g b : Nat} {l : List (Nat × Nd)} (h : ArAt w g b l) : g < w.heap.size ∧ b < w.heap.size := by
  obtain ⟨vl, h1, -⟩ := h.ex
  exact ⟨(Array.getElem?_eq_some_iff.1 h.box).1, h1.lt⟩
theorem ArAt.c0 {w : World} {g b : Nat} {l : List (Nat × Nd)} (h : ArAt w g b l) : w.cell? ⟨g, 0, none⟩ = some (.map (some b)) := cell_of_row w g 0 _ _ _ h.box
theorem ArAt.asc {w : World} {g b : Nat} {l : List (Nat × Nd)} (h : ArAt w g b l) : AscA l := by
  obtain ⟨vl, h1, h2⟩ := h.ex
  exact h2.asc h1.2
theorem ArAt.only {w w' : World} {g b : Nat} {l : List (Nat × Nd)} {S : Nat → Prop} (h : ArAt w g b l) (ho : Only w w' S) (hg : ¬ S g) (hb : ¬ S b) (hs : ∀ k, S k → ∀ cs fr, w.heap[k]? ≠ some (.cells cs 26 fr)) : ArAt w' g b l := by
  obtain ⟨vl, h1, h2⟩ := h.ex
  exact ⟨(ho.block g h.lt.1 hg).trans h.box, ⟨vl, h1.only ho hb, h2.mono fun v n hn => hn.only ho hs⟩, h.nz, h.few⟩
theorem ArAt.below {w w' : World} {g b : Nat} {l : List (Nat × Nd)} (h : ArAt w g b l) (hb : Below w.heap.size w w') : ArAt w' g b l := h.only (Only.of_below hb fun _ => False) (fun h => h) (fun h => h) fun _ h => h.elim

/-- what is there at an ID -/
def atN (l : List (Nat × Nd)) (x : Nat) : Nd := (getA l x).getD .zero

/-- the look-up -/
theorem ArAt.look {w : World} {g b : Nat} {l : List (Nat × Nd)} (h : ArAt w g b l) (x : Nat) (hx : x < 18446744073709551616) :
    ∃ kv, (Instr.lookup 68 (.map (some b)) (.int .u64 x) true).run Try.prog w = .ok (.tuple #[NdVal (atN l x) kv, .bool (getA l x).isSome]) w ∧
      (Instr.lookup 68 (.map (some b)) (.int .u64 x) false).run Try.prog w = .ok (NdVal (atN l x) kv) w ∧ OwnIds 0 w kv (atN l x).kids ∧ (atN l x).Ok := by
  obtain ⟨vl, h1, h2⟩ := h.ex
  have e1 := h1.look (t := 68) Try.underlying26 Try.underlying68 (zeroNd w) x hx
  have e2 := h1.look1 (t := 68) Try.underlying26 Try.underlying68 (zeroNd w) x hx
  unfold atN
  rcases h2.get x with ⟨g1, g2⟩ | ⟨v, n, g1, g2, kv, rfl, hk, ok⟩
  · rw [g1] at e1 e2
    rw [g2]
    exact ⟨_, e1, e2, OwnIds.nil _ _, Nd.zero_ok⟩
  · rw [g1] at e1 e2
    rw [g2]
    exact ⟨kv, e1, e2, hk, ok⟩
theorem ArAt.len {w : World} {g b : Nat} {l : List (Nat × Nd)} (h : ArAt w g b l) (ty : TypeId) : (Builtin.len_ #[68] ty #[.map (some b)]).run Try.prog w = .ok (.int .i64 l.length) w := by
  obtain ⟨vl, h1, h2⟩ := h.ex
  have := h1.len (t := 68) Try.underlying68 ty
  rwa [h2.length] at this
/-- the store -/
theorem ArAt.store {w : World} {g b : Nat} {l : List (Nat × Nd)} (h : ArAt w g b l) (x : Nat) (hx : x < 18446744073709551616) (h0 : x ≠ 0) (v : Value) (n : Nd) (hv : OwnNd 0 w v n) (hl : (putA l x n).length ≤ 20000) :
    ∃ w', (Instr.mapUpdate 68 (.map (some b)) (.int .u64 x) v).run Try.prog w = .ok () w' ∧ ArAt w' g b (putA l x n) ∧ Only w w' (fun q => q = b) ∧ w'.heap.size = w.heap.size := by
  obtain ⟨vl, h1, h2⟩ := h.ex
  have hlen := h2.length
  obtain ⟨w', hrun, g1, g2, g3⟩ := h1.store (t := 68) Try.underlying26 Try.underlying68 x hx v (by have := h.few; unfold maxLen; omega)
  obtain ⟨es, c, hbm⟩ := h1.isMap
  have hs : ∀ k, k = b → ∀ cs fr, w.heap[k]? ≠ some (.cells cs 26 fr) := fun k hk cs fr e => by subst hk; rw [hbm] at e; cases e
  refine ⟨w', hrun, ⟨(g2.block g h.lt.1 (fun e => by subst e; rw [h.box] at hbm; cases hbm)).trans h.box, ⟨_, g1, (h2.put x hv).mono fun v n hn => hn.only g2 hs⟩, fun p hp => ?_, hl⟩, g2, g3⟩
  rcases mem_insA.1 hp with rfl | hp
  · exact h0
  · exact h.nz p (List.mem_filter.1 hp).1

def Nd.prog : Nd := ⟨1, ⟨#[]⟩, 0, 0, 0, []⟩
theorem Nd.prog_ok : Nd.prog.Ok := ⟨by decide, by decide, by decide, by decide, Nat.zero_le _, Nat.zero_le _, fun x hx => by cases hx⟩

set_option maxRecDepth 10000 in
set_option maxHeartbeats 800000 in
theorem arnew_any (w : World) :
    Calls Try.prog 9 #[] w fun e w' => ∃ g b, e = .returned (.pointer (some ⟨g, 0, none⟩)) ∧ ArAt w' g b [(1, .prog)] ∧ w.heap.size ≤ g ∧ w.heap.size ≤ b ∧ Below w.heap.size w w' := by
  have hmm := @run_makeMap Try.prog
  obtain ⟨w1, hrun, h1, h2, h3⟩ := (MapU.new (P := Try.prog) (k := 26) w).store (t := 68) Try.underlying26 Try.underlying68 1 (by decide) (NdVal .prog (.slice none 0 0)) (by decide)
  have hb0 := bal (bre w) (.map #[] 0)
  have hb1 : Below w.heap.size w w1 := hb0.trans (h2.below w.heap.size hb0.size fun i hi e => by omega)
  have hrun' : (Instr.mapUpdate 68 (.map (some w.heap.size)) (.int .u64 1) (.agg #[.int .u8 1, .string ⟨#[]⟩, .int .i64 0, .int .u8 0, .int .u64 0, .slice none 0 0])).run Try.prog (w.alloc (.map #[] 0)) = .ok () w1 := hrun
  have H1 := Lib.hid h1
  have HB1 := Lib.hid hb1
  clear hrun h1 h2 h3 hb0 hb1
  go_enter Try.func9, Try.ntmps9
  go_wp2_with fail
  go_ret
  have hbx := bal (bre w1) (.cells #[.map (some w.heap.size)] 70)
  have hn := heap_alloc_new w1 (.cells #[.map (some w.heap.size)] 70)
  refine ⟨_, w.heap.size, rfl, ⟨hn, ⟨_, H1.out.below hbx, .cons ⟨rfl, ⟨_, rfl, OwnIds.nil _ _, Nd.prog_ok⟩⟩ .nil⟩, fun p hp => ?_, ?_⟩, HB1.out.size, Nat.le_refl _, btr HB1.out hbx⟩
  · simp at hp; subst hp; exact Nat.one_ne_zero
  · simp

set_option maxRecDepth 10000 in
theorem arroot_any (g : Nat) (w : World) : Calls Try.prog 29 #[.pointer (some ⟨g, 0, none⟩)] w fun e w' => e = .returned (.int .u64 1) ∧ w' = w := by
  go_enter Try.func29, Try.ntmps29
  go_wp2
  go_ret
  exact ⟨rfl, rfl⟩
set_option maxRecDepth 10000 in
theorem arroot_nil (w : World) : Calls Try.prog 29 #[.pointer none] w fun e w' => e = .returned (.int .u64 0) ∧ w' = w := by
  go_enter Try.func29, Try.ntmps29
  go_wp2
  go_ret
  exact ⟨rfl, rfl⟩

set_option maxRecDepth 10000 in
theorem arlen_any (g b : Nat) (l : List (Nat × Nd)) (w : World) (h : ArAt w g b l) : Calls Try.prog 24 #[.pointer (some ⟨g, 0, none⟩)] w fun e w' => e = .returned (.int .i64 l.length) ∧ w' = w := by
  have c0 := h.c0
  have hlen := fun ty => h.len ty
  clear h
  go_enter Try.func24, Try.ntmps24
  go_wp2_with fail
  go_ret
  exact ⟨rfl, rfl⟩
set_option maxRecDepth 10000 in
theorem arlen_nil (w : World) : Calls Try.prog 24 #[.pointer none] w fun e w' => e = .returned (.int .i64 0) ∧ w' = w := by
  go_enter Try.func24, Try.ntmps24
  go_wp2
  go_ret
  exact ⟨rfl, rfl⟩
end Go.Proofs.Ytnbncjebmlicgaa
