/- An arena that is read: plain, and its state in memory. -/
import Derived.Test.YtnbncjebmlicgaaArFormsP
import Derived.Test.YtnbncjebmlicgaaArBytes
import Derived.Test.YtnbncjebmlicgaaPreD
namespace Go.Proofs.Ytnbncjebmlicgaa
open Go.RowKit

def Few (N : Nat) (o : Option (List UInt8)) : Prop := ∀ q, o = some q → q.length ≤ N
theorem num_lt64 (o : Option (List UInt8)) : (Rd.num top64 o).1 < 18446744073709551616 := Nat.lt_of_le_of_lt (Rd.num_lt top64 o) (by unfold top64; omega)
theorem Few.num {N : Nat} {o : Option (List UInt8)} (h : Few N o) (m : Nat) : Few N (Rd.num m o).2 := fun r hr => by
  have := h _ (num_back hr).1
  rw [List.length_append] at this
  omega
theorem Few.take {N : Nat} {o : Option (List UInt8)} (h : Few N o) : Few N (Rd.take o).2 := fun r hr => by
  have := h _ (take_back hr)
  rw [List.length_cons] at this
  omega
theorem Few.text {N : Nat} {o : Option (List UInt8)} (h : Few N o) (m : Nat) : Few N (Rd.text m o).2 := fun r hr => by
  have := h _ (text_back hr).1
  rw [List.length_append, List.length_append] at this
  omega
theorem Few.int {N : Nat} {o : Option (List UInt8)} (h : Few N o) : Few N (Rd.int o).2 := fun r hr => by
  have := h _ (int_back hr).1
  rw [List.length_append] at this
  omega
theorem Few.left {N : Nat} {o : Option (List UInt8)} (h : Few N o) : Rd.left o ≤ N := by
  cases o with
  | none => exact Nat.zero_le _
  | some q => exact h q rfl
theorem Few.kids {N : Nat} : ∀ (c : Nat) {o : Option (List UInt8)}, Few N o → Few N (rdKids c o).2
  | 0, _, h => h
  | c + 1, _, h => Few.kids c (h.num _)
theorem kids_len : ∀ (c : Nat) (o : Option (List UInt8)), (rdKids c o).1.length = c
  | 0, _ => rfl
  | c + 1, o => by show _ + 1 = _; rw [kids_len c]
theorem kids_64 : ∀ (c : Nat) (o : Option (List UInt8)), ∀ y ∈ (rdKids c o).1, y < 18446744073709551616
  | 0, _, y, hy => nomatch hy
  | c + 1, o, y, hy => by
    rcases List.mem_cons.1 hy with rfl | hy
    · exact num_lt64 _
    · exact kids_64 c _ y hy
theorem text_short (m : Nat) (o : Option (List UInt8)) : (Rd.text m o).1.length ≤ m := by
  cases h : (Rd.text m o).2 with
  | some r => exact (text_back h).2
  | none =>
    unfold Rd.text at h ⊢
    rcases numcases m o with ⟨n, r, h1, h2, h3, h4⟩ | h4
    · rw [h4] at h ⊢
      simp only at h ⊢
      split
      · rename_i hn
        rw [if_pos hn] at h
        cases h
      · exact Nat.zero_le _
    · rw [h4]
      exact Nat.zero_le _
theorem rdHead_eq {o : Option (List UInt8)} {k : UInt8 × Option (List UInt8)} {s : List UInt8 × Option (List UInt8)} {n : Int × Option (List UInt8)} {t : UInt8 × Option (List UInt8)} {f c : Nat × Option (List UInt8)}
    (hk : k = Rd.take o) (hs : s = Rd.text 64 k.2) (hn : n = Rd.int s.2) (ht : t = Rd.take n.2) (hf : f = Rd.num top64 t.2) (hc : c = Rd.num top64 f.2) :
    rdHead o = (⟨k.1.toNat, ⟨s.1.toArray⟩, n.1, t.1.toNat, f.1, []⟩, min c.1 (Rd.left c.2 + 1), c.2) := by
  subst hk hs hn ht hf hc
  rfl
theorem rdNd_eq {o o1 : Option (List UInt8)} {h : Nd} {m : Nat} (e : rdHead o = (h, m, o1)) : rdNd o = ({ h with kids := (rdKids m o1).1 }, (rdKids m o1).2) := by
  unfold rdNd
  rw [e]
theorem int_range (o : Option (List UInt8)) : -9223372036854775808 ≤ (Rd.int o).1 ∧ (Rd.int o).1 ≤ 9223372036854775807 := zagbound (num_lt64 o)
theorem rdNd_ok {o : Option (List UInt8)} (h : Few 900000 o) : (rdNd o).1.Ok ∧ Few 900000 (rdNd o).2 := by
  have e := rdHead_eq (o := o) rfl rfl rfl rfl rfl rfl
  rw [rdNd_eq e]
  have h6 := ((((((h.take).text 64).int).take).num top64).num top64)
  have h7 := h6.left
  refine ⟨⟨UInt8.toNat_lt _, UInt8.toNat_lt _, num_lt64 _, num_wf (int_range _), ?_, ?_, kids_64 _ _⟩, Few.kids _ h6⟩
  · have := text_short 64 (Rd.take o).2
    show (Rd.text 64 (Rd.take o).2).1.toArray.size ≤ _
    rw [List.size_toArray]
    unfold maxLen
    omega
  · show (rdKids _ _).1.length ≤ _
    rw [kids_len]
    omega

theorem finA_none {l : List (Nat × Nd)} {m last : Nat} {o : Option (List UInt8)} (h : (Rd.num (top64 - last) o).1 = 0) : finA l (m + 1) last o = none := by
  unfold finA
  simp only [rdNds]
  rw [if_pos h]
theorem finA_step {l : List (Nat × Nd)} {m last : Nat} {o : Option (List UInt8)} (h : ¬ (Rd.num (top64 - last) o).1 = 0) :
    finA l (m + 1) last o = finA (l ++ [(last + (Rd.num (top64 - last) o).1, (rdNd (Rd.num (top64 - last) o).2).1)]) m (last + (Rd.num (top64 - last) o).1) (rdNd (Rd.num (top64 - last) o).2).2 := by
  unfold finA
  simp only [rdNds]
  rw [if_neg h]
  cases rdNds m (last + (Rd.num (top64 - last) o).1) (rdNd (Rd.num (top64 - last) o).2).2 with
  | none => rfl
  | some q =>
    obtain ⟨l', o'⟩ := q
    cases o' with
    | none => rfl
    | some r =>
      cases r with
      | nil => simp
      | cons b r => rfl
theorem finA_end {l : List (Nat × Nd)} {last : Nat} {o : Option (List UInt8)} : finA l 0 last o = if o = some [] then some l else none := by
  unfold finA
  simp only [rdNds]
  cases o with
  | none => rfl
  | some r =>
    cases r with
    | nil => simp
    | cons b r => rfl
theorem putA_last {l : List (Nat × Nd)} {x : Nat} {n : Nd} (h : ∀ p ∈ l, p.1 < x) : putA l x n = l ++ [(x, n)] := by
  unfold putA delA
  have e : l.filter (fun p => !(p.1 == x)) = l := List.filter_eq_self.2 fun p hp => by
    have := h p hp
    have h2 : ¬ p.1 = x := by omega
    simp [h2]
  rw [e]
  exact insA_end fun p hp => by have := h p hp; show ¬ x < p.1; omega
theorem num_top (m : Nat) (o : Option (List UInt8)) : (Rd.num m o).1 ≤ m := by
  rcases numcases m o with ⟨n, r, h1, h2, h3, h4⟩ | h4
  · rw [h4]; exact h3
  · rw [h4]; exact Nat.zero_le _

theorem RdAt.low {B : Nat} {w w' : World} {v : Value} {o : Option (List UInt8)} (h : RdAt B w v o) (hb : Below B w w') : RdAt B w' v o := by
  rcases h with h | ⟨g, u, rfl, hg, h⟩
  · exact .inl h
  · rcases h with ⟨rfl, h⟩ | ⟨l, rfl, h, hy, hB⟩
    · exact .inr ⟨g, undef, rfl, hg, .inl ⟨rfl, (hb.block g hg).trans h⟩⟩
    · refine .inr ⟨g, u, rfl, hg, .inr ⟨l, rfl, (hb.block g hg).trans h, ?_, hB⟩⟩
      obtain ⟨a, c, rfl, h1, h2, h3, h4⟩ := hy
      refine ⟨a, c, rfl, h1, h2, h3, ?_⟩
      by_cases hl : l = []
      · exact .inl hl
      · rcases h4 with h4 | ⟨k, i, rfl, h4⟩
        · exact .inl h4
        · exact .inr ⟨k, i, rfl, fun j x hx => by
            obtain ⟨y, hy, hr⟩ := h4 j x hx
            exact ⟨y, (hb.cell (p := ⟨k, i + j, none⟩) (hB _ _ _ _ hl rfl)).trans hy, hr⟩⟩
theorem RdAt.cells {B : Nat} {w : World} {v : Value} {o : Option (List UInt8)} (h : RdAt B w v o) {k : Nat} (hv : v = .pointer (some ⟨k, 0, none⟩)) : ∃ cs, w.heap[k]? = some (.cells cs 117 (0, 0)) ∧ k < B := by
  rcases h with ⟨rfl, -⟩ | ⟨g, u, rfl, hg, h⟩
  · cases hv
  · cases hv
    rcases h with ⟨-, h⟩ | ⟨l, -, h, -, -⟩
    · exact ⟨_, h, hg⟩
    · exact ⟨_, h, hg⟩
theorem RdAt.mapOnly {B b : Nat} {w w' : World} {v : Value} {o : Option (List UInt8)} {es : Array MapEntry} {c : Nat} (h : RdAt B w v o) (hm : w.heap[b]? = some (.map es c)) (ho : Only w w' (fun q => q = b)) : RdAt B w' v o := by
  have key : ∀ g cs, w.heap[g]? = some (Obj.cells cs 117 (0, 0)) → w'.heap[g]? = some (Obj.cells cs 117 (0, 0)) := fun g cs hg =>
    (ho.block g (Array.getElem?_eq_some_iff.1 hg).1 (fun e => by subst e; rw [hm] at hg; cases hg)).trans hg
  rcases h with h | ⟨g, u, rfl, hg, h⟩
  · exact .inl h
  · rcases h with ⟨rfl, h⟩ | ⟨l, rfl, h, hy, hB⟩
    · exact .inr ⟨g, undef, rfl, hg, .inl ⟨rfl, key g _ h⟩⟩
    · refine .inr ⟨g, u, rfl, hg, .inr ⟨l, rfl, key g _ h, hy.only ho (fun k i n c' hl e => ?_), hB⟩⟩
      rintro rfl
      obtain ⟨a', c', e', _, _, _, h | ⟨g', o', ha, h⟩⟩ := hy
      · exact hl h
      · rw [e] at e'
        cases e'
        cases ha
        cases l with
        | nil => exact hl rfl
        | cons x l =>
          obtain ⟨y, hy, -⟩ := h 0 x rfl
          unfold World.cell? at hy
          simp [hm] at hy

/-- where the reading of an arena stands -/
structure PSt (w wr : World) (g b B : Nat) (vr : Value) (l : List (Nat × Nd)) (o : Option (List UInt8)) : Prop where
  ar : ArAt wr g b l
  rd : RdAt B wr vr o
  sz : B ≤ wr.heap.size
  ne : ∀ k, vr = .pointer (some ⟨k, 0, none⟩) → k ≠ g ∧ k ≠ b ∧ w.heap.size ≤ k
  low : w.heap.size ≤ g ∧ w.heap.size ≤ b
  bel : Below w.heap.size w wr
theorem turned_ids {B : Nat} {w : World} {v : Value} {o : Option (List UInt8)} (h : RdAt B w v o) : ∀ k, v = .pointer (some ⟨k, 0, none⟩) → ∀ cs fr, w.heap[k]? ≠ some (.cells cs 26 fr) := fun k hk cs fr e => by
  obtain ⟨cs', h1, -⟩ := h.cells hk
  rw [h1] at e
  cases e
theorem PSt.turn {w wr w' : World} {g b B : Nat} {vr : Value} {l : List (Nat × Nd)} {o o' : Option (List UInt8)} (h : PSt w wr g b B vr l o) (ht : Turned wr w' vr) (hr : RdAt B w' vr o') : PSt w w' g b B vr l o' :=
  ⟨h.ar.only ht (fun e => (h.ne _ e).1 rfl) (fun e => (h.ne _ e).2.1 rfl) (turned_ids h.rd), hr, Nat.le_trans h.sz ht.size, h.ne, h.low,
    h.bel.trans (ht.below w.heap.size h.bel.size fun i hi e => by have := (h.ne i e).2.2; omega)⟩
theorem PSt.below {w wr w' : World} {g b B : Nat} {vr : Value} {l : List (Nat × Nd)} {o : Option (List UInt8)} (h : PSt w wr g b B vr l o) (hb : Below wr.heap.size wr w') : PSt w w' g b B vr l o :=
  ⟨h.ar.below hb, h.rd.low (hb.mono h.sz), Nat.le_trans h.sz hb.size, h.ne, h.low, btr h.bel hb⟩
theorem PSt.store {w wr : World} {g b B : Nat} {vr : Value} {l : List (Nat × Nd)} {o : Option (List UInt8)} (h : PSt w wr g b B vr l o) (x : Nat) (hx : x < 18446744073709551616) (h0 : x ≠ 0) (v : Value) (n : Nd) (hv : OwnNd 0 wr v n) (hl : l.length < 20000) (hlast : ∀ p ∈ l, p.1 < x) :
    ∃ w', (Instr.mapUpdate 68 (.map (some b)) (.int .u64 x) v).run Try.prog wr = .ok () w' ∧ PSt w w' g b B vr (l ++ [(x, n)]) o := by
  obtain ⟨w', h1, h2, h3, h4⟩ := h.ar.store x hx h0 v n hv (by rw [putA_last hlast, List.length_append, List.length_singleton]; omega)
  rw [putA_last hlast] at h2
  obtain ⟨vl, hm, -⟩ := h.ar.ex
  obtain ⟨es, c, hmb⟩ := hm.isMap
  exact ⟨w', h1, h2, h.rd.mapOnly hmb h3, by rw [h4]; exact h.sz, h.ne, h.low, h.bel.trans (h3.below w.heap.size h.bel.size fun i hi e => by have := h.low.2; omega)⟩

/-- a node that is being read: its box, its kids -/
structure KSt (w wr : World) (n8 B : Nat) (vr kv : Value) (nd : Nd) (ks : List Nat) (o : Option (List UInt8)) : Prop where
  row : Row6 wr n8 nd kv
  ids : OwnIds w.heap.size wr kv ks
  rd : RdAt B wr vr o
  tn : Turned w wr vr
  lo : w.heap.size ≤ n8
  sz : B ≤ w.heap.size
theorem KSt.turn {w wr w' : World} {n8 B : Nat} {vr kv : Value} {nd : Nd} {ks : List Nat} {o o' : Option (List UInt8)} (h : KSt w wr n8 B vr kv nd ks o) (ht : Turned wr w' vr) (hr : RdAt B w' vr o') : KSt w w' n8 B vr kv nd ks o' :=
  ⟨h.row.only ht (fun e => by obtain ⟨-, -, h1⟩ := h.rd.cells e; have := h.lo; have := h.sz; omega), h.ids.only ht (turned_ids h.rd), hr, h.tn.trans ht, h.lo, h.sz⟩
theorem KSt.below {w wr w' : World} {n8 B : Nat} {vr kv : Value} {nd : Nd} {ks : List Nat} {o : Option (List UInt8)} (h : KSt w wr n8 B vr kv nd ks o) (hb : Below wr.heap.size wr w') : KSt w w' n8 B vr kv nd ks o :=
  ⟨h.row.below hb, h.ids.below hb, h.rd.low (hb.mono (Nat.le_trans h.sz h.tn.size)), h.tn.trans (Only.of_below hb _), h.lo, h.sz⟩
/-- a kid more: the row has grown, and is stored in the box -/
theorem KSt.more {w wr w' : World} {n8 B : Nat} {vr kv kv' : Value} {nd : Nd} {ks ks' : List Nat} {o : Option (List UInt8)} (h : KSt w wr n8 B vr kv nd ks o) (hb : Below w.heap.size wr w') (hg : Row6 w' n8 nd kv) (hi : OwnIds w.heap.size w' kv' ks') : KSt w (w'.setCell ⟨n8, 5, none⟩ kv') n8 B vr kv' nd ks' o := by
  have hs := Only.setCell w' ⟨n8, 5, none⟩ kv'
  have hb2 : Below w.heap.size wr (w'.setCell ⟨n8, 5, none⟩ kv') := hb.setCell h.lo _
  refine ⟨heap_setCell_same w' n8 5 _ _ kv' hg, hi.only hs (fun k hk cs fr e => ?_), h.rd.low (hb2.mono h.sz), ?_, h.lo, h.sz⟩
  · have h1 : w'.heap[n8]? = _ := hg
    have hk' : k = n8 := hk
    rw [hk', h1] at e
    cases e
  · exact ⟨hb2.os.trans h.tn.os, hb2.tape.trans h.tn.tape, hb2.output.trans h.tn.output, Nat.le_trans h.tn.size hb2.size, fun i hi hs => (hb2.block i hi).trans (h.tn.block i hi hs)⟩
end Go.Proofs.Ytnbncjebmlicgaa
