/- Plain: an arena's bytes, and back. -/
import Derived.Test.YtnbncjebmlicgaaPreT
import Derived.Test.YtnbncjebmlicgaaPreA
namespace Go.Proofs.Ytnbncjebmlicgaa
open Go.RowKit

theorem zigzag (n : Nat) : zig (zag n) = n := by
  unfold zig zag
  split <;> split <;> omega
theorem zagbound {n : Nat} (h : n < 18446744073709551616) : -9223372036854775808 ≤ zag n ∧ zag n ≤ 9223372036854775807 := by
  unfold zag
  split <;> omega
theorem numcases (most : Nat) (o : Option (List UInt8)) : (∃ n r, o = some (Vi.varint n ++ r) ∧ n < 18446744073709551616 ∧ n ≤ most ∧ Rd.num most o = (n, some r)) ∨ Rd.num most o = (0, none) := by
  cases o with
  | none => exact .inr rfl
  | some p =>
    cases h : Rd.dec 0 0 p with
    | none => exact .inr (Rd.num_none h)
    | some q =>
      obtain ⟨n, r⟩ := q
      obtain ⟨h1, h2, -⟩ := dec_front h
      have h3 : Rd.num most (some p) = if n ≤ most then (n, some r) else (0, none) := by
        unfold Rd.num
        show (match Rd.dec 0 0 p with | some (n, l) => _ | none => _) = _
        rw [h]
      by_cases hm : n ≤ most
      · rw [if_pos hm] at h3
        exact .inl ⟨n, r, by rw [h1], h2, hm, h3⟩
      · rw [if_neg hm] at h3
        exact .inr h3
/-- a number that is read: just its bytes -/
theorem num_back {most : Nat} {o : Option (List UInt8)} {r : List UInt8} (h : (Rd.num most o).2 = some r) : o = some (Vi.varint (Rd.num most o).1 ++ r) ∧ (Rd.num most o).1 < 18446744073709551616 ∧ (Rd.num most o).1 ≤ most := by
  rcases numcases most o with ⟨n, r', h1, h2, h3, h4⟩ | h4
  · rw [h4] at h ⊢
    cases h
    exact ⟨h1, h2, h3⟩
  · rw [h4] at h; cases h
theorem num_front {n most : Nat} (r : List UInt8) (h : n ≤ most) (hn : n < 18446744073709551616) : Rd.num most (some (Vi.varint n ++ r)) = (n, some r) := by rw [num_varint n most r hn, if_pos h]
theorem take_back {o : Option (List UInt8)} {r : List UInt8} (h : (Rd.take o).2 = some r) : o = some ((Rd.take o).1 :: r) := by
  match o, h with
  | some (b :: l), h => cases h; rfl
theorem text_back {most : Nat} {o : Option (List UInt8)} {r : List UInt8} (h : (Rd.text most o).2 = some r) : o = some (Vi.varint (Rd.text most o).1.length ++ ((Rd.text most o).1 ++ r)) ∧ (Rd.text most o).1.length ≤ most := by
  unfold Rd.text at h ⊢
  rcases numcases most o with ⟨n, l, h1, h2, h3, h4⟩ | h4
  · rw [h4] at h ⊢
    simp only at h ⊢
    by_cases hn : n ≤ l.length
    · rw [if_pos hn] at h ⊢
      cases h
      have hl : (l.take n).length = n := by rw [List.length_take]; omega
      rw [hl, List.take_append_drop]
      exact ⟨h1, h3⟩
    · rw [if_neg hn] at h; cases h
  · rw [h4] at h; cases h
theorem text_front {s : List UInt8} {most : Nat} (r : List UInt8) (h : s.length ≤ most) (hn : s.length < 18446744073709551616) : Rd.text most (some (Vi.varint s.length ++ (s ++ r))) = (s, some r) := by
  unfold Rd.text
  rw [num_front _ h hn]
  simp only
  rw [if_pos (by rw [List.length_append]; omega), List.take_left', List.drop_left'] <;> rfl
theorem int_back {o : Option (List UInt8)} {r : List UInt8} (h : (Rd.int o).2 = some r) : o = some (Vi.varint (zig (Rd.int o).1) ++ r) ∧ -9223372036854775808 ≤ (Rd.int o).1 ∧ (Rd.int o).1 ≤ 9223372036854775807 := by
  unfold Rd.int at h ⊢
  obtain ⟨h1, h2, h3⟩ := num_back h
  rw [zigzag]
  exact ⟨h1, zagbound h2⟩
theorem int_front {n : Int} (r : List UInt8) (h0 : -9223372036854775808 ≤ n) (h1 : n ≤ 9223372036854775807) : Rd.int (some (Vi.varint (zig n) ++ r)) = (n, some r) := by
  unfold Rd.int
  have h2 := zig_lt h0 h1
  rw [num_front r (by omega) h2, zag_zig]

def top64 : Nat := 18446744073709551615
def layKids (l : List Nat) : List UInt8 := l.flatMap Vi.varint
def layNd (last : Nat) (p : Nat × Nd) : List UInt8 :=
  Vi.varint (p.1 - last) ++ (UInt8.ofNat p.2.kind :: (Vi.varint p.2.name.size ++ (p.2.name.data.toList ++ (Vi.varint (zig p.2.num) ++ (UInt8.ofNat p.2.typ :: (Vi.varint p.2.ref ++ (Vi.varint p.2.kids.length ++ layKids p.2.kids)))))))
def layNds : Nat → List (Nat × Nd) → List UInt8
  | _, [] => []
  | last, p :: r => layNd last p ++ layNds p.1 r
def layAr (l : List (Nat × Nd)) : List UInt8 := Vi.varint l.length ++ layNds 0 l

def rdKids : Nat → Option (List UInt8) → List Nat × Option (List UInt8)
  | 0, o => ([], o)
  | c + 1, o => ((Rd.num top64 o).1 :: (rdKids c (Rd.num top64 o).2).1, (rdKids c (Rd.num top64 o).2).2)
/-- what is read of a node, but for its kids: and how many these are -/
def rdHead (o : Option (List UInt8)) : Nd × Nat × Option (List UInt8) :=
  let k := Rd.take o
  let s := Rd.text 64 k.2
  let n := Rd.int s.2
  let t := Rd.take n.2
  let f := Rd.num top64 t.2
  let c := Rd.num top64 f.2
  (⟨k.1.toNat, ⟨s.1.toArray⟩, n.1, t.1.toNat, f.1, []⟩, min c.1 (Rd.left c.2 + 1), c.2)
def rdNd (o : Option (List UInt8)) : Nd × Option (List UInt8) :=
  ({ (rdHead o).1 with kids := (rdKids (rdHead o).2.1 (rdHead o).2.2).1 }, (rdKids (rdHead o).2.1 (rdHead o).2.2).2)
def rdNds : Nat → Nat → Option (List UInt8) → Option (List (Nat × Nd) × Option (List UInt8))
  | 0, _, o => some ([], o)
  | c + 1, last, o =>
    if (Rd.num (top64 - last) o).1 = 0 then none
    else match rdNds c (last + (Rd.num (top64 - last) o).1) (rdNd (Rd.num (top64 - last) o).2).2 with
      | none => none
      | some (l, o') => some ((last + (Rd.num (top64 - last) o).1, (rdNd (Rd.num (top64 - last) o).2).1) :: l, o')
/-- what follows, when so many have been read -/
def finA (l : List (Nat × Nd)) (c last : Nat) (o : Option (List UInt8)) : Option (List (Nat × Nd)) :=
  match rdNds c last o with
  | some (r, some []) => some (l ++ r)
  | _ => none
def parseAr (p : List UInt8) : Option (List (Nat × Nd)) := finA [] (Rd.num 20000 (some p)).1 0 (Rd.num 20000 (some p)).2

theorem kids_none : ∀ c, (rdKids c none).2 = none
  | 0 => rfl
  | c + 1 => kids_none c
theorem kids_back : ∀ (c : Nat) (o : Option (List UInt8)) (r : List UInt8), (rdKids c o).2 = some r → o = some (layKids (rdKids c o).1 ++ r) ∧ (rdKids c o).1.length = c ∧ ∀ y ∈ (rdKids c o).1, y < 18446744073709551616
  | 0, o, r, h => ⟨by simp only [rdKids] at h; rw [h]; rfl, rfl, fun y hy => nomatch hy⟩
  | c + 1, o, r, h => by
    simp only [rdKids] at h ⊢
    obtain ⟨h1, h2, h3⟩ := kids_back c _ _ h
    obtain ⟨h4, h5, -⟩ := num_back h1
    refine ⟨?_, by simp [h2], fun y hy => ?_⟩
    · have e : layKids ((Rd.num top64 o).1 :: (rdKids c (Rd.num top64 o).2).1) ++ r = Vi.varint (Rd.num top64 o).1 ++ (layKids (rdKids c (Rd.num top64 o).2).1 ++ r) := by
        unfold layKids
        rw [List.flatMap_cons, List.append_assoc]
      rw [e]
      exact h4
    · rcases List.mem_cons.1 hy with rfl | hy
      · exact h5
      · exact h3 y hy
theorem kids_front : ∀ (l : List Nat) (r : List UInt8), (∀ y ∈ l, y < 18446744073709551616) → rdKids l.length (some (layKids l ++ r)) = (l, some r)
  | [], r, _ => rfl
  | x :: l, r, h => by
    have hx := h x (List.mem_cons_self ..)
    have e : layKids (x :: l) ++ r = Vi.varint x ++ (layKids l ++ r) := by unfold layKids; rw [List.flatMap_cons, List.append_assoc]
    rw [e]
    show ((Rd.num top64 _).1 :: (rdKids l.length (Rd.num top64 _).2).1, (rdKids l.length (Rd.num top64 _).2).2) = _
    rw [num_front _ (by unfold top64; omega) hx, kids_front l r fun y hy => h y (List.mem_cons_of_mem _ hy)]
theorem layKids_len (l : List Nat) : l.length ≤ (layKids l).length := by
  unfold layKids
  induction l with
  | nil => exact Nat.le_refl _
  | cons x l ih =>
    rw [List.flatMap_cons, List.length_append, List.length_cons]
    have := (Vi.varint_length x).1
    omega

/-- what a node's parts must be, so that it can be read again -/
structure Nd.Fit (n : Nd) : Prop extends n.Ok where
  short : n.name.size ≤ 64
theorem num_range {n : Int} (h : (Lit.int .i64 n).wf = true) : -9223372036854775808 ≤ n ∧ n ≤ 9223372036854775807 := by
  simp [Lit.wf, IntKind.min, IntKind.max, IntKind.signed, IntKind.bits] at h
  omega
theorem num_wf {n : Int} (h : -9223372036854775808 ≤ n ∧ n ≤ 9223372036854775807) : (Lit.int .i64 n).wf = true := by
  simp [Lit.wf, IntKind.min, IntKind.max, IntKind.signed, IntKind.bits]
  omega
def layRest (n : Nd) : List UInt8 := UInt8.ofNat n.kind :: (Vi.varint n.name.size ++ (n.name.data.toList ++ (Vi.varint (zig n.num) ++ (UInt8.ofNat n.typ :: (Vi.varint n.ref ++ (Vi.varint n.kids.length ++ layKids n.kids))))))
theorem layNd_eq (last : Nat) (p : Nat × Nd) : layNd last p = Vi.varint (p.1 - last) ++ layRest p.2 := rfl

theorem nd_front {n : Nd} (h : n.Fit) (r : List UInt8) : rdNd (some (layRest n ++ r)) = (n, some r) := by
  obtain ⟨h0, h1⟩ := num_range h.num
  have e : layRest n ++ r = UInt8.ofNat n.kind :: (Vi.varint n.name.data.toList.length ++ (n.name.data.toList ++ (Vi.varint (zig n.num) ++ (UInt8.ofNat n.typ :: (Vi.varint n.ref ++ (Vi.varint n.kids.length ++ (layKids n.kids ++ r))))))) := by
    unfold layRest
    simp only [List.cons_append, List.append_assoc]
    rfl
  have hs : n.name.data.toList.length = n.name.size := rfl
  have hh : rdHead (some (layRest n ++ r)) = ({ n with kids := [] }, n.kids.length, some (layKids n.kids ++ r)) := by
    rw [e]
    unfold rdHead
    simp only [Rd.take]
    rw [text_front _ (by rw [hs]; exact h.short) (by rw [hs]; have := h.short; omega)]
    simp only
    rw [int_front _ h0 h1]
    simp only
    rw [num_front _ (by unfold top64; have := h.ref; omega) h.ref]
    simp only
    rw [num_front _ (by unfold top64; have := h.few; omega) (by have := h.few; omega)]
    simp only [Rd.left, Option.map_some, Option.getD_some]
    have hl := layKids_len n.kids
    rw [Nat.min_eq_left (by rw [List.length_append]; omega), ofNat_toNat h.kind, ofNat_toNat h.typ]
  unfold rdNd
  rw [hh]
  simp only
  rw [kids_front _ _ h.ids]
theorem nd_back {o : Option (List UInt8)} {r : List UInt8} (h : (rdNd o).2 = some r) (hlen : ∀ p, o = some p → p.length ≤ 1000000) : o = some (layRest (rdNd o).1 ++ r) ∧ (rdNd o).1.Fit := by
  unfold rdNd at h ⊢
  obtain ⟨h1, h2, h3⟩ := kids_back _ _ _ h
  obtain ⟨K, hK⟩ : ∃ K, K = (rdKids (rdHead o).2.1 (rdHead o).2.2).1 := ⟨_, rfl⟩
  rw [← hK] at h1 h2 h3 ⊢
  clear h hK
  unfold rdHead at h1 h2 ⊢
  simp only at h1 h2 ⊢
  obtain ⟨k, hk⟩ : ∃ k, k = Rd.take o := ⟨_, rfl⟩
  rw [← hk] at h1 h2 ⊢
  obtain ⟨s, hs⟩ : ∃ s, s = Rd.text 64 k.2 := ⟨_, rfl⟩
  rw [← hs] at h1 h2 ⊢
  obtain ⟨n, hn⟩ : ∃ n, n = Rd.int s.2 := ⟨_, rfl⟩
  rw [← hn] at h1 h2 ⊢
  obtain ⟨t, ht⟩ : ∃ t, t = Rd.take n.2 := ⟨_, rfl⟩
  rw [← ht] at h1 h2 ⊢
  obtain ⟨f, hf⟩ : ∃ f, f = Rd.num top64 t.2 := ⟨_, rfl⟩
  rw [← hf] at h1 h2 ⊢
  obtain ⟨c, hc⟩ : ∃ c, c = Rd.num top64 f.2 := ⟨_, rfl⟩
  rw [← hc] at h1 h2
  obtain ⟨g1, g2, -⟩ := num_back (by rw [← hc]; exact h1)
  obtain ⟨f1, f2, -⟩ := num_back (by rw [← hf]; exact g1)
  have t1 := take_back (by rw [← ht]; exact f1)
  obtain ⟨n1, n2⟩ := int_back (by rw [← hn]; exact t1)
  obtain ⟨s1, s2⟩ := text_back (by rw [← hs]; exact n1)
  have k1 := take_back (by rw [← hk]; exact s1)
  rw [← hk, ← hs, ← hn, ← ht, ← hf, ← hc] at k1
  rw [← hs] at s2
  rw [← hn] at n2
  rw [← hf] at f2
  rw [← hc] at g2
  have hkl := layKids_len K
  have hleft : Rd.left c.2 = (layKids K ++ r).length := by rw [h1]; rfl
  have hKc : K.length = c.1 := by
    rw [h2, hleft]
    rw [h2, hleft] at hkl
    rw [List.length_append] at hkl ⊢
    omega
  have hKm : K.length ≤ 1000000 := by
    have h4 := hlen _ k1
    simp only [List.length_cons, List.length_append] at h4
    omega
  have hsl : (⟨s.1.toArray⟩ : ByteArray).size = s.1.length := by simp [ByteArray.size]
  refine ⟨?_, ⟨⟨UInt8.toNat_lt _, UInt8.toNat_lt _, f2, num_wf n2, ?_, hKm, h3⟩, ?_⟩⟩
  · rw [k1]
    unfold layRest
    simp only [hsl, hKc, List.cons_append, List.append_assoc, UInt8.ofNat_toNat]
  · show (⟨s.1.toArray⟩ : ByteArray).size ≤ maxLen
    rw [hsl]
    unfold maxLen
    omega
  · show (⟨s.1.toArray⟩ : ByteArray).size ≤ 64
    rw [hsl]
    exact s2

/-- rising, from a number on -/
def AscFrom (last : Nat) : List (Nat × Nd) → Prop
  | [] => True
  | p :: r => last < p.1 ∧ p.1 < 18446744073709551616 ∧ p.2.Fit ∧ AscFrom p.1 r
theorem nds_front : ∀ (l : List (Nat × Nd)) (last : Nat) (r : List UInt8), AscFrom last l → rdNds l.length last (some (layNds last l ++ r)) = some (l, some r)
  | [], last, r, _ => rfl
  | p :: l, last, r, ⟨h1, h2, h3, h4⟩ => by
    have e : layNds last (p :: l) ++ r = Vi.varint (p.1 - last) ++ (layRest p.2 ++ (layNds p.1 l ++ r)) := by
      show (layNd last p ++ layNds p.1 l) ++ r = _
      rw [layNd_eq]
      simp only [List.append_assoc]
    rw [e]
    show (if (Rd.num (top64 - last) _).1 = 0 then none else _) = _
    rw [num_front _ (by unfold top64; omega) (by omega)]
    simp only
    rw [if_neg (by omega), nd_front h3, show last + (p.1 - last) = p.1 by omega]
    simp only
    rw [nds_front l p.1 r h4]
theorem nds_none : ∀ (c last : Nat) (l : List (Nat × Nd)) (r : List UInt8), rdNds c last none ≠ some (l, some r)
  | 0, last, l, r => by simp [rdNds]
  | c + 1, last, l, r => by simp [rdNds, Rd.num]
theorem nds_back : ∀ (c last : Nat) (o : Option (List UInt8)) (l : List (Nat × Nd)) (r : List UInt8), last ≤ top64 → (∀ p, o = some p → p.length ≤ 1000000) → rdNds c last o = some (l, some r) → o = some (layNds last l ++ r) ∧ l.length = c ∧ AscFrom last l
  | 0, last, o, l, r, _, _, h => by
    simp only [rdNds, Option.some.injEq, Prod.mk.injEq] at h
    obtain ⟨rfl, rfl⟩ := h
    exact ⟨rfl, rfl, trivial⟩
  | c + 1, last, o, l, r, hlast, hlen, h => by
    simp only [rdNds] at h
    split at h
    · cases h
    · rename_i hb
      rcases numcases (top64 - last) o with ⟨n, r', h1, h2, h3, h4⟩ | h4
      · rw [h4] at h hb
        simp only at h hb
        split at h
        · cases h
        · rename_i l' o' hr
          simp only [Option.some.injEq, Prod.mk.injEq] at h
          obtain ⟨rfl, rfl⟩ := h
          have hlen' : ∀ p, some r' = some p → p.length ≤ 1000000 := fun p hp => by
            cases hp
            have := hlen _ h1
            rw [List.length_append] at this
            omega
          cases ho : (rdNd (some r')).2 with
          | none =>
            rw [ho] at hr
            exact absurd hr (nds_none _ _ _ _)
          | some r2 =>
            obtain ⟨g1, g2⟩ := nd_back ho hlen'
            have hlen2 : ∀ p, some r2 = some p → p.length ≤ 1000000 := fun p hp => by
              cases hp
              have h5 := hlen' _ rfl
              have h6 : r' = _ := Option.some.inj g1
              rw [h6, List.length_append] at h5
              omega
            rw [ho] at hr
            unfold top64 at h3 hlast
            obtain ⟨q1, q2, q3⟩ := nds_back c (last + n) (some r2) l' r (by unfold top64; omega) hlen2 hr
            refine ⟨?_, by simp [q2], ⟨by show last < last + n; omega, by show last + n < _; omega, g2, q3⟩⟩
            rw [h1]
            show _ = some ((layNd last (last + n, (rdNd (some r')).1) ++ layNds (last + n) l') ++ r)
            rw [layNd_eq]
            simp only [List.append_assoc]
            rw [show last + n - last = n by omega]
            have h6 : r' = _ := Option.some.inj g1
            have h7 : r2 = _ := Option.some.inj q1
            rw [← h7, ← h6]
      · rw [h4] at hb
        exact absurd rfl hb
/-- what is laid is read again, and nothing behind it -/
theorem parse_lay {l : List (Nat × Nd)} (h : AscFrom 0 l) (hl : l.length ≤ 20000) (r : List UInt8) : parseAr (layAr l ++ r) = if r = [] then some l else none := by
  unfold parseAr layAr
  rw [List.append_assoc, num_front _ hl (by omega)]
  unfold finA
  simp only
  rw [nds_front l 0 r h]
  cases r with
  | nil => rfl
  | cons b r => rfl
/-- what is read is just its bytes -/
theorem parse_back {p : List UInt8} {l : List (Nat × Nd)} (hp : p.length ≤ 1000000) (h : parseAr p = some l) : layAr l = p ∧ AscFrom 0 l ∧ l.length ≤ 20000 := by
  unfold parseAr finA at h
  rcases numcases 20000 (some p) with ⟨n, r', h1, h2, h3, h4⟩ | h4
  · rw [h4] at h
    simp only [List.nil_append] at h
    split at h
    · rename_i l' hr
      cases h
      have h5 : p = _ := Option.some.inj h1
      obtain ⟨q1, q2, q3⟩ := nds_back n 0 (some r') l [] (Nat.zero_le _) (fun q hq => by cases hq; rw [h5, List.length_append] at hp; omega) hr
      have h6 : r' = _ := Option.some.inj q1
      rw [List.append_nil] at h6
      refine ⟨?_, q3, by omega⟩
      rw [h5, h6]
      unfold layAr
      rw [q2]
    · cases h
  · rw [h4] at h
    simp only at h
    split at h
    · rename_i hr
      exact absurd hr (nds_none _ _ _ _)
    · cases h
end Go.Proofs.Ytnbncjebmlicgaa
