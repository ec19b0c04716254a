/- Off the shelf: strings.Split, strconv.ParseUint. -/
import Derived.Ground.NamesProg
import Derived.Ground.MpProg
import Derived.Shelf.Strings.SplitShaped
import Derived.Shelf.Pu.ErrVarParseUint
import Derived.Test.YtminfdlhbecnhaaGreatDoorOpReadP
namespace Go.Proofs
open Go.Shelf Go.Lib Go.RowKit
def Tryz.lays146_ren : Go.Shelf.Ren := ⟨fun | 146 => 36 | 221 => 57 | 268 => 74 | 138 => 75 | 143 => 76 | 195 => 92 | 197 => 93 | 218 => 94 | 219 => 95 | 260 => 103 | 217 => 104 | 225 => 105 | 224 => 106 | 267 => 107 | 266 => 109 | 314 => 110 | n => n, fun | 9 => 9 | 31 => 57 | 3 => 3 | 4 => 4 | 0 => 0 | 105 => 131 | 21 => 21 | 5 => 5 | 46 => 82 | 119 => 95 | 139 => 159 | 138 => 158 | 146 => 160 | 51 => 117 | n => n, fun | 1 => 5 | 3 => 8 | 4 => 9 | n => n⟩
theorem Tryz.lays146 : Go.Proofs.LaysM.n146 Tryz.prog Tryz.lays146_ren := {
  mixed := by kernel_rfl
  f138 := Tryz.func75.trans (congrArg some (by kernel_rfl))
  f143 := Tryz.func76.trans (congrArg some (by kernel_rfl))
  f146 := Tryz.func36.trans (congrArg some (by kernel_rfl))
  f195 := Tryz.func92.trans (congrArg some (by kernel_rfl))
  f197 := Tryz.func93.trans (congrArg some (by kernel_rfl))
  f217 := Tryz.func104.trans (congrArg some (by kernel_rfl))
  f218 := Tryz.func94.trans (congrArg some (by kernel_rfl))
  f219 := Tryz.func95.trans (congrArg some (by kernel_rfl))
  f221 := Tryz.func57.trans (congrArg some (by kernel_rfl))
  f224 := Tryz.func106.trans (congrArg some (by kernel_rfl))
  f225 := Tryz.func105.trans (congrArg some (by kernel_rfl))
  f260 := Tryz.func103.trans (congrArg some (by kernel_rfl))
  f266 := Tryz.func109.trans (congrArg some (by kernel_rfl))
  f267 := Tryz.func107.trans (congrArg some (by kernel_rfl))
  f268 := Tryz.func74.trans (congrArg some (by kernel_rfl))
  f314 := Tryz.func110.trans (congrArg some (by kernel_rfl))
  t0 := Tryz.underlying0
  a0 := Tryz.isAgg0
  z0 := Tryz.sizeOf0
  v0 := Tryz.zeroValue0
  t3 := Tryz.underlying3
  a3 := Tryz.isAgg3
  z3 := Tryz.sizeOf3
  v3 := Tryz.zeroValue3
  t4 := Tryz.underlying4
  a4 := Tryz.isAgg4
  z4 := Tryz.sizeOf4
  v4 := Tryz.zeroValue4
  t5 := Tryz.underlying5
  a5 := Tryz.isAgg5
  z5 := Tryz.sizeOf5
  v5 := Tryz.zeroValue5
  t9 := Tryz.underlying9
  a9 := Tryz.isAgg9
  z9 := Tryz.sizeOf9
  v9 := Tryz.zeroValue9
  t21 := Tryz.underlying21
  a21 := Tryz.isAgg21
  z21 := Tryz.sizeOf21
  v21 := Tryz.zeroValue21
  t31 := Tryz.underlying57
  a31 := Tryz.isAgg57
  z31 := Tryz.sizeOf57
  v31 := Tryz.zeroValue57
  t46 := Tryz.underlying82
  a46 := Tryz.isAgg82
  z46 := Tryz.sizeOf82
  v46 := Tryz.zeroValue82
  t51 := Tryz.underlying117
  a51 := Tryz.isAgg117
  z51 := Tryz.sizeOf117
  v51 := Tryz.zeroValue117
  t105 := Tryz.underlying131
  a105 := Tryz.isAgg131
  z105 := Tryz.sizeOf131
  v105 := Tryz.zeroValue131
  t119 := Tryz.underlying95
  a119 := Tryz.isAgg95
  z119 := Tryz.sizeOf95
  t138 := Tryz.underlying158
  a138 := Tryz.isAgg158
  z138 := Tryz.sizeOf158
  v138 := Tryz.zeroValue158
  t139 := Tryz.underlying159
  a139 := Tryz.isAgg159
  z139 := Tryz.sizeOf159
  v139 := Tryz.zeroValue159
  t146 := Tryz.underlying160
  a146 := Tryz.isAgg160
  z146 := Tryz.sizeOf160
  v146 := Tryz.zeroValue160
  g1 := by kernel_rfl
  g3 := by kernel_rfl
  g4 := by kernel_rfl
  i0 := by kernel_rfl
  i3 := by kernel_rfl
  i4 := by kernel_rfl
  i5 := by kernel_rfl
  i9 := by kernel_rfl
  i21 := by kernel_rfl
  i31 := by kernel_rfl
  i46 := by kernel_rfl
  i51 := by kernel_rfl
  i105 := by kernel_rfl
  i138 := by kernel_rfl
  i139 := by kernel_rfl
  i146 := by kernel_rfl
  m1 := by kernel_rfl
  s1_3 := fun w h => Go.Proofs.cell_of_shapedOpen_int (zero := #[.int .i64 0]) (t := 3) h (of_decide_eq_true (by kernel_rfl)) (by kernel_rfl) rfl (by kernel_rfl) (by kernel_rfl) Tryz.underlying3
  m3 := by kernel_rfl
  m4 := by kernel_rfl }
def Tryz.laysPu14_ren : Go.Shelf.Ren := ⟨fun | 14 => 38 | 16 => 58 | 17 => 59 | 19 => 77 | 20 => 78 | 21 => 79 | 22 => 80 | 23 => 81 | 24 => 82 | 25 => 96 | 27 => 98 | 26 => 97 | 28 => 108 | 29 => 111 | 30 => 68 | 31 => 69 | 32 => 70 | 33 => 71 | 35 => 86 | 34 => 85 | 36 => 87 | 37 => 88 | 38 => 89 | 39 => 101 | 40 => 102 | n => n, fun | 9 => 9 | 3 => 3 | 22 => 22 | 24 => 70 | 25 => 71 | 4 => 4 | 34 => 109 | 5 => 5 | 36 => 82 | 37 => 26 | 0 => 0 | 39 => 111 | 21 => 21 | 44 => 136 | 47 => 106 | 50 => 152 | 48 => 150 | 2 => 2 | 52 => 101 | 55 => 104 | 59 => 123 | 60 => 117 | 20 => 20 | 61 => 124 | 65 => 155 | 66 => 156 | 67 => 35 | n => n, fun | 0 => 3 | 1 => 4 | 2 => 2 | 3 => 6 | 4 => 7 | n => n⟩
theorem Tryz.laysPu14 : Go.Proofs.LaysPu.n14 Tryz.prog Tryz.laysPu14_ren := {
  mixed := by kernel_rfl
  f14 := Tryz.func38.trans (congrArg some (by kernel_rfl))
  f16 := Tryz.func58.trans (congrArg some (by kernel_rfl))
  f17 := Tryz.func59.trans (congrArg some (by kernel_rfl))
  f19 := Tryz.func77.trans (congrArg some (by kernel_rfl))
  f20 := Tryz.func78.trans (congrArg some (by kernel_rfl))
  f21 := Tryz.func79.trans (congrArg some (by kernel_rfl))
  f22 := Tryz.func80.trans (congrArg some (by kernel_rfl))
  f23 := Tryz.func81.trans (congrArg some (by kernel_rfl))
  f24 := Tryz.func82.trans (congrArg some (by kernel_rfl))
  f25 := Tryz.func96.trans (congrArg some (by kernel_rfl))
  f26 := Tryz.func97.trans (congrArg some (by kernel_rfl))
  f27 := Tryz.func98.trans (congrArg some (by kernel_rfl))
  f28 := Tryz.func108.trans (congrArg some (by kernel_rfl))
  f29 := Tryz.func111.trans (congrArg some (by kernel_rfl))
  f30 := Tryz.func68.trans (congrArg some (by kernel_rfl))
  f31 := Tryz.func69.trans (congrArg some (by kernel_rfl))
  f32 := Tryz.func70.trans (congrArg some (by kernel_rfl))
  f33 := Tryz.func71.trans (congrArg some (by kernel_rfl))
  f34 := Tryz.func85.trans (congrArg some (by kernel_rfl))
  f35 := Tryz.func86.trans (congrArg some (by kernel_rfl))
  f36 := Tryz.func87.trans (congrArg some (by kernel_rfl))
  f37 := Tryz.func88.trans (congrArg some (by kernel_rfl))
  f38 := Tryz.func89.trans (congrArg some (by kernel_rfl))
  f39 := Tryz.func101.trans (congrArg some (by kernel_rfl))
  f40 := Tryz.func102.trans (congrArg some (by kernel_rfl))
  t0 := Tryz.underlying0
  a0 := Tryz.isAgg0
  z0 := Tryz.sizeOf0
  v0 := Tryz.zeroValue0
  i0 := by kernel_rfl
  t2 := Tryz.underlying2
  a2 := Tryz.isAgg2
  z2 := Tryz.sizeOf2
  v2 := Tryz.zeroValue2
  i2 := by kernel_rfl
  t3 := Tryz.underlying3
  a3 := Tryz.isAgg3
  z3 := Tryz.sizeOf3
  v3 := Tryz.zeroValue3
  i3 := by kernel_rfl
  t4 := Tryz.underlying4
  a4 := Tryz.isAgg4
  z4 := Tryz.sizeOf4
  v4 := Tryz.zeroValue4
  i4 := by kernel_rfl
  t5 := Tryz.underlying5
  a5 := Tryz.isAgg5
  z5 := Tryz.sizeOf5
  v5 := Tryz.zeroValue5
  i5 := by kernel_rfl
  t9 := Tryz.underlying9
  a9 := Tryz.isAgg9
  z9 := Tryz.sizeOf9
  v9 := Tryz.zeroValue9
  i9 := by kernel_rfl
  t20 := Tryz.underlying20
  a20 := Tryz.isAgg20
  z20 := Tryz.sizeOf20
  v20 := Tryz.zeroValue20
  i20 := by kernel_rfl
  t21 := Tryz.underlying21
  a21 := Tryz.isAgg21
  z21 := Tryz.sizeOf21
  v21 := Tryz.zeroValue21
  i21 := by kernel_rfl
  t22 := Tryz.underlying22
  a22 := Tryz.isAgg22
  z22 := Tryz.sizeOf22
  v22 := Tryz.zeroValue22
  i22 := by kernel_rfl
  t24 := Tryz.underlying70
  a24 := Tryz.isAgg70
  z24 := Tryz.sizeOf70
  v24 := Tryz.zeroValue70
  i24 := by kernel_rfl
  t25 := Tryz.underlying71
  a25 := Tryz.isAgg71
  z25 := Tryz.sizeOf71
  v25 := Tryz.zeroValue71
  i25 := by kernel_rfl
  t34 := Tryz.underlying109
  a34 := Tryz.isAgg109
  z34 := Tryz.sizeOf109
  v34 := Tryz.zeroValue109
  i34 := by kernel_rfl
  c34 := by kernel_rfl
  t36 := Tryz.underlying82
  a36 := Tryz.isAgg82
  z36 := Tryz.sizeOf82
  v36 := Tryz.zeroValue82
  i36 := by kernel_rfl
  t37 := Tryz.underlying26
  a37 := Tryz.isAgg26
  z37 := Tryz.sizeOf26
  v37 := Tryz.zeroValue26
  i37 := by kernel_rfl
  t39 := Tryz.underlying111
  a39 := Tryz.isAgg111
  z39 := Tryz.sizeOf111
  v39 := Tryz.zeroValue111
  i39 := by kernel_rfl
  t44 := Tryz.underlying136
  a44 := Tryz.isAgg136
  z44 := Tryz.sizeOf136
  v44 := Tryz.zeroValue136
  i44 := by kernel_rfl
  t47 := Tryz.underlying106
  a47 := Tryz.isAgg106
  z47 := Tryz.sizeOf106
  v47 := Tryz.zeroValue106
  i47 := by kernel_rfl
  t48 := Tryz.underlying150
  a48 := Tryz.isAgg150
  z48 := Tryz.sizeOf150
  v48 := Tryz.zeroValue150
  i48 := by kernel_rfl
  t50 := Tryz.underlying152
  a50 := Tryz.isAgg152
  z50 := Tryz.sizeOf152
  v50 := Tryz.zeroValue152
  i50 := by kernel_rfl
  t52 := Tryz.underlying101
  a52 := Tryz.isAgg101
  z52 := Tryz.sizeOf101
  v52 := Tryz.zeroValue101
  i52 := by kernel_rfl
  t55 := Tryz.underlying104
  a55 := Tryz.isAgg104
  z55 := Tryz.sizeOf104
  v55 := Tryz.zeroValue104
  i55 := by kernel_rfl
  t59 := Tryz.underlying123
  a59 := Tryz.isAgg123
  z59 := Tryz.sizeOf123
  v59 := Tryz.zeroValue123
  i59 := by kernel_rfl
  t60 := Tryz.underlying117
  a60 := Tryz.isAgg117
  z60 := Tryz.sizeOf117
  v60 := Tryz.zeroValue117
  i60 := by kernel_rfl
  t61 := Tryz.underlying124
  a61 := Tryz.isAgg124
  z61 := Tryz.sizeOf124
  t65 := Tryz.underlying155
  a65 := Tryz.isAgg155
  z65 := Tryz.sizeOf155
  v65 := Tryz.zeroValue155
  i65 := by kernel_rfl
  t66 := Tryz.underlying156
  a66 := Tryz.isAgg156
  z66 := Tryz.sizeOf156
  v66 := Tryz.zeroValue156
  i66 := by kernel_rfl
  t67 := Tryz.underlying35
  a67 := Tryz.isAgg35
  z67 := Tryz.sizeOf35
  v67 := Tryz.zeroValue35
  i67 := by kernel_rfl
  g0 := by kernel_rfl
  m0 := by kernel_rfl
  g1 := by kernel_rfl
  m1 := by kernel_rfl
  g2 := by kernel_rfl
  m2 := by kernel_rfl
  g3 := by kernel_rfl
  m3 := by kernel_rfl
  g4 := by kernel_rfl
  m4 := by kernel_rfl }
end Go.Proofs
namespace Go.Proofs.YtminfdlhbecnhaaGreatDoor
open Go.RowKit

theorem index_sp_hit (l : List UInt8) : Lib.index (32 :: l) [32] = 0 := by rw [Lib.index]; simp [List.isPrefixOf]
theorem index_sp_ne (b : UInt8) (l : List UInt8) (h : b ≠ 32) : Lib.index (b :: l) [32] = if Lib.index l [32] == -1 then -1 else Lib.index l [32] + 1 := by
  have hp : ([32] : List UInt8).isPrefixOf (b :: l) = false := by simp [List.isPrefixOf, Ne.symm h]
  rw [Lib.index, hp]
  simp

theorem splitK_sp : ∀ (l : List UInt8), Lib.splitK [32] 0 (l.count 32) l = cutSp l := by
  intro l
  induction l with
  | nil => rfl
  | cons b l ih =>
    by_cases hb : b = 32
    · subst hb
      rw [List.count_cons_self, Lib.splitK, index_sp_hit, if_neg (by decide)]
      unfold cutSp
      rw [if_pos rfl, ← ih]
      simp
    · rw [List.count_cons_of_ne (by simpa using hb)]
      unfold cutSp
      rw [if_neg hb, ← ih]
      cases hc : l.count 32 with
      | zero => rw [Lib.splitK, Lib.splitK]
      | succ k =>
        rw [Lib.splitK, Lib.splitK, index_sp_ne b l hb]
        by_cases hm : Lib.index l [32] = -1
        · rw [hm]
          rfl
        · have hge := Lib.index_ge l [32]
          obtain ⟨j, hj⟩ : ∃ j : Nat, Lib.index l [32] = j := ⟨(Lib.index l [32]).toNat, by omega⟩
          have hm' : ¬ (Lib.index l [32] == -1) = true := fun e => hm (beq_iff_eq.1 e)
          have h2 : ¬ (((j : Int) + 1) == -1) = true := fun e => by have := beq_iff_eq.1 e; omega
          rw [if_neg hm', if_neg hm', hj, if_neg h2, show ((j : Int) + 1).toNat = j + 1 by omega, show ((j : Int)).toNat = j by omega]
          simp

/-- what lies in the two variables, and the longest that bytealg.Index takes -/
structure RdVars (w : World) : Prop where
  ml : ∃ m, w.cell? ⟨Tryz.lays146_ren.g 1, 0, none⟩ = some (.int .i64 m)
  s : ∃ t p, w.cell? ⟨Tryz.laysPu14_ren.g 0, 0, none⟩ = some (.iface t p)
  r : ∃ t p, w.cell? ⟨Tryz.laysPu14_ren.g 1, 0, none⟩ = some (.iface t p)
theorem RdVars.below {w w' : World} (h : RdVars w) (hb : Below w.heap.size w w') : RdVars w' := by
  obtain ⟨⟨m, h0⟩, ⟨t, p, h1⟩, ⟨t2, p2, h2⟩⟩ := h
  exact ⟨⟨m, (hb.cell (p := ⟨Tryz.lays146_ren.g 1, 0, none⟩) (block_lt_of_cell h0)).trans h0⟩, ⟨t, p, (hb.cell (p := ⟨Tryz.laysPu14_ren.g 0, 0, none⟩) (block_lt_of_cell h1)).trans h1⟩, ⟨t2, p2, (hb.cell (p := ⟨Tryz.laysPu14_ren.g 1, 0, none⟩) (block_lt_of_cell h2)).trans h2⟩⟩

theorem split_any (s : ByteArray) (w : World) (hv : RdVars w) (hs : s.size < 4294967281) :
    Calls Tryz.prog 36 #[.string s, .string ⟨#[32]⟩] w fun e w' => e = .returned (.slice (some ⟨w.heap.size, 0, none⟩) (cutSp s.data.toList).length (cutSp s.data.toList).length) ∧ w' = w.alloc (.cells ((cutSp s.data.toList).map strV).toArray 9) := by
  obtain ⟨m, hm⟩ := hv.ml
  have hc : Lib.countB s ⟨#[32]⟩ = s.data.toList.count 32 := Lib.count_one 32 s.data.toList
  have hd : (Lib.splitB ⟨#[32]⟩ 0 (Lib.countB s ⟨#[32]⟩) s).map (·.data.toList) = cutSp s.data.toList := by rw [Lib.splitB_data, hc]; exact splitK_sp _
  have hv2 : (Lib.splitB ⟨#[32]⟩ 0 (Lib.countB s ⟨#[32]⟩) s).map Value.string = (cutSp s.data.toList).map strV := by
    rw [← hd, List.map_map]
    exact List.map_congr_left fun z _ => mk_eq rfl
  have hl : Lib.countB s ⟨#[32]⟩ + 1 = (cutSp s.data.toList).length := by
    rw [← hd, List.length_map, Lib.splitB_all _ (by decide) 0 _ s rfl]
  have h := Any.strings_Split { Tryz.lays146 with } Tryz.lays146.i9 s ⟨#[32]⟩ m w hs hm (by decide)
  rw [hv2, hl] at h
  exact h

theorem parseM_dec (u : Nat) (hu : u < 18446744073709551616) : Lib.parseUintB 64 (Lib.decDigits u) = .ok u := by
  unfold Lib.parseUintB
  rw [if_neg (dec_ne u)]
  have key : ∀ (l : List UInt8) (a : Nat), (∀ b ∈ l, 48 ≤ b.toNat ∧ b.toNat ≤ 57) → l.foldl (fun n b => 10 * n + (b.toNat - 48)) a ≤ 18446744073709551615 → Lib.parseUintM 18446744073709551615 a l = .ok (l.foldl (fun n b => 10 * n + (b.toNat - 48)) a) := by
    intro l
    induction l with
    | nil => intro a _ _; rfl
    | cons b l ih =>
      intro a hd hv
      obtain ⟨h1, h2⟩ := hd b (by simp)
      rw [List.foldl_cons] at hv ⊢
      have hg : ∀ (l : List UInt8) (a : Nat), a ≤ l.foldl (fun n b => 10 * n + (b.toNat - 48)) a := by
        intro l
        induction l with
        | nil => intro a; exact Nat.le_refl _
        | cons b l ih => intro a; exact Nat.le_trans (show a ≤ 10 * a + (b.toNat - 48) by omega) (ih _)
      have hge := hg l (10 * a + (b.toNat - 48))
      rw [Lib.parseUintM, if_pos ⟨h1, h2⟩, if_neg (by omega), if_neg (by omega), show a * 10 + (b.toNat - 48) = 10 * a + (b.toNat - 48) by omega]
      exact ih _ (fun c hc => hd c (by simp [hc])) hv
  have hval : (Lib.decDigits u).foldl (fun n b => 10 * n + (b.toNat - 48)) 0 = u := valD_dec u
  have := key (Lib.decDigits u) 0 (dec_digits u) (by rw [hval]; omega)
  rw [hval] at this
  exact this

theorem parse_ok_lt (l : List UInt8) : ∀ (a u : Nat), a ≤ 18446744073709551615 → Lib.parseUintM 18446744073709551615 a l = .ok u → u ≤ 18446744073709551615 := by
  induction l with
  | nil => intro a u h1 h; rw [Lib.parseUintM] at h; cases h; exact h1
  | cons b l ih =>
    intro a u h1 h
    rw [Lib.parseUintM] at h
    split at h
    · split at h
      · cases h
      · split at h
        · cases h
        · exact ih _ _ (by omega) h
    · cases h

theorem pu_any (s : ByteArray) (hs : s.size ≤ 281474976710656) (w : World) (hv : RdVars w) :
    Calls Tryz.prog 38 #[.string s, .int .i64 10, .int .i64 64] w fun e w' => ∃ (n : Nat) (v : Value), e = .returned (.tuple #[.int .u64 n, v]) ∧ n < 18446744073709551616 ∧ (s.data.toList = [] → n = 0) ∧ (∀ u, u < 18446744073709551616 → s.data.toList = Lib.decDigits u → n = u) ∧ Below w.heap.size w w' := by
  obtain ⟨_, ⟨t1, p1, h1⟩, ⟨t2, p2, h2⟩⟩ := hv
  cases hq : Lib.parseUintB 64 s.data.toList
  · next u =>
    refine (Any.strconv_ParseUint_10_at64_ok Tryz.laysPu14 s (by omega) u hq w).mono ?_
    rintro e w' ⟨rfl, hw⟩
    refine ⟨u, _, rfl, ?_, fun h => ?_, fun x hx h => ?_, ?_⟩
    · unfold Lib.parseUintB at hq
      split at hq
      · cases hq
      · have := parse_ok_lt _ 0 u (by omega) hq
        omega
    · rw [h] at hq; cases hq
    · rw [h, parseM_dec x hx] at hq
      cases hq
      rfl
    · rcases hw with rfl | rfl
      · exact Below.refl _ _
      · exact Lib.bytesWorld_below _ _ _
  · refine (Any.strconv_ParseUint_10_at64_syntax Tryz.laysPu14 s hs hq _ w h1 (.inr ⟨_, _, rfl⟩)).mono ?_
    rintro e w' ⟨N, rfl, -, -, hb⟩
    refine ⟨0, _, rfl, by decide, fun _ => rfl, fun x hx h => ?_, hb⟩
    rw [h, parseM_dec x hx] at hq
    cases hq
  · refine (Any.strconv_ParseUint_10_at64_range Tryz.laysPu14 s hs hq _ w h2 (.inr ⟨_, _, rfl⟩)).mono ?_
    rintro e w' ⟨N, rfl, -, -, hb⟩
    refine ⟨18446744073709551615, _, rfl, by decide, fun h => ?_, fun x hx h => ?_, hb⟩
    · rw [h] at hq; cases hq
    · rw [h, parseM_dec x hx] at hq
      cases hq
end Go.Proofs.YtminfdlhbecnhaaGreatDoor
