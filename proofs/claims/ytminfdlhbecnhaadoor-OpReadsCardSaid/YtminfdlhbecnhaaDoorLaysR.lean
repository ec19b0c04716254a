/- Off the shelf: strings.Split, strconv.ParseUint. -/
import Derived.Ground.NamesProg
import Derived.Ground.MpProg
import Derived.Shelf.Strings.SplitShaped
import Derived.Shelf.Pu.ErrVarParseUint
import Derived.Test.YtminfdlhbecnhaaDoorOpReadP
namespace Go.Proofs
open Go.Shelf Go.Lib Go.RowKit
def Tryd.lays146_ren : Go.Shelf.Ren := ⟨fun | 146 => 32 | 221 => 47 | 268 => 60 | 138 => 61 | 143 => 62 | 195 => 82 | 197 => 83 | 218 => 84 | 219 => 85 | 260 => 92 | 217 => 93 | 225 => 94 | 224 => 95 | 267 => 96 | 266 => 98 | 314 => 99 | n => n, fun | 9 => 9 | 31 => 54 | 3 => 3 | 4 => 4 | 0 => 0 | 105 => 129 | 21 => 21 | 5 => 5 | 46 => 78 | 119 => 74 | 139 => 147 | 138 => 146 | 146 => 148 | 51 => 27 | n => n, fun | 1 => 5 | 3 => 8 | 4 => 9 | n => n⟩
theorem Tryd.lays146 : Go.Proofs.LaysM.n146 Tryd.prog Tryd.lays146_ren := {
  mixed := by kernel_rfl
  f138 := Tryd.func61.trans (congrArg some (by kernel_rfl))
  f143 := Tryd.func62.trans (congrArg some (by kernel_rfl))
  f146 := Tryd.func32.trans (congrArg some (by kernel_rfl))
  f195 := Tryd.func82.trans (congrArg some (by kernel_rfl))
  f197 := Tryd.func83.trans (congrArg some (by kernel_rfl))
  f217 := Tryd.func93.trans (congrArg some (by kernel_rfl))
  f218 := Tryd.func84.trans (congrArg some (by kernel_rfl))
  f219 := Tryd.func85.trans (congrArg some (by kernel_rfl))
  f221 := Tryd.func47.trans (congrArg some (by kernel_rfl))
  f224 := Tryd.func95.trans (congrArg some (by kernel_rfl))
  f225 := Tryd.func94.trans (congrArg some (by kernel_rfl))
  f260 := Tryd.func92.trans (congrArg some (by kernel_rfl))
  f266 := Tryd.func98.trans (congrArg some (by kernel_rfl))
  f267 := Tryd.func96.trans (congrArg some (by kernel_rfl))
  f268 := Tryd.func60.trans (congrArg some (by kernel_rfl))
  f314 := Tryd.func99.trans (congrArg some (by kernel_rfl))
  t0 := Tryd.underlying0
  a0 := Tryd.isAgg0
  z0 := Tryd.sizeOf0
  v0 := Tryd.zeroValue0
  t3 := Tryd.underlying3
  a3 := Tryd.isAgg3
  z3 := Tryd.sizeOf3
  v3 := Tryd.zeroValue3
  t4 := Tryd.underlying4
  a4 := Tryd.isAgg4
  z4 := Tryd.sizeOf4
  v4 := Tryd.zeroValue4
  t5 := Tryd.underlying5
  a5 := Tryd.isAgg5
  z5 := Tryd.sizeOf5
  v5 := Tryd.zeroValue5
  t9 := Tryd.underlying9
  a9 := Tryd.isAgg9
  z9 := Tryd.sizeOf9
  v9 := Tryd.zeroValue9
  t21 := Tryd.underlying21
  a21 := Tryd.isAgg21
  z21 := Tryd.sizeOf21
  v21 := Tryd.zeroValue21
  t31 := Tryd.underlying54
  a31 := Tryd.isAgg54
  z31 := Tryd.sizeOf54
  v31 := Tryd.zeroValue54
  t46 := Tryd.underlying78
  a46 := Tryd.isAgg78
  z46 := Tryd.sizeOf78
  v46 := Tryd.zeroValue78
  t51 := Tryd.underlying27
  a51 := Tryd.isAgg27
  z51 := Tryd.sizeOf27
  v51 := Tryd.zeroValue27
  t105 := Tryd.underlying129
  a105 := Tryd.isAgg129
  z105 := Tryd.sizeOf129
  v105 := Tryd.zeroValue129
  t119 := Tryd.underlying74
  a119 := Tryd.isAgg74
  z119 := Tryd.sizeOf74
  t138 := Tryd.underlying146
  a138 := Tryd.isAgg146
  z138 := Tryd.sizeOf146
  v138 := Tryd.zeroValue146
  t139 := Tryd.underlying147
  a139 := Tryd.isAgg147
  z139 := Tryd.sizeOf147
  v139 := Tryd.zeroValue147
  t146 := Tryd.underlying148
  a146 := Tryd.isAgg148
  z146 := Tryd.sizeOf148
  v146 := Tryd.zeroValue148
  g1 := by kernel_rfl
  g3 := by kernel_rfl
  g4 := by kernel_rfl
  i0 := by kernel_rfl
  i3 := by kernel_rfl
  i4 := by kernel_rfl
  i5 := by kernel_rfl
  i9 := by kernel_rfl
  i21 := by kernel_rfl
  i31 := by kernel_rfl
  i46 := by kernel_rfl
  i51 := by kernel_rfl
  i105 := by kernel_rfl
  i138 := by kernel_rfl
  i139 := by kernel_rfl
  i146 := by kernel_rfl
  m1 := by kernel_rfl
  s1_3 := fun w h => Go.Proofs.cell_of_shapedOpen_int (zero := #[.int .i64 0]) (t := 3) h (of_decide_eq_true (by kernel_rfl)) (by kernel_rfl) rfl (by kernel_rfl) (by kernel_rfl) Tryd.underlying3
  m3 := by kernel_rfl
  m4 := by kernel_rfl }
def Tryd.laysPu14_ren : Go.Shelf.Ren := ⟨fun | 14 => 35 | 16 => 48 | 17 => 49 | 19 => 63 | 20 => 64 | 21 => 65 | 22 => 66 | 23 => 67 | 24 => 68 | 25 => 86 | 27 => 88 | 26 => 87 | 28 => 97 | 29 => 100 | 30 => 54 | 31 => 55 | 32 => 56 | 33 => 57 | 35 => 76 | 34 => 75 | 36 => 77 | 37 => 78 | 38 => 79 | 39 => 90 | 40 => 91 | n => n, fun | 9 => 9 | 3 => 3 | 22 => 31 | 24 => 71 | 25 => 72 | 4 => 4 | 34 => 103 | 5 => 5 | 36 => 78 | 37 => 42 | 0 => 0 | 39 => 105 | 21 => 21 | 44 => 134 | 47 => 100 | 50 => 142 | 48 => 140 | 2 => 2 | 52 => 95 | 55 => 98 | 59 => 121 | 60 => 27 | 20 => 20 | 61 => 122 | 65 => 143 | 66 => 144 | 67 => 44 | n => n, fun | 0 => 3 | 1 => 4 | 2 => 2 | 3 => 6 | 4 => 7 | n => n⟩
theorem Tryd.laysPu14 : Go.Proofs.LaysPu.n14 Tryd.prog Tryd.laysPu14_ren := {
  mixed := by kernel_rfl
  f14 := Tryd.func35.trans (congrArg some (by kernel_rfl))
  f16 := Tryd.func48.trans (congrArg some (by kernel_rfl))
  f17 := Tryd.func49.trans (congrArg some (by kernel_rfl))
  f19 := Tryd.func63.trans (congrArg some (by kernel_rfl))
  f20 := Tryd.func64.trans (congrArg some (by kernel_rfl))
  f21 := Tryd.func65.trans (congrArg some (by kernel_rfl))
  f22 := Tryd.func66.trans (congrArg some (by kernel_rfl))
  f23 := Tryd.func67.trans (congrArg some (by kernel_rfl))
  f24 := Tryd.func68.trans (congrArg some (by kernel_rfl))
  f25 := Tryd.func86.trans (congrArg some (by kernel_rfl))
  f26 := Tryd.func87.trans (congrArg some (by kernel_rfl))
  f27 := Tryd.func88.trans (congrArg some (by kernel_rfl))
  f28 := Tryd.func97.trans (congrArg some (by kernel_rfl))
  f29 := Tryd.func100.trans (congrArg some (by kernel_rfl))
  f30 := Tryd.func54.trans (congrArg some (by kernel_rfl))
  f31 := Tryd.func55.trans (congrArg some (by kernel_rfl))
  f32 := Tryd.func56.trans (congrArg some (by kernel_rfl))
  f33 := Tryd.func57.trans (congrArg some (by kernel_rfl))
  f34 := Tryd.func75.trans (congrArg some (by kernel_rfl))
  f35 := Tryd.func76.trans (congrArg some (by kernel_rfl))
  f36 := Tryd.func77.trans (congrArg some (by kernel_rfl))
  f37 := Tryd.func78.trans (congrArg some (by kernel_rfl))
  f38 := Tryd.func79.trans (congrArg some (by kernel_rfl))
  f39 := Tryd.func90.trans (congrArg some (by kernel_rfl))
  f40 := Tryd.func91.trans (congrArg some (by kernel_rfl))
  t0 := Tryd.underlying0
  a0 := Tryd.isAgg0
  z0 := Tryd.sizeOf0
  v0 := Tryd.zeroValue0
  i0 := by kernel_rfl
  t2 := Tryd.underlying2
  a2 := Tryd.isAgg2
  z2 := Tryd.sizeOf2
  v2 := Tryd.zeroValue2
  i2 := by kernel_rfl
  t3 := Tryd.underlying3
  a3 := Tryd.isAgg3
  z3 := Tryd.sizeOf3
  v3 := Tryd.zeroValue3
  i3 := by kernel_rfl
  t4 := Tryd.underlying4
  a4 := Tryd.isAgg4
  z4 := Tryd.sizeOf4
  v4 := Tryd.zeroValue4
  i4 := by kernel_rfl
  t5 := Tryd.underlying5
  a5 := Tryd.isAgg5
  z5 := Tryd.sizeOf5
  v5 := Tryd.zeroValue5
  i5 := by kernel_rfl
  t9 := Tryd.underlying9
  a9 := Tryd.isAgg9
  z9 := Tryd.sizeOf9
  v9 := Tryd.zeroValue9
  i9 := by kernel_rfl
  t20 := Tryd.underlying20
  a20 := Tryd.isAgg20
  z20 := Tryd.sizeOf20
  v20 := Tryd.zeroValue20
  i20 := by kernel_rfl
  t21 := Tryd.underlying21
  a21 := Tryd.isAgg21
  z21 := Tryd.sizeOf21
  v21 := Tryd.zeroValue21
  i21 := by kernel_rfl
  t22 := Tryd.underlying31
  a22 := Tryd.isAgg31
  z22 := Tryd.sizeOf31
  v22 := Tryd.zeroValue31
  i22 := by kernel_rfl
  t24 := Tryd.underlying71
  a24 := Tryd.isAgg71
  z24 := Tryd.sizeOf71
  v24 := Tryd.zeroValue71
  i24 := by kernel_rfl
  t25 := Tryd.underlying72
  a25 := Tryd.isAgg72
  z25 := Tryd.sizeOf72
  v25 := Tryd.zeroValue72
  i25 := by kernel_rfl
  t34 := Tryd.underlying103
  a34 := Tryd.isAgg103
  z34 := Tryd.sizeOf103
  v34 := Tryd.zeroValue103
  i34 := by kernel_rfl
  c34 := by kernel_rfl
  t36 := Tryd.underlying78
  a36 := Tryd.isAgg78
  z36 := Tryd.sizeOf78
  v36 := Tryd.zeroValue78
  i36 := by kernel_rfl
  t37 := Tryd.underlying42
  a37 := Tryd.isAgg42
  z37 := Tryd.sizeOf42
  v37 := Tryd.zeroValue42
  i37 := by kernel_rfl
  t39 := Tryd.underlying105
  a39 := Tryd.isAgg105
  z39 := Tryd.sizeOf105
  v39 := Tryd.zeroValue105
  i39 := by kernel_rfl
  t44 := Tryd.underlying134
  a44 := Tryd.isAgg134
  z44 := Tryd.sizeOf134
  v44 := Tryd.zeroValue134
  i44 := by kernel_rfl
  t47 := Tryd.underlying100
  a47 := Tryd.isAgg100
  z47 := Tryd.sizeOf100
  v47 := Tryd.zeroValue100
  i47 := by kernel_rfl
  t48 := Tryd.underlying140
  a48 := Tryd.isAgg140
  z48 := Tryd.sizeOf140
  v48 := Tryd.zeroValue140
  i48 := by kernel_rfl
  t50 := Tryd.underlying142
  a50 := Tryd.isAgg142
  z50 := Tryd.sizeOf142
  v50 := Tryd.zeroValue142
  i50 := by kernel_rfl
  t52 := Tryd.underlying95
  a52 := Tryd.isAgg95
  z52 := Tryd.sizeOf95
  v52 := Tryd.zeroValue95
  i52 := by kernel_rfl
  t55 := Tryd.underlying98
  a55 := Tryd.isAgg98
  z55 := Tryd.sizeOf98
  v55 := Tryd.zeroValue98
  i55 := by kernel_rfl
  t59 := Tryd.underlying121
  a59 := Tryd.isAgg121
  z59 := Tryd.sizeOf121
  v59 := Tryd.zeroValue121
  i59 := by kernel_rfl
  t60 := Tryd.underlying27
  a60 := Tryd.isAgg27
  z60 := Tryd.sizeOf27
  v60 := Tryd.zeroValue27
  i60 := by kernel_rfl
  t61 := Tryd.underlying122
  a61 := Tryd.isAgg122
  z61 := Tryd.sizeOf122
  t65 := Tryd.underlying143
  a65 := Tryd.isAgg143
  z65 := Tryd.sizeOf143
  v65 := Tryd.zeroValue143
  i65 := by kernel_rfl
  t66 := Tryd.underlying144
  a66 := Tryd.isAgg144
  z66 := Tryd.sizeOf144
  v66 := Tryd.zeroValue144
  i66 := by kernel_rfl
  t67 := Tryd.underlying44
  a67 := Tryd.isAgg44
  z67 := Tryd.sizeOf44
  v67 := Tryd.zeroValue44
  i67 := by kernel_rfl
  g0 := by kernel_rfl
  m0 := by kernel_rfl
  g1 := by kernel_rfl
  m1 := by kernel_rfl
  g2 := by kernel_rfl
  m2 := by kernel_rfl
  g3 := by kernel_rfl
  m3 := by kernel_rfl
  g4 := by kernel_rfl
  m4 := by kernel_rfl }
end Go.Proofs
namespace Go.Proofs.YtminfdlhbecnhaaDoor
open Go.RowKit

theorem index_sp_hit (l : List UInt8) : Lib.index (32 :: l) [32] = 0 := by rw [Lib.index]; simp [List.isPrefixOf]
theorem index_sp_ne (b : UInt8) (l : List UInt8) (h : b ≠ 32) : Lib.index (b :: l) [32] = if Lib.index l [32] == -1 then -1 else Lib.index l [32] + 1 := by
  have hp : ([32] : List UInt8).isPrefixOf (b :: l) = false := by simp [List.isPrefixOf, Ne.symm h]
  rw [Lib.index, hp]
  simp

theorem splitK_sp : ∀ (l : List UInt8), Lib.splitK [32] 0 (l.count 32) l = cutSp l := by
  intro l
  induction l with
  | nil => rfl
  | cons b l ih =>
    by_cases hb : b = 32
    · subst hb
      rw [List.count_cons_self, Lib.splitK, index_sp_hit, if_neg (by decide)]
      unfold cutSp
      rw [if_pos rfl, ← ih]
      simp
    · rw [List.count_cons_of_ne (by simpa using hb)]
      unfold cutSp
      rw [if_neg hb, ← ih]
      cases hc : l.count 32 with
      | zero => rw [Lib.splitK, Lib.splitK]
      | succ k =>
        rw [Lib.splitK, Lib.splitK, index_sp_ne b l hb]
        by_cases hm : Lib.index l [32] = -1
        · rw [hm]
          rfl
        · have hge := Lib.index_ge l [32]
          obtain ⟨j, hj⟩ : ∃ j : Nat, Lib.index l [32] = j := ⟨(Lib.index l [32]).toNat, by omega⟩
          have hm' : ¬ (Lib.index l [32] == -1) = true := fun e => hm (beq_iff_eq.1 e)
          have h2 : ¬ (((j : Int) + 1) == -1) = true := fun e => by have := beq_iff_eq.1 e; omega
          rw [if_neg hm', if_neg hm', hj, if_neg h2, show ((j : Int) + 1).toNat = j + 1 by omega, show ((j : Int)).toNat = j by omega]
          simp

/-- what lies in the two variables, and the longest that bytealg.Index takes -/
structure RdVars (w : World) : Prop where
  ml : ∃ m, w.cell? ⟨Tryd.lays146_ren.g 1, 0, none⟩ = some (.int .i64 m)
  s : ∃ t p, w.cell? ⟨Tryd.laysPu14_ren.g 0, 0, none⟩ = some (.iface t p)
  r : ∃ t p, w.cell? ⟨Tryd.laysPu14_ren.g 1, 0, none⟩ = some (.iface t p)
theorem RdVars.below {w w' : World} (h : RdVars w) (hb : Below w.heap.size w w') : RdVars w' := by
  obtain ⟨⟨m, h0⟩, ⟨t, p, h1⟩, ⟨t2, p2, h2⟩⟩ := h
  exact ⟨⟨m, (hb.cell (p := ⟨Tryd.lays146_ren.g 1, 0, none⟩) (block_lt_of_cell h0)).trans h0⟩, ⟨t, p, (hb.cell (p := ⟨Tryd.laysPu14_ren.g 0, 0, none⟩) (block_lt_of_cell h1)).trans h1⟩, ⟨t2, p2, (hb.cell (p := ⟨Tryd.laysPu14_ren.g 1, 0, none⟩) (block_lt_of_cell h2)).trans h2⟩⟩

theorem split_any (s : ByteArray) (w : World) (hv : RdVars w) (hs : s.size < 4294967281) :
    Calls Tryd.prog 32 #[.string s, .string ⟨#[32]⟩] w fun e w' => e = .returned (.slice (some ⟨w.heap.size, 0, none⟩) (cutSp s.data.toList).length (cutSp s.data.toList).length) ∧ w' = w.alloc (.cells ((cutSp s.data.toList).map strV).toArray 9) := by
  obtain ⟨m, hm⟩ := hv.ml
  have hc : Lib.countB s ⟨#[32]⟩ = s.data.toList.count 32 := Lib.count_one 32 s.data.toList
  have hd : (Lib.splitB ⟨#[32]⟩ 0 (Lib.countB s ⟨#[32]⟩) s).map (·.data.toList) = cutSp s.data.toList := by rw [Lib.splitB_data, hc]; exact splitK_sp _
  have hv2 : (Lib.splitB ⟨#[32]⟩ 0 (Lib.countB s ⟨#[32]⟩) s).map Value.string = (cutSp s.data.toList).map strV := by
    rw [← hd, List.map_map]
    exact List.map_congr_left fun z _ => mk_eq rfl
  have hl : Lib.countB s ⟨#[32]⟩ + 1 = (cutSp s.data.toList).length := by
    rw [← hd, List.length_map, Lib.splitB_all _ (by decide) 0 _ s rfl]
  have h := Any.strings_Split { Tryd.lays146 with } Tryd.lays146.i9 s ⟨#[32]⟩ m w hs hm (by decide)
  rw [hv2, hl] at h
  exact h

theorem parseM_dec (u : Nat) (hu : u < 18446744073709551616) : Lib.parseUintB 64 (Lib.decDigits u) = .ok u := by
  unfold Lib.parseUintB
  rw [if_neg (dec_ne u)]
  have key : ∀ (l : List UInt8) (a : Nat), (∀ b ∈ l, 48 ≤ b.toNat ∧ b.toNat ≤ 57) → l.foldl (fun n b => 10 * n + (b.toNat - 48)) a ≤ 18446744073709551615 → Lib.parseUintM 18446744073709551615 a l = .ok (l.foldl (fun n b => 10 * n + (b.toNat - 48)) a) := by
    intro l
    induction l with
    | nil => intro a _ _; rfl
    | cons b l ih =>
      intro a hd hv
      obtain ⟨h1, h2⟩ := hd b (by simp)
      rw [List.foldl_cons] at hv ⊢
      have hg : ∀ (l : List UInt8) (a : Nat), a ≤ l.foldl (fun n b => 10 * n + (b.toNat - 48)) a := by
        intro l
        induction l with
        | nil => intro a; exact Nat.le_refl _
        | cons b l ih => intro a; exact Nat.le_trans (show a ≤ 10 * a + (b.toNat - 48) by omega) (ih _)
      have hge := hg l (10 * a + (b.toNat - 48))
      rw [Lib.parseUintM, if_pos ⟨h1, h2⟩, if_neg (by omega), if_neg (by omega), show a * 10 + (b.toNat - 48) = 10 * a + (b.toNat - 48) by omega]
      exact ih _ (fun c hc => hd c (by simp [hc])) hv
  have hval : (Lib.decDigits u).foldl (fun n b => 10 * n + (b.toNat - 48)) 0 = u := valD_dec u
  have := key (Lib.decDigits u) 0 (dec_digits u) (by rw [hval]; omega)
  rw [hval] at this
  exact this

theorem parse_ok_lt (l : List UInt8) : ∀ (a u : Nat), a ≤ 18446744073709551615 → Lib.parseUintM 18446744073709551615 a l = .ok u → u ≤ 18446744073709551615 := by
  induction l with
  | nil => intro a u h1 h; rw [Lib.parseUintM] at h; cases h; exact h1
  | cons b l ih =>
    intro a u h1 h
    rw [Lib.parseUintM] at h
    split at h
    · split at h
      · cases h
      · split at h
        · cases h
        · exact ih _ _ (by omega) h
    · cases h

theorem pu_any (s : ByteArray) (hs : s.size ≤ 281474976710656) (w : World) (hv : RdVars w) :
    Calls Tryd.prog 35 #[.string s, .int .i64 10, .int .i64 64] w fun e w' => ∃ (n : Nat) (v : Value), e = .returned (.tuple #[.int .u64 n, v]) ∧ n < 18446744073709551616 ∧ (s.data.toList = [] → n = 0) ∧ (∀ u, u < 18446744073709551616 → s.data.toList = Lib.decDigits u → n = u) ∧ Below w.heap.size w w' := by
  obtain ⟨_, ⟨t1, p1, h1⟩, ⟨t2, p2, h2⟩⟩ := hv
  cases hq : Lib.parseUintB 64 s.data.toList
  · next u =>
    refine (Any.strconv_ParseUint_10_at64_ok Tryd.laysPu14 s (by omega) u hq w).mono ?_
    rintro e w' ⟨rfl, hw⟩
    refine ⟨u, _, rfl, ?_, fun h => ?_, fun x hx h => ?_, ?_⟩
    · unfold Lib.parseUintB at hq
      split at hq
      · cases hq
      · have := parse_ok_lt _ 0 u (by omega) hq
        omega
    · rw [h] at hq; cases hq
    · rw [h, parseM_dec x hx] at hq
      cases hq
      rfl
    · rcases hw with rfl | rfl
      · exact Below.refl _ _
      · exact Lib.bytesWorld_below _ _ _
  · refine (Any.strconv_ParseUint_10_at64_syntax Tryd.laysPu14 s hs hq _ w h1 (.inr ⟨_, _, rfl⟩)).mono ?_
    rintro e w' ⟨N, rfl, -, -, hb⟩
    refine ⟨0, _, rfl, by decide, fun _ => rfl, fun x hx h => ?_, hb⟩
    rw [h, parseM_dec x hx] at hq
    cases hq
  · refine (Any.strconv_ParseUint_10_at64_range Tryd.laysPu14 s hs hq _ w h2 (.inr ⟨_, _, rfl⟩)).mono ?_
    rintro e w' ⟨N, rfl, -, -, hb⟩
    refine ⟨18446744073709551615, _, rfl, by decide, fun h => ?_, fun x hx h => ?_, hb⟩
    · rw [h] at hq; cases hq
    · rw [h, parseM_dec x hx] at hq
      cases hq
end Go.Proofs.YtminfdlhbecnhaaDoor
