/- Walk: bits of a disk's sector are turned. -/
import Derived.Test.YtacfkhnajdneeaaDoorDkTurn
namespace Go.Proofs.YtacfkhnajdneeaaDoor
open Go.RowKit

def rotW (i bit mask len : Nat) (x : Nat × List UInt8) : Nat × List UInt8 := if x.1 = i then (x.1, turnOf x.2 bit mask len) else x
def Dk.rotted (d : Dk) (i bit mask len : Nat) : Dk := ⟨d.safe.set i (turnOf (d.safe.getD i []) bit mask len), d.wait.map (rotW i bit mask len), d.count, d.bound, d.left⟩

/-- a write's sector set, its place kept -/
theorem setAll_wr (ws : List (Nat × List UInt8)) (hw : ∀ x ∈ ws, (wrCells x).length = 513) (k : Nat) (x : Nat × List UInt8) (hx : ws[k]? = some x) (q : List UInt8) (hq : q.length = 512) :
    setAll (ws.flatMap wrCells) (k * 513 + 1) (secCells q) = (ws.set k (x.1, q)).flatMap wrCells := by
  have hk : k < ws.length := (List.getElem?_eq_some_iff.1 hx).1
  have hqs : (secCells q).length = 512 := by unfold secCells; rw [List.length_map]; exact hq
  have hwq : (wrCells (x.1, q)).length = 513 := by unfold wrCells; rw [List.length_cons, List.length_map, hq]
  have hlen := flat_length' wrCells 513 ws hw
  have hin : (k + 1) * 513 ≤ ws.length * 513 := Nat.mul_le_mul_right _ hk
  rw [← setAll_flat wrCells 513 ws hw k (x.1, q) hk hwq]
  have h0 : (ws.flatMap wrCells)[k * 513]? = some (.int .i64 x.1) := by
    have := flat_get' wrCells 513 ws hw k 0 x hx (by omega)
    rw [Nat.add_zero] at this
    rw [this]; rfl
  have e : wrCells (x.1, q) = .int .i64 x.1 :: secCells q := rfl
  rw [e]
  show _ = setAll ((ws.flatMap wrCells).set (k * 513) (.int .i64 x.1)) (k * 513 + 1) (secCells q)
  congr 1
  apply List.ext_getElem?
  intro j
  by_cases hj : j = k * 513
  · subst hj
    rw [List.getElem?_set_self (by omega), h0]
  · rw [List.getElem?_set_ne (fun e => hj e.symm)]

theorem rot_step {α : Type} (f : α → α) (ws : List α) (k : Nat) (x : α) (hx : ws[k]? = some x) :
    ((ws.take k).map f ++ ws.drop k)[k]? = some x ∧ (ws.take (k + 1)).map f ++ ws.drop (k + 1) = ((ws.take k).map f ++ ws.drop k).set k (f x) := by
  obtain ⟨hk, hx'⟩ := List.getElem?_eq_some_iff.1 hx
  have hlen : ((ws.take k).map f).length = k := by simp; omega
  have hd : ws.drop k = x :: ws.drop (k + 1) := by rw [List.drop_eq_getElem_cons hk, hx']
  constructor
  · rw [List.getElem?_append_right (by omega), hlen, hd, Nat.sub_self]; rfl
  · rw [List.set_append_right _ _ (by omega), hlen, hd, Nat.sub_self, List.take_succ_eq_append_getElem hk, hx', List.map_append, List.append_assoc]; rfl

theorem list_set_self {α : Type} (l : List α) (k : Nat) (x : α) (h : l[k]? = some x) : l.set k x = l := by
  apply List.ext_getElem?
  intro j
  by_cases hj : k = j
  · subst hj; rw [List.getElem?_set_self (List.getElem?_eq_some_iff.1 h).1, h]
  · rw [List.getElem?_set_ne hj]

theorem rotW_len (i bit mask len : Nat) (x : Nat × List UInt8) : (rotW i bit mask len x).1 = x.1 ∧ (rotW i bit mask len x).2.length = x.2.length := by
  unfold rotW; split
  · exact ⟨rfl, turnOf_length _ _ _ _⟩
  · exact ⟨rfl, rfl⟩

theorem rot_wrs (d : Dk) (h : d.Ok) (i bit mask len k : Nat) (y : Nat × List UInt8) (hy : y ∈ (d.wait.take k).map (rotW i bit mask len) ++ d.wait.drop k) : (wrCells y).length = 513 := by
  unfold wrCells; rw [List.length_cons, List.length_map]
  rcases List.mem_append.1 hy with hy | hy
  · obtain ⟨x, hx, rfl⟩ := List.mem_map.1 hy
    rw [(rotW_len i bit mask len x).2, (h.wait x (List.mem_of_mem_take hx)).1]
  · rw [(h.wait y (List.mem_of_mem_drop hy)).1]

theorem wr_get (ws : List (Nat × List UInt8)) (hw : ∀ x ∈ ws, (wrCells x).length = 513) (k : Nat) (x : Nat × List UInt8) (hx : ws[k]? = some x) (j : Nat) (hj : j < 512) : (ws.flatMap wrCells)[k * 513 + 1 + j]? = (secCells x.2)[j]? := by
  rw [Nat.add_assoc, flat_get' wrCells 513 ws hw k (1 + j) x hx (by omega), Nat.add_comm 1 j]
  rfl

set_option maxRecDepth 10000 in
set_option maxHeartbeats 3200000 in
theorem rot_ok (g : Nat) (d : Dk) (F : Nat → Prop) (i bit len mask : Nat) (w : World) (h : DiskAt w g d F) (hi : i < d.safe.length) (hlen : len ≤ 32) (hbit : bit + len ≤ 4096) (hmask : mask < 4294967296) (hw : d.wait.length ≤ 1000000) :
    Calls Tryd.prog 43 #[.pointer (some ⟨g, 0, none⟩), .int .i64 i, .int .i64 bit, .int .i64 len, .int .u32 mask] w fun e w' => e = .returned (.int .i64 0) ∧ DiskAt w' g (d.rotted i bit mask len) F ∧ Moved w w' F F := by
  have ht := there_any g d F i w h
  rw [if_pos (by omega)] at ht
  have HT := Lib.hid ht
  clear ht
  obtain ⟨h30, vs, vw, h31, h32, h33, h34⟩ := h
  obtain ⟨a3, c3, rfl, hc3, hm3, hn3, _⟩ := ownsRow_lies h33
  obtain ⟨a2, c2, rfl, hc2, hm2, hn2, _⟩ := ownsRow_lies h32
  obtain ⟨c0, c1, _, _, _, fr⟩ := row5 h31
  obtain ⟨g2, rfl⟩ : ∃ g2, a2 = some ⟨g2, 0, none⟩ := by
    rcases h32.2 with ⟨h, h'⟩ | ⟨g', c', cur, h, _⟩
    · omega
    · cases h; exact ⟨_, rfl⟩
  obtain ⟨l, hl⟩ : ∃ l, d.safe[i]? = some l := ⟨_, List.getElem?_eq_getElem hi⟩
  have hll : l.length = 512 := h30.safe l (List.mem_of_getElem? hl)
  have hin : (i + 1) * 512 ≤ d.safe.length * 512 := Nat.mul_le_mul_right _ hi
  have hne2 : g2 ≠ g := fun e => by subst e; exact own_ne h32 h31 (by decide) rfl
  have hturn := turn_any g2 (i * 512) 0 104 512 d.safe.length c2 _ l bit len mask w hll h32 (by omega) (fun j hj => flat_get' secCells 512 d.safe h30.secs i j l hl hj) hlen hbit hmask
  have hap : ∀ q, (Value.slice a3 d.wait.length c3).ownBlock = some q → q ≠ g2 := fun q hq e => by
    subst e
    rcases own_apart h33 h32 (by decide) with h | h
    · rw [h] at hq; cases hq
    · exact h hq
  have HAP := Lib.hid hap
  clear hap
  have hset := setAll_flat secCells 512 d.safe h30.secs i (turnOf l bit mask len) hi (by unfold secCells; rw [List.length_map, turnOf_length, hll])
  rw [hset] at hturn
  have HTU := Lib.hid hturn
  have hfew := h30.few
  have hlb1 : (len : Int) ≤ 32 := by omega
  have hlb2 : (bit : Int) ≤ 4096 - len := by omega
  have hiI : (i : Int) < d.safe.length := by omega
  have hd1 : decide ((4096 : Int) - len < bit) = false := decide_eq_false (by omega)
  have hd3 : decide ((len : Int) < 0) = false := decide_eq_false (by omega)
  have hd4 : decide ((bit : Int) < 0) = false := decide_eq_false (by omega)
  have hd2 : decide ((32 : Int) < len) = false := decide_eq_false (by omega)
  have H30 := Lib.hid h30
  have H31 := Lib.hid h31
  have H33 := Lib.hid h33
  have H34 := Lib.hid h34
  have HL := Lib.hid hl
  have HLL := Lib.hid hll
  clear hturn hset h31 h32 h33 h34 h30 hn2 hn3 hin hl hll
  go_enter Tryd.func43, Tryd.ntmps43
  go_wp2_with first
    | (go_at_call 62; refine HT.out.mono ?_; rintro e w1 ⟨rfl, rfl⟩)
  refine HTU.out.mono ?_
  rintro e w2 ⟨rfl, hs2, ho2⟩
  have hr2 := (ho2.block g (Array.getElem?_eq_some_iff.1 H31.out).1 (fun e => hne2 e.symm)).trans H31.out
  have hw2 := own_only H33.out ho2 HAP.out
  have hF2 : F g2 := (H34.out g2).2 (.inr (.inl rfl))
  have hO2 : Only w1 w2 F := ho2.mono fun i _ e => by rw [show i = g2 from e]; exact hF2
  obtain ⟨d0, d1, _, _, _, er⟩ := row5 hr2
  have HR2 := Lib.hid hr2
  have HS2 := Lib.hid hs2
  have HW2 := Lib.hid hw2
  have HO2 := Lib.hid hO2
  clear hr2 hs2 hw2 hO2 ho2
  go_wp2_with fail
  clear d0 d1 er hd1 hd2 hd3 hd4
  go_loopw [12, 56] (fun _ j wr => ∃ (k : Nat) (l' : List (Nat × List UInt8)), j = .int .i64 k ∧ k ≤ d.wait.length ∧ Hid (l' = (d.wait.take k).map (rotW i bit mask len) ++ d.wait.drop k) ∧
      Hid (wr.heap[g]? = some (.cells #[.slice (some ⟨g2, 0, none⟩) d.safe.length c2, .slice a3 d.wait.length c3, .int .i64 d.count, .bool d.bound, .int .i64 d.left] 96 (0, 0))) ∧
      Hid (wr.ownsRow 0 104 512 (.slice (some ⟨g2, 0, none⟩) d.safe.length c2) d.safe.length ((d.safe.set i (turnOf l bit mask len)).flatMap secCells)) ∧
      Hid (wr.ownsRow 0 106 513 (.slice a3 d.wait.length c3) d.wait.length (l'.flatMap wrCells)) ∧ Hid (Only w1 wr F)) (fun _ j _ => d.wait.length - (intOf j).toNat)
  case atStart => exact ⟨0, d.wait, rfl, by omega, Lib.hid (by simp), HR2, HS2, HW2, HO2⟩
  case round =>
    obtain ⟨k, l', rfl, hk, HLL', HR, HSA, HWA, HON⟩ := hrel
    by_cases hlt : k < d.wait.length
    · obtain ⟨x, hx⟩ : ∃ x, d.wait[k]? = some x := ⟨_, List.getElem?_eq_getElem hlt⟩
      have hstep := rot_step (rotW i bit mask len) d.wait k x hx
      rw [← HLL'.out] at hstep
      obtain ⟨hlk, hlset⟩ := hstep
      have hxo := H30.out.wait x (List.mem_of_getElem? hx)
      have hws : ∀ y ∈ l', (wrCells y).length = 513 := fun y hy => by
        rw [HLL'.out] at hy
        exact rot_wrs d H30.out i bit mask len k y hy
      obtain ⟨g3, rfl⟩ : ∃ g3, a3 = some ⟨g3, 0, none⟩ := by
        rcases HWA.out.2 with ⟨h, h'⟩ | ⟨g', c', cur, h, _⟩
        · omega
        · cases h; exact ⟨_, rfl⟩
      have hll' : l'.length = d.wait.length := by rw [HLL'.out]; simp; omega
      have hr := own_range hws (by rw [hll']; exact HWA.out) k x hlk
      have f0 := rangeAt_head hr
      have hin : (k + 1) * 513 ≤ d.wait.length * 513 := Nat.mul_le_mul_right _ hlt
      have hne3 : g3 ≠ g := fun e => by subst e; exact own_ne HWA.out HR.out (by decide) rfl
      have hne32 : g3 ≠ g2 := HAP.out g3 rfl
      have hturn := fun (ww : World) (h : ww.ownsRow 0 106 513 (.slice (some ⟨g3, 0, none⟩) d.wait.length c3) d.wait.length (l'.flatMap wrCells)) => turn_any g3 (k * 513 + 1) 0 106 513 d.wait.length c3 _ x.2 bit len mask ww hxo.1 h (by omega) (fun j hj => wr_get l' hws k x hlk j hj) hlen hbit hmask
      have hturn2 := hturn wr HWA.out
      rw [setAll_wr l' hws k x hlk (turnOf x.2 bit mask len) (by rw [turnOf_length, hxo.1])] at hturn2
      have HT2 := Lib.hid hturn2
      obtain ⟨d0, d1, _, _, _, er⟩ := row5 HR.out
      have HLK := Lib.hid hlk
      have HLS := Lib.hid hlset
      have HX := Lib.hid hx
      have HXO := Lib.hid hxo
      have HLE := Lib.hid hll'
      clear hr hturn hturn2 hlk hlset hx hxo hws hin hll'
      by_cases hxi : x.1 = i
      · have hxI : decide ((x.1 : Int) = i) = true := decide_eq_true (by omega)
        go_wp2_with first
          | (refine HT2.out.mono ?_; rintro e w3 ⟨rfl, hs3, ho3⟩)
        have hr3 := (ho3.block g (Array.getElem?_eq_some_iff.1 HR.out).1 (fun e => hne3 e.symm)).trans HR.out
        have hsa3 := own_only HSA.out ho3 (fun q hq e => hne32 (e.symm.trans (Option.some.inj hq).symm))
        have hf3 : F g3 := (H34.out g3).2 (.inr (.inr rfl))
        have hO3 : Only w1 w3 F := HON.out.trans (ho3.mono fun j _ e => by rw [show j = g3 from e]; exact hf3) fun _ _ h => h
        have hl3 : l'.set k (x.1, turnOf x.2 bit mask len) = (d.wait.take (k + 1)).map (rotW i bit mask len) ++ d.wait.drop (k + 1) := by
          rw [HLS.out]; unfold rotW; rw [if_pos hxi]
        go_roundw
        case rel => exact ⟨k + 1, _, by go_num, by omega, Lib.hid hl3, Lib.hid hr3, Lib.hid hsa3, Lib.hid hs3, Lib.hid hO3⟩
        case measure => first | (simp [intOf]; done) | (simp [intOf]; omega)
      · have hxI : decide ((x.1 : Int) = i) = false := decide_eq_false (by omega)
        go_wp2_with fail
        have hl3 : l' = (d.wait.take (k + 1)).map (rotW i bit mask len) ++ d.wait.drop (k + 1) := by
          rw [HLS.out]; unfold rotW; rw [if_neg hxi]
          exact (list_set_self _ _ _ HLK.out).symm
        go_roundw
        case rel => exact ⟨k + 1, l', by go_num, by omega, Lib.hid hl3, HR, HSA, HWA, HON⟩
        case measure => first | (simp [intOf]; done) | (simp [intOf]; omega)
    · have e : k = d.wait.length := by omega
      subst e
      have hl := HLL'.out
      rw [List.take_length, List.drop_length, List.append_nil] at hl
      have HL9 := Lib.hid hl
      clear hl
      go_wp2_with fail
      go_ret
      have hh := H30.out
      have hgl : d.safe.getD i [] = l := by rw [List.getD_eq_getElem?_getD, HL.out]; rfl
      refine ⟨rfl, ⟨⟨?_, ?_, ?_⟩, .slice (some ⟨g2, 0, none⟩) d.safe.length c2, .slice a3 d.wait.length c3, HR.out, ?_, ?_, H34.out⟩, ⟨HON.out, fun k hk => .inl hk⟩⟩
      · intro s hs
        have hs' : s ∈ d.safe.set i (turnOf (d.safe.getD i []) bit mask len) := hs
        rcases List.mem_or_eq_of_mem_set hs' with h | h
        · exact hh.safe s h
        · rw [h, turnOf_length, hgl]; exact HLL.out
      · intro x hx
        obtain ⟨y, hy, rfl⟩ := List.mem_map.1 (show x ∈ d.wait.map (rotW i bit mask len) from hx)
        obtain ⟨q1, q2⟩ := rotW_len i bit mask len y
        obtain ⟨q3, q4⟩ := hh.wait y hy
        exact ⟨by rw [q2, q3], by show _ < (d.safe.set i _).length; rw [q1, List.length_set]; exact q4⟩
      · show (d.safe.set i _).length ≤ 4096
        rw [List.length_set]; exact hh.few
      · show wr.ownsRow 0 _ 512 _ (d.safe.set i (turnOf (d.safe.getD i []) bit mask len)).length ((d.safe.set i (turnOf (d.safe.getD i []) bit mask len)).flatMap secCells)
        rw [List.length_set, hgl]; exact HSA.out
      · show wr.ownsRow 0 _ 513 _ (d.wait.map (rotW i bit mask len)).length ((d.wait.map (rotW i bit mask len)).flatMap wrCells)
        rw [List.length_map, ← HL9.out]; exact HWA.out
end Go.Proofs.YtacfkhnajdneeaaDoor
