/- Walks: a disk's sector as it was written last; read; blank; what waits. -/
import Derived.Test.YtacfkhnajdneeaaDoorDk
import Derived.Test.YtacfkhnajdneeaaDoorPreA
import Derived.Deep.DeepCutAuto
import Derived.Test.YtacfkhnajdneeaaDoorEqRow
namespace Go.Proofs.YtacfkhnajdneeaaDoor
open Go.RowKit

/-- a sector as it was written last -/
def lastOf (wait : List (Nat × List UInt8)) (i : Nat) (p : List UInt8) : List UInt8 := wait.foldl (fun p x => if x.1 = i then x.2 else p) p
def Dk.now (d : Dk) (i : Nat) : List UInt8 := lastOf d.wait i (d.safe.getD i [])

theorem lastOf_none (l : List (Nat × List UInt8)) (i : Nat) (p : List UInt8) (h : ∀ x ∈ l, x.1 ≠ i) : lastOf l i p = p := by
  unfold lastOf
  induction l generalizing p with
  | nil => rfl
  | cons x l ih => rw [List.foldl_cons, if_neg (h x (by simp))]; exact ih p fun y hy => h y (by simp [hy])
theorem lastOf_append (l m : List (Nat × List UInt8)) (i : Nat) (p : List UInt8) : lastOf (l ++ m) i p = lastOf m i (lastOf l i p) := by unfold lastOf; rw [List.foldl_append]
theorem lastOf_at (l : List (Nat × List UInt8)) (i k : Nat) (p : List UInt8) (hk : k < l.length) (h : ∀ x ∈ l.drop (k + 1), x.1 ≠ i) (he : l[k].1 = i) : lastOf l i p = l[k].2 := by
  have e : l = l.take k ++ (l[k] :: l.drop (k + 1)) := by rw [← List.drop_eq_getElem_cons hk, List.take_append_drop]
  conv => lhs; rw [e, lastOf_append]
  show lastOf (l.drop (k + 1)) i (if l[k].1 = i then l[k].2 else _) = _
  rw [if_pos he, lastOf_none _ _ _ h]

theorem Dk.Ok.now {d : Dk} (h : d.Ok) {i : Nat} (hi : i < d.safe.length) : (d.now i).length = 512 := by
  unfold Dk.now
  have h1 : (d.safe.getD i []).length = 512 := by
    rw [List.getD_eq_getElem?_getD, List.getElem?_eq_getElem hi]; exact h.safe _ (List.getElem_mem hi)
  have h2 := h.wait
  generalize d.safe.getD i [] = p at *
  generalize d.wait = l at *
  unfold lastOf
  induction l generalizing p with
  | nil => exact h1
  | cons x l ih =>
    rw [List.foldl_cons]
    split
    · exact ih _ (h2 x (by simp)).1 fun y hy => h2 y (by simp [hy])
    · exact ih _ h1 fun y hy => h2 y (by simp [hy])

theorem infoS : (Tryd.prog.info? 104).map (·.size) = some 512 := by kernel_rfl
theorem zeroS : ∀ w, (zeroValue 104).run Tryd.prog w = .ok (.agg (Array.replicate 512 (.int .u8 0))) w := fun w => by kernel_rfl

theorem rangeAt_head {w : World} {b o : Nat} {v : Value} {cs : List Value} (h : w.rangeAt b o (v :: cs)) : w.cell? ⟨b, o, none⟩ = some v := h 0 v rfl
theorem rangeAt_tail {w : World} {b o : Nat} {v : Value} {cs : List Value} (h : w.rangeAt b o (v :: cs)) : w.rangeAt b (o + 1) cs := fun j u hu => by
  have := h (j + 1) u (by simpa using hu)
  rw [show o + 1 + j = o + (j + 1) by omega]; exact this

theorem sec_one (l : List UInt8) : ((l.map B8).toArray).all (·.oneCell') = true := all_oneCell_toArray (B8_one l)

set_option maxRecDepth 10000 in
set_option maxHeartbeats 1600000 in
theorem now_any (g : Nat) (d : Dk) (F : Nat → Prop) (i : Nat) (w : World) (h : DiskAt w g d F) (hi : i < d.safe.length) (hw : d.wait.length ≤ 1000000) :
    Calls Tryd.prog 64 #[.pointer (some ⟨g, 0, none⟩), .int .i64 i] w fun e w' => e = .returned (.agg (secCells (d.now i)).toArray) ∧ Below w.heap.size w w' := by
  have HD := Lib.hid h
  have hgl := h.lt g h.g
  have hlen := h.ok.now hi
  obtain ⟨h0, vs, vw, h1, h2, h3, h4⟩ := h
  obtain ⟨a2, c2', rfl, hc2, hm2, _⟩ := ownsRow_lies h2
  obtain ⟨a3, c3', rfl, hc3, hm3, _⟩ := ownsRow_lies h3
  obtain ⟨z, hzs, hz⟩ : ∃ z : Array Value, z.size = 512 ∧ (∀ w, (zeroValue 104).run Tryd.prog w = .ok (.agg z) w) := ⟨_, by simp, zeroS⟩
  have hb0 := bal (bre w) (.cells z 104)
  have hG := heap_alloc_new w (.cells z 104)
  obtain ⟨c0, c1, _, _, _, _⟩ := row5 ((hb0.block g hgl).trans h1)
  have h2' := World.ownsRow.alloc h2 (.cells z 104)
  have h3' := World.ownsRow.alloc h3 (.cells z 104)
  have hfew := h0.few
  have H2 := Lib.hid h2'
  have H3 := Lib.hid h3'
  have HG := Lib.hid hG
  have HI := Lib.hid infoS
  have hsz : (w.alloc (.cells z 104)).heap.size = w.heap.size + 1 := by simp
  clear h1 h2 h3 h4 h2' h3' hG
  have hN : ∃ cs : List Value, cs.length = 512 ∧ secCells (d.now i) = cs := ⟨_, by unfold secCells; rw [List.length_map]; exact hlen, rfl⟩
  go_enter Tryd.func64, Tryd.ntmps64
  go_upto_region 1 with fail
  generalize w.alloc (.cells z 104) = W at *
  go_wp2
  go_loopw [5] (fun k wr => wr = W ∧ ∃ m : Int, k = .int .i64 m ∧ -1 ≤ m ∧ m < d.wait.length ∧ Hid (∀ x ∈ d.wait.drop (m + 1).toNat, x.1 ≠ i)) (fun k _ => (intOf k + 1).toNat)
  case atStart =>
    refine ⟨rfl, (d.wait.length : Int) - 1, rfl, by omega, by omega, Lib.hid ?_⟩
    rw [show ((d.wait.length : Int) - 1 + 1).toNat = d.wait.length by omega, List.drop_length]
    simp
  case round =>
    obtain ⟨rfl, m, rfl, hm0, hm1, HN⟩ := hrel
    have hi0 := infoS
    by_cases hm : 0 ≤ m
    · obtain ⟨k, rfl⟩ := Int.eq_ofNat_of_zero_le hm
      have hk : k < d.wait.length := by omega
      obtain ⟨x, hx⟩ : ∃ x, d.wait[k]? = some x := ⟨_, List.getElem?_eq_getElem hk⟩
      have hxw := h0.wait x (List.mem_of_getElem? hx)
      have h3 := H3.out
      obtain ⟨g3, rfl⟩ : ∃ g3, a3 = some ⟨g3, 0, none⟩ := by
        rcases h3.2 with ⟨h, h'⟩ | ⟨g', c', cur, h, _⟩
        · omega
        · cases h; exact ⟨_, rfl⟩
      have hr := own_range h0.wrs h3 k x hx
      unfold wrCells at hr
      have hat := rangeAt_head hr
      have hrt := rangeAt_tail hr
      have hkn : (k : Int) < d.wait.length := by omega
      have hx2 := hxw.2
      clear h3 hr hm
      have hN1 : ((k : Int) + 1).toNat = k + 1 := by omega
      rw [hN1] at HN
      by_cases he : x.1 = i
      · have hlast : d.now i = x.2 := by
          unfold Dk.now
          have hg := List.getElem?_eq_getElem hk
          rw [hx] at hg
          have hg' : d.wait[k] = x := (Option.some.inj hg).symm
          rw [lastOf_at d.wait i k _ hk HN.out (by rw [hg']; exact he), hg']
        rw [he] at hat
        rw [← hlast] at hrt
        have HL := Lib.hid hlen
        have HRT := Lib.hid hrt
        have hat' : wr.cell? ⟨g3, k * 513, none⟩ = some (.int .i64 i) := hat
        clear hlast hlen hrt hN hat hi0
        have hsc : (secCells (d.now i)).length = 512 := by unfold secCells; rw [List.length_map]; exact HL.out
        have hia : (Tryd.prog.info? 104).map (·.size) = some (secCells (d.now i)).length := by rw [hsc]; exact infoS
        have hib : (Tryd.prog.info? 104).map (·.size) = some (secCells (d.now i)).toArray.size := by rw [List.size_toArray]; exact hia
        have hzc : z.size = (secCells (d.now i)).toArray.size := by rw [hzs, List.size_toArray, hsc]
        have hone : (secCells (d.now i)).toArray.all (·.oneCell') = true := sec_one _
        have HA := Lib.hid hia
        have HB := Lib.hid hib
        have HZ := Lib.hid hzc
        have HO := Lib.hid hone
        have HR2 : Hid (wr.rangeAt g3 (k * 513 + 1) (secCells (d.now i))) := HRT
        clear hsc hia hib hzc hone HRT
        go_wp2_with (first | (with_reducible refine wpList_load_mid rfl 104 _ rfl g3 (k * 513 + 1) rfl (secCells (d.now i)) _ HR2.out Tryd.underlying104 rfl HA.out ?_) | (with_reducible refine wpList_store_row rfl 104 _ _ rfl w.heap.size (secCells (d.now i)).toArray rfl rfl 104 z HG.out HB.out HZ.out HO.out ?_))
        refine bodyPost_ret (results_cell_row rfl _ _ w.heap.size 104 (secCells (d.now i)).toArray (0, 0) _ rfl (setRow_heap _ _ _ _ _ _ HG.out) Tryd.underlying104 rfl HB.out) rfl ⟨rfl, ?_⟩
        exact below_setRow hb0 (Nat.le_refl _) _
      · have heb : ((x.1 : Int) == i) = false := by simp; omega
        have hN2 : ∀ y ∈ d.wait.drop (((k : Int) - 1) + 1).toNat, y.1 ≠ i := by
          rw [show ((k : Int) - 1 + 1).toNat = k by omega, List.drop_eq_getElem_cons hk]
          intro y hy
          have hg := List.getElem?_eq_getElem hk
          rw [hx] at hg
          rcases List.mem_cons.1 hy with h | h
          · rw [h, ← Option.some.inj hg]; exact he
          · exact HN.out y h
        have HN2 := Lib.hid hN2
        have hat' : wr.cell? ⟨g3, k * 513, none⟩ = some (.int .i64 x.1) := hat
        clear hrt hN hat hi0 hN2 hlen HN
        go_wp2
        go_roundw
        case rel => exact ⟨by first | rfl | trivial, (k : Int) - 1, rfl, by omega, by omega, HN2⟩
        case measure => first | (simp [intOf]; done) | (simp [intOf]; omega)
    · have hm2 : m = -1 := by omega
      subst hm2
      have hlast : d.now i = d.safe[i] := by
        unfold Dk.now
        rw [lastOf_none _ _ _ (by simpa using HN.out), List.getD_eq_getElem?_getD, List.getElem?_eq_getElem hi]
        rfl
      have hx : d.safe[i]? = some (d.now i) := by rw [hlast]; exact List.getElem?_eq_getElem hi
      have h2 := H2.out
      obtain ⟨g2, rfl⟩ : ∃ g2, a2 = some ⟨g2, 0, none⟩ := by
        rcases h2.2 with ⟨h, h'⟩ | ⟨g', c', cur, h, _⟩
        · omega
        · cases h; exact ⟨_, rfl⟩
      have hrt := own_range h0.secs h2 i _ hx
      have HL := Lib.hid hlen
      have HR2 := Lib.hid hrt
      have hin : (i : Int) < d.safe.length := by omega
      clear hlast hlen hrt hN hi0 h2 hx
      have hsc : (secCells (d.now i)).length = 512 := by unfold secCells; rw [List.length_map]; exact HL.out
      have hia : (Tryd.prog.info? 104).map (·.size) = some (secCells (d.now i)).length := by rw [hsc]; exact infoS
      have hib : (Tryd.prog.info? 104).map (·.size) = some (secCells (d.now i)).toArray.size := by rw [List.size_toArray]; exact hia
      have hzc : z.size = (secCells (d.now i)).toArray.size := by rw [hzs, List.size_toArray, hsc]
      have hone : (secCells (d.now i)).toArray.all (·.oneCell') = true := sec_one _
      have HA := Lib.hid hia
      have HB := Lib.hid hib
      have HZ := Lib.hid hzc
      have HO := Lib.hid hone
      clear hsc hia hib hzc hone
      go_wp2_with (first | (with_reducible refine wpList_load_mid rfl 104 _ rfl g2 (i * 512) rfl (secCells (d.now i)) _ HR2.out Tryd.underlying104 rfl HA.out ?_) | (with_reducible refine wpList_store_row rfl 104 _ _ rfl w.heap.size (secCells (d.now i)).toArray rfl rfl 104 z HG.out HB.out HZ.out HO.out ?_))
      refine bodyPost_ret (results_cell_row rfl _ _ w.heap.size 104 (secCells (d.now i)).toArray (0, 0) _ rfl (setRow_heap _ _ _ _ _ _ HG.out) Tryd.underlying104 rfl HB.out) rfl ⟨rfl, ?_⟩
      exact below_setRow hb0 (Nat.le_refl _) _

set_option maxRecDepth 10000 in
set_option maxHeartbeats 800000 in
theorem dread_ok (g : Nat) (d : Dk) (F : Nat → Prop) (i : Nat) (w : World) (h : DiskAt w g d F) (hi : i < d.safe.length) (hw : d.wait.length ≤ 1000000) :
    Calls Tryd.prog 42 #[.pointer (some ⟨g, 0, none⟩), .int .i64 i] w fun e w' => ∃ v, e = .returned (.tuple #[v, .int .i64 0]) ∧ Own8 5 w.heap.size w' v (d.now i) ∧ Below w.heap.size w w' := by
  have ht := there_any g d F i w h
  rw [if_pos (by omega)] at ht
  have HT := Lib.hid ht
  have hlen := h.ok.now hi
  obtain ⟨z, hzs, hz⟩ : ∃ z : Array Value, z.size = 512 ∧ (∀ w, (zeroValue 104).run Tryd.prog w = .ok (.agg z) w) := ⟨_, by simp, zeroS⟩
  have hsc : (secCells (d.now i)).length = 512 := by unfold secCells; rw [List.length_map]; exact hlen
  have hib : (Tryd.prog.info? 104).map (·.size) = some (secCells (d.now i)).toArray.size := by rw [List.size_toArray, hsc]; exact infoS
  have hzc : z.size = (secCells (d.now i)).toArray.size := by rw [hzs, List.size_toArray, hsc]
  have hone : (secCells (d.now i)).toArray.all (·.oneCell') = true := sec_one _
  have HB := Lib.hid hib
  have HZ := Lib.hid hzc
  have HO := Lib.hid hone
  have HL := Lib.hid hlen
  clear hsc hib hzc hone hlen ht
  go_enter Tryd.func42, Tryd.ntmps42
  go_wp2_with (go_at_call 62; refine HT.out.mono ?_; rintro e w1 ⟨rfl, rfl⟩)
  refine (now_any g d F i w1 h hi hw).mono ?_
  rintro e w2 ⟨rfl, hb2⟩
  go_wp2_with (with_reducible refine wpList_store_new rfl 104 _ _ rfl z (secCells (d.now i)).toArray w2.heap.size rfl rfl rfl HB.out HZ.out HO.out ?_)
  have hy : Bytes (w2.alloc (.cells (secCells (d.now i)).toArray 104)) (.slice (some ⟨w2.heap.size, 0, none⟩) 512 512) (d.now i) :=
    (own8_lit 104 w2 (secCells (d.now i)).toArray (d.now i) 512 rfl HL.out.symm (by rw [HL.out]; simp [maxLen])).bytes
  refine (clone_any _ (d.now i) _ hy (by rw [HL.out]; omega)).mono ?_
  rintro e w3 ⟨v3, rfl, ho3, hb3⟩
  have hb23 := (bal hb2 (.cells (secCells (d.now i)).toArray 104))
  have hb13 := btr hb23 hb3
  have ho13 : Own8 5 w1.heap.size w3 v3 (d.now i) := ownsRow_base ho3 hb23.size
  go_wp2
  go_ret2
  exact ⟨_, rfl, ho13, hb13⟩

set_option maxRecDepth 10000 in
theorem dread_no (g : Nat) (d : Dk) (F : Nat → Prop) (i : Int) (w : World) (h : DiskAt w g d F) (hi : ¬ (0 ≤ i ∧ i < d.safe.length)) :
    Calls Tryd.prog 42 #[.pointer (some ⟨g, 0, none⟩), .int .i64 i] w fun e w' => e = .returned (.tuple #[.slice none 0 0, .int .i64 6]) ∧ w' = w := by
  have ht := there_any g d F i w h
  rw [if_neg hi] at ht
  have HT := Lib.hid ht
  clear ht
  go_enter Tryd.func42, Tryd.ntmps42
  go_wp2_with (go_at_call 62; refine HT.out.mono ?_; rintro e w1 ⟨rfl, rfl⟩)
  go_ret2
  exact ⟨rfl, rfl⟩

set_option maxRecDepth 10000 in
theorem dread_nil (i : Int) (w : World) :
    Calls Tryd.prog 42 #[.pointer none, .int .i64 i] w fun e w' => e = .returned (.tuple #[.slice none 0 0, .int .i64 3]) ∧ w' = w := by
  go_enter Tryd.func42, Tryd.ntmps42
  go_wp2_with (go_at_call 62; refine (there_nil i w).mono ?_; rintro e w1 ⟨rfl, rfl⟩)
  go_ret2
  exact ⟨rfl, rfl⟩

def blank512 : List UInt8 := List.replicate 512 0
theorem zero_blank : (Array.replicate 512 (.int .u8 0) : Array Value) = (secCells blank512).toArray := by
  unfold secCells blank512
  rw [List.map_replicate, ← List.toArray_replicate]
  rfl

end Go.Proofs.YtacfkhnajdneeaaDoor
