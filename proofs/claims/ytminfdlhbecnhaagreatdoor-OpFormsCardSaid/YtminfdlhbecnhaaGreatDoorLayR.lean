/- Walk: the document's Lay: a field's bytes. -/
import Derived.Test.YtminfdlhbecnhaaGreatDoorRef5
import Derived.Test.YtminfdlhbecnhaaGreatDoorWRest
import Derived.Deep.RegionHeld3
namespace Go.Proofs.YtminfdlhbecnhaaGreatDoor
open Go.RowKit

/-- a field -/
structure Fld where
  kind : Nat
  n : Nat
  s : ByteArray
  most : Nat
  hk : kind < 256
  hn : n < 18446744073709551616
  hm : most < 18446744073709551616

def Fld.cells (f : Fld) : Array Value := #[.int .u8 f.kind, .int .u64 f.n, .string f.s, .int .u64 f.most]
def FldV (f : Fld) : Value := .agg f.cells

/-- a field's bytes -/
def layOf (f : Fld) : List UInt8 :=
  if f.kind % 5 = 1 then Vi.varint (zig (wrap64 f.n))
  else if f.kind % 5 = 2 then Vi.varint f.s.size ++ f.s.data.toList
  else if f.kind % 5 = 3 then [UInt8.ofNat (f.n % 256)]
  else if f.kind % 5 = 4 then [UInt8.ofNat (f.n % 2)]
  else Vi.varint f.n

/-- a cell that stays, in a world that has grown -/
abbrev Good (n : Nat) (a : Addr) (u : Value) (w : World) : Prop := n ≤ w.heap.size ∧ w.cell? a = some u

/-- '[]byte(s)', as functions of the world -/
theorem text_fun (s : ByteArray) (hs : s.size ≤ maxLen) : ∃ (fa : World → Option Addr) (fc : World → Nat) (fw : World → World), ∀ w, (convert 9 26 (.string s)).run Tryz.prog w = .ok (.slice (fa w) s.size (fc w)) (fw w) ∧
    Bytes (fw w) (.slice (fa w) s.size (fc w)) s.data.toList ∧ Below w.heap.size w (fw w) := by
  have h : ∀ w, ∃ (r : Option Addr × Nat × World), (convert 9 26 (.string s)).run Tryz.prog w = .ok (.slice r.1 s.size r.2.1) r.2.2 ∧
      Bytes r.2.2 (.slice r.1 s.size r.2.1) s.data.toList ∧ Below w.heap.size w r.2.2 := by
    intro w
    obtain ⟨v, w', h1, h2, h3⟩ := run_text (P := Tryz.prog) w 9 26 5 s Tryz.underlying9 Tryz.underlying26 Tryz.underlying5 hs
    obtain ⟨a, c, rfl, _⟩ := id h2
    have hlen : s.data.toList.length = s.size := Array.length_toList
    rw [hlen] at h1 h2
    exact ⟨(a, c, w'), h1, h2, h3⟩
  exact ⟨fun w => (Classical.choose (h w)).1, fun w => (Classical.choose (h w)).2.1, fun w => (Classical.choose (h w)).2.2, fun w => Classical.choose_spec (h w)⟩

set_option maxRecDepth 10000 in
set_option maxHeartbeats 1600000 in
theorem layr_any (f : Fld) (w : World) (hs : f.s.size ≤ 1000000) :
    Calls Tryz.prog 40 #[FldV f] w fun e w' => ∃ v', e = .returned v' ∧ Bytes w' v' (layOf f) ∧ Below w.heap.size w w' := by
  obtain ⟨kind, n, s, most, hk, hn, hm⟩ := f
  unfold FldV Fld.cells layOf
  simp only at hs ⊢
  have hb0 := bal (bre w) (.cells #[.int .u8 kind, .int .u64 n, .string s, .int .u64 most] 76)
  have hsz0 : (w.alloc (.cells #[.int .u8 kind, .int .u64 n, .string s, .int .u64 most] 76)).heap.size = w.heap.size + 1 := by simp
  have hcase : kind % 5 = 1 ∨ kind % 5 = 2 ∨ kind % 5 = 3 ∨ kind % 5 = 4 ∨ kind % 5 = 0 := by omega
  rcases hcase with h | h | h | h | h
  · rw [if_pos h]
    have hw : -9223372036854775808 ≤ wrap64 n ∧ wrap64 n ≤ 9223372036854775807 := by unfold wrap64; omega
    go_enter Tryz.func40, Tryz.ntmps40
    go_wp2_with first
      | (go_at_call 60; refine (zig_any _ _ hw.1 hw.2).mono ?_; rintro e w1 ⟨rfl, rfl⟩)
      | (go_at_call 39; refine (refnum_any _ _ (zig_lt hw.1 hw.2)).mono ?_; rintro e w2 ⟨v2, rfl, ho2, hb2⟩)
    go_ret
    exact ⟨_, rfl, ho2.bytes, btr hb0 hb2⟩
  · rw [if_neg (by omega), if_pos h]
    have hlen : s.data.toList.length = s.size := Array.length_toList
    have hvl := (Vi.varint_length s.size).2
    have hbig : [Vi.varint s.size, s.data.toList].flatten.length ≤ 140737488355328 := by simp; omega
    have hfl : [Vi.varint s.size, s.data.toList].flatten = Vi.varint s.size ++ s.data.toList := by simp
    have HF := Lib.hid hfl
    have HB := Lib.hid hbig
    clear hfl hbig hlen
    go_enter Tryz.func40, Tryz.ntmps40
    have hcell : (w.alloc (.cells #[.int .u8 kind, .int .u64 n, .string s, .int .u64 most] 76)).cell? ⟨w.heap.size, 2, none⟩ = some (.string s) := cell_of_row _ w.heap.size 2 _ _ _ (heap_alloc_new w _)
    go_upto_region 5 with fail
    generalize (w.alloc (.cells #[.int .u8 kind, .int .u64 n, .string s, .int .u64 most] 76)) = W at *
    have hlt : w.heap.size < W.heap.size := by omega
    generalize hgw : w.heap.size = g at *
    clear hsz0
    have h64 : (s.size : Int) < 18446744073709551616 := by omega
    have hs0 : s.size < 18446744073709551616 := by omega
    have hsm : s.size ≤ maxLen := by unfold maxLen; omega
    have hwrap : IntKind.u64.wrap (s.size : Int) = s.size := by rw [IntKind.wrap_u64]; omega
    have hbW := bdr (bre W)
    obtain ⟨fa, fc, fw, hfun⟩ := text_fun s hsm
    have hconv := fun w => (hfun w).1
    have HT := Lib.hid (fun w => (hfun w).2.1)
    have HTB := Lib.hid (fun w => (hfun w).2.2)
    have HG : Hid (∀ w1 w2 : World, Good W.heap.size ⟨g, 2, none⟩ (.string s) w1 → Below w1.heap.size w1 w2 → Good W.heap.size ⟨g, 2, none⟩ (.string s) w2) :=
      Lib.hid fun w1 w2 h1 hb => ⟨Nat.le_trans h1.1 hb.size, (hb.cell (p := ⟨g, 2, none⟩) (Nat.lt_of_lt_of_le hlt h1.1)).trans h1.2⟩
    have hGW : Good W.heap.size ⟨g, 2, none⟩ (.string s) W.drew := ⟨Nat.le_refl _, hcell⟩
    have hGt := HG.out _ _ hGW (HTB.out W.drew)
    have hbt := btr hbW (HTB.out W.drew)
    clear h64 hs hvl hk hn hm h hfun
    refine wp_region_noPanic ?_
    refine wp_region_held_drew (S := fun w' => w'.cell? ⟨g, 2, none⟩ = some (.string s)) (by kernel_rfl) ?_ (fun hHeld => ?_)
    · exact hcell
    -- 0: Op.fieldAddr 40 (Operand.tmp 1) 2
    refine' wpAnyH_take (i := 0) (v := _) rfl (by kernel_rfl) (by kernel_rfl) (by kernel_rfl) (fun _ _ _ h => h) (Or.inl ⟨by rfl, fun w hSw => ?h1⟩) hHeld ?r1
    case h1 => (simp only [List.getElem_toArray, List.getElem_cons_zero]; first | (go_simp; with_reducible rfl) | (go_simp; done) | rfl)
    simp only [List.getElem_toArray, List.getElem_cons_zero, Act.put, List.setIfInBounds_toArray, List.set_cons_zero, List.set_cons_succ]
    -- 1: Op.load 9 (Operand.tmp 15)
    refine' wpAnyH_take (i := 1) (v := _) rfl (by kernel_rfl) (by kernel_rfl) (by kernel_rfl) (fun _ _ _ h => h) (Or.inl ⟨by rfl, fun w hSw => ?h2⟩) hHeld ?r2
    case h2 => (simp only [List.getElem_toArray, List.getElem_cons_succ, List.getElem_cons_zero]; first | (go_simp; with_reducible rfl) | (go_simp; done) | rfl)
    simp only [List.getElem_toArray, List.getElem_cons_succ, List.getElem_cons_zero, Act.put, List.setIfInBounds_toArray, List.set_cons_zero, List.set_cons_succ]
    -- 2: Op.call { callee := Callee.builtin Builtin.len, args := #[Op
    refine' wpAnyH_take (i := 2) (v := _) rfl (by kernel_rfl) (by kernel_rfl) (by kernel_rfl) (fun _ _ _ h => h) (Or.inl ⟨by rfl, fun w hSw => ?h3⟩) hHeld ?r3
    case h3 => (simp only [List.getElem_toArray, List.getElem_cons_succ, List.getElem_cons_zero]; first | (go_simp; with_reducible rfl) | (go_simp; done) | rfl)
    simp only [List.getElem_toArray, List.getElem_cons_succ, List.getElem_cons_zero, Act.put, List.setIfInBounds_toArray, List.set_cons_zero, List.set_cons_succ]
    -- 3: Op.convert 3 22 (Operand.tmp 17)
    refine' wpAnyH_take (i := 3) (v := _) rfl (by kernel_rfl) (by kernel_rfl) (by kernel_rfl) (fun _ _ _ h => h) (Or.inl ⟨by rfl, fun w hSw => ?h4⟩) hHeld ?r4
    case h4 => (simp only [List.getElem_toArray, List.getElem_cons_succ, List.getElem_cons_zero]; first | (go_simp; with_reducible rfl) | (go_simp; done) | rfl)
    simp only [List.getElem_toArray, List.getElem_cons_succ, List.getElem_cons_zero, Act.put, List.setIfInBounds_toArray, List.set_cons_zero, List.set_cons_succ]
    -- 5: Op.fieldAddr 40 (Operand.tmp 1) 2
    refine' wpAnyH_take (i := 5) (v := _) rfl (by kernel_rfl) (by kernel_rfl) (by kernel_rfl) (fun _ _ _ h => h) (Or.inl ⟨by rfl, fun w hSw => ?h5⟩) hHeld ?r5
    case h5 => (simp only [List.getElem_toArray, List.getElem_cons_succ, List.getElem_cons_zero]; first | (go_simp; with_reducible rfl) | (go_simp; done) | rfl)
    simp only [List.getElem_toArray, List.getElem_cons_succ, List.getElem_cons_zero, Act.put, List.setIfInBounds_toArray, List.set_cons_zero, List.set_cons_succ]
    -- 6: Op.load 9 (Operand.tmp 20)
    refine' wpAnyH_take (i := 6) (v := _) rfl (by kernel_rfl) (by kernel_rfl) (by kernel_rfl) (fun _ _ _ h => h) (Or.inl ⟨by rfl, fun w hSw => ?h6⟩) hHeld ?r6
    case h6 => (simp only [List.getElem_toArray, List.getElem_cons_succ, List.getElem_cons_zero]; first | (go_simp; with_reducible rfl) | (go_simp; done) | rfl)
    simp only [List.getElem_toArray, List.getElem_cons_succ, List.getElem_cons_zero, Act.put, List.setIfInBounds_toArray, List.set_cons_zero, List.set_cons_succ]
    refine' wpAnyH_ready (rs := [4, 7]) (by kernel_rfl) (by simp) (AllReadyH.cons (o := _) ?i7_4 (fun K hK => ?s7_4) (AllReadyH.cons (o := _) ?i7_7 (fun K hK => ?s7_7) AllReadyH.nil))
    case i7_4 => (simp only [List.getElem?_toArray, List.getElem?_cons_succ, List.getElem?_cons_zero]; rfl)
    case i7_7 => (simp only [List.getElem?_toArray, List.getElem?_cons_succ, List.getElem?_cons_zero]; rfl)
    case s7_4 =>
      -- 4: Op.call { callee := Callee.value (Operand.func 39), args := 
      go_simp
      with_reducible refine (refnum_any s.size _ hs0).mono ?_
      rintro e wn ⟨vn, rfl, hon, hbn⟩
      obtain ⟨an, nn, cn, rfl⟩ := hon.isSlice
      have hyn := hon.bytes
      have hGn := HG.out _ wn hGW hbn
      have hbn2 := btr hbW hbn
      refine hK.out _ _ ?_ (fun hHeld => ?_)
      · with_reducible first | exact hGW.2 | exact hGn.2 | exact hGj.2 | exact hGt.2 | exact (HG.out _ _ (HG.out _ _ hGn (HTB.out wn)) (bal (bre _) _)).2 | exact (HG.out _ _ hGn (bal (bre _) _)).2 | exact (HG.out _ _ hGn (HTB.out wn)).2
      clear hK
      try simp only [Act.put, List.setIfInBounds_toArray, List.set_cons_zero, List.set_cons_succ]
      refine' wpAnyH_ready (rs := [7]) (by kernel_rfl) (by simp) (AllReadyH.cons (o := _) ?i8_7 (fun K hK => ?s8_7) AllReadyH.nil)
      case i8_7 => (simp only [List.getElem?_toArray, List.getElem?_cons_succ, List.getElem?_cons_zero]; rfl)
      -- 7: Op.convert 9 24 (Operand.tmp 21)
      go_simp
      refine hK.out _ _ ?_ (fun hHeld => ?_)
      · with_reducible first | exact hGW.2 | exact hGn.2 | exact hGj.2 | exact hGt.2 | exact (HG.out _ _ (HG.out _ _ hGn (HTB.out wn)) (bal (bre _) _)).2 | exact (HG.out _ _ hGn (bal (bre _) _)).2 | exact (HG.out _ _ hGn (HTB.out wn)).2
      clear hK
      try simp only [Act.put, List.setIfInBounds_toArray, List.set_cons_zero, List.set_cons_succ]
      refine' wpAnyH_ready (rs := [8]) (by kernel_rfl) (by simp) (AllReadyH.cons (o := _) ?i9_8 (fun K hK => ?s9_8) AllReadyH.nil)
      case i9_8 => (simp only [List.getElem?_toArray, List.getElem?_cons_succ, List.getElem?_cons_zero]; rfl)
      -- 8: Op.buildSlice 68 2 #[(0, Operand.tmp 19), (1, Operand.tmp 22
      go_simp
      refine hK.out _ _ ?_ (fun hHeld => ?_)
      · with_reducible first | exact hGW.2 | exact hGn.2 | exact hGj.2 | exact hGt.2 | exact (HG.out _ _ (HG.out _ _ hGn (HTB.out wn)) (bal (bre _) _)).2 | exact (HG.out _ _ hGn (bal (bre _) _)).2 | exact (HG.out _ _ hGn (HTB.out wn)).2
      clear hK
      try simp only [Act.put, List.setIfInBounds_toArray, List.set_cons_zero, List.set_cons_succ]
      refine' wpAnyH_ready (rs := [9]) (by kernel_rfl) (by simp) (AllReadyH.cons (o := _) ?i10_9 (fun K hK => ?s10_9) AllReadyH.nil)
      case i10_9 => (simp only [List.getElem?_toArray, List.getElem?_cons_succ, List.getElem?_cons_zero]; rfl)
      -- 9: Op.call { callee := Callee.value (Operand.func 23), args := 
      go_simp
      with_reducible refine (rjoin_any _ [Vi.varint s.size, s.data.toList] _ (rows_lit2 (fw wn) _ _ _ _ _ _ rfl (hyn.below (HTB.out wn)) (HT.out wn)) HB.out).mono ?_
      rintro e wj ⟨vj, rfl, hoj, hbj⟩
      have hGj := HG.out _ _ (HG.out _ _ (HG.out _ _ hGn (HTB.out wn)) (bal (bre _) _)) hbj
      have hbj2 := btr (bal (btr hbn2 (HTB.out wn)) _) hbj
      refine hK.out _ _ ?_ (fun hHeld => ?_)
      · with_reducible first | exact hGW.2 | exact hGn.2 | exact hGj.2 | exact hGt.2 | exact (HG.out _ _ (HG.out _ _ hGn (HTB.out wn)) (bal (bre _) _)).2 | exact (HG.out _ _ hGn (bal (bre _) _)).2 | exact (HG.out _ _ hGn (HTB.out wn)).2
      clear hK
      try simp only [Act.put, List.setIfInBounds_toArray, List.set_cons_zero, List.set_cons_succ]
      -- 10: Op.assign (Operand.tmp 24)
      refine' wpAnyH_take (i := 10) (v := _) rfl (by kernel_rfl) (by kernel_rfl) (by kernel_rfl) (fun _ _ _ h => h) (Or.inl ⟨by rfl, fun w hSw => ?h11⟩) hHeld ?r11
      case h11 => (simp only [List.getElem_toArray, List.getElem_cons_succ, List.getElem_cons_zero]; first | (go_simp; with_reducible rfl) | (go_simp; done) | rfl)
      simp only [List.getElem_toArray, List.getElem_cons_succ, List.getElem_cons_zero, Act.put, List.setIfInBounds_toArray, List.set_cons_zero, List.set_cons_succ]
      refine wpAnyH_done (by kernel_rfl) ?_ _
      refine NoPanic.normal ?_
      go_wp2
      go_ret
      have hyj := hoj.bytes
      rw [HF.out] at hyj
      refine ⟨_, rfl, hyj, ?_⟩
      rw [hgw]
      exact hb0.trans (hbj2.mono (Nat.le_of_lt hlt))
    case s7_7 =>
      -- 7: Op.convert 9 24 (Operand.tmp 21)
      go_simp
      refine hK.out _ _ ?_ (fun hHeld => ?_)
      · with_reducible first | exact hGW.2 | exact hGn.2 | exact hGj.2 | exact hGt.2 | exact (HG.out _ _ (HG.out _ _ hGn (HTB.out wn)) (bal (bre _) _)).2 | exact (HG.out _ _ hGn (bal (bre _) _)).2 | exact (HG.out _ _ hGn (HTB.out wn)).2
      clear hK
      try simp only [Act.put, List.setIfInBounds_toArray, List.set_cons_zero, List.set_cons_succ]
      refine' wpAnyH_ready (rs := [4]) (by kernel_rfl) (by simp) (AllReadyH.cons (o := _) ?i12_4 (fun K hK => ?s12_4) AllReadyH.nil)
      case i12_4 => (simp only [List.getElem?_toArray, List.getElem?_cons_succ, List.getElem?_cons_zero]; rfl)
      -- 4: Op.call { callee := Callee.value (Operand.func 39), args := 
      go_simp
      with_reducible refine (refnum_any s.size _ hs0).mono ?_
      rintro e wn ⟨vn, rfl, hon, hbn⟩
      obtain ⟨an, nn, cn, rfl⟩ := hon.isSlice
      have hyn := hon.bytes
      have hGn := HG.out _ wn hGt hbn
      have hbn2 := btr hbt hbn
      refine hK.out _ _ ?_ (fun hHeld => ?_)
      · with_reducible first | exact hGW.2 | exact hGn.2 | exact hGj.2 | exact hGt.2 | exact (HG.out _ _ (HG.out _ _ hGn (HTB.out wn)) (bal (bre _) _)).2 | exact (HG.out _ _ hGn (bal (bre _) _)).2 | exact (HG.out _ _ hGn (HTB.out wn)).2
      clear hK
      try simp only [Act.put, List.setIfInBounds_toArray, List.set_cons_zero, List.set_cons_succ]
      refine' wpAnyH_ready (rs := [8]) (by kernel_rfl) (by simp) (AllReadyH.cons (o := _) ?i13_8 (fun K hK => ?s13_8) AllReadyH.nil)
      case i13_8 => (simp only [List.getElem?_toArray, List.getElem?_cons_succ, List.getElem?_cons_zero]; rfl)
      -- 8: Op.buildSlice 68 2 #[(0, Operand.tmp 19), (1, Operand.tmp 22
      go_simp
      refine hK.out _ _ ?_ (fun hHeld => ?_)
      · with_reducible first | exact hGW.2 | exact hGn.2 | exact hGj.2 | exact hGt.2 | exact (HG.out _ _ (HG.out _ _ hGn (HTB.out wn)) (bal (bre _) _)).2 | exact (HG.out _ _ hGn (bal (bre _) _)).2 | exact (HG.out _ _ hGn (HTB.out wn)).2
      clear hK
      try simp only [Act.put, List.setIfInBounds_toArray, List.set_cons_zero, List.set_cons_succ]
      refine' wpAnyH_ready (rs := [9]) (by kernel_rfl) (by simp) (AllReadyH.cons (o := _) ?i14_9 (fun K hK => ?s14_9) AllReadyH.nil)
      case i14_9 => (simp only [List.getElem?_toArray, List.getElem?_cons_succ, List.getElem?_cons_zero]; rfl)
      -- 9: Op.call { callee := Callee.value (Operand.func 23), args := 
      go_simp
      with_reducible refine (rjoin_any _ [Vi.varint s.size, s.data.toList] _ (rows_lit2 wn _ _ _ _ _ _ rfl hyn ((HT.out _).below hbn)) HB.out).mono ?_
      rintro e wj ⟨vj, rfl, hoj, hbj⟩
      have hGj := HG.out _ _ (HG.out _ _ hGn (bal (bre _) _)) hbj
      have hbj2 := btr (bal hbn2 _) hbj
      refine hK.out _ _ ?_ (fun hHeld => ?_)
      · with_reducible first | exact hGW.2 | exact hGn.2 | exact hGj.2 | exact hGt.2 | exact (HG.out _ _ (HG.out _ _ hGn (HTB.out wn)) (bal (bre _) _)).2 | exact (HG.out _ _ hGn (bal (bre _) _)).2 | exact (HG.out _ _ hGn (HTB.out wn)).2
      clear hK
      try simp only [Act.put, List.setIfInBounds_toArray, List.set_cons_zero, List.set_cons_succ]
      -- 10: Op.assign (Operand.tmp 24)
      refine' wpAnyH_take (i := 10) (v := _) rfl (by kernel_rfl) (by kernel_rfl) (by kernel_rfl) (fun _ _ _ h => h) (Or.inl ⟨by rfl, fun w hSw => ?h15⟩) hHeld ?r15
      case h15 => (simp only [List.getElem_toArray, List.getElem_cons_succ, List.getElem_cons_zero]; first | (go_simp; with_reducible rfl) | (go_simp; done) | rfl)
      simp only [List.getElem_toArray, List.getElem_cons_succ, List.getElem_cons_zero, Act.put, List.setIfInBounds_toArray, List.set_cons_zero, List.set_cons_succ]
      refine wpAnyH_done (by kernel_rfl) ?_ _
      refine NoPanic.normal ?_
      go_wp2
      go_ret
      have hyj := hoj.bytes
      rw [HF.out] at hyj
      refine ⟨_, rfl, hyj, ?_⟩
      rw [hgw]
      exact hb0.trans (hbj2.mono (Nat.le_of_lt hlt))
  · rw [if_neg (by omega), if_neg (by omega), if_pos h]
    have h8 := ofNat_toNat (show n % 256 < 256 by omega)
    have ho := own8_lit 5 (w.alloc (.cells #[.int .u8 kind, .int .u64 n, .string s, .int .u64 most] 76)) #[.int .u8 ((n : Int) % 256)] [UInt8.ofNat (n % 256)] 1 (by show [Value.int .u8 _] = [Value.int .u8 _]; rw [h8]; rfl) rfl (by simp [maxLen])
    have hy := ho.bytes
    rw [hsz0] at hy
    have HO := Lib.hid hy
    clear ho h8 hy hsz0
    go_enter Tryz.func40, Tryz.ntmps40
    go_wp2
    go_ret
    exact ⟨_, rfl, HO.out, btr hb0 (bal (bre _) _)⟩
  · rw [if_neg (by omega), if_neg (by omega), if_neg (by omega), if_pos h]
    have h8 := ofNat_toNat (show n % 2 < 256 by omega)
    have ho := own8_lit 5 (w.alloc (.cells #[.int .u8 kind, .int .u64 n, .string s, .int .u64 most] 76)) #[.int .u8 ((n : Int) % 2)] [UInt8.ofNat (n % 2)] 1 (by show [Value.int .u8 _] = [Value.int .u8 _]; rw [h8]; rfl) rfl (by simp [maxLen])
    have hy := ho.bytes
    rw [hsz0] at hy
    have HO := Lib.hid hy
    clear ho h8 hy hsz0
    go_enter Tryz.func40, Tryz.ntmps40
    go_wp2
    go_ret
    exact ⟨_, rfl, HO.out, btr hb0 (bal (bre _) _)⟩
  · rw [if_neg (by omega), if_neg (by omega), if_neg (by omega), if_neg (by omega)]
    go_enter Tryz.func40, Tryz.ntmps40
    go_wp2_with (go_at_call 39; refine (refnum_any _ _ hn).mono ?_; rintro e w2 ⟨v2, rfl, ho2, hb2⟩)
    go_ret
    exact ⟨_, rfl, ho2.bytes, btr hb0 hb2⟩
end Go.Proofs.YtminfdlhbecnhaaGreatDoor
