/- Walk: the reference's bytes of nodes. -/
import Derived.Test.YtnbncjebmlicgaaArBytes
import Derived.Test.YtnbncjebmlicgaaArRat
import Derived.Test.YtnbncjebmlicgaaMakers
namespace Go.Proofs.Ytnbncjebmlicgaa
open Go.RowKit

set_option maxRecDepth 10000 in
theorem rfnum_step (t s n L : Nat) (hn : n < 18446744073709551616) (hL : L = (Vi.varint n).length) (o : Oper) (a : Act) (w1 : World) (K : Act → World → Prop) (Q : Exit → Act → World → Prop) (ho : o.op = .call { callee := .value (.func 60), args := #[.tmp t], argTypes := #[25] }) (hd : o.dst = some s)
    (he : a.eval (.tmp t) = .int .u64 n) (hK : ∀ ad c w2, Bytes w2 (.slice ad L c) (Vi.varint n) → Below w1.heap.size w1 w2 → K (a.put (some s) (.slice ad L c)) w2) : o.wp Try.prog a w1 K Q := by
  have hrun : (execOp a.eval o).run Try.prog w1 = .ok (.enter 60 #[.int .u64 n]) w1 := by
    unfold execOp
    simp only [ho, resolve, invoke, Sem.run_bind, List.map_toArray, List.map_cons, List.map_nil, he]
    rfl
  unfold Oper.wp
  rw [hrun, Oper.upon_enter]
  refine (refnum_any n w1 hn).mono ?_
  rintro e w2 ⟨v2, rfl, ho2, hb2⟩
  obtain ⟨a2, c2, rfl, -⟩ := id ho2.bytes
  rw [hd]
  have := ho2.bytes
  rw [← hL] at this ⊢
  exact hK a2 c2 w2 this hb2

set_option maxRecDepth 10000 in
theorem rflay_step (t s L : Nat) (f : Fld) (hs : f.s.size ≤ 1000000) (hL : L = (layOf f).length) (o : Oper) (a : Act) (w1 : World) (K : Act → World → Prop) (Q : Exit → Act → World → Prop) (ho : o.op = .call { callee := .value (.func 61), args := #[.tmp t], argTypes := #[107] }) (hd : o.dst = some s)
    (he : a.eval (.tmp t) = FldV f) (hK : ∀ ad c w2, Bytes w2 (.slice ad L c) (layOf f) → Below w1.heap.size w1 w2 → K (a.put (some s) (.slice ad L c)) w2) : o.wp Try.prog a w1 K Q := by
  have hrun : (execOp a.eval o).run Try.prog w1 = .ok (.enter 61 #[FldV f]) w1 := by
    unfold execOp
    simp only [ho, resolve, invoke, Sem.run_bind, List.map_toArray, List.map_cons, List.map_nil, he]
    rfl
  unfold Oper.wp
  rw [hrun, Oper.upon_enter]
  refine (layr_any f w1 hs).mono ?_
  rintro e w2 ⟨v2, rfl, ho2, hb2⟩
  obtain ⟨a2, c2, rfl, -⟩ := id ho2
  rw [hd]
  have := ho2
  rw [← hL] at this ⊢
  exact hK a2 c2 w2 this hb2


theorem layOf_one {f : Fld} {nn : Nat} {z : Int} (hk : f.kind = 1) (hn : f.n = nn) (hnw : wrap64 (nn : Int) = z) : layOf f = Vi.varint (zig z) := by
  unfold layOf
  rw [hk, if_pos rfl, hn, hnw]

set_option linter.unusedSimpArgs false in
set_option maxRecDepth 20000 in
set_option maxHeartbeats 12800000 in
theorem rbytes_any (v : Value) (l : List (Nat × Nd)) (w : World) (hl : RowsX 0 w v l) (hf : AscFrom 0 l) (hbig : (layAr l).length ≤ 100000000) (hfew : l.length ≤ 20000) :
    Calls Try.prog 35 #[v] w fun e w' => ∃ v', e = .returned v' ∧ Own8 5 w.heap.size w' v' (layAr l) ∧ Below w.heap.size w w' := by
  obtain ⟨la, lc, rfl⟩ := hl.slice
  have HX := Lib.hid hl
  obtain ⟨L, hL⟩ : ∃ q, q = l.length := ⟨_, rfl⟩
  rw [← hL] at HX hfew ⊢
  have HL := Lib.hid hL
  have HF := Lib.hid hf
  have HBIG := Lib.hid hbig
  have hu : IntKind.u64.wrap (L : Int) = (L : Int) := by rw [IntKind.wrap_u64]; omega
  clear hl hL hf hbig
  go_enter Try.func35, Try.ntmps35
  go_wp2_with fail
  refine (refnum_any L w (by omega)).mono ?_
  rintro e w1 ⟨v1, rfl, ho1, hb1⟩
  have HO1 : Hid (Own8 5 w.heap.size w1 v1 (Vi.varint L ++ layNds 0 (l.take 0))) := Lib.hid (by rw [List.take_zero]; show Own8 _ _ _ _ (_ ++ []); rw [List.append_nil]; exact ho1)
  have HB1 := Lib.hid hb1
  clear ho1 hb1
  go_wp2_with fail
  go_loopw [3, 4, 6, 7, 9, 16] (fun pv lv _ _ _ i wr => ∃ k : Nat, k ≤ L ∧ i = .int .i64 k ∧ lv = .int .u64 (lastO 0 (l.take k)) ∧ Hid (Own8 5 w.heap.size wr pv (Vi.varint L ++ layNds 0 (l.take k))) ∧ Hid (Below w.heap.size w wr)) (fun _ _ _ _ _ i _ => L - (intOf i).toNat)
  case atStart => exact ⟨0, by omega, rfl, rfl, HO1, HB1⟩
  case round =>
    clear HO1 HB1
    obtain ⟨k, hk, rfl, rfl, hpv, hbl⟩ := hrel
    obtain ⟨M, hM⟩ : ∃ M, M = Vi.varint L ++ layNds 0 (l.take k) := ⟨_, rfl⟩
    obtain ⟨lw, hlw⟩ : ∃ q, q = lastO 0 (l.take k) := ⟨_, rfl⟩
    rw [← hM] at hpv
    rw [← hlw]
    have hMl : M.length ≤ 100000000 := by
      have h1 := HBIG.out
      unfold layAr at h1
      have e := layNds_app (l.take k) (l.drop k) 0
      rw [List.take_append_drop] at e
      rw [← HL.out, e, ← List.append_assoc, List.length_append] at h1
      rw [hM]
      omega
    obtain ⟨pa, PL, pc, rfl⟩ := Own8.isSlice hpv.out
    have HM := Lib.hid hM
    have HLW := Lib.hid hlw
    clear hM hlw
    by_cases hlt : k < L
    · have d1 : decide ((k : Int) < (L : Int)) = true := decide_eq_true (by omega)
      have d1n : decide (k < L) = true := decide_eq_true hlt
      have hkl : k < l.length := by rw [← HL.out]; exact hlt
      obtain ⟨p, hp⟩ : ∃ p, l[k]? = some p := ⟨_, List.getElem?_eq_getElem hkl⟩
      have htk : l.take (k + 1) = l.take k ++ [p] := by rw [List.take_add_one, hp]; rfl
      have hsp := ascFrom_app (l.take k) p (l.drop (k + 1)) 0 (by
        have hd : l.drop k = p :: l.drop (k + 1) := by
          rw [List.drop_eq_getElem_cons hkl]
          rw [List.getElem?_eq_getElem hkl] at hp
          rw [Option.some.inj hp]
        rw [← hd, List.take_append_drop]
        exact HF.out)
      rw [← HLW.out] at hsp
      obtain ⟨g, ka, kc, hla, hkk, -, c0, c1, c2, c3, c4, c5, c6⟩ := (HX.out.below hbl.out).one hp
      subst hla
      obtain ⟨pk, nd⟩ := p
      obtain ⟨KL, hKL⟩ : ∃ q, q = nd.kids.length := ⟨_, rfl⟩
      replace hkk : OwnIds 0 wr (.slice ka nd.kids.length kc) nd.kids := hkk
      replace c0 : wr.cell? ⟨g, k * 7, none⟩ = some (.int .u64 (pk : Nat)) := c0
      replace c1 : wr.cell? ⟨g, k * 7 + 1, none⟩ = some (.int .u8 (nd.kind : Nat)) := c1
      replace c2 : wr.cell? ⟨g, k * 7 + 2, none⟩ = some (.string nd.name) := c2
      replace c3 : wr.cell? ⟨g, k * 7 + 3, none⟩ = some (.int .i64 nd.num) := c3
      replace c4 : wr.cell? ⟨g, k * 7 + 4, none⟩ = some (.int .u8 (nd.typ : Nat)) := c4
      replace c5 : wr.cell? ⟨g, k * 7 + 5, none⟩ = some (.int .u64 (nd.ref : Nat)) := c5
      replace c6 : wr.cell? ⟨g, k * 7 + 6, none⟩ = some (.slice ka nd.kids.length kc) := c6
      rw [← hKL] at hkk c6
      obtain ⟨dd, hdd⟩ : ∃ q, q = pk - lw := ⟨_, rfl⟩
      have hsp1 : lw < pk := hsp.1
      have hsp2 : pk < 18446744073709551616 := hsp.2.1
      have hddi : IntKind.u64.wrap ((pk : Int) - (lw : Int)) = (dd : Int) := by rw [IntKind.wrap_u64]; omega
      have hdd2 : dd < 18446744073709551616 := by omega
      have HFIT : Hid nd.Fit := Lib.hid hsp.2.2
      obtain ⟨hn0, hn1⟩ := num_range HFIT.out.num
      have hKLm : KL ≤ 1000000 := by rw [hKL]; exact HFIT.out.few
      have hku : IntKind.u64.wrap (KL : Int) = (KL : Int) := by rw [IntKind.wrap_u64]; omega
      have hrf : IntKind.u64.wrap (nd.ref : Int) = (nd.ref : Int) := by have := HFIT.out.ref; rw [IntKind.wrap_u64]; omega
      obtain ⟨nn, hnn⟩ : ∃ nn : Nat, IntKind.u64.wrap nd.num = (nn : Int) := ⟨(IntKind.u64.wrap nd.num).toNat, by rw [IntKind.wrap_u64]; omega⟩
      have hnn2 : nn < 18446744073709551616 := by rw [IntKind.wrap_u64] at hnn; omega
      have hnw : wrap64 (nn : Int) = nd.num := by rw [IntKind.wrap_u64] at hnn; unfold wrap64; omega
      obtain ⟨f1, hf1⟩ : ∃ f : Fld, f = ⟨2, 0, nd.name, 0, by decide, by decide, by decide⟩ := ⟨_, rfl⟩
      obtain ⟨f2, hf2⟩ : ∃ f : Fld, f = ⟨1, nn, ⟨#[]⟩, 0, by decide, hnn2, by decide⟩ := ⟨_, rfl⟩
      have HFV1 : Hid (FldV f1 = .agg #[.int .u8 2, .int .u64 0, .string nd.name, .int .u64 0]) := Lib.hid (by rw [hf1]; rfl)
      have HFV2 : Hid (FldV f2 = .agg #[.int .u8 1, .int .u64 nn, .string ⟨#[]⟩, .int .u64 0]) := Lib.hid (by rw [hf2]; rfl)
      have HF1S : Hid (f1.s.size ≤ 1000000) := Lib.hid (by rw [hf1]; show nd.name.size ≤ _; have := HFIT.out.short; omega)
      have HF2S : Hid (f2.s.size ≤ 1000000) := Lib.hid (by rw [hf2]; show (0 : Nat) ≤ _; omega)
      have HF1L : Hid (layOf f1 = Vi.varint nd.name.size ++ nd.name.data.toList) := Lib.hid (by rw [hf1]; rfl)
      have HF2L : Hid (layOf f2 = Vi.varint (zig nd.num)) := Lib.hid (layOf_one (by rw [hf2]) (by rw [hf2]) hnw)
      obtain ⟨Ld, hLd⟩ : ∃ L, L = (Vi.varint dd).length := ⟨_, rfl⟩
      obtain ⟨L1, hL1⟩ : ∃ L, L = (layOf f1).length := ⟨_, rfl⟩
      obtain ⟨L2, hL2⟩ : ∃ L, L = (layOf f2).length := ⟨_, rfl⟩
      obtain ⟨Lr, hLr⟩ : ∃ L, L = (Vi.varint nd.ref).length := ⟨_, rfl⟩
      obtain ⟨Lk, hLk⟩ : ∃ L, L = (Vi.varint KL).length := ⟨_, rfl⟩
      have HLD := Lib.hid hLd
      have HL1 := Lib.hid hL1
      have HL2 := Lib.hid hL2
      have HLR := Lib.hid hLr
      have HLK := Lib.hid hLk
      have HQL : Hid ([M, Vi.varint dd, [UInt8.ofNat nd.kind], layOf f1, layOf f2, [UInt8.ofNat nd.typ], Vi.varint nd.ref, Vi.varint KL].flatten.length ≤ 100001000) := Lib.hid (by
        have h1 := (Vi.varint_length dd).2
        have h2 := (Vi.varint_length nd.name.size).2
        have h3 := (Vi.varint_length (zig nd.num)).2
        have h4 := (Vi.varint_length nd.ref).2
        have h5 := (Vi.varint_length KL).2
        have h6 : nd.name.data.toList.length = nd.name.size := rfl
        have h7 := HFIT.out.short
        rw [HF1L.out, HF2L.out]
        simp only [List.flatten_cons, List.flatten_nil, List.length_append, List.length_cons, List.length_nil, h6]
        omega)
      have HTK := Lib.hid htk
      have HKL := Lib.hid hKL
      have HDD := Lib.hid hdd
      have HNW := Lib.hid hnw
      clear htk hsp hKL hdd hp hkl hf1 hf2 hLd hL1 hL2 hLr hLk hnw
      go_upto_region 6 with fail
      have hb6 := bal (bre wr) (.cells #[.int .u64 pk, .int .u8 nd.kind, .string nd.name, .int .i64 nd.num, .int .u8 nd.typ, .int .u64 nd.ref, .slice ka KL kc] 80)
      have hr6 := heap_alloc_new wr (.cells #[.int .u64 pk, .int .u8 nd.kind, .string nd.name, .int .i64 nd.num, .int .u8 nd.typ, .int .u64 nd.ref, .slice ka KL kc] 80)
      generalize wr.alloc (.cells #[.int .u64 pk, .int .u8 nd.kind, .string nd.name, .int .i64 nd.num, .int .u8 nd.typ, .int .u64 nd.ref, .slice ka KL kc] 80) = W6 at *
      obtain ⟨n6, hn6⟩ : ∃ q, q = wr.heap.size := ⟨_, rfl⟩
      rw [← hn6] at hr6 ⊢
      have hR6 : Row7 W6 n6 (pk, nd) (.slice ka KL kc) := hr6
      obtain ⟨q0, q1, q2, q3, q4, q5, q6⟩ := hR6.cells
      have HR6 := Lib.hid hR6
      have HB6 := Lib.hid (btr hbl.out hb6)
      have HP6 : Hid (Own8 5 w.heap.size W6 (.slice pa PL pc) M) := Lib.hid (own_only hpv.out (Only.of_below hb6 fun _ => False) fun _ _ h => h)
      have HK6 := Lib.hid (hkk.below hb6)
      clear hb6 hr6 hR6 hn6 hpv hkk hbl c0 c1 c2 c3 c4 c5 c6
      go_upto_region 7 with fail
      have hb7 := bal (bre W6) (.cells #[.int .u8 nd.kind, .string nd.name, .int .i64 nd.num, .int .u8 nd.typ, .int .u64 nd.ref, .slice ka KL kc] 29)
      have hr7 := heap_alloc_new W6 (.cells #[.int .u8 nd.kind, .string nd.name, .int .i64 nd.num, .int .u8 nd.typ, .int .u64 nd.ref, .slice ka KL kc] 29)
      generalize W6.alloc (.cells #[.int .u8 nd.kind, .string nd.name, .int .i64 nd.num, .int .u8 nd.typ, .int .u64 nd.ref, .slice ka KL kc] 29) = W7 at *
      obtain ⟨n7, hn7⟩ : ∃ q, q = W6.heap.size := ⟨_, rfl⟩
      rw [← hn7] at hr7 ⊢
      have hR7 : Row6 W7 n7 nd (.slice ka KL kc) := hr7
      have HR7 := Lib.hid hR7
      have HR67 := Lib.hid (HR6.out.below hb7)
      have HBW := Lib.hid (btr HB6.out hb7)
      have HP7 : Hid (Own8 5 w.heap.size W7 (.slice pa PL pc) M) := Lib.hid (own_only HP6.out (Only.of_below hb7 fun _ => False) fun _ _ h => h)
      have HPB : Hid (Bytes W7 (.slice pa PL pc) M) := Lib.hid HP7.out.bytes
      have HK7 := Lib.hid (HK6.out.below hb7)
      have HSB : Hid (∀ w', Below W7.heap.size W7 w' → (w'.cell? ⟨n6, 0, none⟩ = some (.int .u64 (pk : Nat)) ∧ w'.cell? ⟨n7, 0, none⟩ = some (.int .u8 nd.kind) ∧ w'.cell? ⟨n7, 1, none⟩ = some (.string nd.name) ∧ w'.cell? ⟨n7, 2, none⟩ = some (.int .i64 nd.num) ∧ w'.cell? ⟨n7, 3, none⟩ = some (.int .u8 nd.typ) ∧ w'.cell? ⟨n7, 4, none⟩ = some (.int .u64 nd.ref) ∧ w'.cell? ⟨n7, 5, none⟩ = some (.slice ka KL kc))) := Lib.hid fun w' hb => by
        have r := HR7.out.below hb
        exact ⟨(HR67.out.below hb).cells.1, r.c0, r.c1, r.c2, r.c3, r.c4, r.c5⟩
      clear hb7 hr7 hR7 hn7 q0 q1 q2 q3 q4 q5 q6 HR6 HB6 HP6 HK6
      go_cut [3] from 22 to 52 (fun t w' => Own8 5 w.heap.size w' t [M, Vi.varint dd, [UInt8.ofNat nd.kind], layOf f1, layOf f2, [UInt8.ofNat nd.typ], Vi.varint nd.ref, Vi.varint KL].flatten ∧ Below W7.heap.size W7 w')
      case first =>
        refine region_anyZ (z := 29) (S := fun w' => (w'.cell? ⟨n6, 0, none⟩ = some (.int .u64 (pk : Nat)) ∧ w'.cell? ⟨n7, 0, none⟩ = some (.int .u8 nd.kind) ∧ w'.cell? ⟨n7, 1, none⟩ = some (.string nd.name) ∧ w'.cell? ⟨n7, 2, none⟩ = some (.int .i64 nd.num) ∧ w'.cell? ⟨n7, 3, none⟩ = some (.int .u8 nd.typ) ∧ w'.cell? ⟨n7, 4, none⟩ = some (.int .u64 nd.ref) ∧ w'.cell? ⟨n7, 5, none⟩ = some (.slice ka KL kc))) (by kernel_rfl) ?_
        refine anyZ_begin (fun hcl0 => ?_)
        refine anyZ_held (by exact HSB.out _ (bdr (bre W7))) (fun hHeld => ?_)
        -- 0: Op.move (Operand.tmp 3)
        refine' anyZ_pure (i := 0) (v := _) rfl (by rfl) (by kernel_rfl) (by kernel_rfl) (by kernel_rfl) hcl0 (fun _ _ _ h => h) (Or.inl ⟨by rfl, fun w _ => ?h1⟩) (fun _ => hHeld) (fun hcl1 => ?r1)
        case h1 => (simp only [List.getElem_toArray, List.getElem_cons_zero]; first | (go_simp; with_reducible rfl) | (go_simp; done) | rfl)
        simp only [List.getElem_toArray, List.getElem_cons_zero, Act.put, List.setIfInBounds_toArray, List.set_cons_zero, List.set_cons_succ]
        -- 1: Op.fieldAddr 80 (Operand.tmp 6) 0
        refine' anyZ_pure (i := 1) (v := _) rfl (by rfl) (by kernel_rfl) (by kernel_rfl) (by kernel_rfl) hcl1 (fun _ _ _ h => h) (Or.inl ⟨by rfl, fun w _ => ?h2⟩) (fun _ => hHeld) (fun hcl2 => ?r2)
        case h2 => (simp only [List.getElem_toArray, List.getElem_cons_succ, List.getElem_cons_zero]; first | (go_simp; with_reducible rfl) | (go_simp; done) | rfl)
        simp only [List.getElem_toArray, List.getElem_cons_succ, List.getElem_cons_zero, Act.put, List.setIfInBounds_toArray, List.set_cons_zero, List.set_cons_succ]
        -- 2: Op.load 26 (Operand.tmp 23)
        refine' anyZ_take (i := 2) (v := _) rfl (by rfl) (by kernel_rfl) (by kernel_rfl) (by kernel_rfl) hcl2 14 (by kernel_rfl) (by kernel_rfl) (fun _ _ _ h => h) (Or.inl ⟨by rfl, fun w hSw => ?h3⟩) hHeld (fun hcl3 => ?r3)
        case h3 => (simp only [List.getElem_toArray, List.getElem_cons_succ, List.getElem_cons_zero]; obtain ⟨hS1, hS2, hS3, hS4, hS5, hS6, hS7⟩ := hSw; first | (go_simp; with_reducible rfl) | (go_simp; done) | rfl)
        simp only [List.getElem_toArray, List.getElem_cons_succ, List.getElem_cons_zero, Act.put, List.setIfInBounds_toArray, List.set_cons_zero, List.set_cons_succ]
        -- 3: Op.move (Operand.tmp 4)
        refine' anyZ_pure (i := 3) (v := _) rfl (by rfl) (by kernel_rfl) (by kernel_rfl) (by kernel_rfl) hcl3 (fun _ _ _ h => h) (Or.inl ⟨by rfl, fun w _ => ?h4⟩) (fun _ => hHeld) (fun hcl4 => ?r4)
        case h4 => (simp only [List.getElem_toArray, List.getElem_cons_succ, List.getElem_cons_zero]; first | (go_simp; with_reducible rfl) | (go_simp; done) | rfl)
        simp only [List.getElem_toArray, List.getElem_cons_succ, List.getElem_cons_zero, Act.put, List.setIfInBounds_toArray, List.set_cons_zero, List.set_cons_succ]
        -- 4: Op.binOp BinOp.sub 26 (Operand.tmp 24) (Operand.tmp 25) 26
        refine' anyZ_pure (i := 4) (v := _) rfl (by rfl) (by kernel_rfl) (by kernel_rfl) (by kernel_rfl) hcl4 (fun _ _ _ h => h) (Or.inl ⟨by rfl, fun w _ => ?h5⟩) (fun _ => hHeld) (fun hcl5 => ?r5)
        case h5 => (simp only [List.getElem_toArray, List.getElem_cons_succ, List.getElem_cons_zero]; first | (go_simp; with_reducible rfl) | (go_simp; done) | rfl)
        simp only [List.getElem_toArray, List.getElem_cons_succ, List.getElem_cons_zero, Act.put, List.setIfInBounds_toArray, List.set_cons_zero, List.set_cons_succ]
        -- 6: Op.fieldAddr 29 (Operand.tmp 7) 0
        refine' anyZ_pure (i := 6) (v := _) rfl (by rfl) (by kernel_rfl) (by kernel_rfl) (by kernel_rfl) hcl5 (fun _ _ _ h => h) (Or.inl ⟨by rfl, fun w _ => ?h6⟩) (fun _ => hHeld) (fun hcl6 => ?r6)
        case h6 => (simp only [List.getElem_toArray, List.getElem_cons_succ, List.getElem_cons_zero]; first | (go_simp; with_reducible rfl) | (go_simp; done) | rfl)
        simp only [List.getElem_toArray, List.getElem_cons_succ, List.getElem_cons_zero, Act.put, List.setIfInBounds_toArray, List.set_cons_zero, List.set_cons_succ]
        -- 7: Op.load 5 (Operand.tmp 28)
        refine' anyZ_take (i := 7) (v := _) rfl (by rfl) (by kernel_rfl) (by kernel_rfl) (by kernel_rfl) hcl6 14 (by kernel_rfl) (by kernel_rfl) (fun _ _ _ h => h) (Or.inl ⟨by rfl, fun w hSw => ?h7⟩) hHeld (fun hcl7 => ?r7)
        case h7 => (simp only [List.getElem_toArray, List.getElem_cons_succ, List.getElem_cons_zero]; obtain ⟨hS1, hS2, hS3, hS4, hS5, hS6, hS7⟩ := hSw; first | (go_simp; with_reducible rfl) | (go_simp; done) | rfl)
        simp only [List.getElem_toArray, List.getElem_cons_succ, List.getElem_cons_zero, Act.put, List.setIfInBounds_toArray, List.set_cons_zero, List.set_cons_succ]
        -- 9: Op.fieldAddr 29 (Operand.tmp 7) 1
        refine' anyZ_pure (i := 9) (v := _) rfl (by rfl) (by kernel_rfl) (by kernel_rfl) (by kernel_rfl) hcl7 (fun _ _ _ h => h) (Or.inl ⟨by rfl, fun w _ => ?h8⟩) (fun _ => hHeld) (fun hcl8 => ?r8)
        case h8 => (simp only [List.getElem_toArray, List.getElem_cons_succ, List.getElem_cons_zero]; first | (go_simp; with_reducible rfl) | (go_simp; done) | rfl)
        simp only [List.getElem_toArray, List.getElem_cons_succ, List.getElem_cons_zero, Act.put, List.setIfInBounds_toArray, List.set_cons_zero, List.set_cons_succ]
        -- 10: Op.load 9 (Operand.tmp 31)
        refine' anyZ_take (i := 10) (v := _) rfl (by rfl) (by kernel_rfl) (by kernel_rfl) (by kernel_rfl) hcl8 14 (by kernel_rfl) (by kernel_rfl) (fun _ _ _ h => h) (Or.inl ⟨by rfl, fun w hSw => ?h9⟩) hHeld (fun hcl9 => ?r9)
        case h9 => (simp only [List.getElem_toArray, List.getElem_cons_succ, List.getElem_cons_zero]; obtain ⟨hS1, hS2, hS3, hS4, hS5, hS6, hS7⟩ := hSw; first | (go_simp; with_reducible rfl) | (go_simp; done) | rfl)
        simp only [List.getElem_toArray, List.getElem_cons_succ, List.getElem_cons_zero, Act.put, List.setIfInBounds_toArray, List.set_cons_zero, List.set_cons_succ]
        -- 11: Op.build 107 #[(0, Operand.const (Value.int IntKind.u8 2)), 
        refine' anyZ_pure (i := 11) (v := _) rfl (by rfl) (by kernel_rfl) (by kernel_rfl) (by kernel_rfl) hcl9 (fun _ _ _ h => h) (Or.inl ⟨by rfl, fun w _ => ?h10⟩) (fun _ => hHeld) (fun hcl10 => ?r10)
        case h10 => (simp only [List.getElem_toArray, List.getElem_cons_succ, List.getElem_cons_zero]; first | (go_simp; with_reducible rfl) | (go_simp; done) | rfl)
        simp only [List.getElem_toArray, List.getElem_cons_succ, List.getElem_cons_zero, Act.put, List.setIfInBounds_toArray, List.set_cons_zero, List.set_cons_succ]
        -- 13: Op.fieldAddr 29 (Operand.tmp 7) 2
        refine' anyZ_pure (i := 13) (v := _) rfl (by rfl) (by kernel_rfl) (by kernel_rfl) (by kernel_rfl) hcl10 (fun _ _ _ h => h) (Or.inl ⟨by rfl, fun w _ => ?h11⟩) (fun _ => hHeld) (fun hcl11 => ?r11)
        case h11 => (simp only [List.getElem_toArray, List.getElem_cons_succ, List.getElem_cons_zero]; first | (go_simp; with_reducible rfl) | (go_simp; done) | rfl)
        simp only [List.getElem_toArray, List.getElem_cons_succ, List.getElem_cons_zero, Act.put, List.setIfInBounds_toArray, List.set_cons_zero, List.set_cons_succ]
        -- 14: Op.load 2 (Operand.tmp 35)
        refine' anyZ_take (i := 14) (v := _) rfl (by rfl) (by kernel_rfl) (by kernel_rfl) (by kernel_rfl) hcl11 14 (by kernel_rfl) (by kernel_rfl) (fun _ _ _ h => h) (Or.inl ⟨by rfl, fun w hSw => ?h12⟩) hHeld (fun hcl12 => ?r12)
        case h12 => (simp only [List.getElem_toArray, List.getElem_cons_succ, List.getElem_cons_zero]; obtain ⟨hS1, hS2, hS3, hS4, hS5, hS6, hS7⟩ := hSw; first | (go_simp; with_reducible rfl) | (go_simp; done) | rfl)
        simp only [List.getElem_toArray, List.getElem_cons_succ, List.getElem_cons_zero, Act.put, List.setIfInBounds_toArray, List.set_cons_zero, List.set_cons_succ]
        -- 15: Op.convert 2 25 (Operand.tmp 36)
        refine' anyZ_pure (i := 15) (v := _) rfl (by rfl) (by kernel_rfl) (by kernel_rfl) (by kernel_rfl) hcl12 (fun _ _ _ h => h) (Or.inl ⟨by rfl, fun w _ => ?h13⟩) (fun _ => hHeld) (fun hcl13 => ?r13)
        case h13 => (simp only [List.getElem_toArray, List.getElem_cons_succ, List.getElem_cons_zero]; first | (go_simp; with_reducible rfl) | (go_simp; done) | rfl)
        simp only [List.getElem_toArray, List.getElem_cons_succ, List.getElem_cons_zero, Act.put, List.setIfInBounds_toArray, List.set_cons_zero, List.set_cons_succ]
        -- 16: Op.build 107 #[(0, Operand.const (Value.int IntKind.u8 1)), 
        refine' anyZ_pure (i := 16) (v := _) rfl (by rfl) (by kernel_rfl) (by kernel_rfl) (by kernel_rfl) hcl13 (fun _ _ _ h => h) (Or.inl ⟨by rfl, fun w _ => ?h14⟩) (fun _ => hHeld) (fun hcl14 => ?r14)
        case h14 => (simp only [List.getElem_toArray, List.getElem_cons_succ, List.getElem_cons_zero]; first | (go_simp; with_reducible rfl) | (go_simp; done) | rfl)
        simp only [List.getElem_toArray, List.getElem_cons_succ, List.getElem_cons_zero, Act.put, List.setIfInBounds_toArray, List.set_cons_zero, List.set_cons_succ]
        -- 18: Op.fieldAddr 29 (Operand.tmp 7) 3
        refine' anyZ_pure (i := 18) (v := _) rfl (by rfl) (by kernel_rfl) (by kernel_rfl) (by kernel_rfl) hcl14 (fun _ _ _ h => h) (Or.inl ⟨by rfl, fun w _ => ?h15⟩) (fun _ => hHeld) (fun hcl15 => ?r15)
        case h15 => (simp only [List.getElem_toArray, List.getElem_cons_succ, List.getElem_cons_zero]; first | (go_simp; with_reducible rfl) | (go_simp; done) | rfl)
        simp only [List.getElem_toArray, List.getElem_cons_succ, List.getElem_cons_zero, Act.put, List.setIfInBounds_toArray, List.set_cons_zero, List.set_cons_succ]
        -- 19: Op.load 5 (Operand.tmp 40)
        refine' anyZ_take (i := 19) (v := _) rfl (by rfl) (by kernel_rfl) (by kernel_rfl) (by kernel_rfl) hcl15 14 (by kernel_rfl) (by kernel_rfl) (fun _ _ _ h => h) (Or.inl ⟨by rfl, fun w hSw => ?h16⟩) hHeld (fun hcl16 => ?r16)
        case h16 => (simp only [List.getElem_toArray, List.getElem_cons_succ, List.getElem_cons_zero]; obtain ⟨hS1, hS2, hS3, hS4, hS5, hS6, hS7⟩ := hSw; first | (go_simp; with_reducible rfl) | (go_simp; done) | rfl)
        simp only [List.getElem_toArray, List.getElem_cons_succ, List.getElem_cons_zero, Act.put, List.setIfInBounds_toArray, List.set_cons_zero, List.set_cons_succ]
        -- 21: Op.fieldAddr 29 (Operand.tmp 7) 4
        refine' anyZ_pure (i := 21) (v := _) rfl (by rfl) (by kernel_rfl) (by kernel_rfl) (by kernel_rfl) hcl16 (fun _ _ _ h => h) (Or.inl ⟨by rfl, fun w _ => ?h17⟩) (fun _ => hHeld) (fun hcl17 => ?r17)
        case h17 => (simp only [List.getElem_toArray, List.getElem_cons_succ, List.getElem_cons_zero]; first | (go_simp; with_reducible rfl) | (go_simp; done) | rfl)
        simp only [List.getElem_toArray, List.getElem_cons_succ, List.getElem_cons_zero, Act.put, List.setIfInBounds_toArray, List.set_cons_zero, List.set_cons_succ]
        -- 22: Op.load 26 (Operand.tmp 43)
        refine' anyZ_take (i := 22) (v := _) rfl (by rfl) (by kernel_rfl) (by kernel_rfl) (by kernel_rfl) hcl17 14 (by kernel_rfl) (by kernel_rfl) (fun _ _ _ h => h) (Or.inl ⟨by rfl, fun w hSw => ?h18⟩) hHeld (fun hcl18 => ?r18)
        case h18 => (simp only [List.getElem_toArray, List.getElem_cons_succ, List.getElem_cons_zero]; obtain ⟨hS1, hS2, hS3, hS4, hS5, hS6, hS7⟩ := hSw; first | (go_simp; with_reducible rfl) | (go_simp; done) | rfl)
        simp only [List.getElem_toArray, List.getElem_cons_succ, List.getElem_cons_zero, Act.put, List.setIfInBounds_toArray, List.set_cons_zero, List.set_cons_succ]
        -- 24: Op.fieldAddr 29 (Operand.tmp 7) 5
        refine' anyZ_pure (i := 24) (v := _) rfl (by rfl) (by kernel_rfl) (by kernel_rfl) (by kernel_rfl) hcl18 (fun _ _ _ h => h) (Or.inl ⟨by rfl, fun w _ => ?h19⟩) (fun _ => hHeld) (fun hcl19 => ?r19)
        case h19 => (simp only [List.getElem_toArray, List.getElem_cons_succ, List.getElem_cons_zero]; first | (go_simp; with_reducible rfl) | (go_simp; done) | rfl)
        simp only [List.getElem_toArray, List.getElem_cons_succ, List.getElem_cons_zero, Act.put, List.setIfInBounds_toArray, List.set_cons_zero, List.set_cons_succ]
        -- 25: Op.load 27 (Operand.tmp 46)
        refine' anyZ_take (i := 25) (v := _) rfl (by rfl) (by kernel_rfl) (by kernel_rfl) (by kernel_rfl) hcl19 14 (by kernel_rfl) (by kernel_rfl) (fun _ _ _ h => h) (Or.inl ⟨by rfl, fun w hSw => ?h20⟩) hHeld (fun hcl20 => ?r20)
        case h20 => (simp only [List.getElem_toArray, List.getElem_cons_succ, List.getElem_cons_zero]; obtain ⟨hS1, hS2, hS3, hS4, hS5, hS6, hS7⟩ := hSw; first | (go_simp; with_reducible rfl) | (go_simp; done) | rfl)
        simp only [List.getElem_toArray, List.getElem_cons_succ, List.getElem_cons_zero, Act.put, List.setIfInBounds_toArray, List.set_cons_zero, List.set_cons_succ]
        -- 26: Op.call { callee := Callee.builtin Builtin.len, args := #[Op
        refine' anyZ_pure (i := 26) (v := _) rfl (by rfl) (by kernel_rfl) (by kernel_rfl) (by kernel_rfl) hcl20 (fun _ _ _ h => h) (Or.inl ⟨by rfl, fun w _ => ?h21⟩) (fun _ => hHeld) (fun hcl21 => ?r21)
        case h21 => (simp only [List.getElem_toArray, List.getElem_cons_succ, List.getElem_cons_zero]; first | (go_simp; with_reducible rfl) | (go_simp; done) | rfl)
        simp only [List.getElem_toArray, List.getElem_cons_succ, List.getElem_cons_zero, Act.put, List.setIfInBounds_toArray, List.set_cons_zero, List.set_cons_succ]
        -- 27: Op.convert 3 25 (Operand.tmp 48)
        refine' anyZ_pure (i := 27) (v := _) rfl (by rfl) (by kernel_rfl) (by kernel_rfl) (by kernel_rfl) hcl21 (fun _ _ _ h => h) (Or.inl ⟨by rfl, fun w _ => ?h22⟩) (fun _ => hHeld) (fun hcl22 => ?r22)
        case h22 => (simp only [List.getElem_toArray, List.getElem_cons_succ, List.getElem_cons_zero]; first | (go_simp; with_reducible rfl) | (go_simp; done) | rfl)
        simp only [List.getElem_toArray, List.getElem_cons_succ, List.getElem_cons_zero, Act.put, List.setIfInBounds_toArray, List.set_cons_zero, List.set_cons_succ]
        refine anyZ_cast (listed' := #[true, true, true, true, true, false, true, true, false, true, true, true, false, true, true, true, true, false, true, true, false, true, true, false, true, true, true, true, false, false, false, false]) (by kernel_rfl) ?_
        refine anyZ_name (fun T Wp R HT HR Hop HE => ?_)
        generalize hA : Act.mk _ _ = A
        have E26 : A.eval (.tmp 26) = .int .u64 dd := by rw [← hA]; rfl
        have E29 : A.eval (.tmp 29) = .int .u8 nd.kind := by rw [← hA]; rfl
        have E33 : A.eval (.tmp 33) = FldV f1 := by rw [← hA, HFV1.out]; rfl
        have E38 : A.eval (.tmp 38) = FldV f2 := by rw [← hA, HFV2.out]; rfl
        have E41 : A.eval (.tmp 41) = .int .u8 nd.typ := by rw [← hA]; rfl
        have E44 : A.eval (.tmp 44) = .int .u64 nd.ref := by rw [← hA]; rfl
        have E49 : A.eval (.tmp 49) = .int .u64 KL := by rw [← hA]; rfl
        have HA := Lib.hid hA
        clear hA
        have M5 : ∀ (a1 : Act) (w1 : World) (K : Act → World → Prop), a1.eval (.tmp 26) = .int .u64 dd → (∀ ad c w2, Bytes w2 (.slice ad Ld c) (Vi.varint dd) → Below w1.heap.size w1 w2 → K (a1.put (some 27) (.slice ad Ld c)) w2) → Wp 5 K a1 w1 := by
          intro a1 w1 K he hK
          exact Hop 5 _ a1 w1 K (by simp only [List.getElem?_toArray, List.getElem?_cons_succ, List.getElem?_cons_zero]; rfl) rfl (rfnum_step 26 27 dd Ld hdd2 HLD.out _ a1 w1 K _ rfl rfl he hK)
        have M8 : ∀ (a1 : Act) (w1 : World) (K : Act → World → Prop), a1.eval (.tmp 29) = .int .u8 nd.kind → (∀ ad c w2, Bytes w2 (.slice ad 1 c) [UInt8.ofNat nd.kind] → Below w1.heap.size w1 w2 → K (a1.put (some 30) (.slice ad 1 c)) w2) → Wp 8 K a1 w1 := by
          intro a1 w1 K e1 hK
          simp only [Act.eval, Array.getD_eq_getD_getElem?] at e1
          refine Hop 8 _ a1 w1 K (by simp only [List.getElem?_toArray, List.getElem?_cons_succ, List.getElem?_cons_zero]; rfl) rfl ?_
          go_simp
          refine hK _ _ _ (own8_lit _ w1 _ [UInt8.ofNat nd.kind] 1 ?_ rfl (by simp [maxLen])).bytes (bal (bre w1) _)
          simp only [List.map_cons, List.map_nil]
          unfold B8
          rw [ofNat_toNat HFIT.out.kind]
        have M12 : ∀ (a1 : Act) (w1 : World) (K : Act → World → Prop), a1.eval (.tmp 33) = FldV f1 → (∀ ad c w2, Bytes w2 (.slice ad L1 c) (layOf f1) → Below w1.heap.size w1 w2 → K (a1.put (some 34) (.slice ad L1 c)) w2) → Wp 12 K a1 w1 := by
          intro a1 w1 K he hK
          exact Hop 12 _ a1 w1 K (by simp only [List.getElem?_toArray, List.getElem?_cons_succ, List.getElem?_cons_zero]; rfl) rfl (rflay_step 33 34 L1 f1 HF1S.out HL1.out _ a1 w1 K _ rfl rfl he hK)
        have M17 : ∀ (a1 : Act) (w1 : World) (K : Act → World → Prop), a1.eval (.tmp 38) = FldV f2 → (∀ ad c w2, Bytes w2 (.slice ad L2 c) (layOf f2) → Below w1.heap.size w1 w2 → K (a1.put (some 39) (.slice ad L2 c)) w2) → Wp 17 K a1 w1 := by
          intro a1 w1 K he hK
          exact Hop 17 _ a1 w1 K (by simp only [List.getElem?_toArray, List.getElem?_cons_succ, List.getElem?_cons_zero]; rfl) rfl (rflay_step 38 39 L2 f2 HF2S.out HL2.out _ a1 w1 K _ rfl rfl he hK)
        have M20 : ∀ (a1 : Act) (w1 : World) (K : Act → World → Prop), a1.eval (.tmp 41) = .int .u8 nd.typ → (∀ ad c w2, Bytes w2 (.slice ad 1 c) [UInt8.ofNat nd.typ] → Below w1.heap.size w1 w2 → K (a1.put (some 42) (.slice ad 1 c)) w2) → Wp 20 K a1 w1 := by
          intro a1 w1 K e1 hK
          simp only [Act.eval, Array.getD_eq_getD_getElem?] at e1
          refine Hop 20 _ a1 w1 K (by simp only [List.getElem?_toArray, List.getElem?_cons_succ, List.getElem?_cons_zero]; rfl) rfl ?_
          go_simp
          refine hK _ _ _ (own8_lit _ w1 _ [UInt8.ofNat nd.typ] 1 ?_ rfl (by simp [maxLen])).bytes (bal (bre w1) _)
          simp only [List.map_cons, List.map_nil]
          unfold B8
          rw [ofNat_toNat HFIT.out.typ]
        have M23 : ∀ (a1 : Act) (w1 : World) (K : Act → World → Prop), a1.eval (.tmp 44) = .int .u64 nd.ref → (∀ ad c w2, Bytes w2 (.slice ad Lr c) (Vi.varint nd.ref) → Below w1.heap.size w1 w2 → K (a1.put (some 45) (.slice ad Lr c)) w2) → Wp 23 K a1 w1 := by
          intro a1 w1 K he hK
          exact Hop 23 _ a1 w1 K (by simp only [List.getElem?_toArray, List.getElem?_cons_succ, List.getElem?_cons_zero]; rfl) rfl (rfnum_step 44 45 nd.ref Lr HFIT.out.ref HLR.out _ a1 w1 K _ rfl rfl he hK)
        have M28 : ∀ (a1 : Act) (w1 : World) (K : Act → World → Prop), a1.eval (.tmp 49) = .int .u64 KL → (∀ ad c w2, Bytes w2 (.slice ad Lk c) (Vi.varint KL) → Below w1.heap.size w1 w2 → K (a1.put (some 50) (.slice ad Lk c)) w2) → Wp 28 K a1 w1 := by
          intro a1 w1 K he hK
          exact Hop 28 _ a1 w1 K (by simp only [List.getElem?_toArray, List.getElem?_cons_succ, List.getElem?_cons_zero]; rfl) rfl (rfnum_step 49 50 KL Lk (by omega) HLK.out _ a1 w1 K _ rfl rfl he hK)
        clear Hop
        have st5_8_12_17_20_23_28_ : ∀ (a27 : Option Addr) (c27 : Nat) (a30 : Option Addr) (c30 : Nat) (a34 : Option Addr) (c34 : Nat) (a39 : Option Addr) (c39 : Nat) (a42 : Option Addr) (c42 : Nat) (a45 : Option Addr) (c45 : Nat) (a50 : Option Addr) (c50 : Nat) (w1 : World), Below W7.heap.size W7 w1 → Bytes w1 (.slice a27 Ld c27) (Vi.varint dd) → Bytes w1 (.slice a30 1 c30) [UInt8.ofNat nd.kind] → Bytes w1 (.slice a34 L1 c34) (layOf f1) → Bytes w1 (.slice a39 L2 c39) (layOf f2) → Bytes w1 (.slice a42 1 c42) [UInt8.ofNat nd.typ] → Bytes w1 (.slice a45 Lr c45) (Vi.varint nd.ref) → Bytes w1 (.slice a50 Lk c50) (Vi.varint KL) → T 3 #[true, true, true, true, true, true, true, true, true, true, true, true, true, true, true, true, true, true, true, true, true, true, true, true, true, true, true, true, true, false, false, false] (((((((A.put (some 27) (.slice a27 Ld c27)).put (some 30) (.slice a30 1 c30)).put (some 34) (.slice a34 L1 c34)).put (some 39) (.slice a39 L2 c39)).put (some 42) (.slice a42 1 c42)).put (some 45) (.slice a45 Lr c45)).put (some 50) (.slice a50 Lk c50)) w1 := by
          intro a27 c27 a30 c30 a34 c34 a39 c39 a42 c42 a45 c45 a50 c50 w1 hb f27 f30 f34 f39 f42 f45 f50
          refine HE _ _ _ _ (anyZ_chain_at (by kernel_rfl) ?_)
          simp only [List.drop_succ_cons, List.drop_zero]
          rw [← HA.out]
          simp only [Act.put, List.setIfInBounds_toArray, List.set_cons_zero, List.set_cons_succ]
          obtain ⟨q, hq⟩ : ∃ q, q = [M, Vi.varint dd, [UInt8.ofNat nd.kind], layOf f1, layOf f2, [UInt8.ofNat nd.typ], Vi.varint nd.ref, Vi.varint KL].flatten := ⟨_, rfl⟩
          have hql : q.length ≤ 100001000 := by rw [hq]; exact HQL.out
          have hrow : ∀ (j : Nat) (v : Value) (l : List UInt8), [Value.slice pa PL pc, .slice a27 Ld c27, .slice a30 1 c30, .slice a34 L1 c34, .slice a39 L2 c39, .slice a42 1 c42, .slice a45 Lr c45, .slice a50 Lk c50][j]? = some v → [M, Vi.varint dd, [UInt8.ofNat nd.kind], layOf f1, layOf f2, [UInt8.ofNat nd.typ], Vi.varint nd.ref, Vi.varint KL][j]? = some l → Bytes w1 v l := by
            intro j v l h1 h2
            match j, h1, h2 with
            | 0, h1, h2 => cases h1; cases h2; exact (HPB.out.below hb)
            | 1, h1, h2 => cases h1; cases h2; exact f27
            | 2, h1, h2 => cases h1; cases h2; exact f30
            | 3, h1, h2 => cases h1; cases h2; exact f34
            | 4, h1, h2 => cases h1; cases h2; exact f39
            | 5, h1, h2 => cases h1; cases h2; exact f42
            | 6, h1, h2 => cases h1; cases h2; exact f45
            | 7, h1, h2 => cases h1; cases h2; exact f50
            | j + 8, h1, h2 => cases h1
          have hrl := rows_lit w1 [Value.slice pa PL pc, .slice a27 Ld c27, .slice a30 1 c30, .slice a34 L1 c34, .slice a39 L2 c39, .slice a42 1 c42, .slice a45 Lr c45, .slice a50 Lk c50] _ 55 w1.heap.size 8 rfl rfl rfl (by simp [maxLen]) hrow
          have HRL := Lib.hid hrl
          have HQ := Lib.hid hq
          have HQM := Lib.hid hql
          clear HT HR HE M5 M8 M12 M17 M20 M23 M28 E26 E29 E33 E38 E41 E44 E49 f27 f30 f34 f39 f42 f45 f50 hrow hrl hq hql
          go_wp2_with fail
          have hb2 := HBW.out.trans ((bal hb (.cells #[Value.slice pa PL pc, .slice a27 Ld c27, .slice a30 1 c30, .slice a34 L1 c34, .slice a39 L2 c39, .slice a42 1 c42, .slice a45 Lr c45, .slice a50 Lk c50] 55)).mono HBW.out.size)
          have hrl := HRL.out
          generalize hW2 : w1.alloc (.cells #[Value.slice pa PL pc, .slice a27 Ld c27, .slice a30 1 c30, .slice a34 L1 c34, .slice a39 L2 c39, .slice a42 1 c42, .slice a45 Lr c45, .slice a50 Lk c50] 55) = W2 at *
          refine (join_any _ _ W2 (by first | exact hrl | (rw [← hW2]; exact HRL.out)) (by have := HQM.out; rw [HQ.out] at this; omega)).mono ?_
          rintro e w3 ⟨v3, rfl, ho3, hb3⟩
          have hb03 := hb2.trans (hb3.mono hb2.size)
          have ho9 := ownsRow_base (base' := w.heap.size) ho3 hb2.size
          have HO3 := Lib.hid ho9
          have HB03 := Lib.hid hb03
          have HBN : Hid (Below W7.heap.size W7 w3) := Lib.hid ((hb.trans ((bal (bre w1) (.cells #[Value.slice pa PL pc, .slice a27 Ld c27, .slice a30 1 c30, .slice a34 L1 c34, .slice a39 L2 c39, .slice a42 1 c42, .slice a45 Lr c45, .slice a50 Lk c50] 55)).mono hb.size)).trans (by rw [hW2]; exact hb3.mono (by have := hb2.size; have h1 := (bal hb (.cells #[Value.slice pa PL pc, .slice a27 Ld c27, .slice a30 1 c30, .slice a34 L1 c34, .slice a39 L2 c39, .slice a42 1 c42, .slice a45 Lr c45, .slice a50 Lk c50] 55)).size; rw [hW2] at h1; exact h1)))
          clear ho3 ho9 hb3 hb2 hb03 hrl hb HRL
          go_wp2_with fail
          go_meet
          case rel => exact ⟨HO3.out, HBN.out⟩
        have st5_8_12_17_23_28_ : ∀ (a27 : Option Addr) (c27 : Nat) (a30 : Option Addr) (c30 : Nat) (a34 : Option Addr) (c34 : Nat) (a39 : Option Addr) (c39 : Nat) (a45 : Option Addr) (c45 : Nat) (a50 : Option Addr) (c50 : Nat) (w1 : World), Below W7.heap.size W7 w1 → Bytes w1 (.slice a27 Ld c27) (Vi.varint dd) → Bytes w1 (.slice a30 1 c30) [UInt8.ofNat nd.kind] → Bytes w1 (.slice a34 L1 c34) (layOf f1) → Bytes w1 (.slice a39 L2 c39) (layOf f2) → Bytes w1 (.slice a45 Lr c45) (Vi.varint nd.ref) → Bytes w1 (.slice a50 Lk c50) (Vi.varint KL) → T 4 #[true, true, true, true, true, true, true, true, true, true, true, true, true, true, true, true, true, true, true, true, false, true, true, true, true, true, true, true, true, false, false, false] ((((((A.put (some 27) (.slice a27 Ld c27)).put (some 30) (.slice a30 1 c30)).put (some 34) (.slice a34 L1 c34)).put (some 39) (.slice a39 L2 c39)).put (some 45) (.slice a45 Lr c45)).put (some 50) (.slice a50 Lk c50)) w1 := by
          intro a27 c27 a30 c30 a34 c34 a39 c39 a45 c45 a50 c50 w1 hb f27 f30 f34 f39 f45 f50
          refine HT _ _ _ _ [20] (by rw [HR]; kernel_rfl) (by decide) ?_
          refine List.forall_mem_cons.2 ⟨?_, fun _ h => by cases h⟩
          · refine M20 _ _ _ (by rw [eval_put _ 50 41 _ (by decide), eval_put _ 45 41 _ (by decide), eval_put _ 39 41 _ (by decide), eval_put _ 34 41 _ (by decide), eval_put _ 30 41 _ (by decide), eval_put _ 27 41 _ (by decide)]; exact E41) (fun a42 c42 w2 hf hb2 => ⟨fun _ => HSB.out w2 (btr hb hb2), ?_⟩)
            rw [show (#[true, true, true, true, true, true, true, true, true, true, true, true, true, true, true, true, true, true, true, true, false, true, true, true, true, true, true, true, true, false, false, false] : Array Bool).setIfInBounds 20 true = #[true, true, true, true, true, true, true, true, true, true, true, true, true, true, true, true, true, true, true, true, true, true, true, true, true, true, true, true, true, false, false, false] from by kernel_rfl, put_swap _ 50 42 _ _ (by decide), put_swap _ 45 42 _ _ (by decide)]
            exact st5_8_12_17_20_23_28_ a27 c27 a30 c30 a34 c34 a39 c39 a42 c42 a45 c45 a50 c50 w2 (btr hb hb2) (f27.below hb2) (f30.below hb2) (f34.below hb2) (f39.below hb2) hf (f45.below hb2) (f50.below hb2)
        have st5_8_12_17_20_23_ : ∀ (a27 : Option Addr) (c27 : Nat) (a30 : Option Addr) (c30 : Nat) (a34 : Option Addr) (c34 : Nat) (a39 : Option Addr) (c39 : Nat) (a42 : Option Addr) (c42 : Nat) (a45 : Option Addr) (c45 : Nat) (w1 : World), Below W7.heap.size W7 w1 → Bytes w1 (.slice a27 Ld c27) (Vi.varint dd) → Bytes w1 (.slice a30 1 c30) [UInt8.ofNat nd.kind] → Bytes w1 (.slice a34 L1 c34) (layOf f1) → Bytes w1 (.slice a39 L2 c39) (layOf f2) → Bytes w1 (.slice a42 1 c42) [UInt8.ofNat nd.typ] → Bytes w1 (.slice a45 Lr c45) (Vi.varint nd.ref) → T 4 #[true, true, true, true, true, true, true, true, true, true, true, true, true, true, true, true, true, true, true, true, true, true, true, true, true, true, true, true, false, false, false, false] ((((((A.put (some 27) (.slice a27 Ld c27)).put (some 30) (.slice a30 1 c30)).put (some 34) (.slice a34 L1 c34)).put (some 39) (.slice a39 L2 c39)).put (some 42) (.slice a42 1 c42)).put (some 45) (.slice a45 Lr c45)) w1 := by
          intro a27 c27 a30 c30 a34 c34 a39 c39 a42 c42 a45 c45 w1 hb f27 f30 f34 f39 f42 f45
          refine HT _ _ _ _ [28] (by rw [HR]; kernel_rfl) (by decide) ?_
          refine List.forall_mem_cons.2 ⟨?_, fun _ h => by cases h⟩
          · refine M28 _ _ _ (by rw [eval_put _ 45 49 _ (by decide), eval_put _ 42 49 _ (by decide), eval_put _ 39 49 _ (by decide), eval_put _ 34 49 _ (by decide), eval_put _ 30 49 _ (by decide), eval_put _ 27 49 _ (by decide)]; exact E49) (fun a50 c50 w2 hf hb2 => ⟨fun _ => HSB.out w2 (btr hb hb2), ?_⟩)
            rw [show (#[true, true, true, true, true, true, true, true, true, true, true, true, true, true, true, true, true, true, true, true, true, true, true, true, true, true, true, true, false, false, false, false] : Array Bool).setIfInBounds 28 true = #[true, true, true, true, true, true, true, true, true, true, true, true, true, true, true, true, true, true, true, true, true, true, true, true, true, true, true, true, true, false, false, false] from by kernel_rfl]
            exact st5_8_12_17_20_23_28_ a27 c27 a30 c30 a34 c34 a39 c39 a42 c42 a45 c45 a50 c50 w2 (btr hb hb2) (f27.below hb2) (f30.below hb2) (f34.below hb2) (f39.below hb2) (f42.below hb2) (f45.below hb2) hf
        have st5_12_17_20_23_28_ : ∀ (a27 : Option Addr) (c27 : Nat) (a34 : Option Addr) (c34 : Nat) (a39 : Option Addr) (c39 : Nat) (a42 : Option Addr) (c42 : Nat) (a45 : Option Addr) (c45 : Nat) (a50 : Option Addr) (c50 : Nat) (w1 : World), Below W7.heap.size W7 w1 → Bytes w1 (.slice a27 Ld c27) (Vi.varint dd) → Bytes w1 (.slice a34 L1 c34) (layOf f1) → Bytes w1 (.slice a39 L2 c39) (layOf f2) → Bytes w1 (.slice a42 1 c42) [UInt8.ofNat nd.typ] → Bytes w1 (.slice a45 Lr c45) (Vi.varint nd.ref) → Bytes w1 (.slice a50 Lk c50) (Vi.varint KL) → T 4 #[true, true, true, true, true, true, true, true, false, true, true, true, true, true, true, true, true, true, true, true, true, true, true, true, true, true, true, true, true, false, false, false] ((((((A.put (some 27) (.slice a27 Ld c27)).put (some 34) (.slice a34 L1 c34)).put (some 39) (.slice a39 L2 c39)).put (some 42) (.slice a42 1 c42)).put (some 45) (.slice a45 Lr c45)).put (some 50) (.slice a50 Lk c50)) w1 := by
          intro a27 c27 a34 c34 a39 c39 a42 c42 a45 c45 a50 c50 w1 hb f27 f34 f39 f42 f45 f50
          refine HT _ _ _ _ [8] (by rw [HR]; kernel_rfl) (by decide) ?_
          refine List.forall_mem_cons.2 ⟨?_, fun _ h => by cases h⟩
          · refine M8 _ _ _ (by rw [eval_put _ 50 29 _ (by decide), eval_put _ 45 29 _ (by decide), eval_put _ 42 29 _ (by decide), eval_put _ 39 29 _ (by decide), eval_put _ 34 29 _ (by decide), eval_put _ 27 29 _ (by decide)]; exact E29) (fun a30 c30 w2 hf hb2 => ⟨fun _ => HSB.out w2 (btr hb hb2), ?_⟩)
            rw [show (#[true, true, true, true, true, true, true, true, false, true, true, true, true, true, true, true, true, true, true, true, true, true, true, true, true, true, true, true, true, false, false, false] : Array Bool).setIfInBounds 8 true = #[true, true, true, true, true, true, true, true, true, true, true, true, true, true, true, true, true, true, true, true, true, true, true, true, true, true, true, true, true, false, false, false] from by kernel_rfl, put_swap _ 50 30 _ _ (by decide), put_swap _ 45 30 _ _ (by decide), put_swap _ 42 30 _ _ (by decide), put_swap _ 39 30 _ _ (by decide), put_swap _ 34 30 _ _ (by decide)]
            exact st5_8_12_17_20_23_28_ a27 c27 a30 c30 a34 c34 a39 c39 a42 c42 a45 c45 a50 c50 w2 (btr hb hb2) (f27.below hb2) hf (f34.below hb2) (f39.below hb2) (f42.below hb2) (f45.below hb2) (f50.below hb2)
        have st5_12_17_23_28_ : ∀ (a27 : Option Addr) (c27 : Nat) (a34 : Option Addr) (c34 : Nat) (a39 : Option Addr) (c39 : Nat) (a45 : Option Addr) (c45 : Nat) (a50 : Option Addr) (c50 : Nat) (w1 : World), Below W7.heap.size W7 w1 → Bytes w1 (.slice a27 Ld c27) (Vi.varint dd) → Bytes w1 (.slice a34 L1 c34) (layOf f1) → Bytes w1 (.slice a39 L2 c39) (layOf f2) → Bytes w1 (.slice a45 Lr c45) (Vi.varint nd.ref) → Bytes w1 (.slice a50 Lk c50) (Vi.varint KL) → T 5 #[true, true, true, true, true, true, true, true, false, true, true, true, true, true, true, true, true, true, true, true, false, true, true, true, true, true, true, true, true, false, false, false] (((((A.put (some 27) (.slice a27 Ld c27)).put (some 34) (.slice a34 L1 c34)).put (some 39) (.slice a39 L2 c39)).put (some 45) (.slice a45 Lr c45)).put (some 50) (.slice a50 Lk c50)) w1 := by
          intro a27 c27 a34 c34 a39 c39 a45 c45 a50 c50 w1 hb f27 f34 f39 f45 f50
          refine HT _ _ _ _ [8, 20] (by rw [HR]; kernel_rfl) (by decide) ?_
          refine List.forall_mem_cons.2 ⟨?_, List.forall_mem_cons.2 ⟨?_, fun _ h => by cases h⟩⟩
          · refine M8 _ _ _ (by rw [eval_put _ 50 29 _ (by decide), eval_put _ 45 29 _ (by decide), eval_put _ 39 29 _ (by decide), eval_put _ 34 29 _ (by decide), eval_put _ 27 29 _ (by decide)]; exact E29) (fun a30 c30 w2 hf hb2 => ⟨fun _ => HSB.out w2 (btr hb hb2), ?_⟩)
            rw [show (#[true, true, true, true, true, true, true, true, false, true, true, true, true, true, true, true, true, true, true, true, false, true, true, true, true, true, true, true, true, false, false, false] : Array Bool).setIfInBounds 8 true = #[true, true, true, true, true, true, true, true, true, true, true, true, true, true, true, true, true, true, true, true, false, true, true, true, true, true, true, true, true, false, false, false] from by kernel_rfl, put_swap _ 50 30 _ _ (by decide), put_swap _ 45 30 _ _ (by decide), put_swap _ 39 30 _ _ (by decide), put_swap _ 34 30 _ _ (by decide)]
            exact st5_8_12_17_23_28_ a27 c27 a30 c30 a34 c34 a39 c39 a45 c45 a50 c50 w2 (btr hb hb2) (f27.below hb2) hf (f34.below hb2) (f39.below hb2) (f45.below hb2) (f50.below hb2)
          · refine M20 _ _ _ (by rw [eval_put _ 50 41 _ (by decide), eval_put _ 45 41 _ (by decide), eval_put _ 39 41 _ (by decide), eval_put _ 34 41 _ (by decide), eval_put _ 27 41 _ (by decide)]; exact E41) (fun a42 c42 w2 hf hb2 => ⟨fun _ => HSB.out w2 (btr hb hb2), ?_⟩)
            rw [show (#[true, true, true, true, true, true, true, true, false, true, true, true, true, true, true, true, true, true, true, true, false, true, true, true, true, true, true, true, true, false, false, false] : Array Bool).setIfInBounds 20 true = #[true, true, true, true, true, true, true, true, false, true, true, true, true, true, true, true, true, true, true, true, true, true, true, true, true, true, true, true, true, false, false, false] from by kernel_rfl, put_swap _ 50 42 _ _ (by decide), put_swap _ 45 42 _ _ (by decide)]
            exact st5_12_17_20_23_28_ a27 c27 a34 c34 a39 c39 a42 c42 a45 c45 a50 c50 w2 (btr hb hb2) (f27.below hb2) (f34.below hb2) (f39.below hb2) hf (f45.below hb2) (f50.below hb2)
        have st5_12_17_20_23_ : ∀ (a27 : Option Addr) (c27 : Nat) (a34 : Option Addr) (c34 : Nat) (a39 : Option Addr) (c39 : Nat) (a42 : Option Addr) (c42 : Nat) (a45 : Option Addr) (c45 : Nat) (w1 : World), Below W7.heap.size W7 w1 → Bytes w1 (.slice a27 Ld c27) (Vi.varint dd) → Bytes w1 (.slice a34 L1 c34) (layOf f1) → Bytes w1 (.slice a39 L2 c39) (layOf f2) → Bytes w1 (.slice a42 1 c42) [UInt8.ofNat nd.typ] → Bytes w1 (.slice a45 Lr c45) (Vi.varint nd.ref) → T 5 #[true, true, true, true, true, true, true, true, false, true, true, true, true, true, true, true, true, true, true, true, true, true, true, true, true, true, true, true, false, false, false, false] (((((A.put (some 27) (.slice a27 Ld c27)).put (some 34) (.slice a34 L1 c34)).put (some 39) (.slice a39 L2 c39)).put (some 42) (.slice a42 1 c42)).put (some 45) (.slice a45 Lr c45)) w1 := by
          intro a27 c27 a34 c34 a39 c39 a42 c42 a45 c45 w1 hb f27 f34 f39 f42 f45
          refine HT _ _ _ _ [8, 28] (by rw [HR]; kernel_rfl) (by decide) ?_
          refine List.forall_mem_cons.2 ⟨?_, List.forall_mem_cons.2 ⟨?_, fun _ h => by cases h⟩⟩
          · refine M8 _ _ _ (by rw [eval_put _ 45 29 _ (by decide), eval_put _ 42 29 _ (by decide), eval_put _ 39 29 _ (by decide), eval_put _ 34 29 _ (by decide), eval_put _ 27 29 _ (by decide)]; exact E29) (fun a30 c30 w2 hf hb2 => ⟨fun _ => HSB.out w2 (btr hb hb2), ?_⟩)
            rw [show (#[true, true, true, true, true, true, true, true, false, true, true, true, true, true, true, true, true, true, true, true, true, true, true, true, true, true, true, true, false, false, false, false] : Array Bool).setIfInBounds 8 true = #[true, true, true, true, true, true, true, true, true, true, true, true, true, true, true, true, true, true, true, true, true, true, true, true, true, true, true, true, false, false, false, false] from by kernel_rfl, put_swap _ 45 30 _ _ (by decide), put_swap _ 42 30 _ _ (by decide), put_swap _ 39 30 _ _ (by decide), put_swap _ 34 30 _ _ (by decide)]
            exact st5_8_12_17_20_23_ a27 c27 a30 c30 a34 c34 a39 c39 a42 c42 a45 c45 w2 (btr hb hb2) (f27.below hb2) hf (f34.below hb2) (f39.below hb2) (f42.below hb2) (f45.below hb2)
          · refine M28 _ _ _ (by rw [eval_put _ 45 49 _ (by decide), eval_put _ 42 49 _ (by decide), eval_put _ 39 49 _ (by decide), eval_put _ 34 49 _ (by decide), eval_put _ 27 49 _ (by decide)]; exact E49) (fun a50 c50 w2 hf hb2 => ⟨fun _ => HSB.out w2 (btr hb hb2), ?_⟩)
            rw [show (#[true, true, true, true, true, true, true, true, false, true, true, true, true, true, true, true, true, true, true, true, true, true, true, true, true, true, true, true, false, false, false, false] : Array Bool).setIfInBounds 28 true = #[true, true, true, true, true, true, true, true, false, true, true, true, true, true, true, true, true, true, true, true, true, true, true, true, true, true, true, true, true, false, false, false] from by kernel_rfl]
            exact st5_12_17_20_23_28_ a27 c27 a34 c34 a39 c39 a42 c42 a45 c45 a50 c50 w2 (btr hb hb2) (f27.below hb2) (f34.below hb2) (f39.below hb2) (f42.below hb2) (f45.below hb2) hf
        have st5_8_12_17_20_ : ∀ (a27 : Option Addr) (c27 : Nat) (a30 : Option Addr) (c30 : Nat) (a34 : Option Addr) (c34 : Nat) (a39 : Option Addr) (c39 : Nat) (a42 : Option Addr) (c42 : Nat) (w1 : World), Below W7.heap.size W7 w1 → Bytes w1 (.slice a27 Ld c27) (Vi.varint dd) → Bytes w1 (.slice a30 1 c30) [UInt8.ofNat nd.kind] → Bytes w1 (.slice a34 L1 c34) (layOf f1) → Bytes w1 (.slice a39 L2 c39) (layOf f2) → Bytes w1 (.slice a42 1 c42) [UInt8.ofNat nd.typ] → T 5 #[true, true, true, true, true, true, true, true, true, true, true, true, true, true, true, true, true, true, true, true, true, true, true, false, true, true, true, true, false, false, false, false] (((((A.put (some 27) (.slice a27 Ld c27)).put (some 30) (.slice a30 1 c30)).put (some 34) (.slice a34 L1 c34)).put (some 39) (.slice a39 L2 c39)).put (some 42) (.slice a42 1 c42)) w1 := by
          intro a27 c27 a30 c30 a34 c34 a39 c39 a42 c42 w1 hb f27 f30 f34 f39 f42
          refine HT _ _ _ _ [23] (by rw [HR]; kernel_rfl) (by decide) ?_
          refine List.forall_mem_cons.2 ⟨?_, fun _ h => by cases h⟩
          · refine M23 _ _ _ (by rw [eval_put _ 42 44 _ (by decide), eval_put _ 39 44 _ (by decide), eval_put _ 34 44 _ (by decide), eval_put _ 30 44 _ (by decide), eval_put _ 27 44 _ (by decide)]; exact E44) (fun a45 c45 w2 hf hb2 => ⟨fun _ => HSB.out w2 (btr hb hb2), ?_⟩)
            rw [show (#[true, true, true, true, true, true, true, true, true, true, true, true, true, true, true, true, true, true, true, true, true, true, true, false, true, true, true, true, false, false, false, false] : Array Bool).setIfInBounds 23 true = #[true, true, true, true, true, true, true, true, true, true, true, true, true, true, true, true, true, true, true, true, true, true, true, true, true, true, true, true, false, false, false, false] from by kernel_rfl]
            exact st5_8_12_17_20_23_ a27 c27 a30 c30 a34 c34 a39 c39 a42 c42 a45 c45 w2 (btr hb hb2) (f27.below hb2) (f30.below hb2) (f34.below hb2) (f39.below hb2) (f42.below hb2) hf
        have st5_8_12_17_23_ : ∀ (a27 : Option Addr) (c27 : Nat) (a30 : Option Addr) (c30 : Nat) (a34 : Option Addr) (c34 : Nat) (a39 : Option Addr) (c39 : Nat) (a45 : Option Addr) (c45 : Nat) (w1 : World), Below W7.heap.size W7 w1 → Bytes w1 (.slice a27 Ld c27) (Vi.varint dd) → Bytes w1 (.slice a30 1 c30) [UInt8.ofNat nd.kind] → Bytes w1 (.slice a34 L1 c34) (layOf f1) → Bytes w1 (.slice a39 L2 c39) (layOf f2) → Bytes w1 (.slice a45 Lr c45) (Vi.varint nd.ref) → T 5 #[true, true, true, true, true, true, true, true, true, true, true, true, true, true, true, true, true, true, true, true, false, true, true, true, true, true, true, true, false, false, false, false] (((((A.put (some 27) (.slice a27 Ld c27)).put (some 30) (.slice a30 1 c30)).put (some 34) (.slice a34 L1 c34)).put (some 39) (.slice a39 L2 c39)).put (some 45) (.slice a45 Lr c45)) w1 := by
          intro a27 c27 a30 c30 a34 c34 a39 c39 a45 c45 w1 hb f27 f30 f34 f39 f45
          refine HT _ _ _ _ [20, 28] (by rw [HR]; kernel_rfl) (by decide) ?_
          refine List.forall_mem_cons.2 ⟨?_, List.forall_mem_cons.2 ⟨?_, fun _ h => by cases h⟩⟩
          · refine M20 _ _ _ (by rw [eval_put _ 45 41 _ (by decide), eval_put _ 39 41 _ (by decide), eval_put _ 34 41 _ (by decide), eval_put _ 30 41 _ (by decide), eval_put _ 27 41 _ (by decide)]; exact E41) (fun a42 c42 w2 hf hb2 => ⟨fun _ => HSB.out w2 (btr hb hb2), ?_⟩)
            rw [show (#[true, true, true, true, true, true, true, true, true, true, true, true, true, true, true, true, true, true, true, true, false, true, true, true, true, true, true, true, false, false, false, false] : Array Bool).setIfInBounds 20 true = #[true, true, true, true, true, true, true, true, true, true, true, true, true, true, true, true, true, true, true, true, true, true, true, true, true, true, true, true, false, false, false, false] from by kernel_rfl, put_swap _ 45 42 _ _ (by decide)]
            exact st5_8_12_17_20_23_ a27 c27 a30 c30 a34 c34 a39 c39 a42 c42 a45 c45 w2 (btr hb hb2) (f27.below hb2) (f30.below hb2) (f34.below hb2) (f39.below hb2) hf (f45.below hb2)
          · refine M28 _ _ _ (by rw [eval_put _ 45 49 _ (by decide), eval_put _ 39 49 _ (by decide), eval_put _ 34 49 _ (by decide), eval_put _ 30 49 _ (by decide), eval_put _ 27 49 _ (by decide)]; exact E49) (fun a50 c50 w2 hf hb2 => ⟨fun _ => HSB.out w2 (btr hb hb2), ?_⟩)
            rw [show (#[true, true, true, true, true, true, true, true, true, true, true, true, true, true, true, true, true, true, true, true, false, true, true, true, true, true, true, true, false, false, false, false] : Array Bool).setIfInBounds 28 true = #[true, true, true, true, true, true, true, true, true, true, true, true, true, true, true, true, true, true, true, true, false, true, true, true, true, true, true, true, true, false, false, false] from by kernel_rfl]
            exact st5_8_12_17_23_28_ a27 c27 a30 c30 a34 c34 a39 c39 a45 c45 a50 c50 w2 (btr hb hb2) (f27.below hb2) (f30.below hb2) (f34.below hb2) (f39.below hb2) (f45.below hb2) hf
        have st5_12_17_20_ : ∀ (a27 : Option Addr) (c27 : Nat) (a34 : Option Addr) (c34 : Nat) (a39 : Option Addr) (c39 : Nat) (a42 : Option Addr) (c42 : Nat) (w1 : World), Below W7.heap.size W7 w1 → Bytes w1 (.slice a27 Ld c27) (Vi.varint dd) → Bytes w1 (.slice a34 L1 c34) (layOf f1) → Bytes w1 (.slice a39 L2 c39) (layOf f2) → Bytes w1 (.slice a42 1 c42) [UInt8.ofNat nd.typ] → T 6 #[true, true, true, true, true, true, true, true, false, true, true, true, true, true, true, true, true, true, true, true, true, true, true, false, true, true, true, true, false, false, false, false] ((((A.put (some 27) (.slice a27 Ld c27)).put (some 34) (.slice a34 L1 c34)).put (some 39) (.slice a39 L2 c39)).put (some 42) (.slice a42 1 c42)) w1 := by
          intro a27 c27 a34 c34 a39 c39 a42 c42 w1 hb f27 f34 f39 f42
          refine HT _ _ _ _ [8, 23] (by rw [HR]; kernel_rfl) (by decide) ?_
          refine List.forall_mem_cons.2 ⟨?_, List.forall_mem_cons.2 ⟨?_, fun _ h => by cases h⟩⟩
          · refine M8 _ _ _ (by rw [eval_put _ 42 29 _ (by decide), eval_put _ 39 29 _ (by decide), eval_put _ 34 29 _ (by decide), eval_put _ 27 29 _ (by decide)]; exact E29) (fun a30 c30 w2 hf hb2 => ⟨fun _ => HSB.out w2 (btr hb hb2), ?_⟩)
            rw [show (#[true, true, true, true, true, true, true, true, false, true, true, true, true, true, true, true, true, true, true, true, true, true, true, false, true, true, true, true, false, false, false, false] : Array Bool).setIfInBounds 8 true = #[true, true, true, true, true, true, true, true, true, true, true, true, true, true, true, true, true, true, true, true, true, true, true, false, true, true, true, true, false, false, false, false] from by kernel_rfl, put_swap _ 42 30 _ _ (by decide), put_swap _ 39 30 _ _ (by decide), put_swap _ 34 30 _ _ (by decide)]
            exact st5_8_12_17_20_ a27 c27 a30 c30 a34 c34 a39 c39 a42 c42 w2 (btr hb hb2) (f27.below hb2) hf (f34.below hb2) (f39.below hb2) (f42.below hb2)
          · refine M23 _ _ _ (by rw [eval_put _ 42 44 _ (by decide), eval_put _ 39 44 _ (by decide), eval_put _ 34 44 _ (by decide), eval_put _ 27 44 _ (by decide)]; exact E44) (fun a45 c45 w2 hf hb2 => ⟨fun _ => HSB.out w2 (btr hb hb2), ?_⟩)
            rw [show (#[true, true, true, true, true, true, true, true, false, true, true, true, true, true, true, true, true, true, true, true, true, true, true, false, true, true, true, true, false, false, false, false] : Array Bool).setIfInBounds 23 true = #[true, true, true, true, true, true, true, true, false, true, true, true, true, true, true, true, true, true, true, true, true, true, true, true, true, true, true, true, false, false, false, false] from by kernel_rfl]
            exact st5_12_17_20_23_ a27 c27 a34 c34 a39 c39 a42 c42 a45 c45 w2 (btr hb hb2) (f27.below hb2) (f34.below hb2) (f39.below hb2) (f42.below hb2) hf
        have st5_8_12_20_ : ∀ (a27 : Option Addr) (c27 : Nat) (a30 : Option Addr) (c30 : Nat) (a34 : Option Addr) (c34 : Nat) (a42 : Option Addr) (c42 : Nat) (w1 : World), Below W7.heap.size W7 w1 → Bytes w1 (.slice a27 Ld c27) (Vi.varint dd) → Bytes w1 (.slice a30 1 c30) [UInt8.ofNat nd.kind] → Bytes w1 (.slice a34 L1 c34) (layOf f1) → Bytes w1 (.slice a42 1 c42) [UInt8.ofNat nd.typ] → T 6 #[true, true, true, true, true, true, true, true, true, true, true, true, true, true, true, true, true, false, true, true, true, true, true, false, true, true, true, true, false, false, false, false] ((((A.put (some 27) (.slice a27 Ld c27)).put (some 30) (.slice a30 1 c30)).put (some 34) (.slice a34 L1 c34)).put (some 42) (.slice a42 1 c42)) w1 := by
          intro a27 c27 a30 c30 a34 c34 a42 c42 w1 hb f27 f30 f34 f42
          refine HT _ _ _ _ [17] (by rw [HR]; kernel_rfl) (by decide) ?_
          refine List.forall_mem_cons.2 ⟨?_, fun _ h => by cases h⟩
          · refine M17 _ _ _ (by rw [eval_put _ 42 38 _ (by decide), eval_put _ 34 38 _ (by decide), eval_put _ 30 38 _ (by decide), eval_put _ 27 38 _ (by decide)]; exact E38) (fun a39 c39 w2 hf hb2 => ⟨fun _ => HSB.out w2 (btr hb hb2), ?_⟩)
            rw [show (#[true, true, true, true, true, true, true, true, true, true, true, true, true, true, true, true, true, false, true, true, true, true, true, false, true, true, true, true, false, false, false, false] : Array Bool).setIfInBounds 17 true = #[true, true, true, true, true, true, true, true, true, true, true, true, true, true, true, true, true, true, true, true, true, true, true, false, true, true, true, true, false, false, false, false] from by kernel_rfl, put_swap _ 42 39 _ _ (by decide)]
            exact st5_8_12_17_20_ a27 c27 a30 c30 a34 c34 a39 c39 a42 c42 w2 (btr hb hb2) (f27.below hb2) (f30.below hb2) (f34.below hb2) hf (f42.below hb2)
        have st5_8_12_17_ : ∀ (a27 : Option Addr) (c27 : Nat) (a30 : Option Addr) (c30 : Nat) (a34 : Option Addr) (c34 : Nat) (a39 : Option Addr) (c39 : Nat) (w1 : World), Below W7.heap.size W7 w1 → Bytes w1 (.slice a27 Ld c27) (Vi.varint dd) → Bytes w1 (.slice a30 1 c30) [UInt8.ofNat nd.kind] → Bytes w1 (.slice a34 L1 c34) (layOf f1) → Bytes w1 (.slice a39 L2 c39) (layOf f2) → T 6 #[true, true, true, true, true, true, true, true, true, true, true, true, true, true, true, true, true, true, true, true, false, true, true, false, true, true, true, true, false, false, false, false] ((((A.put (some 27) (.slice a27 Ld c27)).put (some 30) (.slice a30 1 c30)).put (some 34) (.slice a34 L1 c34)).put (some 39) (.slice a39 L2 c39)) w1 := by
          intro a27 c27 a30 c30 a34 c34 a39 c39 w1 hb f27 f30 f34 f39
          refine HT _ _ _ _ [20, 23] (by rw [HR]; kernel_rfl) (by decide) ?_
          refine List.forall_mem_cons.2 ⟨?_, List.forall_mem_cons.2 ⟨?_, fun _ h => by cases h⟩⟩
          · refine M20 _ _ _ (by rw [eval_put _ 39 41 _ (by decide), eval_put _ 34 41 _ (by decide), eval_put _ 30 41 _ (by decide), eval_put _ 27 41 _ (by decide)]; exact E41) (fun a42 c42 w2 hf hb2 => ⟨fun _ => HSB.out w2 (btr hb hb2), ?_⟩)
            rw [show (#[true, true, true, true, true, true, true, true, true, true, true, true, true, true, true, true, true, true, true, true, false, true, true, false, true, true, true, true, false, false, false, false] : Array Bool).setIfInBounds 20 true = #[true, true, true, true, true, true, true, true, true, true, true, true, true, true, true, true, true, true, true, true, true, true, true, false, true, true, true, true, false, false, false, false] from by kernel_rfl]
            exact st5_8_12_17_20_ a27 c27 a30 c30 a34 c34 a39 c39 a42 c42 w2 (btr hb hb2) (f27.below hb2) (f30.below hb2) (f34.below hb2) (f39.below hb2) hf
          · refine M23 _ _ _ (by rw [eval_put _ 39 44 _ (by decide), eval_put _ 34 44 _ (by decide), eval_put _ 30 44 _ (by decide), eval_put _ 27 44 _ (by decide)]; exact E44) (fun a45 c45 w2 hf hb2 => ⟨fun _ => HSB.out w2 (btr hb hb2), ?_⟩)
            rw [show (#[true, true, true, true, true, true, true, true, true, true, true, true, true, true, true, true, true, true, true, true, false, true, true, false, true, true, true, true, false, false, false, false] : Array Bool).setIfInBounds 23 true = #[true, true, true, true, true, true, true, true, true, true, true, true, true, true, true, true, true, true, true, true, false, true, true, true, true, true, true, true, false, false, false, false] from by kernel_rfl]
            exact st5_8_12_17_23_ a27 c27 a30 c30 a34 c34 a39 c39 a45 c45 w2 (btr hb hb2) (f27.below hb2) (f30.below hb2) (f34.below hb2) (f39.below hb2) hf
        have st5_12_17_23_ : ∀ (a27 : Option Addr) (c27 : Nat) (a34 : Option Addr) (c34 : Nat) (a39 : Option Addr) (c39 : Nat) (a45 : Option Addr) (c45 : Nat) (w1 : World), Below W7.heap.size W7 w1 → Bytes w1 (.slice a27 Ld c27) (Vi.varint dd) → Bytes w1 (.slice a34 L1 c34) (layOf f1) → Bytes w1 (.slice a39 L2 c39) (layOf f2) → Bytes w1 (.slice a45 Lr c45) (Vi.varint nd.ref) → T 6 #[true, true, true, true, true, true, true, true, false, true, true, true, true, true, true, true, true, true, true, true, false, true, true, true, true, true, true, true, false, false, false, false] ((((A.put (some 27) (.slice a27 Ld c27)).put (some 34) (.slice a34 L1 c34)).put (some 39) (.slice a39 L2 c39)).put (some 45) (.slice a45 Lr c45)) w1 := by
          intro a27 c27 a34 c34 a39 c39 a45 c45 w1 hb f27 f34 f39 f45
          refine HT _ _ _ _ [8, 20, 28] (by rw [HR]; kernel_rfl) (by decide) ?_
          refine List.forall_mem_cons.2 ⟨?_, List.forall_mem_cons.2 ⟨?_, List.forall_mem_cons.2 ⟨?_, fun _ h => by cases h⟩⟩⟩
          · refine M8 _ _ _ (by rw [eval_put _ 45 29 _ (by decide), eval_put _ 39 29 _ (by decide), eval_put _ 34 29 _ (by decide), eval_put _ 27 29 _ (by decide)]; exact E29) (fun a30 c30 w2 hf hb2 => ⟨fun _ => HSB.out w2 (btr hb hb2), ?_⟩)
            rw [show (#[true, true, true, true, true, true, true, true, false, true, true, true, true, true, true, true, true, true, true, true, false, true, true, true, true, true, true, true, false, false, false, false] : Array Bool).setIfInBounds 8 true = #[true, true, true, true, true, true, true, true, true, true, true, true, true, true, true, true, true, true, true, true, false, true, true, true, true, true, true, true, false, false, false, false] from by kernel_rfl, put_swap _ 45 30 _ _ (by decide), put_swap _ 39 30 _ _ (by decide), put_swap _ 34 30 _ _ (by decide)]
            exact st5_8_12_17_23_ a27 c27 a30 c30 a34 c34 a39 c39 a45 c45 w2 (btr hb hb2) (f27.below hb2) hf (f34.below hb2) (f39.below hb2) (f45.below hb2)
          · refine M20 _ _ _ (by rw [eval_put _ 45 41 _ (by decide), eval_put _ 39 41 _ (by decide), eval_put _ 34 41 _ (by decide), eval_put _ 27 41 _ (by decide)]; exact E41) (fun a42 c42 w2 hf hb2 => ⟨fun _ => HSB.out w2 (btr hb hb2), ?_⟩)
            rw [show (#[true, true, true, true, true, true, true, true, false, true, true, true, true, true, true, true, true, true, true, true, false, true, true, true, true, true, true, true, false, false, false, false] : Array Bool).setIfInBounds 20 true = #[true, true, true, true, true, true, true, true, false, true, true, true, true, true, true, true, true, true, true, true, true, true, true, true, true, true, true, true, false, false, false, false] from by kernel_rfl, put_swap _ 45 42 _ _ (by decide)]
            exact st5_12_17_20_23_ a27 c27 a34 c34 a39 c39 a42 c42 a45 c45 w2 (btr hb hb2) (f27.below hb2) (f34.below hb2) (f39.below hb2) hf (f45.below hb2)
          · refine M28 _ _ _ (by rw [eval_put _ 45 49 _ (by decide), eval_put _ 39 49 _ (by decide), eval_put _ 34 49 _ (by decide), eval_put _ 27 49 _ (by decide)]; exact E49) (fun a50 c50 w2 hf hb2 => ⟨fun _ => HSB.out w2 (btr hb hb2), ?_⟩)
            rw [show (#[true, true, true, true, true, true, true, true, false, true, true, true, true, true, true, true, true, true, true, true, false, true, true, true, true, true, true, true, false, false, false, false] : Array Bool).setIfInBounds 28 true = #[true, true, true, true, true, true, true, true, false, true, true, true, true, true, true, true, true, true, true, true, false, true, true, true, true, true, true, true, true, false, false, false] from by kernel_rfl]
            exact st5_12_17_23_28_ a27 c27 a34 c34 a39 c39 a45 c45 a50 c50 w2 (btr hb hb2) (f27.below hb2) (f34.below hb2) (f39.below hb2) (f45.below hb2) hf
        have st5_8_12_ : ∀ (a27 : Option Addr) (c27 : Nat) (a30 : Option Addr) (c30 : Nat) (a34 : Option Addr) (c34 : Nat) (w1 : World), Below W7.heap.size W7 w1 → Bytes w1 (.slice a27 Ld c27) (Vi.varint dd) → Bytes w1 (.slice a30 1 c30) [UInt8.ofNat nd.kind] → Bytes w1 (.slice a34 L1 c34) (layOf f1) → T 7 #[true, true, true, true, true, true, true, true, true, true, true, true, true, true, true, true, true, false, true, true, false, true, true, false, true, true, true, true, false, false, false, false] (((A.put (some 27) (.slice a27 Ld c27)).put (some 30) (.slice a30 1 c30)).put (some 34) (.slice a34 L1 c34)) w1 := by
          intro a27 c27 a30 c30 a34 c34 w1 hb f27 f30 f34
          refine HT _ _ _ _ [17, 20] (by rw [HR]; kernel_rfl) (by decide) ?_
          refine List.forall_mem_cons.2 ⟨?_, List.forall_mem_cons.2 ⟨?_, fun _ h => by cases h⟩⟩
          · refine M17 _ _ _ (by rw [eval_put _ 34 38 _ (by decide), eval_put _ 30 38 _ (by decide), eval_put _ 27 38 _ (by decide)]; exact E38) (fun a39 c39 w2 hf hb2 => ⟨fun _ => HSB.out w2 (btr hb hb2), ?_⟩)
            rw [show (#[true, true, true, true, true, true, true, true, true, true, true, true, true, true, true, true, true, false, true, true, false, true, true, false, true, true, true, true, false, false, false, false] : Array Bool).setIfInBounds 17 true = #[true, true, true, true, true, true, true, true, true, true, true, true, true, true, true, true, true, true, true, true, false, true, true, false, true, true, true, true, false, false, false, false] from by kernel_rfl]
            exact st5_8_12_17_ a27 c27 a30 c30 a34 c34 a39 c39 w2 (btr hb hb2) (f27.below hb2) (f30.below hb2) (f34.below hb2) hf
          · refine M20 _ _ _ (by rw [eval_put _ 34 41 _ (by decide), eval_put _ 30 41 _ (by decide), eval_put _ 27 41 _ (by decide)]; exact E41) (fun a42 c42 w2 hf hb2 => ⟨fun _ => HSB.out w2 (btr hb hb2), ?_⟩)
            rw [show (#[true, true, true, true, true, true, true, true, true, true, true, true, true, true, true, true, true, false, true, true, false, true, true, false, true, true, true, true, false, false, false, false] : Array Bool).setIfInBounds 20 true = #[true, true, true, true, true, true, true, true, true, true, true, true, true, true, true, true, true, false, true, true, true, true, true, false, true, true, true, true, false, false, false, false] from by kernel_rfl]
            exact st5_8_12_20_ a27 c27 a30 c30 a34 c34 a42 c42 w2 (btr hb hb2) (f27.below hb2) (f30.below hb2) (f34.below hb2) hf
        have st5_8_20_ : ∀ (a27 : Option Addr) (c27 : Nat) (a30 : Option Addr) (c30 : Nat) (a42 : Option Addr) (c42 : Nat) (w1 : World), Below W7.heap.size W7 w1 → Bytes w1 (.slice a27 Ld c27) (Vi.varint dd) → Bytes w1 (.slice a30 1 c30) [UInt8.ofNat nd.kind] → Bytes w1 (.slice a42 1 c42) [UInt8.ofNat nd.typ] → T 7 #[true, true, true, true, true, true, true, true, true, true, true, true, false, true, true, true, true, false, true, true, true, true, true, false, true, true, true, true, false, false, false, false] (((A.put (some 27) (.slice a27 Ld c27)).put (some 30) (.slice a30 1 c30)).put (some 42) (.slice a42 1 c42)) w1 := by
          intro a27 c27 a30 c30 a42 c42 w1 hb f27 f30 f42
          refine HT _ _ _ _ [12] (by rw [HR]; kernel_rfl) (by decide) ?_
          refine List.forall_mem_cons.2 ⟨?_, fun _ h => by cases h⟩
          · refine M12 _ _ _ (by rw [eval_put _ 42 33 _ (by decide), eval_put _ 30 33 _ (by decide), eval_put _ 27 33 _ (by decide)]; exact E33) (fun a34 c34 w2 hf hb2 => ⟨fun _ => HSB.out w2 (btr hb hb2), ?_⟩)
            rw [show (#[true, true, true, true, true, true, true, true, true, true, true, true, false, true, true, true, true, false, true, true, true, true, true, false, true, true, true, true, false, false, false, false] : Array Bool).setIfInBounds 12 true = #[true, true, true, true, true, true, true, true, true, true, true, true, true, true, true, true, true, false, true, true, true, true, true, false, true, true, true, true, false, false, false, false] from by kernel_rfl, put_swap _ 42 34 _ _ (by decide)]
            exact st5_8_12_20_ a27 c27 a30 c30 a34 c34 a42 c42 w2 (btr hb hb2) (f27.below hb2) (f30.below hb2) hf (f42.below hb2)
        have st5_12_17_ : ∀ (a27 : Option Addr) (c27 : Nat) (a34 : Option Addr) (c34 : Nat) (a39 : Option Addr) (c39 : Nat) (w1 : World), Below W7.heap.size W7 w1 → Bytes w1 (.slice a27 Ld c27) (Vi.varint dd) → Bytes w1 (.slice a34 L1 c34) (layOf f1) → Bytes w1 (.slice a39 L2 c39) (layOf f2) → T 7 #[true, true, true, true, true, true, true, true, false, true, true, true, true, true, true, true, true, true, true, true, false, true, true, false, true, true, true, true, false, false, false, false] (((A.put (some 27) (.slice a27 Ld c27)).put (some 34) (.slice a34 L1 c34)).put (some 39) (.slice a39 L2 c39)) w1 := by
          intro a27 c27 a34 c34 a39 c39 w1 hb f27 f34 f39
          refine HT _ _ _ _ [8, 20, 23] (by rw [HR]; kernel_rfl) (by decide) ?_
          refine List.forall_mem_cons.2 ⟨?_, List.forall_mem_cons.2 ⟨?_, List.forall_mem_cons.2 ⟨?_, fun _ h => by cases h⟩⟩⟩
          · refine M8 _ _ _ (by rw [eval_put _ 39 29 _ (by decide), eval_put _ 34 29 _ (by decide), eval_put _ 27 29 _ (by decide)]; exact E29) (fun a30 c30 w2 hf hb2 => ⟨fun _ => HSB.out w2 (btr hb hb2), ?_⟩)
            rw [show (#[true, true, true, true, true, true, true, true, false, true, true, true, true, true, true, true, true, true, true, true, false, true, true, false, true, true, true, true, false, false, false, false] : Array Bool).setIfInBounds 8 true = #[true, true, true, true, true, true, true, true, true, true, true, true, true, true, true, true, true, true, true, true, false, true, true, false, true, true, true, true, false, false, false, false] from by kernel_rfl, put_swap _ 39 30 _ _ (by decide), put_swap _ 34 30 _ _ (by decide)]
            exact st5_8_12_17_ a27 c27 a30 c30 a34 c34 a39 c39 w2 (btr hb hb2) (f27.below hb2) hf (f34.below hb2) (f39.below hb2)
          · refine M20 _ _ _ (by rw [eval_put _ 39 41 _ (by decide), eval_put _ 34 41 _ (by decide), eval_put _ 27 41 _ (by decide)]; exact E41) (fun a42 c42 w2 hf hb2 => ⟨fun _ => HSB.out w2 (btr hb hb2), ?_⟩)
            rw [show (#[true, true, true, true, true, true, true, true, false, true, true, true, true, true, true, true, true, true, true, true, false, true, true, false, true, true, true, true, false, false, false, false] : Array Bool).setIfInBounds 20 true = #[true, true, true, true, true, true, true, true, false, true, true, true, true, true, true, true, true, true, true, true, true, true, true, false, true, true, true, true, false, false, false, false] from by kernel_rfl]
            exact st5_12_17_20_ a27 c27 a34 c34 a39 c39 a42 c42 w2 (btr hb hb2) (f27.below hb2) (f34.below hb2) (f39.below hb2) hf
          · refine M23 _ _ _ (by rw [eval_put _ 39 44 _ (by decide), eval_put _ 34 44 _ (by decide), eval_put _ 27 44 _ (by decide)]; exact E44) (fun a45 c45 w2 hf hb2 => ⟨fun _ => HSB.out w2 (btr hb hb2), ?_⟩)
            rw [show (#[true, true, true, true, true, true, true, true, false, true, true, true, true, true, true, true, true, true, true, true, false, true, true, false, true, true, true, true, false, false, false, false] : Array Bool).setIfInBounds 23 true = #[true, true, true, true, true, true, true, true, false, true, true, true, true, true, true, true, true, true, true, true, false, true, true, true, true, true, true, true, false, false, false, false] from by kernel_rfl]
            exact st5_12_17_23_ a27 c27 a34 c34 a39 c39 a45 c45 w2 (btr hb hb2) (f27.below hb2) (f34.below hb2) (f39.below hb2) hf
        have st5_12_20_ : ∀ (a27 : Option Addr) (c27 : Nat) (a34 : Option Addr) (c34 : Nat) (a42 : Option Addr) (c42 : Nat) (w1 : World), Below W7.heap.size W7 w1 → Bytes w1 (.slice a27 Ld c27) (Vi.varint dd) → Bytes w1 (.slice a34 L1 c34) (layOf f1) → Bytes w1 (.slice a42 1 c42) [UInt8.ofNat nd.typ] → T 7 #[true, true, true, true, true, true, true, true, false, true, true, true, true, true, true, true, true, false, true, true, true, true, true, false, true, true, true, true, false, false, false, false] (((A.put (some 27) (.slice a27 Ld c27)).put (some 34) (.slice a34 L1 c34)).put (some 42) (.slice a42 1 c42)) w1 := by
          intro a27 c27 a34 c34 a42 c42 w1 hb f27 f34 f42
          refine HT _ _ _ _ [8, 17] (by rw [HR]; kernel_rfl) (by decide) ?_
          refine List.forall_mem_cons.2 ⟨?_, List.forall_mem_cons.2 ⟨?_, fun _ h => by cases h⟩⟩
          · refine M8 _ _ _ (by rw [eval_put _ 42 29 _ (by decide), eval_put _ 34 29 _ (by decide), eval_put _ 27 29 _ (by decide)]; exact E29) (fun a30 c30 w2 hf hb2 => ⟨fun _ => HSB.out w2 (btr hb hb2), ?_⟩)
            rw [show (#[true, true, true, true, true, true, true, true, false, true, true, true, true, true, true, true, true, false, true, true, true, true, true, false, true, true, true, true, false, false, false, false] : Array Bool).setIfInBounds 8 true = #[true, true, true, true, true, true, true, true, true, true, true, true, true, true, true, true, true, false, true, true, true, true, true, false, true, true, true, true, false, false, false, false] from by kernel_rfl, put_swap _ 42 30 _ _ (by decide), put_swap _ 34 30 _ _ (by decide)]
            exact st5_8_12_20_ a27 c27 a30 c30 a34 c34 a42 c42 w2 (btr hb hb2) (f27.below hb2) hf (f34.below hb2) (f42.below hb2)
          · refine M17 _ _ _ (by rw [eval_put _ 42 38 _ (by decide), eval_put _ 34 38 _ (by decide), eval_put _ 27 38 _ (by decide)]; exact E38) (fun a39 c39 w2 hf hb2 => ⟨fun _ => HSB.out w2 (btr hb hb2), ?_⟩)
            rw [show (#[true, true, true, true, true, true, true, true, false, true, true, true, true, true, true, true, true, false, true, true, true, true, true, false, true, true, true, true, false, false, false, false] : Array Bool).setIfInBounds 17 true = #[true, true, true, true, true, true, true, true, false, true, true, true, true, true, true, true, true, true, true, true, true, true, true, false, true, true, true, true, false, false, false, false] from by kernel_rfl, put_swap _ 42 39 _ _ (by decide)]
            exact st5_12_17_20_ a27 c27 a34 c34 a39 c39 a42 c42 w2 (btr hb hb2) (f27.below hb2) (f34.below hb2) hf (f42.below hb2)
        have st8_20_ : ∀ (a30 : Option Addr) (c30 : Nat) (a42 : Option Addr) (c42 : Nat) (w1 : World), Below W7.heap.size W7 w1 → Bytes w1 (.slice a30 1 c30) [UInt8.ofNat nd.kind] → Bytes w1 (.slice a42 1 c42) [UInt8.ofNat nd.typ] → T 8 #[true, true, true, true, true, false, true, true, true, true, true, true, false, true, true, true, true, false, true, true, true, true, true, false, true, true, true, true, false, false, false, false] ((A.put (some 30) (.slice a30 1 c30)).put (some 42) (.slice a42 1 c42)) w1 := by
          intro a30 c30 a42 c42 w1 hb f30 f42
          refine HT _ _ _ _ [5] (by rw [HR]; kernel_rfl) (by decide) ?_
          refine List.forall_mem_cons.2 ⟨?_, fun _ h => by cases h⟩
          · refine M5 _ _ _ (by rw [eval_put _ 42 26 _ (by decide), eval_put _ 30 26 _ (by decide)]; exact E26) (fun a27 c27 w2 hf hb2 => ⟨fun _ => HSB.out w2 (btr hb hb2), ?_⟩)
            rw [show (#[true, true, true, true, true, false, true, true, true, true, true, true, false, true, true, true, true, false, true, true, true, true, true, false, true, true, true, true, false, false, false, false] : Array Bool).setIfInBounds 5 true = #[true, true, true, true, true, true, true, true, true, true, true, true, false, true, true, true, true, false, true, true, true, true, true, false, true, true, true, true, false, false, false, false] from by kernel_rfl, put_swap _ 42 27 _ _ (by decide), put_swap _ 30 27 _ _ (by decide)]
            exact st5_8_20_ a27 c27 a30 c30 a42 c42 w2 (btr hb hb2) hf (f30.below hb2) (f42.below hb2)
        have st5_8_ : ∀ (a27 : Option Addr) (c27 : Nat) (a30 : Option Addr) (c30 : Nat) (w1 : World), Below W7.heap.size W7 w1 → Bytes w1 (.slice a27 Ld c27) (Vi.varint dd) → Bytes w1 (.slice a30 1 c30) [UInt8.ofNat nd.kind] → T 8 #[true, true, true, true, true, true, true, true, true, true, true, true, false, true, true, true, true, false, true, true, false, true, true, false, true, true, true, true, false, false, false, false] ((A.put (some 27) (.slice a27 Ld c27)).put (some 30) (.slice a30 1 c30)) w1 := by
          intro a27 c27 a30 c30 w1 hb f27 f30
          refine HT _ _ _ _ [12, 20] (by rw [HR]; kernel_rfl) (by decide) ?_
          refine List.forall_mem_cons.2 ⟨?_, List.forall_mem_cons.2 ⟨?_, fun _ h => by cases h⟩⟩
          · refine M12 _ _ _ (by rw [eval_put _ 30 33 _ (by decide), eval_put _ 27 33 _ (by decide)]; exact E33) (fun a34 c34 w2 hf hb2 => ⟨fun _ => HSB.out w2 (btr hb hb2), ?_⟩)
            rw [show (#[true, true, true, true, true, true, true, true, true, true, true, true, false, true, true, true, true, false, true, true, false, true, true, false, true, true, true, true, false, false, false, false] : Array Bool).setIfInBounds 12 true = #[true, true, true, true, true, true, true, true, true, true, true, true, true, true, true, true, true, false, true, true, false, true, true, false, true, true, true, true, false, false, false, false] from by kernel_rfl]
            exact st5_8_12_ a27 c27 a30 c30 a34 c34 w2 (btr hb hb2) (f27.below hb2) (f30.below hb2) hf
          · refine M20 _ _ _ (by rw [eval_put _ 30 41 _ (by decide), eval_put _ 27 41 _ (by decide)]; exact E41) (fun a42 c42 w2 hf hb2 => ⟨fun _ => HSB.out w2 (btr hb hb2), ?_⟩)
            rw [show (#[true, true, true, true, true, true, true, true, true, true, true, true, false, true, true, true, true, false, true, true, false, true, true, false, true, true, true, true, false, false, false, false] : Array Bool).setIfInBounds 20 true = #[true, true, true, true, true, true, true, true, true, true, true, true, false, true, true, true, true, false, true, true, true, true, true, false, true, true, true, true, false, false, false, false] from by kernel_rfl]
            exact st5_8_20_ a27 c27 a30 c30 a42 c42 w2 (btr hb hb2) (f27.below hb2) (f30.below hb2) hf
        have st5_12_ : ∀ (a27 : Option Addr) (c27 : Nat) (a34 : Option Addr) (c34 : Nat) (w1 : World), Below W7.heap.size W7 w1 → Bytes w1 (.slice a27 Ld c27) (Vi.varint dd) → Bytes w1 (.slice a34 L1 c34) (layOf f1) → T 8 #[true, true, true, true, true, true, true, true, false, true, true, true, true, true, true, true, true, false, true, true, false, true, true, false, true, true, true, true, false, false, false, false] ((A.put (some 27) (.slice a27 Ld c27)).put (some 34) (.slice a34 L1 c34)) w1 := by
          intro a27 c27 a34 c34 w1 hb f27 f34
          refine HT _ _ _ _ [8, 17, 20] (by rw [HR]; kernel_rfl) (by decide) ?_
          refine List.forall_mem_cons.2 ⟨?_, List.forall_mem_cons.2 ⟨?_, List.forall_mem_cons.2 ⟨?_, fun _ h => by cases h⟩⟩⟩
          · refine M8 _ _ _ (by rw [eval_put _ 34 29 _ (by decide), eval_put _ 27 29 _ (by decide)]; exact E29) (fun a30 c30 w2 hf hb2 => ⟨fun _ => HSB.out w2 (btr hb hb2), ?_⟩)
            rw [show (#[true, true, true, true, true, true, true, true, false, true, true, true, true, true, true, true, true, false, true, true, false, true, true, false, true, true, true, true, false, false, false, false] : Array Bool).setIfInBounds 8 true = #[true, true, true, true, true, true, true, true, true, true, true, true, true, true, true, true, true, false, true, true, false, true, true, false, true, true, true, true, false, false, false, false] from by kernel_rfl, put_swap _ 34 30 _ _ (by decide)]
            exact st5_8_12_ a27 c27 a30 c30 a34 c34 w2 (btr hb hb2) (f27.below hb2) hf (f34.below hb2)
          · refine M17 _ _ _ (by rw [eval_put _ 34 38 _ (by decide), eval_put _ 27 38 _ (by decide)]; exact E38) (fun a39 c39 w2 hf hb2 => ⟨fun _ => HSB.out w2 (btr hb hb2), ?_⟩)
            rw [show (#[true, true, true, true, true, true, true, true, false, true, true, true, true, true, true, true, true, false, true, true, false, true, true, false, true, true, true, true, false, false, false, false] : Array Bool).setIfInBounds 17 true = #[true, true, true, true, true, true, true, true, false, true, true, true, true, true, true, true, true, true, true, true, false, true, true, false, true, true, true, true, false, false, false, false] from by kernel_rfl]
            exact st5_12_17_ a27 c27 a34 c34 a39 c39 w2 (btr hb hb2) (f27.below hb2) (f34.below hb2) hf
          · refine M20 _ _ _ (by rw [eval_put _ 34 41 _ (by decide), eval_put _ 27 41 _ (by decide)]; exact E41) (fun a42 c42 w2 hf hb2 => ⟨fun _ => HSB.out w2 (btr hb hb2), ?_⟩)
            rw [show (#[true, true, true, true, true, true, true, true, false, true, true, true, true, true, true, true, true, false, true, true, false, true, true, false, true, true, true, true, false, false, false, false] : Array Bool).setIfInBounds 20 true = #[true, true, true, true, true, true, true, true, false, true, true, true, true, true, true, true, true, false, true, true, true, true, true, false, true, true, true, true, false, false, false, false] from by kernel_rfl]
            exact st5_12_20_ a27 c27 a34 c34 a42 c42 w2 (btr hb hb2) (f27.below hb2) (f34.below hb2) hf
        have st5_20_ : ∀ (a27 : Option Addr) (c27 : Nat) (a42 : Option Addr) (c42 : Nat) (w1 : World), Below W7.heap.size W7 w1 → Bytes w1 (.slice a27 Ld c27) (Vi.varint dd) → Bytes w1 (.slice a42 1 c42) [UInt8.ofNat nd.typ] → T 8 #[true, true, true, true, true, true, true, true, false, true, true, true, false, true, true, true, true, false, true, true, true, true, true, false, true, true, true, true, false, false, false, false] ((A.put (some 27) (.slice a27 Ld c27)).put (some 42) (.slice a42 1 c42)) w1 := by
          intro a27 c27 a42 c42 w1 hb f27 f42
          refine HT _ _ _ _ [8, 12] (by rw [HR]; kernel_rfl) (by decide) ?_
          refine List.forall_mem_cons.2 ⟨?_, List.forall_mem_cons.2 ⟨?_, fun _ h => by cases h⟩⟩
          · refine M8 _ _ _ (by rw [eval_put _ 42 29 _ (by decide), eval_put _ 27 29 _ (by decide)]; exact E29) (fun a30 c30 w2 hf hb2 => ⟨fun _ => HSB.out w2 (btr hb hb2), ?_⟩)
            rw [show (#[true, true, true, true, true, true, true, true, false, true, true, true, false, true, true, true, true, false, true, true, true, true, true, false, true, true, true, true, false, false, false, false] : Array Bool).setIfInBounds 8 true = #[true, true, true, true, true, true, true, true, true, true, true, true, false, true, true, true, true, false, true, true, true, true, true, false, true, true, true, true, false, false, false, false] from by kernel_rfl, put_swap _ 42 30 _ _ (by decide)]
            exact st5_8_20_ a27 c27 a30 c30 a42 c42 w2 (btr hb hb2) (f27.below hb2) hf (f42.below hb2)
          · refine M12 _ _ _ (by rw [eval_put _ 42 33 _ (by decide), eval_put _ 27 33 _ (by decide)]; exact E33) (fun a34 c34 w2 hf hb2 => ⟨fun _ => HSB.out w2 (btr hb hb2), ?_⟩)
            rw [show (#[true, true, true, true, true, true, true, true, false, true, true, true, false, true, true, true, true, false, true, true, true, true, true, false, true, true, true, true, false, false, false, false] : Array Bool).setIfInBounds 12 true = #[true, true, true, true, true, true, true, true, false, true, true, true, true, true, true, true, true, false, true, true, true, true, true, false, true, true, true, true, false, false, false, false] from by kernel_rfl, put_swap _ 42 34 _ _ (by decide)]
            exact st5_12_20_ a27 c27 a34 c34 a42 c42 w2 (btr hb hb2) (f27.below hb2) hf (f42.below hb2)
        have st8_ : ∀ (a30 : Option Addr) (c30 : Nat) (w1 : World), Below W7.heap.size W7 w1 → Bytes w1 (.slice a30 1 c30) [UInt8.ofNat nd.kind] → T 9 #[true, true, true, true, true, false, true, true, true, true, true, true, false, true, true, true, true, false, true, true, false, true, true, false, true, true, true, true, false, false, false, false] (A.put (some 30) (.slice a30 1 c30)) w1 := by
          intro a30 c30 w1 hb f30
          refine HT _ _ _ _ [5, 20] (by rw [HR]; kernel_rfl) (by decide) ?_
          refine List.forall_mem_cons.2 ⟨?_, List.forall_mem_cons.2 ⟨?_, fun _ h => by cases h⟩⟩
          · refine M5 _ _ _ (by rw [eval_put _ 30 26 _ (by decide)]; exact E26) (fun a27 c27 w2 hf hb2 => ⟨fun _ => HSB.out w2 (btr hb hb2), ?_⟩)
            rw [show (#[true, true, true, true, true, false, true, true, true, true, true, true, false, true, true, true, true, false, true, true, false, true, true, false, true, true, true, true, false, false, false, false] : Array Bool).setIfInBounds 5 true = #[true, true, true, true, true, true, true, true, true, true, true, true, false, true, true, true, true, false, true, true, false, true, true, false, true, true, true, true, false, false, false, false] from by kernel_rfl, put_swap _ 30 27 _ _ (by decide)]
            exact st5_8_ a27 c27 a30 c30 w2 (btr hb hb2) hf (f30.below hb2)
          · refine M20 _ _ _ (by rw [eval_put _ 30 41 _ (by decide)]; exact E41) (fun a42 c42 w2 hf hb2 => ⟨fun _ => HSB.out w2 (btr hb hb2), ?_⟩)
            rw [show (#[true, true, true, true, true, false, true, true, true, true, true, true, false, true, true, true, true, false, true, true, false, true, true, false, true, true, true, true, false, false, false, false] : Array Bool).setIfInBounds 20 true = #[true, true, true, true, true, false, true, true, true, true, true, true, false, true, true, true, true, false, true, true, true, true, true, false, true, true, true, true, false, false, false, false] from by kernel_rfl]
            exact st8_20_ a30 c30 a42 c42 w2 (btr hb hb2) (f30.below hb2) hf
        have st5_ : ∀ (a27 : Option Addr) (c27 : Nat) (w1 : World), Below W7.heap.size W7 w1 → Bytes w1 (.slice a27 Ld c27) (Vi.varint dd) → T 9 #[true, true, true, true, true, true, true, true, false, true, true, true, false, true, true, true, true, false, true, true, false, true, true, false, true, true, true, true, false, false, false, false] (A.put (some 27) (.slice a27 Ld c27)) w1 := by
          intro a27 c27 w1 hb f27
          refine HT _ _ _ _ [8, 12, 20] (by rw [HR]; kernel_rfl) (by decide) ?_
          refine List.forall_mem_cons.2 ⟨?_, List.forall_mem_cons.2 ⟨?_, List.forall_mem_cons.2 ⟨?_, fun _ h => by cases h⟩⟩⟩
          · refine M8 _ _ _ (by rw [eval_put _ 27 29 _ (by decide)]; exact E29) (fun a30 c30 w2 hf hb2 => ⟨fun _ => HSB.out w2 (btr hb hb2), ?_⟩)
            rw [show (#[true, true, true, true, true, true, true, true, false, true, true, true, false, true, true, true, true, false, true, true, false, true, true, false, true, true, true, true, false, false, false, false] : Array Bool).setIfInBounds 8 true = #[true, true, true, true, true, true, true, true, true, true, true, true, false, true, true, true, true, false, true, true, false, true, true, false, true, true, true, true, false, false, false, false] from by kernel_rfl]
            exact st5_8_ a27 c27 a30 c30 w2 (btr hb hb2) (f27.below hb2) hf
          · refine M12 _ _ _ (by rw [eval_put _ 27 33 _ (by decide)]; exact E33) (fun a34 c34 w2 hf hb2 => ⟨fun _ => HSB.out w2 (btr hb hb2), ?_⟩)
            rw [show (#[true, true, true, true, true, true, true, true, false, true, true, true, false, true, true, true, true, false, true, true, false, true, true, false, true, true, true, true, false, false, false, false] : Array Bool).setIfInBounds 12 true = #[true, true, true, true, true, true, true, true, false, true, true, true, true, true, true, true, true, false, true, true, false, true, true, false, true, true, true, true, false, false, false, false] from by kernel_rfl]
            exact st5_12_ a27 c27 a34 c34 w2 (btr hb hb2) (f27.below hb2) hf
          · refine M20 _ _ _ (by rw [eval_put _ 27 41 _ (by decide)]; exact E41) (fun a42 c42 w2 hf hb2 => ⟨fun _ => HSB.out w2 (btr hb hb2), ?_⟩)
            rw [show (#[true, true, true, true, true, true, true, true, false, true, true, true, false, true, true, true, true, false, true, true, false, true, true, false, true, true, true, true, false, false, false, false] : Array Bool).setIfInBounds 20 true = #[true, true, true, true, true, true, true, true, false, true, true, true, false, true, true, true, true, false, true, true, true, true, true, false, true, true, true, true, false, false, false, false] from by kernel_rfl]
            exact st5_20_ a27 c27 a42 c42 w2 (btr hb hb2) (f27.below hb2) hf
        have st20_ : ∀ (a42 : Option Addr) (c42 : Nat) (w1 : World), Below W7.heap.size W7 w1 → Bytes w1 (.slice a42 1 c42) [UInt8.ofNat nd.typ] → T 9 #[true, true, true, true, true, false, true, true, false, true, true, true, false, true, true, true, true, false, true, true, true, true, true, false, true, true, true, true, false, false, false, false] (A.put (some 42) (.slice a42 1 c42)) w1 := by
          intro a42 c42 w1 hb f42
          refine HT _ _ _ _ [5, 8] (by rw [HR]; kernel_rfl) (by decide) ?_
          refine List.forall_mem_cons.2 ⟨?_, List.forall_mem_cons.2 ⟨?_, fun _ h => by cases h⟩⟩
          · refine M5 _ _ _ (by rw [eval_put _ 42 26 _ (by decide)]; exact E26) (fun a27 c27 w2 hf hb2 => ⟨fun _ => HSB.out w2 (btr hb hb2), ?_⟩)
            rw [show (#[true, true, true, true, true, false, true, true, false, true, true, true, false, true, true, true, true, false, true, true, true, true, true, false, true, true, true, true, false, false, false, false] : Array Bool).setIfInBounds 5 true = #[true, true, true, true, true, true, true, true, false, true, true, true, false, true, true, true, true, false, true, true, true, true, true, false, true, true, true, true, false, false, false, false] from by kernel_rfl, put_swap _ 42 27 _ _ (by decide)]
            exact st5_20_ a27 c27 a42 c42 w2 (btr hb hb2) hf (f42.below hb2)
          · refine M8 _ _ _ (by rw [eval_put _ 42 29 _ (by decide)]; exact E29) (fun a30 c30 w2 hf hb2 => ⟨fun _ => HSB.out w2 (btr hb hb2), ?_⟩)
            rw [show (#[true, true, true, true, true, false, true, true, false, true, true, true, false, true, true, true, true, false, true, true, true, true, true, false, true, true, true, true, false, false, false, false] : Array Bool).setIfInBounds 8 true = #[true, true, true, true, true, false, true, true, true, true, true, true, false, true, true, true, true, false, true, true, true, true, true, false, true, true, true, true, false, false, false, false] from by kernel_rfl, put_swap _ 42 30 _ _ (by decide)]
            exact st8_20_ a30 c30 a42 c42 w2 (btr hb hb2) hf (f42.below hb2)
        have st : ∀  (w1 : World), Below W7.heap.size W7 w1 → T 10 #[true, true, true, true, true, false, true, true, false, true, true, true, false, true, true, true, true, false, true, true, false, true, true, false, true, true, true, true, false, false, false, false] A w1 := by
          intro  w1 hb 
          refine HT _ _ _ _ [5, 8, 20] (by rw [HR]; kernel_rfl) (by decide) ?_
          refine List.forall_mem_cons.2 ⟨?_, List.forall_mem_cons.2 ⟨?_, List.forall_mem_cons.2 ⟨?_, fun _ h => by cases h⟩⟩⟩
          · refine M5 _ _ _ (by exact E26) (fun a27 c27 w2 hf hb2 => ⟨fun _ => HSB.out w2 (btr hb hb2), ?_⟩)
            rw [show (#[true, true, true, true, true, false, true, true, false, true, true, true, false, true, true, true, true, false, true, true, false, true, true, false, true, true, true, true, false, false, false, false] : Array Bool).setIfInBounds 5 true = #[true, true, true, true, true, true, true, true, false, true, true, true, false, true, true, true, true, false, true, true, false, true, true, false, true, true, true, true, false, false, false, false] from by kernel_rfl]
            exact st5_ a27 c27 w2 (btr hb hb2) hf
          · refine M8 _ _ _ (by exact E29) (fun a30 c30 w2 hf hb2 => ⟨fun _ => HSB.out w2 (btr hb hb2), ?_⟩)
            rw [show (#[true, true, true, true, true, false, true, true, false, true, true, true, false, true, true, true, true, false, true, true, false, true, true, false, true, true, true, true, false, false, false, false] : Array Bool).setIfInBounds 8 true = #[true, true, true, true, true, false, true, true, true, true, true, true, false, true, true, true, true, false, true, true, false, true, true, false, true, true, true, true, false, false, false, false] from by kernel_rfl]
            exact st8_ a30 c30 w2 (btr hb hb2) hf
          · refine M20 _ _ _ (by exact E41) (fun a42 c42 w2 hf hb2 => ⟨fun _ => HSB.out w2 (btr hb hb2), ?_⟩)
            rw [show (#[true, true, true, true, true, false, true, true, false, true, true, true, false, true, true, true, true, false, true, true, false, true, true, false, true, true, true, true, false, false, false, false] : Array Bool).setIfInBounds 20 true = #[true, true, true, true, true, false, true, true, false, true, true, true, false, true, true, true, true, false, true, true, true, true, true, false, true, true, true, true, false, false, false, false] from by kernel_rfl]
            exact st20_ a42 c42 w2 (btr hb hb2) hf
        exact st _ (bdr (bre W7))
      case rest =>
        rename World => w8
        obtain ⟨ho8, hb8⟩ := hcut
        obtain ⟨P, hP⟩ : ∃ P, P = [M, Vi.varint dd, [UInt8.ofNat nd.kind], layOf f1, layOf f2, [UInt8.ofNat nd.typ], Vi.varint nd.ref, Vi.varint KL].flatten := ⟨_, rfl⟩
        rw [← hP] at ho8
        have hPl : P.length ≤ 100001000 := by rw [hP]; exact HQL.out
        have HP := Lib.hid hP
        have HO8 : Hid (Own8 5 w.heap.size w8 u3 (P ++ layKids (nd.kids.take 0))) := Lib.hid (by rw [List.take_zero]; show Own8 _ _ _ _ (_ ++ []); rw [List.append_nil]; exact ho8)
        have HB8 := Lib.hid (btr HBW.out hb8)
        have HK8 := Lib.hid (HK7.out.below hb8)
        have HR68 := Lib.hid (HR67.out.below hb8)
        have hr8 := HR7.out.below hb8
        have y5 := hr8.c5
        clear hr8 ho8 hb8 hP HK7 HR67 HR7 HPB HP7 HBW HSB HQL
        obtain ⟨p8, n8, c8, rfl⟩ := Own8.isSlice HO8.out
        go_wp2_with fail
        go_loopw [3, 9, 56] (fun pv _ i ws => ∃ j : Nat, j ≤ KL ∧ i = .int .i64 j ∧ Hid (Own8 5 w.heap.size ws pv (P ++ layKids (nd.kids.take j))) ∧ Hid (Below w.heap.size w ws) ∧ Hid (OwnIds 0 ws (.slice ka KL kc) nd.kids) ∧ Hid (Row7 ws n6 (pk, nd) (.slice ka KL kc))) (fun _ _ i _ => KL - (intOf i).toNat)
        case atStart => exact ⟨0, by omega, rfl, HO8, HB8, HK8, HR68⟩
        case round =>
          clear HO8 HB8 HK8 HR68 y5
          obtain ⟨j, hj, rfl, hpv, hbl, hkd, hrow⟩ := hrel
          obtain ⟨pa, PL, pc, rfl⟩ := Own8.isSlice hpv.out
          by_cases hjl : j < KL
          · have d1 : decide ((j : Int) < (KL : Int)) = true := decide_eq_true (by omega)
            have d1n : decide (j < KL) = true := decide_eq_true hjl
            obtain ⟨y, hy⟩ : ∃ y, nd.kids[j]? = some y := ⟨_, List.getElem?_eq_getElem (by rw [← HKL.out]; exact hjl)⟩
            obtain ⟨gk, rfl⟩ : ∃ gk, ka = some ⟨gk, 0, none⟩ := by
              obtain ⟨-, h2 | ⟨q, cap, cur, e2, -⟩⟩ := hkd.out
              · exact absurd h2.2 (by have := HKL.out; omega)
              · injection e2 with e2; exact ⟨q, e2⟩
            have cy := (hkd.out.cell hy).1
            have j1 : (0 : Int) ≤ (j : Int) := by omega
            have j2 : (j : Int) < (KL : Int) := by omega
            have j4 : IntKind.i64.wrap (j : Int) = (j : Int) := by rw [IntKind.wrap_i64]; omega
            have hy64 := HFIT.out.ids y (List.mem_of_getElem? hy)
            have HY := Lib.hid hy
            have hjk := layKids_max (nd.kids.take j)
            have hjk2 : (P ++ layKids (nd.kids.take j)).length ≤ 110001000 := by
              rw [List.length_append]
              rw [List.length_take] at hjk
              omega
            have hyu : IntKind.u64.wrap (y : Int) = (y : Int) := by rw [IntKind.wrap_u64]; omega
            have HPV := Lib.hid hpv.out
            have HBL := Lib.hid hbl.out
            have HKD := Lib.hid hkd.out
            have HROW := Lib.hid hrow.out
            clear hy hpv hbl hkd hrow hjk
            go_wp2_with fail
            refine (refnum_any y _ hy64).mono ?_
            rintro e w20 ⟨v20, rfl, ho20, hb20⟩
            have hvy := (Vi.varint_length y).2
            have HP20 : Hid (Own8 5 w.heap.size w20 (.slice pa PL pc) (P ++ layKids (nd.kids.take j))) := Lib.hid (own_only HPV.out (Only.of_below hb20 fun _ => False) fun _ _ h => h)
            have HB20 := Lib.hid (btr HBL.out hb20)
            have HK20 := Lib.hid (HKD.out.below hb20)
            have HR20 := Lib.hid (HROW.out.below hb20)
            have HY20 := Lib.hid ho20.bytes
            obtain ⟨a20, n20, c20, rfl⟩ := Own8.isSlice ho20
            clear ho20 hb20 cy HPV HBL HKD HROW
            go_wp2_with (at_builtin; refine wpList_app8 rfl _ _ 55 5 row8 rfl w.heap.size _ (P ++ layKids (nd.kids.take j)) rfl HP20.out _ (Vi.varint y) rfl HY20.out (by omega) HB20.out.size ?_; intro v21 w21 ho21 hg21 hb21)
            rw [List.append_assoc, ← layKids_app, show nd.kids.take j ++ [y] = nd.kids.take (j + 1) by rw [List.take_add_one, HY.out]; rfl] at ho21
            have hn8 : ∀ q, (Value.slice pa PL pc).ownBlock = some q → ∃ cur, w20.heap[q]? = some (.cells cur 5 (0, 0)) := fun q hq => own8_block HP20.out hq
            have HO21 := Lib.hid ho21
            have HB21 := Lib.hid (HB20.out.trans hb21)
            have HK21 := Lib.hid (HK20.out.only (Only.of_grown hg21) fun q hq cs fr e => by obtain ⟨cur, hc⟩ := hn8 q hq; rw [hc] at e; cases e)
            have HR21 : Hid (Row7 w21 n6 (pk, nd) (.slice (some ⟨gk, 0, none⟩) KL kc)) := Lib.hid (HR20.out.kept hg21 fun q hq e => by
              obtain ⟨cur, hc⟩ := hn8 q hq
              subst e
              have h1 : w20.heap[q]? = _ := HR20.out
              rw [hc] at h1
              cases h1)
            clear ho21 hg21 hb21 hn8 HP20 HB20 HK20 HR20 HY20
            go_roundw
            case rel => first | exact ⟨j + 1, by omega, by go_num, HO21, HB21, HK21, HR21⟩ | ((repeat apply Exists.intro); exact ⟨⟨j + 1, by omega, by go_num, HO21, HB21, HK21, HR21⟩, rfl⟩)
            case measure => (simp [intOf]; try omega)
          · have d1 : decide ((j : Int) < (KL : Int)) = false := decide_eq_false (by omega)
            have d1n : decide (j < KL) = false := decide_eq_false hjl
            have hjK : j = KL := by omega
            have HO9 : Hid (Own8 5 w.heap.size wr (.slice pa PL pc) (Vi.varint L ++ layNds 0 (l.take (k + 1)))) := Lib.hid (by
              have h1 := hpv.out
              rw [hjK, HKL.out, List.take_length, HP.out, HF1L.out, HF2L.out, HM.out, HKL.out] at h1
              rw [HTK.out, layNds_app]
              have e : Vi.varint L ++ (layNds 0 (l.take k) ++ layNds (lastO 0 (l.take k)) [(pk, nd)]) = [Vi.varint L ++ layNds 0 (l.take k), Vi.varint dd, [UInt8.ofNat nd.kind], Vi.varint nd.name.size ++ nd.name.data.toList, Vi.varint (zig nd.num), [UInt8.ofNat nd.typ], Vi.varint nd.ref, Vi.varint nd.kids.length].flatten ++ layKids nd.kids := by
                rw [← HLW.out]
                show _ ++ (_ ++ (layNd lw (pk, nd) ++ [])) = _
                rw [layNd_eq]
                unfold layRest
                rw [HDD.out]
                simp only [List.flatten_cons, List.flatten_nil, List.append_assoc, List.append_nil, List.cons_append, List.nil_append]
              rw [e]
              exact h1)
            have HLA2 : Hid (lastO 0 (l.take (k + 1)) = pk) := Lib.hid (by rw [HTK.out, lastO_app])
            have HB9 := hbl
            obtain ⟨q0, -⟩ := hrow.out.cells
            clear hjK hpv hjl hbl hkd hrow
            go_wp2_with fail
            go_roundw
            case rel => first | exact ⟨k + 1, by omega, by go_num, by rw [HLA2.out], HO9, HB9⟩ | ((repeat apply Exists.intro); exact ⟨⟨k + 1, by omega, by go_num, by rw [HLA2.out], HO9, HB9⟩, rfl⟩)
            case measure => (simp [intOf]; try omega)
    · have d1 : decide ((k : Int) < (L : Int)) = false := decide_eq_false (by omega)
      have d1n : decide (k < L) = false := decide_eq_false hlt
      have HF2 : Hid (M = layAr l) := Lib.hid (by rw [HM.out, HL.out, List.take_of_length_le (by rw [← HL.out]; omega)]; rfl)
      have HPV := hpv
      have HBL := hbl
      clear hpv hbl
      go_wp2_with fail
      go_ret
      exact ⟨_, rfl, by rw [← HF2.out]; exact HPV.out, HBL.out⟩
end Go.Proofs.Ytnbncjebmlicgaa
