/- Walk: an arena's bytes. -/
import Derived.Test.YtnbncjebmlicgaaArFormsP
import Derived.Test.YtnbncjebmlicgaaSrtIds
namespace Go.Proofs.Ytnbncjebmlicgaa
open Go.RowKit

def lastO (last : Nat) (l : List (Nat × Nd)) : Nat := l.foldl (fun _ p => p.1) last
theorem layNds_app : ∀ (a c : List (Nat × Nd)) (last : Nat), layNds last (a ++ c) = layNds last a ++ layNds (lastO last a) c
  | [], _, _ => rfl
  | p :: a, c, last => by
    show layNd last p ++ layNds p.1 (a ++ c) = (layNd last p ++ layNds p.1 a) ++ layNds (lastO p.1 a) c
    rw [layNds_app a c p.1, List.append_assoc]
theorem lastO_app (last : Nat) (a : List (Nat × Nd)) (p : Nat × Nd) : lastO last (a ++ [p]) = p.1 := by unfold lastO; rw [List.foldl_append]; rfl
theorem ascFrom_app : ∀ (a : List (Nat × Nd)) (p : Nat × Nd) (c : List (Nat × Nd)) (last : Nat), AscFrom last (a ++ p :: c) → lastO last a < p.1 ∧ p.1 < 18446744073709551616 ∧ p.2.Fit
  | [], _, _, _, h => ⟨h.1, h.2.1, h.2.2.1⟩
  | q :: a, p, c, _, h => ascFrom_app a p c q.1 h.2.2.2
theorem layKids_app (l : List Nat) (x : Nat) : layKids (l ++ [x]) = layKids l ++ Vi.varint x := by unfold layKids; simp
theorem layKids_max (l : List Nat) : (layKids l).length ≤ l.length * 10 := by
  unfold layKids
  induction l with
  | nil => exact Nat.le_refl _
  | cons x l ih =>
    rw [List.flatMap_cons, List.length_append, List.length_cons]
    have := (Vi.varint_length x).2
    omega

theorem WriterAt.kinds {base : Nat} {w : World} {g : Nat} {l : List UInt8} (h : WriterAt base w g l) {k : Nat} (hk : k = g ∨ slotBlock w g = some k) : ∃ cs fr, w.heap[k]? = some (.cells cs 91 fr) ∨ w.heap[k]? = some (.cells cs 5 fr) := by
  obtain ⟨v, hg, ho⟩ := h
  rcases hk with rfl | hk
  · exact ⟨_, _, .inl hg⟩
  · rw [slotBlock_at hg] at hk
    obtain ⟨cur, hc⟩ := own8_block ho hk
    exact ⟨_, _, .inr hc⟩
theorem WriterAt.low {base : Nat} {w : World} {g : Nat} {l : List UInt8} (h : WriterAt base w g l) (hb : base ≤ g) {k : Nat} (hk : k = g ∨ slotBlock w g = some k) : base ≤ k := by
  obtain ⟨v, hg, ho⟩ := h
  rcases hk with rfl | hk
  · exact hb
  · rw [slotBlock_at hg] at hk
    obtain ⟨h1, h2 | ⟨g', cap, cur, e, hb, -⟩⟩ := ho
    · rw [h2.1] at hk; cases hk
    · rw [e] at hk
      have e3 : g' = k := by simpa [Value.ownBlock] using hk
      omega
section
variable {base : Nat} {w w' : World} {g3 : Nat} {m : List UInt8}
theorem grew_ids (hw : WriterAt base w g3 m) (hg : Grew w w' g3) {B : Nat} {v : Value} {l : List Nat} (h : OwnIds B w v l) : OwnIds B w' v l :=
  h.only hg.only fun k hk cs fr e => by
    obtain ⟨cs', fr', h1 | h1⟩ := hw.kinds hk <;> rw [h1] at e <;> cases e
theorem grew_row6 (hw : WriterAt base w g3 m) (hg : Grew w w' g3) {q : Nat} {n : Nd} {kv : Value} (h : Row6 w q n kv) : Row6 w' q n kv :=
  h.only hg.only fun hk => by
    have h0 : w.heap[q]? = _ := h
    obtain ⟨cs', fr', h1 | h1⟩ := hw.kinds hk <;> rw [h1] at h0 <;> cases h0
theorem grew_ar (hw : WriterAt base w g3 m) (hg : Grew w w' g3) {g b : Nat} {l : List (Nat × Nd)} (h : ArAt w g b l) : ArAt w' g b l := by
  refine h.only hg.only (fun hk => ?_) (fun hk => ?_) (fun k hk cs fr e => ?_)
  · have h0 := h.box
    obtain ⟨cs', fr', h1 | h1⟩ := hw.kinds hk <;> rw [h1] at h0 <;> cases h0
  · obtain ⟨vl, h2, -⟩ := h.ex
    obtain ⟨es, c, h0⟩ := h2.isMap
    obtain ⟨cs', fr', h1 | h1⟩ := hw.kinds hk <;> rw [h1] at h0 <;> cases h0
  · obtain ⟨cs', fr', h1 | h1⟩ := hw.kinds hk <;> rw [h1] at e <;> cases e
end
/-- what the walk of Bytes holds -/
structure ByS (w : World) (g b g3 : Nat) (l : List (Nat × Nd)) (iv : Value) (m : List UInt8) (A : World) : Prop where
  ar : ArAt A g b l
  ids : OwnIds 0 A iv (l.map (·.1))
  wt : WriterAt w.heap.size A g3 m
  bel : Below w.heap.size w A
  lo : w.heap.size ≤ g3
theorem ByS.below {w : World} {g b g3 : Nat} {l : List (Nat × Nd)} {iv : Value} {m : List UInt8} {A A' : World} (h : ByS w g b g3 l iv m A) (hb : Below A.heap.size A A') : ByS w g b g3 l iv m A' :=
  ⟨h.ar.below hb, h.ids.below hb, h.wt.below hb, btr h.bel hb, h.lo⟩
theorem ByS.grew {w : World} {g b g3 : Nat} {l : List (Nat × Nd)} {iv : Value} {m m' : List UInt8} {A A' : World} (h : ByS w g b g3 l iv m A) (hw : WriterAt w.heap.size A' g3 m') (hg : Grew A A' g3) : ByS w g b g3 l iv m' A' :=
  ⟨grew_ar h.wt hg h.ar, grew_ids h.wt hg h.ids, hw, h.bel.trans (hg.only.below _ h.bel.size fun i hi hk => by have := h.wt.low h.lo hk; omega), h.lo⟩
/-- with a node under the hand -/
structure ByN (w : World) (g b g3 n7 : Nat) (l : List (Nat × Nd)) (iv : Value) (nd : Nd) (kv : Value) (m : List UInt8) (A : World) : Prop where
  st : ByS w g b g3 l iv m A
  row : Row6 A n7 nd kv
  kid : OwnIds 0 A kv nd.kids
theorem ByN.below {w : World} {g b g3 n7 : Nat} {l : List (Nat × Nd)} {iv : Value} {nd : Nd} {kv : Value} {m : List UInt8} {A A' : World} (h : ByN w g b g3 n7 l iv nd kv m A) (hb : Below A.heap.size A A') : ByN w g b g3 n7 l iv nd kv m A' :=
  ⟨h.st.below hb, h.row.below hb, h.kid.below hb⟩
theorem ByN.grew {w : World} {g b g3 n7 : Nat} {l : List (Nat × Nd)} {iv : Value} {nd : Nd} {kv : Value} {m m' : List UInt8} {A A' : World} (h : ByN w g b g3 n7 l iv nd kv m A) (hw : WriterAt w.heap.size A' g3 m') (hg : Grew A A' g3) : ByN w g b g3 n7 l iv nd kv m' A' :=
  ⟨h.st.grew hw hg, grew_row6 h.st.wt hg h.row, grew_ids h.st.wt hg h.kid⟩
theorem wbyteN (base g : Nat) (l : List UInt8) (n : Nat) (w : World) (hn : n < 256) (hw : WriterAt base w g l) (hbig : l.length ≤ 1000000000) (hbase : base ≤ w.heap.size) :
    Calls Try.prog 49 #[.pointer (some ⟨g, 0, none⟩), .int .u8 n] w fun e w' => e = .returned (.pointer (some ⟨g, 0, none⟩)) ∧ WriterAt base w' g (l ++ [UInt8.ofNat n]) ∧ Grew w w' g := by
  have h := wbyte_any base g l (UInt8.ofNat n) w hw hbig hbase
  rw [ofNat_toNat hn] at h
  exact h

set_option linter.unusedSimpArgs false in
set_option maxRecDepth 20000 in
set_option maxHeartbeats 6400000 in
theorem arbytes_any (g b : Nat) (l : List (Nat × Nd)) (w : World) (h : ArAt w g b l) (hf : AscFrom 0 l) (hbig : (layAr l).length ≤ 100000000) :
    Calls Try.prog 30 #[.pointer (some ⟨g, 0, none⟩)] w fun e w' => ∃ v, e = .returned v ∧ Own8 5 w.heap.size w' v (layAr l) ∧ Below w.heap.size w w' := by
  obtain ⟨g3, hg3⟩ : ∃ q, q = w.heap.size := ⟨_, rfl⟩
  have hb1 := bal (bre w) (.cells #[.slice none 0 0] 91)
  have hr1 := heap_alloc_new w (.cells #[.slice none 0 0] 91)
  have ha1 := h.below hb1
  have c1 := ha1.c0
  have hlen := fun ty => ha1.len ty
  have hwt : WriterAt w.heap.size (w.alloc (.cells #[.slice none 0 0] 91)) g3 [] := by rw [hg3]; exact ⟨_, hr1, Own8.nil _ _ _⟩
  have HA1 := Lib.hid ha1
  have HB1 := Lib.hid hb1
  have HWT := Lib.hid hwt
  have HF := Lib.hid hf
  have HBIG := Lib.hid hbig
  have HG3 : Hid (w.heap.size ≤ g3) := Lib.hid (by omega)
  have hfew : l.length ≤ 20000 := h.few
  have HASC := Lib.hid h.asc
  obtain ⟨L, hL⟩ : ∃ q, q = l.length := ⟨_, rfl⟩
  rw [← hL] at hlen hfew
  have HL := Lib.hid hL
  have hu : IntKind.u64.wrap (L : Int) = (L : Int) := by rw [IntKind.wrap_u64]; omega
  have HQ := Lib.hid hg3
  clear h hb1 hr1 ha1 hwt hf hbig hL hg3
  go_enter Try.func30, Try.ntmps30
  go_upto_region 4 with fail
  generalize w.alloc (.cells #[.slice none 0 0] 91) = W at *
  rw [← HQ.out]
  go_wp2_with fail
  refine (num_any w.heap.size g3 [] L W (by omega) HWT.out (by simp) HB1.out.size).mono ?_
  rintro e w2 ⟨rfl, hw2, hg2⟩
  have HA2 := Lib.hid (grew_ar HWT.out hg2 HA1.out)
  have HB2 : Hid (Below w.heap.size w w2) := Lib.hid (HB1.out.trans (hg2.only.below _ HB1.out.size fun i hi hk => by have := HWT.out.low HG3.out hk; omega))
  rw [List.nil_append] at hw2
  have HW2 := Lib.hid hw2
  clear hw2 hg2 HA1 HB1 HWT c1 hlen hu
  go_wp2_with fail
  refine (arids_any g b l w2 HA2.out).mono ?_
  rintro e w3 ⟨iv, rfl, ho3, hb3⟩
  obtain ⟨ia, ic, rfl⟩ := ho3.slice
  rw [List.length_map, ← HL.out] at ho3 ⊢
  have HS3 : Hid (ByS w g b g3 l (.slice ia L ic) (Vi.varint L ++ layNds 0 (l.take 0)) w3) := Lib.hid ⟨HA2.out.below hb3, ho3.base (Nat.zero_le _), by rw [List.take_zero]; show WriterAt _ _ _ (_ ++ []); rw [List.append_nil]; exact HW2.out.below hb3, btr HB2.out hb3, HG3.out⟩
  clear ho3 hb3 HA2 HB2 HW2
  go_wp2_with fail
  go_loopw [4, 6, 7, 9, 22] (fun la _ _ _ i wr => ∃ k : Nat, k ≤ L ∧ i = .int .i64 k ∧ la = .int .u64 (lastO 0 (l.take k)) ∧ Hid (ByS w g b g3 l (.slice ia L ic) (Vi.varint L ++ layNds 0 (l.take k)) wr)) (fun _ _ _ _ i _ => L - (intOf i).toNat)
  case atStart => exact ⟨0, by omega, rfl, rfl, HS3⟩
  case round =>
    clear HS3
    obtain ⟨k, hk, rfl, rfl, hst⟩ := hrel
    obtain ⟨M, hM⟩ : ∃ M, M = Vi.varint L ++ layNds 0 (l.take k) := ⟨_, rfl⟩
    obtain ⟨la, hla⟩ : ∃ q, q = lastO 0 (l.take k) := ⟨_, rfl⟩
    rw [← hM] at hst
    rw [← hla]
    have hMl : M.length ≤ 100000000 := by
      have h1 := HBIG.out
      unfold layAr at h1
      have e := layNds_app (l.take k) (l.drop k) 0
      rw [List.take_append_drop] at e
      rw [← HL.out, e, ← List.append_assoc, List.length_append] at h1
      rw [hM]
      omega
    have HM := Lib.hid hM
    have HLA := Lib.hid hla
    clear hM hla
    by_cases hlt : k < L
    · have d1 : decide ((k : Int) < (L : Int)) = true := decide_eq_true (by omega)
      have d1n : decide (k < L) = true := decide_eq_true hlt
      have hkl : k < l.length := by rw [← HL.out]; exact hlt
      obtain ⟨p, hp⟩ : ∃ p, l[k]? = some p := ⟨_, List.getElem?_eq_getElem hkl⟩
      have htk : l.take (k + 1) = l.take k ++ [p] := by rw [List.take_add_one, hp]; rfl
      have hsp := ascFrom_app (l.take k) p (l.drop (k + 1)) 0 (by
        have hd : l.drop k = p :: l.drop (k + 1) := by
          rw [List.drop_eq_getElem_cons hkl]
          rw [List.getElem?_eq_getElem hkl] at hp
          rw [Option.some.inj hp]
        rw [← hd, List.take_append_drop]
        exact HF.out)
      rw [← HLA.out] at hsp
      obtain ⟨gi, rfl⟩ : ∃ gi, ia = some ⟨gi, 0, none⟩ := by
        obtain ⟨-, h2 | ⟨q, cap, cur, e2, -⟩⟩ := hst.out.ids
        · exact absurd h2.2 (by rw [List.length_map]; omega)
        · injection e2 with e2; exact ⟨q, e2⟩
      have hci := (hst.out.ids.cell (i := k) (x := p.1) (by rw [List.getElem?_map, hp]; rfl)).1
      have hat : atN l p.1 = p.2 := by unfold atN; rw [getA_of_mem HASC.out (List.mem_of_getElem? hp)]; rfl
      obtain ⟨kv, -, hlook, hkid, -⟩ := hst.out.ar.look p.1 hsp.2.1
      rw [hat] at hlook hkid
      obtain ⟨ka, kc, rfl⟩ := hkid.slice
      obtain ⟨pk, nd⟩ := p
      obtain ⟨KL, hKL⟩ : ∃ q, q = nd.kids.length := ⟨_, rfl⟩
      replace hkid : OwnIds 0 wr (.slice ka nd.kids.length kc) nd.kids := hkid
      rw [← hKL] at hkid
      replace hlook : (Instr.lookup 68 (.map (some b)) (.int .u64 (pk : Nat)) false).run Try.prog wr = .ok (.agg #[.int .u8 nd.kind, .string nd.name, .int .i64 nd.num, .int .u8 nd.typ, .int .u64 nd.ref, .slice ka KL kc]) wr := by rw [hKL]; exact hlook
      replace hci : wr.cell? ⟨gi, k, none⟩ = some (.int .u64 (pk : Nat)) := hci
      have c0 := hst.out.ar.c0
      have k1 : (0 : Int) ≤ (k : Int) := by omega
      have k2 : (k : Int) < (L : Int) := by omega
      have k4 : IntKind.i64.wrap (k : Int) = (k : Int) := by rw [IntKind.wrap_i64]; omega
      obtain ⟨dd, hdd⟩ : ∃ q, q = pk - la := ⟨_, rfl⟩
      have hsp1 : la < pk := hsp.1
      have hsp2 : pk < 18446744073709551616 := hsp.2.1
      have hddi : IntKind.u64.wrap ((pk : Int) - (la : Int)) = (dd : Int) := by rw [IntKind.wrap_u64]; omega
      have hdd2 : dd < 18446744073709551616 := by omega
      have HFIT : Hid nd.Fit := Lib.hid hsp.2.2
      obtain ⟨hn0, hn1⟩ := num_range HFIT.out.num
      have hKLm : KL ≤ 1000000 := by rw [hKL]; exact HFIT.out.few
      have hrf : IntKind.u64.wrap (nd.ref : Int) = (nd.ref : Int) := by have := HFIT.out.ref; rw [IntKind.wrap_u64]; omega
      have hku : IntKind.u64.wrap (KL : Int) = (KL : Int) := by rw [IntKind.wrap_u64]; omega
      have HTK := Lib.hid htk
      have HKL := Lib.hid hKL
      have HDD := Lib.hid hdd
      have HKD := Lib.hid hkid
      clear htk hsp hat hkid hKL hdd hp hkl
      go_upto_region 10 with fail
      have hb9 := bal (bre wr) (.cells #[.int .u8 nd.kind, .string nd.name, .int .i64 nd.num, .int .u8 nd.typ, .int .u64 nd.ref, .slice ka KL kc] 29)
      have hr9 := heap_alloc_new wr (.cells #[.int .u8 nd.kind, .string nd.name, .int .i64 nd.num, .int .u8 nd.typ, .int .u64 nd.ref, .slice ka KL kc] 29)
      generalize wr.alloc (.cells #[.int .u8 nd.kind, .string nd.name, .int .i64 nd.num, .int .u8 nd.typ, .int .u64 nd.ref, .slice ka KL kc] 29) = w9 at *
      obtain ⟨n7, hn7⟩ : ∃ q, q = wr.heap.size := ⟨_, rfl⟩
      rw [← hn7] at hr9 ⊢
      have HN9 : Hid (ByN w g b g3 n7 l (.slice (some ⟨gi, 0, none⟩) L ic) nd (.slice ka KL kc) M w9) := Lib.hid ⟨hst.out.below hb9, hr9, HKD.out.below hb9⟩
      have HD9 : Hid (ByN w g b g3 n7 l (.slice (some ⟨gi, 0, none⟩) L ic) nd (.slice ka KL kc) M w9.drew) := Lib.hid (HN9.out.below (bdr (bre w9)))
      have HSC : Hid (∀ (m : List UInt8) (A : World), ByN w g b g3 n7 l (.slice (some ⟨gi, 0, none⟩) L ic) nd (.slice ka KL kc) m A → (A.cell? ⟨n7, 0, none⟩ = some (.int .u8 nd.kind) ∧ A.cell? ⟨n7, 1, none⟩ = some (.string nd.name) ∧ A.cell? ⟨n7, 2, none⟩ = some (.int .i64 nd.num) ∧ A.cell? ⟨n7, 3, none⟩ = some (.int .u8 nd.typ) ∧ A.cell? ⟨n7, 4, none⟩ = some (.int .u64 nd.ref) ∧ A.cell? ⟨n7, 5, none⟩ = some (.slice ka KL kc))) := Lib.hid fun m A h => ⟨h.row.c0, h.row.c1, h.row.c2, h.row.c3, h.row.c4, h.row.c5⟩
      have hnl : nd.name.size ≤ 64 := HFIT.out.short
      have hvl := fun n => (Vi.varint_length n).2
      have HVL := Lib.hid hvl
      clear hb9 hr9 hn7 hst HKD hlook hci c0 hvl
      refine region_anyZ (z := 23) (S := fun w' => (w'.cell? ⟨n7, 0, none⟩ = some (.int .u8 nd.kind) ∧ w'.cell? ⟨n7, 1, none⟩ = some (.string nd.name) ∧ w'.cell? ⟨n7, 2, none⟩ = some (.int .i64 nd.num) ∧ w'.cell? ⟨n7, 3, none⟩ = some (.int .u8 nd.typ) ∧ w'.cell? ⟨n7, 4, none⟩ = some (.int .u64 nd.ref) ∧ w'.cell? ⟨n7, 5, none⟩ = some (.slice ka KL kc))) (by kernel_rfl) ?_
      refine anyZ_begin (fun hcl0 => ?_)
      refine anyZ_held (by exact HSC.out _ _ HD9.out) (fun hHeld => ?_)
      -- 0: Op.move (Operand.tmp 6)
      refine' anyZ_pure (i := 0) (v := _) rfl (by rfl) (by kernel_rfl) (by kernel_rfl) (by kernel_rfl) hcl0 (fun _ _ _ h => h) (Or.inl ⟨by rfl, fun w _ => ?hz1⟩) (fun _ => hHeld) (fun hcl1 => ?rz1)
      case hz1 => (simp only [List.getElem_toArray, List.getElem_cons_zero]; first | (go_simp; with_reducible rfl) | (go_simp; done) | rfl)
      simp only [List.getElem_toArray, List.getElem_cons_zero, Act.put, List.setIfInBounds_toArray, List.set_cons_zero, List.set_cons_succ]
      -- 1: Op.move (Operand.tmp 4)
      refine' anyZ_pure (i := 1) (v := _) rfl (by rfl) (by kernel_rfl) (by kernel_rfl) (by kernel_rfl) hcl1 (fun _ _ _ h => h) (Or.inl ⟨by rfl, fun w _ => ?hz2⟩) (fun _ => hHeld) (fun hcl2 => ?rz2)
      case hz2 => (simp only [List.getElem_toArray, List.getElem_cons_succ, List.getElem_cons_zero]; first | (go_simp; with_reducible rfl) | (go_simp; done) | rfl)
      simp only [List.getElem_toArray, List.getElem_cons_succ, List.getElem_cons_zero, Act.put, List.setIfInBounds_toArray, List.set_cons_zero, List.set_cons_succ]
      -- 2: Op.binOp BinOp.sub 26 (Operand.tmp 32) (Operand.tmp 33) 26
      refine' anyZ_pure (i := 2) (v := _) rfl (by rfl) (by kernel_rfl) (by kernel_rfl) (by kernel_rfl) hcl2 (fun _ _ _ h => h) (Or.inl ⟨by rfl, fun w _ => ?hz3⟩) (fun _ => hHeld) (fun hcl3 => ?rz3)
      case hz3 => (simp only [List.getElem_toArray, List.getElem_cons_succ, List.getElem_cons_zero]; first | (go_simp; with_reducible rfl) | (go_simp; done) | rfl)
      simp only [List.getElem_toArray, List.getElem_cons_succ, List.getElem_cons_zero, Act.put, List.setIfInBounds_toArray, List.set_cons_zero, List.set_cons_succ]
      -- 4: Op.fieldAddr 29 (Operand.tmp 7) 0
      refine' anyZ_pure (i := 4) (v := _) rfl (by rfl) (by kernel_rfl) (by kernel_rfl) (by kernel_rfl) hcl3 (fun _ _ _ h => h) (Or.inl ⟨by rfl, fun w _ => ?hz4⟩) (fun _ => hHeld) (fun hcl4 => ?rz4)
      case hz4 => (simp only [List.getElem_toArray, List.getElem_cons_succ, List.getElem_cons_zero]; first | (go_simp; with_reducible rfl) | (go_simp; done) | rfl)
      simp only [List.getElem_toArray, List.getElem_cons_succ, List.getElem_cons_zero, Act.put, List.setIfInBounds_toArray, List.set_cons_zero, List.set_cons_succ]
      -- 5: Op.load 5 (Operand.tmp 36)
      refine' anyZ_take (i := 5) (v := _) rfl (by rfl) (by kernel_rfl) (by kernel_rfl) (by kernel_rfl) hcl4 24 (by kernel_rfl) (by kernel_rfl) (fun _ _ _ h => h) (Or.inl ⟨by rfl, fun w hSw => ?hz5⟩) hHeld (fun hcl5 => ?rz5)
      case hz5 => (simp only [List.getElem_toArray, List.getElem_cons_succ, List.getElem_cons_zero]; obtain ⟨hS1, hS2, hS3, hS4, hS5, hS6⟩ := hSw; first | (go_simp; with_reducible rfl) | (go_simp; done) | rfl)
      simp only [List.getElem_toArray, List.getElem_cons_succ, List.getElem_cons_zero, Act.put, List.setIfInBounds_toArray, List.set_cons_zero, List.set_cons_succ]
      -- 7: Op.fieldAddr 29 (Operand.tmp 7) 1
      refine' anyZ_pure (i := 7) (v := _) rfl (by rfl) (by kernel_rfl) (by kernel_rfl) (by kernel_rfl) hcl5 (fun _ _ _ h => h) (Or.inl ⟨by rfl, fun w _ => ?hz6⟩) (fun _ => hHeld) (fun hcl6 => ?rz6)
      case hz6 => (simp only [List.getElem_toArray, List.getElem_cons_succ, List.getElem_cons_zero]; first | (go_simp; with_reducible rfl) | (go_simp; done) | rfl)
      simp only [List.getElem_toArray, List.getElem_cons_succ, List.getElem_cons_zero, Act.put, List.setIfInBounds_toArray, List.set_cons_zero, List.set_cons_succ]
      -- 8: Op.load 9 (Operand.tmp 39)
      refine' anyZ_take (i := 8) (v := _) rfl (by rfl) (by kernel_rfl) (by kernel_rfl) (by kernel_rfl) hcl6 24 (by kernel_rfl) (by kernel_rfl) (fun _ _ _ h => h) (Or.inl ⟨by rfl, fun w hSw => ?hz7⟩) hHeld (fun hcl7 => ?rz7)
      case hz7 => (simp only [List.getElem_toArray, List.getElem_cons_succ, List.getElem_cons_zero]; obtain ⟨hS1, hS2, hS3, hS4, hS5, hS6⟩ := hSw; first | (go_simp; with_reducible rfl) | (go_simp; done) | rfl)
      simp only [List.getElem_toArray, List.getElem_cons_succ, List.getElem_cons_zero, Act.put, List.setIfInBounds_toArray, List.set_cons_zero, List.set_cons_succ]
      -- 10: Op.fieldAddr 29 (Operand.tmp 7) 2
      refine' anyZ_pure (i := 10) (v := _) rfl (by rfl) (by kernel_rfl) (by kernel_rfl) (by kernel_rfl) hcl7 (fun _ _ _ h => h) (Or.inl ⟨by rfl, fun w _ => ?hz8⟩) (fun _ => hHeld) (fun hcl8 => ?rz8)
      case hz8 => (simp only [List.getElem_toArray, List.getElem_cons_succ, List.getElem_cons_zero]; first | (go_simp; with_reducible rfl) | (go_simp; done) | rfl)
      simp only [List.getElem_toArray, List.getElem_cons_succ, List.getElem_cons_zero, Act.put, List.setIfInBounds_toArray, List.set_cons_zero, List.set_cons_succ]
      -- 11: Op.load 2 (Operand.tmp 42)
      refine' anyZ_take (i := 11) (v := _) rfl (by rfl) (by kernel_rfl) (by kernel_rfl) (by kernel_rfl) hcl8 24 (by kernel_rfl) (by kernel_rfl) (fun _ _ _ h => h) (Or.inl ⟨by rfl, fun w hSw => ?hz9⟩) hHeld (fun hcl9 => ?rz9)
      case hz9 => (simp only [List.getElem_toArray, List.getElem_cons_succ, List.getElem_cons_zero]; obtain ⟨hS1, hS2, hS3, hS4, hS5, hS6⟩ := hSw; first | (go_simp; with_reducible rfl) | (go_simp; done) | rfl)
      simp only [List.getElem_toArray, List.getElem_cons_succ, List.getElem_cons_zero, Act.put, List.setIfInBounds_toArray, List.set_cons_zero, List.set_cons_succ]
      -- 13: Op.fieldAddr 29 (Operand.tmp 7) 3
      refine' anyZ_pure (i := 13) (v := _) rfl (by rfl) (by kernel_rfl) (by kernel_rfl) (by kernel_rfl) hcl9 (fun _ _ _ h => h) (Or.inl ⟨by rfl, fun w _ => ?hz10⟩) (fun _ => hHeld) (fun hcl10 => ?rz10)
      case hz10 => (simp only [List.getElem_toArray, List.getElem_cons_succ, List.getElem_cons_zero]; first | (go_simp; with_reducible rfl) | (go_simp; done) | rfl)
      simp only [List.getElem_toArray, List.getElem_cons_succ, List.getElem_cons_zero, Act.put, List.setIfInBounds_toArray, List.set_cons_zero, List.set_cons_succ]
      -- 14: Op.load 5 (Operand.tmp 45)
      refine' anyZ_take (i := 14) (v := _) rfl (by rfl) (by kernel_rfl) (by kernel_rfl) (by kernel_rfl) hcl10 24 (by kernel_rfl) (by kernel_rfl) (fun _ _ _ h => h) (Or.inl ⟨by rfl, fun w hSw => ?hz11⟩) hHeld (fun hcl11 => ?rz11)
      case hz11 => (simp only [List.getElem_toArray, List.getElem_cons_succ, List.getElem_cons_zero]; obtain ⟨hS1, hS2, hS3, hS4, hS5, hS6⟩ := hSw; first | (go_simp; with_reducible rfl) | (go_simp; done) | rfl)
      simp only [List.getElem_toArray, List.getElem_cons_succ, List.getElem_cons_zero, Act.put, List.setIfInBounds_toArray, List.set_cons_zero, List.set_cons_succ]
      -- 16: Op.fieldAddr 29 (Operand.tmp 7) 4
      refine' anyZ_pure (i := 16) (v := _) rfl (by rfl) (by kernel_rfl) (by kernel_rfl) (by kernel_rfl) hcl11 (fun _ _ _ h => h) (Or.inl ⟨by rfl, fun w _ => ?hz12⟩) (fun _ => hHeld) (fun hcl12 => ?rz12)
      case hz12 => (simp only [List.getElem_toArray, List.getElem_cons_succ, List.getElem_cons_zero]; first | (go_simp; with_reducible rfl) | (go_simp; done) | rfl)
      simp only [List.getElem_toArray, List.getElem_cons_succ, List.getElem_cons_zero, Act.put, List.setIfInBounds_toArray, List.set_cons_zero, List.set_cons_succ]
      -- 17: Op.load 26 (Operand.tmp 48)
      refine' anyZ_take (i := 17) (v := _) rfl (by rfl) (by kernel_rfl) (by kernel_rfl) (by kernel_rfl) hcl12 24 (by kernel_rfl) (by kernel_rfl) (fun _ _ _ h => h) (Or.inl ⟨by rfl, fun w hSw => ?hz13⟩) hHeld (fun hcl13 => ?rz13)
      case hz13 => (simp only [List.getElem_toArray, List.getElem_cons_succ, List.getElem_cons_zero]; obtain ⟨hS1, hS2, hS3, hS4, hS5, hS6⟩ := hSw; first | (go_simp; with_reducible rfl) | (go_simp; done) | rfl)
      simp only [List.getElem_toArray, List.getElem_cons_succ, List.getElem_cons_zero, Act.put, List.setIfInBounds_toArray, List.set_cons_zero, List.set_cons_succ]
      -- 19: Op.fieldAddr 29 (Operand.tmp 7) 5
      refine' anyZ_pure (i := 19) (v := _) rfl (by rfl) (by kernel_rfl) (by kernel_rfl) (by kernel_rfl) hcl13 (fun _ _ _ h => h) (Or.inl ⟨by rfl, fun w _ => ?hz14⟩) (fun _ => hHeld) (fun hcl14 => ?rz14)
      case hz14 => (simp only [List.getElem_toArray, List.getElem_cons_succ, List.getElem_cons_zero]; first | (go_simp; with_reducible rfl) | (go_simp; done) | rfl)
      simp only [List.getElem_toArray, List.getElem_cons_succ, List.getElem_cons_zero, Act.put, List.setIfInBounds_toArray, List.set_cons_zero, List.set_cons_succ]
      -- 20: Op.load 27 (Operand.tmp 51)
      refine' anyZ_take (i := 20) (v := _) rfl (by rfl) (by kernel_rfl) (by kernel_rfl) (by kernel_rfl) hcl14 24 (by kernel_rfl) (by kernel_rfl) (fun _ _ _ h => h) (Or.inl ⟨by rfl, fun w hSw => ?hz15⟩) hHeld (fun hcl15 => ?rz15)
      case hz15 => (simp only [List.getElem_toArray, List.getElem_cons_succ, List.getElem_cons_zero]; obtain ⟨hS1, hS2, hS3, hS4, hS5, hS6⟩ := hSw; first | (go_simp; with_reducible rfl) | (go_simp; done) | rfl)
      simp only [List.getElem_toArray, List.getElem_cons_succ, List.getElem_cons_zero, Act.put, List.setIfInBounds_toArray, List.set_cons_zero, List.set_cons_succ]
      -- 21: Op.call { callee := Callee.builtin Builtin.len, args := #[Op
      refine' anyZ_pure (i := 21) (v := _) rfl (by rfl) (by kernel_rfl) (by kernel_rfl) (by kernel_rfl) hcl15 (fun _ _ _ h => h) (Or.inl ⟨by rfl, fun w _ => ?hz16⟩) (fun _ => hHeld) (fun hcl16 => ?rz16)
      case hz16 => (simp only [List.getElem_toArray, List.getElem_cons_succ, List.getElem_cons_zero]; first | (go_simp; with_reducible rfl) | (go_simp; done) | rfl)
      simp only [List.getElem_toArray, List.getElem_cons_succ, List.getElem_cons_zero, Act.put, List.setIfInBounds_toArray, List.set_cons_zero, List.set_cons_succ]
      -- 22: Op.convert 3 25 (Operand.tmp 53)
      refine' anyZ_pure (i := 22) (v := _) rfl (by rfl) (by kernel_rfl) (by kernel_rfl) (by kernel_rfl) hcl16 (fun _ _ _ h => h) (Or.inl ⟨by rfl, fun w _ => ?hz17⟩) (fun _ => hHeld) (fun hcl17 => ?rz17)
      case hz17 => (simp only [List.getElem_toArray, List.getElem_cons_succ, List.getElem_cons_zero]; first | (go_simp; with_reducible rfl) | (go_simp; done) | rfl)
      simp only [List.getElem_toArray, List.getElem_cons_succ, List.getElem_cons_zero, Act.put, List.setIfInBounds_toArray, List.set_cons_zero, List.set_cons_succ]
      -- 3: Op.call { callee := Callee.value (Operand.func 48), args := 
      refine anyZ_one (i := 3) hcl17 (by kernel_rfl) (by simp only [List.getElem?_toArray, List.getElem?_cons_succ, List.getElem?_cons_zero]; rfl) (by rfl) (fun hcl18 K hK => ?_)
      go_simp
      refine (num_any w.heap.size g3 M dd _ hdd2 HD9.out.st.wt (by have h1 := HVL.out dd; have h2 := HVL.out nd.name.size; have h3 := HVL.out (zig nd.num); have h4 := HVL.out nd.ref; have h6 : nd.name.data.toList.length = nd.name.size := rfl; (try simp only [List.length_append, List.length_cons, List.length_nil, h6]); omega) HD9.out.st.bel.size).mono ?_
      rintro e w11 ⟨rfl, hw, hg⟩
      have HN11 := Lib.hid (HD9.out.grew hw hg)
      clear hw hg HD9
      refine hK _ _ (fun _ => ?_) ?_
      · exact HSC.out _ _ HN11.out
      clear hK K hHeld
      have hHeld := HSC.out _ _ HN11.out
      try simp only [Act.put, List.setIfInBounds_toArray, List.set_cons_zero, List.set_cons_succ]
      -- 6: Op.call { callee := Callee.value (Operand.func 49), args := 
      refine anyZ_one (i := 6) hcl18 (by kernel_rfl) (by simp only [List.getElem?_toArray, List.getElem?_cons_succ, List.getElem?_cons_zero]; rfl) (by rfl) (fun hcl19 K hK => ?_)
      go_simp
      refine (wbyteN w.heap.size g3 (M ++ Vi.varint dd) nd.kind _ HFIT.out.kind HN11.out.st.wt (by have h1 := HVL.out dd; have h2 := HVL.out nd.name.size; have h3 := HVL.out (zig nd.num); have h4 := HVL.out nd.ref; have h6 : nd.name.data.toList.length = nd.name.size := rfl; (try simp only [List.length_append, List.length_cons, List.length_nil, h6]); omega) HN11.out.st.bel.size).mono ?_
      rintro e w12 ⟨rfl, hw, hg⟩
      have HN12 := Lib.hid (HN11.out.grew hw hg)
      clear hw hg HN11
      refine hK _ _ (fun _ => ?_) ?_
      · exact HSC.out _ _ HN12.out
      clear hK K hHeld
      have hHeld := HSC.out _ _ HN12.out
      try simp only [Act.put, List.setIfInBounds_toArray, List.set_cons_zero, List.set_cons_succ]
      -- 9: Op.call { callee := Callee.value (Operand.func 50), args := 
      refine anyZ_one (i := 9) hcl19 (by kernel_rfl) (by simp only [List.getElem?_toArray, List.getElem?_cons_succ, List.getElem?_cons_zero]; rfl) (by rfl) (fun hcl20 K hK => ?_)
      go_simp
      refine (wtext_any w.heap.size g3 ((M ++ Vi.varint dd) ++ [UInt8.ofNat nd.kind]) nd.name _ (by omega) HN12.out.st.wt (by have h1 := HVL.out dd; have h2 := HVL.out nd.name.size; have h3 := HVL.out (zig nd.num); have h4 := HVL.out nd.ref; have h6 : nd.name.data.toList.length = nd.name.size := rfl; (try simp only [List.length_append, List.length_cons, List.length_nil, h6]); omega) HN12.out.st.bel.size).mono ?_
      rintro e w13 ⟨rfl, hw, hg⟩
      have HN13 := Lib.hid (HN12.out.grew hw hg)
      clear hw hg HN12
      refine hK _ _ (fun _ => ?_) ?_
      · exact HSC.out _ _ HN13.out
      clear hK K hHeld
      have hHeld := HSC.out _ _ HN13.out
      try simp only [Act.put, List.setIfInBounds_toArray, List.set_cons_zero, List.set_cons_succ]
      -- 12: Op.call { callee := Callee.value (Operand.func 51), args := 
      refine anyZ_one (i := 12) hcl20 (by kernel_rfl) (by simp only [List.getElem?_toArray, List.getElem?_cons_succ, List.getElem?_cons_zero]; rfl) (by rfl) (fun hcl21 K hK => ?_)
      go_simp
      refine (wint_any w.heap.size g3 (((M ++ Vi.varint dd) ++ [UInt8.ofNat nd.kind]) ++ (Vi.varint nd.name.size ++ nd.name.data.toList)) nd.num _ hn0 hn1 HN13.out.st.wt (by have h1 := HVL.out dd; have h2 := HVL.out nd.name.size; have h3 := HVL.out (zig nd.num); have h4 := HVL.out nd.ref; have h6 : nd.name.data.toList.length = nd.name.size := rfl; (try simp only [List.length_append, List.length_cons, List.length_nil, h6]); omega) HN13.out.st.bel.size).mono ?_
      rintro e w14 ⟨rfl, hw, hg⟩
      have HN14 := Lib.hid (HN13.out.grew hw hg)
      clear hw hg HN13
      refine hK _ _ (fun _ => ?_) ?_
      · exact HSC.out _ _ HN14.out
      clear hK K hHeld
      have hHeld := HSC.out _ _ HN14.out
      try simp only [Act.put, List.setIfInBounds_toArray, List.set_cons_zero, List.set_cons_succ]
      -- 15: Op.call { callee := Callee.value (Operand.func 49), args := 
      refine anyZ_one (i := 15) hcl21 (by kernel_rfl) (by simp only [List.getElem?_toArray, List.getElem?_cons_succ, List.getElem?_cons_zero]; rfl) (by rfl) (fun hcl22 K hK => ?_)
      go_simp
      refine (wbyteN w.heap.size g3 ((((M ++ Vi.varint dd) ++ [UInt8.ofNat nd.kind]) ++ (Vi.varint nd.name.size ++ nd.name.data.toList)) ++ Vi.varint (zig nd.num)) nd.typ _ HFIT.out.typ HN14.out.st.wt (by have h1 := HVL.out dd; have h2 := HVL.out nd.name.size; have h3 := HVL.out (zig nd.num); have h4 := HVL.out nd.ref; have h6 : nd.name.data.toList.length = nd.name.size := rfl; (try simp only [List.length_append, List.length_cons, List.length_nil, h6]); omega) HN14.out.st.bel.size).mono ?_
      rintro e w15 ⟨rfl, hw, hg⟩
      have HN15 := Lib.hid (HN14.out.grew hw hg)
      clear hw hg HN14
      refine hK _ _ (fun _ => ?_) ?_
      · exact HSC.out _ _ HN15.out
      clear hK K hHeld
      have hHeld := HSC.out _ _ HN15.out
      try simp only [Act.put, List.setIfInBounds_toArray, List.set_cons_zero, List.set_cons_succ]
      -- 18: Op.call { callee := Callee.value (Operand.func 48), args := 
      refine anyZ_one (i := 18) hcl22 (by kernel_rfl) (by simp only [List.getElem?_toArray, List.getElem?_cons_succ, List.getElem?_cons_zero]; rfl) (by rfl) (fun hcl23 K hK => ?_)
      go_simp
      refine (num_any w.heap.size g3 (((((M ++ Vi.varint dd) ++ [UInt8.ofNat nd.kind]) ++ (Vi.varint nd.name.size ++ nd.name.data.toList)) ++ Vi.varint (zig nd.num)) ++ [UInt8.ofNat nd.typ]) nd.ref _ HFIT.out.ref HN15.out.st.wt (by have h1 := HVL.out dd; have h2 := HVL.out nd.name.size; have h3 := HVL.out (zig nd.num); have h4 := HVL.out nd.ref; have h6 : nd.name.data.toList.length = nd.name.size := rfl; (try simp only [List.length_append, List.length_cons, List.length_nil, h6]); omega) HN15.out.st.bel.size).mono ?_
      rintro e w16 ⟨rfl, hw, hg⟩
      have HN16 := Lib.hid (HN15.out.grew hw hg)
      clear hw hg HN15
      refine hK _ _ (fun _ => ?_) ?_
      · exact HSC.out _ _ HN16.out
      clear hK K hHeld
      have hHeld := HSC.out _ _ HN16.out
      try simp only [Act.put, List.setIfInBounds_toArray, List.set_cons_zero, List.set_cons_succ]
      clear hHeld
      refine anyZ_chain_at (by kernel_rfl) ?_
      simp only [List.drop_succ_cons, List.drop_zero]
      go_upto_region 11 with (refine (num_any w.heap.size g3 ((((((M ++ Vi.varint dd) ++ [UInt8.ofNat nd.kind]) ++ (Vi.varint nd.name.size ++ nd.name.data.toList)) ++ Vi.varint (zig nd.num)) ++ [UInt8.ofNat nd.typ]) ++ Vi.varint nd.ref) KL _ (by omega) HN16.out.st.wt (by have h1 := HVL.out dd; have h2 := HVL.out nd.name.size; have h3 := HVL.out (zig nd.num); have h4 := HVL.out nd.ref; have h6 : nd.name.data.toList.length = nd.name.size := rfl; (try simp only [List.length_append, List.length_cons, List.length_nil, h6]); omega) HN16.out.st.bel.size).mono ?_; rintro e w17 ⟨rfl, hw, hg⟩; have HN17 := Lib.hid (HN16.out.grew hw hg); clear hw hg HN16)
      have HN10 : Hid (ByN w g b g3 n7 l (.slice (some ⟨gi, 0, none⟩) L ic) nd (.slice ka KL kc) (((((((M ++ Vi.varint dd) ++ [UInt8.ofNat nd.kind]) ++ (Vi.varint nd.name.size ++ nd.name.data.toList)) ++ Vi.varint (zig nd.num)) ++ [UInt8.ofNat nd.typ]) ++ Vi.varint nd.ref) ++ Vi.varint KL) w17) := HN17
      obtain ⟨P, hP⟩ : ∃ P, P = ((((((M ++ Vi.varint dd) ++ [UInt8.ofNat nd.kind]) ++ (Vi.varint nd.name.size ++ nd.name.data.toList)) ++ Vi.varint (zig nd.num)) ++ [UInt8.ofNat nd.typ]) ++ Vi.varint nd.ref) ++ Vi.varint KL := ⟨_, rfl⟩
      rw [← hP] at HN10
      have HP := Lib.hid hP
      have hPl : P.length ≤ 100001000 := by
        have h1 := HVL.out dd
        have h2 := HVL.out nd.name.size
        have h3 := HVL.out (zig nd.num)
        have h4 := HVL.out nd.ref
        have h5 := HVL.out KL
        have h6 : nd.name.data.toList.length = nd.name.size := rfl
        rw [hP]
        simp only [List.length_append, List.length_cons, List.length_nil, h6]
        omega
      have y5 := HN10.out.row.c5
      clear hP HN17 HSC
      go_wp2_with fail
      go_loopw [9, 59] (fun _ i ws => ∃ j : Nat, j ≤ KL ∧ i = .int .i64 j ∧ Hid (ByN w g b g3 n7 l (.slice (some ⟨gi, 0, none⟩) L ic) nd (.slice ka KL kc) (P ++ layKids (nd.kids.take j)) ws)) (fun _ i _ => KL - (intOf i).toNat)
      case atStart => exact ⟨0, by omega, rfl, Lib.hid (by rw [List.take_zero]; show ByN _ _ _ _ _ _ _ _ _ (_ ++ []) _; rw [List.append_nil]; exact HN10.out)⟩
      case round =>
        clear HN10 y5
        obtain ⟨j, hj, rfl, hn⟩ := hrel
        by_cases hjl : j < KL
        · have d1 : decide ((j : Int) < (KL : Int)) = true := decide_eq_true (by omega)
          have d1n : decide (j < KL) = true := decide_eq_true hjl
          obtain ⟨y, hy⟩ : ∃ y, nd.kids[j]? = some y := ⟨_, List.getElem?_eq_getElem (by rw [← HKL.out]; exact hjl)⟩
          obtain ⟨gk, rfl⟩ : ∃ gk, ka = some ⟨gk, 0, none⟩ := by
            obtain ⟨-, h2 | ⟨q, cap, cur, e2, -⟩⟩ := hn.out.kid
            · exact absurd h2.2 (by have := HKL.out; omega)
            · injection e2 with e2; exact ⟨q, e2⟩
          have cy := (hn.out.kid.cell hy).1
          have j1 : (0 : Int) ≤ (j : Int) := by omega
          have j2 : (j : Int) < (KL : Int) := by omega
          have j4 : IntKind.i64.wrap (j : Int) = (j : Int) := by rw [IntKind.wrap_i64]; omega
          have hy64 := HFIT.out.ids y (List.mem_of_getElem? hy)
          have HY := Lib.hid hy
          have HN := Lib.hid hn.out
          have hjk := layKids_max (nd.kids.take j)
          have hjk2 : (P ++ layKids (nd.kids.take j)).length ≤ 110001000 := by
            rw [List.length_append]
            rw [List.length_take] at hjk
            omega
          have hyu : IntKind.u64.wrap (y : Int) = (y : Int) := by rw [IntKind.wrap_u64]; omega
          clear hy hn hjk
          go_wp2_with fail
          refine (num_any w.heap.size g3 (P ++ layKids (nd.kids.take j)) y _ hy64 HN.out.st.wt (by omega) HN.out.st.bel.size).mono ?_
          rintro e w20 ⟨rfl, hw20, hg20⟩
          have hn20 := HN.out.grew hw20 hg20
          rw [List.append_assoc, ← layKids_app, show nd.kids.take j ++ [y] = nd.kids.take (j + 1) by rw [List.take_add_one, HY.out]; rfl] at hn20
          have HN20 := Lib.hid hn20
          clear hw20 hg20 hn20 cy
          go_wp2_with fail
          go_roundw
          case rel => first | exact ⟨j + 1, by omega, by go_num, HN20⟩ | ((repeat apply Exists.intro); exact ⟨⟨j + 1, by omega, by go_num, HN20⟩, rfl⟩)
          case measure => (simp [intOf]; try omega)
        · have d1 : decide ((j : Int) < (KL : Int)) = false := decide_eq_false (by omega)
          have d1n : decide (j < KL) = false := decide_eq_false hjl
          have hjK : j = KL := by omega
          have HS : Hid (ByS w g b g3 l (.slice (some ⟨gi, 0, none⟩) L ic) (Vi.varint L ++ layNds 0 (l.take (k + 1))) wr) := Lib.hid (by
            have h1 := hn.out.st
            rw [hjK, HKL.out, List.take_length, HP.out, HM.out, HKL.out] at h1
            rw [HTK.out, layNds_app]
            have e : Vi.varint L ++ (layNds 0 (l.take k) ++ layNds (lastO 0 (l.take k)) [(pk, nd)]) = ((((((((Vi.varint L ++ layNds 0 (l.take k)) ++ Vi.varint dd) ++ [UInt8.ofNat nd.kind]) ++ (Vi.varint nd.name.size ++ nd.name.data.toList)) ++ Vi.varint (zig nd.num)) ++ [UInt8.ofNat nd.typ]) ++ Vi.varint nd.ref) ++ Vi.varint nd.kids.length) ++ layKids nd.kids := by
              rw [← HLA.out]
              show _ ++ (_ ++ (layNd la (pk, nd) ++ [])) = _
              rw [layNd_eq]
              unfold layRest
              rw [HDD.out]
              simp only [List.append_assoc, List.append_nil, List.cons_append, List.nil_append]
            rw [e]
            exact h1)
          have HLA2 : Hid (lastO 0 (l.take (k + 1)) = pk) := Lib.hid (by rw [HTK.out, lastO_app])
          clear hjK hn hjl
          go_wp2_with fail
          go_roundw
          case rel => first | exact ⟨k + 1, by omega, by go_num, by rw [HLA2.out], HS⟩ | ((repeat apply Exists.intro); exact ⟨⟨k + 1, by omega, by go_num, by rw [HLA2.out], HS⟩, rfl⟩)
          case measure => (simp [intOf]; try omega)
    · have d1 : decide ((k : Int) < (L : Int)) = false := decide_eq_false (by omega)
      have d1n : decide (k < L) = false := decide_eq_false hlt
      have HF2 : Hid (M = layAr l) := Lib.hid (by rw [HM.out, HL.out, List.take_of_length_le (by rw [← HL.out]; omega)]; rfl)
      have HST := Lib.hid hst.out
      clear hst
      go_wp2_with fail
      refine (wbytes_any w.heap.size g3 M wr HST.out.wt (by omega)).mono ?_
      rintro e w20 ⟨v, rfl, ho, hb⟩
      have HO : Hid (Own8 5 w.heap.size w20 v (layAr l)) := Lib.hid (by rw [← HF2.out]; exact ownsRow_base ho HST.out.bel.size)
      have HB := Lib.hid (btr HST.out.bel hb)
      clear ho hb
      go_wp2_with fail
      go_ret
      exact ⟨v, rfl, HO.out, HB.out⟩
end Go.Proofs.Ytnbncjebmlicgaa
