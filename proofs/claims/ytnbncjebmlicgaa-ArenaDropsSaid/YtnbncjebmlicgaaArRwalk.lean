/- Walk: the reference's Walk. -/
import Derived.Test.YtnbncjebmlicgaaArRat
import Derived.Test.YtnbncjebmlicgaaArDrop
namespace Go.Proofs.Ytnbncjebmlicgaa
open Go.RowKit

/-- IDs lie apart from a row of one's own -/
def Apart (a : Option Addr) (out : Value) : Prop := ∀ ad, a = some ad → out.ownBlock ≠ some ad.block
theorem Ids.keepB {w w' : World} {a : Option Addr} {n c : Nat} {l : List Nat} {S : Nat → Prop} (h : Ids w (.slice a n c) l) (ho : Only w w' S) (hs : ∀ ad, a = some ad → ad.block < w.heap.size → ¬ S ad.block) : Ids w' (.slice a n c) l := by
  obtain ⟨a', c', e, hm, hc, hn, h⟩ := h
  cases e
  refine ⟨_, _, rfl, hm, hc, hn, ?_⟩
  rcases h with h | ⟨g, o, ha, h⟩
  · exact .inl h
  · refine .inr ⟨g, o, ha, fun j x hx => ?_⟩
    obtain ⟨u, hu, he⟩ := h j x hx
    refine ⟨u, ?_, he⟩
    have hlt := block_lt_of_cell hu
    rw [← hu]
    unfold World.cell?
    simp only [ho.block g hlt (hs _ ha hlt)]
theorem Ids.suffix {w : World} {a : Option Addr} {n c : Nat} {l : List Nat} (h : Ids w (.slice a n c) l) (m : Nat) (hm : m ≤ l.length) :
    Ids w (.slice (if c = m then a else a.map (·.add m)) (n - m) (c - m)) (l.drop m) := by
  obtain ⟨a', c', e, h1, h2, h3, h4⟩ := h
  cases e
  refine ⟨_, _, by rw [List.length_drop], by rw [List.length_drop]; omega, by rw [List.length_drop]; omega, ?_, ?_⟩
  · intro h
    split at h
    · omega
    · cases a with
      | none => have := h3 rfl; omega
      | some ad => cases h
  · rcases h4 with h4 | ⟨g, o, ha, h4⟩
    · left; subst h4; simp
    · by_cases hcm : c = m
      · left
        apply List.drop_eq_nil_of_le
        omega
      · right
        refine ⟨g, o + m, ?_, fun j x hx => ?_⟩
        · rw [if_neg hcm, ha, Option.map_some, Addr.add_mid]
        · rw [List.getElem?_drop] at hx
          obtain ⟨u, hu, he⟩ := h4 (m + j) x hx
          exact ⟨u, by rw [Nat.add_assoc]; exact hu, he⟩
theorem run_suffixI {P : Program} {w : World} {a : Option Addr} {n c : Nat} {l : List Nat} (h : Ids w (.slice a n c) l) (k t e : Nat) (hk : k ≤ l.length)
    (T : RowTy P t e 1 8) : ∃ A N C, (∀ w', (Instr.slice t (.slice a n c) (some (.int .i64 k)) none none).run P w' = .ok (.slice A N C) w') ∧ Ids w (.slice A N C) (l.drop k) ∧ N = l.length - k ∧ ∀ ad, A = some ad → ∃ ad0, a = some ad0 ∧ ad.block = ad0.block := by
  have hs := h.suffix k hk
  obtain ⟨a', c', e1, h1, h2, _⟩ := h
  cases e1
  refine ⟨_, _, _, fun w' => ?_, hs, rfl, fun ad had => ?_⟩
  · obtain ⟨i, z, hi, hz, hsz, hby, hzs⟩ := T.ex
    have hb : (sizeOf e).run P w' = .ok 1 w' := by simp [sizeOf, typeInfo, hi, hsz]
    have hkn : (k : Int) ≤ (l.length : Nat) := by omega
    simp [Instr.slice, run_underlying T.ht, Instr.sliceBounds, run_sliceBound, hb, hkn]
  · split at had
    · exact ⟨ad, had, rfl⟩
    · cases a with
      | none => cases had
      | some ad0 =>
        cases had
        refine ⟨ad0, rfl, ?_⟩
        show (ad0.add k).block = _
        unfold Addr.add
        split <;> rfl
/-- an append whose run is known -/
theorem wpList_runA {P : Program} {w : World} {ops : Array Oper} {rest : List Oper} {o : Oper} {a : Act} {Q : Exit → Act → World → Prop} (hgd : o.guard = none) (s x : Operand) (t : TypeId) (ho : o.op = .call { callee := .builtin .append, args := #[s, x], argTypes := #[t, t] })
    (v y v' : Value) (w' : World) (hs : a.eval s = v) (hx : a.eval x = y) (hr : (Builtin.append_ #[t, t] o.type #[v, y]).run P w = .ok v' w') (h : wpList P ops Q rest (a.put o.dst v') w') : wpList P ops Q (o :: rest) a w := by
  refine wpList_yields hgd v' w' ?_ h
  unfold execOp
  simp only [ho, resolve, invoke, builtin, Sem.run_bind, Sem.run_pure, Result.andThen_ok, List.map_toArray, List.map_cons, List.map_nil, hs, hx, hr]
def lenV : Value → Nat
  | .slice _ n _ => n
  | _ => 0
theorem nodup_few {l : List (Nat × Nd)} {pre : List Nat} (hn : pre.Nodup) (hs : ∀ y ∈ pre, (getA l y).isSome = true) : pre.length ≤ l.length := by
  have h2 := hn.length_le_of_subset (l₂ := l.map (·.1)) (fun y hy => by
    obtain ⟨n, hn⟩ := Option.isSome_iff_exists.1 (hs y hy)
    exact List.mem_map.2 ⟨_, getA_mem hn, rfl⟩)
  simpa using h2
/-- where At finds one -/
theorem at_hit {l : List (Nat × Nd)} (ha : AscA l) {x k : Nat} (hk : idxI (l.map (·.1)) x = (k : Int)) : ∃ n, l[k]? = some (x, n) ∧ getA l x = some n := by
  have h1 : (l.map (·.1))[k]? = some x := by
    unfold idxI at hk
    cases h : (l.map (·.1)).findIdx? (· == x) with
    | none => rw [h] at hk; exact absurd hk (by simp)
    | some j =>
      rw [h] at hk
      have hj : j = k := by have h9 : (j : Int) = (k : Int) := hk; omega
      subst hj
      obtain ⟨hlt, he, -⟩ := List.findIdx?_eq_some_iff_getElem.1 h
      rw [List.getElem?_eq_getElem hlt]
      simpa using he
  rw [List.getElem?_map] at h1
  cases h2 : l[k]? with
  | none => rw [h2] at h1; cases h1
  | some p =>
    rw [h2] at h1
    obtain ⟨q, n⟩ := p
    have : q = x := Option.some.inj h1
    subst this
    exact ⟨n, rfl, getA_of_mem ha (List.mem_of_getElem? h2)⟩
theorem at_miss {l : List (Nat × Nd)} {x : Nat} (hk : idxI (l.map (·.1)) x < 0) : getA l x = none := by
  cases h : getA l x with
  | none => rfl
  | some n =>
    have hm : x ∈ l.map (·.1) := List.mem_map.2 ⟨_, getA_mem h, rfl⟩
    have := ((idxI_sign (l.map (·.1)) x).1).2 (by simpa using hm)
    omega

/-- where the loop of Walk stands -/
structure RwSt (w0 : World) (l : List (Nat × Nd)) (x0 B : Nat) (A : World) (out : Value) (a : Option Addr) (c : Nat) (pre st : List Nat) : Prop where
  own : OwnIds B A out pre
  wt : Ids A (.slice a st.length c) st
  ap : Apart a out
  is : walkO l pre st = walkOf l x0
  nd : pre.Nodup
  su : ∀ y ∈ pre, (getA l y).isSome = true
  lt : ∀ y ∈ st, y < 18446744073709551616
  few : todo l pre + st.length ≤ 20001000000
  bel : Below w0.heap.size w0 A
  sz : w0.heap.size ≤ B ∧ B ≤ A.heap.size
theorem RwSt.below {w0 A A' : World} {l : List (Nat × Nd)} {x0 B : Nat} {out : Value} {a : Option Addr} {c : Nat} {pre st : List Nat} (h : RwSt w0 l x0 B A out a c pre st) (hb : Below A.heap.size A A') : RwSt w0 l x0 B A' out a c pre st :=
  ⟨h.own.below hb, h.wt.below hb, h.ap, h.is, h.nd, h.su, h.lt, h.few, btr h.bel hb, h.sz.1, Nat.le_trans h.sz.2 hb.size⟩

set_option maxRecDepth 20000 in
set_option maxHeartbeats 3200000 in
theorem rwalk_any (v : Value) (l : List (Nat × Nd)) (x : Nat) (w : World) (hl : RowsX 0 w v l) (ha : AscA l) (hok : ∀ p ∈ l, p.2.kids.length ≤ 1000000) (hx : x < 18446744073709551616) (hfew : l.length ≤ 20000) :
    Calls Try.prog 25 #[v, .int .u64 x] w fun e w' => ∃ v', e = .returned v' ∧ OwnIds w.heap.size w' v' (walkOf l x) ∧ Below w.heap.size w w' := by
  obtain ⟨la, lc, rfl⟩ := hl.slice
  have HX := Lib.hid hl
  have HA := Lib.hid ha
  have HOK := Lib.hid hok
  have hst : RwSt w l x w.heap.size (w.alloc (.cells #[.int .u64 x] 26)) (.slice none 0 0) (some ⟨w.heap.size, 0, none⟩) 1 [] [x] := by
    have h1 := (own_one w x).ids
    have h2 := todo_max hok ([] : List Nat)
    refine ⟨OwnIds.nil _ _, h1, fun ad _ e => (by cases e), rfl, List.nodup_nil, (fun y hy => nomatch hy), fun y hy => by simp at hy; omega, by simp; omega, bal (bre w) _, Nat.le_refl _, (bal (bre w) _).size⟩
  have HST := Lib.hid hst
  obtain ⟨L, hL⟩ : ∃ L, L = l.length := ⟨_, rfl⟩
  rw [← hL] at HX hfew ⊢
  have HL := Lib.hid hL
  clear hl hL hst ha hok
  go_enter Try.func25, Try.ntmps25
  go_wp2_with fail
  go_loopw [5, 6, 7, 8] (fun out wt _ _ wr => ∃ (pre st : List Nat) (a : Option Addr) (c : Nat), wt = .slice a st.length c ∧ Hid (RwSt w l x w.heap.size wr out a c pre st)) (fun out wt _ _ _ => (20001 - lenV out) * 1000002 + lenV wt)
  case atStart => exact ⟨[], [x], _, 1, rfl, HST⟩
  case round =>
    clear HST
    obtain ⟨pre, st, a, c, rfl, hst⟩ := hrel
    obtain ⟨oa, oc, rfl⟩ := hst.out.own.slice
    have hpl : pre.length ≤ 20000 := by have := nodup_few hst.out.nd hst.out.su; have := HL.out; omega
    cases st with
    | nil =>
      have hfin : walkOf l x = pre := by rw [← hst.out.is, walkO_nil]
      have HF := Lib.hid hfin
      clear hfin
      go_wp2_with fail
      go_ret
      exact ⟨_, rfl, by rw [HF.out]; exact hst.out.own, hst.out.bel⟩
    | cons i st =>
      have hi64 := hst.out.lt i (List.mem_cons_self ..)
      have hwt := hst.out.wt
      obtain ⟨gw, ow, rfl, hcell⟩ : ∃ gw ow, a = some ⟨gw, ow, none⟩ ∧ wr.cell? ⟨gw, ow, none⟩ = some (.int .u64 (i : Int)) := by
        obtain ⟨a', c', e, -, -, -, h⟩ := hwt
        cases e
        rcases h with h | ⟨g, o, hga, h⟩
        · cases h
        · obtain ⟨u, hu, rfl⟩ := h 0 i rfl
          exact ⟨g, o, hga, hu⟩
      obtain ⟨A, N, C, hrun, hw2, hN, hbk⟩ := run_suffixI hwt 1 27 26 (by simp) rowI
      rw [List.drop_succ_cons, List.drop_zero] at hw2
      have hN2 : N = st.length := by rw [hN]; simp
      obtain ⟨M, hM⟩ : ∃ M, M = (i :: st).length := ⟨_, rfl⟩
      rw [← hM] at hrun ⊢
      have HM : Hid (M = st.length + 1) := Lib.hid (by rw [hM]; simp)
      have hM0 : decide ((0 : Int) < (M : Int)) = true := decide_eq_true (by have := HM.out; omega)
      have hM0n : decide (0 < M) = true := decide_eq_true (by have := HM.out; omega)
      have hM1 : 0 < M := by have := HM.out; omega
      have hM2 : (0 : Int) < (M : Int) := by omega
      subst hN2
      rw [show ((1 : Nat) : Int) = 1 from rfl] at hrun
      have hap2 : Apart A (.slice oa pre.length oc) := fun ad had => by
        obtain ⟨ad0, h0, h1⟩ := hbk ad had
        rw [h1]
        exact hst.out.ap ad0 h0
      have HST := Lib.hid hst.out
      have HW2 := Lib.hid hw2
      have HAP2 := Lib.hid hap2
      clear hst hwt hw2 hbk hN hap2 hM
      go_wp2_with fail
      refine (rat_any _ l i wr (by rw [HL.out]; rw [HL.out] at HX; exact HX.out.below HST.out.bel) (by have := HL.out; omega)).mono ?_
      rintro e w1 ⟨rfl, hb1⟩
      have HST1 := Lib.hid (HST.out.below hb1)
      have HW1 := Lib.hid (HW2.out.below hb1)
      have hfew := HST.out.few
      have hgwl : Hid (∀ ad, A = some ad → True) := Lib.hid fun _ _ => trivial
      obtain ⟨K, hK⟩ : ∃ K, K = idxI (l.map (·.1)) i := ⟨_, rfl⟩
      rw [← hK]
      have HKK := Lib.hid hK
      have hst64 : ∀ y ∈ st, y < 18446744073709551616 := fun y hy => HST.out.lt y (List.mem_cons_of_mem _ hy)
      have H64 := Lib.hid hst64
      clear hb1 hK hcell hst64 hrun hgwl HW2
      by_cases hneg : K < 0
      · have d1 : decide (K < 0) = true := decide_eq_true hneg
        have HS : Hid (RwSt w l x w.heap.size w1 (.slice oa pre.length oc) A C pre st) := Lib.hid ⟨HST1.out.own, HW1.out, HAP2.out, by rw [← HST1.out.is, walkO_skip (.inl (at_miss (by rw [← HKK.out]; exact hneg)))], HST1.out.nd, HST1.out.su, H64.out, by have := HST1.out.few; simp at this; omega, HST1.out.bel, HST1.out.sz⟩
        clear hneg HST HST1 HW1 HKK hfew
        go_wp2_with fail
        go_roundw
        case rel => exact ⟨pre, st, A, C, rfl, HS⟩
        case measure => simp [lenV]; have := HM.out; omega
      · obtain ⟨k, rfl⟩ := Int.eq_ofNat_of_zero_le (by omega : 0 ≤ K)
        have d1 : decide ((k : Int) < 0) = false := decide_eq_false (by omega)
        obtain ⟨nd, hlk, hga⟩ := at_hit HA.out HKK.out.symm
        go_wp2_with fail
        refine (rin_any _ pre i w1 HST1.out.own.ids).mono ?_
        rintro e w2 ⟨rfl, hw2⟩
        have hw2' := hw2.symm
        subst hw2'
        obtain ⟨bb, hbb⟩ : ∃ bb, bb = decide (i ∈ pre) := ⟨_, rfl⟩
        rw [← hbb]
        cases bb with
        | true =>
          have hmem : i ∈ pre := of_decide_eq_true hbb.symm
          have HS : Hid (RwSt w l x w.heap.size w1 (.slice oa pre.length oc) A C pre st) := Lib.hid ⟨HST1.out.own, HW1.out, HAP2.out, by rw [← HST1.out.is, walkO_skip (.inr hmem)], HST1.out.nd, HST1.out.su, H64.out, by have := HST1.out.few; simp at this; omega, HST1.out.bel, HST1.out.sz⟩
          clear hmem hbb hneg HST HST1 HW1 HKK hfew hlk hga hw2
          go_wp2_with fail
          go_roundw
          case rel => exact ⟨pre, st, A, C, rfl, HS⟩
          case measure => simp [lenV]; have := HM.out; omega
        | false =>
          have hnm : i ∉ pre := of_decide_eq_false hbb.symm
          have hb3 := bal (bre w1) (.cells #[.int .u64 i] 26)
          obtain ⟨v6, w6, hrun6, hv6, hg6, hs6⟩ := run_app_ids (HST1.out.own.below hb3) (own_one w1 i).ids 27 (Nat.le_trans HST1.out.sz.2 hb3.size) (by simp; omega)
          have hrun6' : (Builtin.append_ #[27, 27] 27 #[Value.slice oa pre.length oc, .slice (some ⟨w1.heap.size, 0, none⟩) 1 1]).run Try.prog (w1.alloc (.cells #[.int .u64 i] 26)) = .ok v6 w6 := hrun6
          have hon6 := (Only.of_below hb3 (fun q => (Value.slice oa pre.length oc).ownBlock = some q)).trans (Only.of_grown hg6) fun _ _ h => h
          have hw6 : Ids w6 (.slice A st.length C) st := HW1.out.keepB hon6 fun ad had _ => HAP2.out ad had
          have hbw6 : Below w.heap.size w w6 := HST1.out.bel.trans (hon6.below _ HST1.out.bel.size fun q hq e => by have := (HST1.out.own.blk e).1; omega)
          have hsz6 := hbw6.size
          have hsep6 : ∀ q, v6.ownBlock = some q → q < w6.heap.size := fun q hq => (hv6.blk hq).2
          obtain ⟨a6, c6, rfl⟩ := hv6.slice
          have H6 := Lib.hid hv6
          have HW6 := Lib.hid hw6
          have HB6 := Lib.hid hbw6
          have HNM := Lib.hid hnm
          have HLK := Lib.hid hlk
          have HGA := Lib.hid hga
          have HSEP := Lib.hid hsep6
          clear hnm hbb hneg hlk hga hw2 hrun6 hv6 hg6 hs6 hon6 hw6 hbw6 hsep6 hb3
          go_upto_region 9 with (at_builtin; refine wpList_runA rfl _ _ _ rfl _ _ _ _ rfl rfl hrun6' ?_)
          obtain ⟨gr, ka, kc, hla, hkk, okk, c0, c1, c2, c3, c4, c5, c7⟩ := (HX.out.below HB6.out).one HLK.out
          subst hla
          replace c7 : w6.cell? ⟨gr, k * 7 + 6, none⟩ = some (.slice ka nd.kids.length kc) := c7
          have hkf : nd.kids.length ≤ 1000000 := okk.few
          have hki : ∀ y ∈ nd.kids, y < 18446744073709551616 := okk.ids
          replace hkk : OwnIds 0 w6 (.slice ka nd.kids.length kc) nd.kids := hkk
          have hb7 := bal (bre w6) (.cells #[] 26)
          have hown7 : OwnIds w6.heap.size (w6.alloc (.cells #[] 26)) (.slice (some ⟨w6.heap.size, 0, none⟩) 0 0) [] := own_none w6 26
          obtain ⟨v8, w8, hrun8, hv8, hg8, hs8⟩ := run_app_ids hown7 (hkk.below hb7).ids 27 hb7.size (by simp at hfew ⊢; omega)
          have hb8 : Below w6.heap.size w6 w8 := hb7.trans ((Only.of_grown hg8).below _ hb7.size (fun q hq e => (by
            have e2 : w6.heap.size = q := (by simpa [Value.ownBlock] using e)
            omega)))
          rw [List.nil_append] at hv8
          obtain ⟨v9, w9, hrun9, hv9, hg9, hs9⟩ := run_app_ids hv8 (HW6.out.below hb8) 27 hb8.size (by simp at hfew ⊢; omega)
          have hb9 : Below w6.heap.size w6 w9 := hb8.trans ((Only.of_grown hg9).below _ hb8.size (fun q hq e => (by have := (hv8.blk e).1; omega)))
          obtain ⟨a8, c8, rfl⟩ := hv8.slice
          obtain ⟨a9, c9, rfl⟩ := hv9.slice
          have hap9 : Apart a9 (.slice a6 (pre ++ [i]).length c6) := fun ad had e => by
            subst had
            obtain ⟨-, h2 | ⟨g', cap, cur, e2, hbg, -⟩⟩ := hv9
            · cases h2.1
            · injection e2 with e3
              cases e3
              have h1' : g' < w6.heap.size := HSEP.out g' e
              omega
          have hll : (pre ++ [i]).length = pre.length + 1 := by simp
          have hll2 : (nd.kids ++ st).length = nd.kids.length + st.length := by simp
          have htd := todo_step HGA.out HNM.out
          have HS : Hid (RwSt w l x w.heap.size w9 (.slice a6 (pre.length + 1) c6) a9 c9 (pre ++ [i]) (nd.kids ++ st)) := Lib.hid (by
            rw [hll] at hap9
            have ho9 := H6.out.below hb9
            rw [hll] at ho9
            refine ⟨ho9, hv9.ids, hap9, by rw [← HST1.out.is, walkO_step HGA.out HNM.out], ?_, fun y hy => ?_, fun y hy => ?_, by rw [hll2]; have := HST1.out.few; simp at this; omega, HB6.out.trans (hb9.mono hsz6), HST1.out.sz.1, Nat.le_trans hsz6 hb9.size⟩
            · rw [List.nodup_append]
              refine ⟨HST1.out.nd, by simp, fun a ha b hb e => ?_⟩
              simp at hb
              subst hb
              subst e
              exact HNM.out ha
            · rcases List.mem_append.1 hy with hy | hy
              · exact HST1.out.su y hy
              · simp at hy; subst hy; rw [HGA.out]; rfl
            · rcases List.mem_append.1 hy with hy | hy
              · exact hki y hy
              · exact H64.out y hy)
          obtain ⟨NL, hNL⟩ : ∃ q, q = nd.kids.length := ⟨_, rfl⟩
          have hrun8' : (Builtin.append_ #[27, 27] 27 #[Value.slice (some ⟨w6.heap.size, 0, none⟩) 0 0, .slice ka NL kc]).run Try.prog (w6.alloc (.cells #[] 26)) = .ok (Value.slice a8 NL c8) w8 := by rw [hNL]; exact hrun8
          have hrun9' : (Builtin.append_ #[27, 27] 27 #[Value.slice a8 NL c8, .slice A st.length C]).run Try.prog w8 = .ok (Value.slice a9 (NL + st.length) c9) w9 := by rw [hNL, ← hll2]; exact hrun9
          rw [← hNL] at c7
          have c8' : (w6.alloc (.cells #[] 26)).cell? ⟨gr, k * 7 + 1 + 5, none⟩ = some (.slice ka NL kc) := (hb7.cell (p := ⟨gr, k * 7 + 6, none⟩) (block_lt_of_cell c7)).trans c7
          have HNL := Lib.hid hNL
          have k2 : (k : Int) < (L : Int) := by have := (List.getElem?_eq_some_iff.1 HLK.out).1; have := HL.out; omega
          have hkfN : NL ≤ 1000000 := by rw [hNL]; exact hkf
          clear hrun8 hrun9 hap9 hv8 hv9 hg8 hg9 hs8 hs9 hown7 hkk okk hki hkf hb7 hb8 hb9 htd hll hll2 hNL c0 c1 c2 c3 c4 c5 HST HST1 HW1 HW6 H6 HSEP
          go_wp2_with (at_builtin; first | refine wpList_runA rfl _ _ _ rfl _ _ _ _ rfl rfl hrun8' ?_ | refine wpList_runA rfl _ _ _ rfl _ _ _ _ rfl rfl hrun9' ?_)
          go_roundw
          case rel => exact ⟨_, _, a9, c9, by rw [List.length_append, HNL.out], HS⟩
          case measure => simp [lenV]; have := HM.out; omega
end Go.Proofs.Ytnbncjebmlicgaa
