/- Walk: grammar.Parse, whole. What is plain and yet to be shown stands as PlainOk. -/
import Derived.Test.YtljdphpbalioaaaGreatDoorGnT
namespace Go.Proofs.YtljdphpbalioaaaGreatDoor
open Go.RowKit

def idsOf (T : LT Nat) : Nat → Nat := (Nm.numT (fun _ => 0) 1 T).1
def retP (g : Option Nat) (e : Nat) : Ending := .returned (.tuple #[.pointer (g.map fun g => ⟨g, 0, none⟩), .int .i64 e])
/-- what the plain laws say of a text -/
structure PlainOk (l : Bs) : Prop where
  toks : ∀ ts, toksOf l = some ts → ts.length ≤ 200000 ∧ TokOk ts
  size : ∀ ts (T : LT Nat), toksOf l = some ts → T.bare = (Gr.program ts (ts.length + 1)).1 → (Gr.program ts (ts.length + 1)).2.bad = false → T.count ≤ 8000000000000000000
  node : ∀ ts (T : LT Nat), toksOf l = some ts → T.bare = (Gr.program ts (ts.length + 1)).1 → ∀ a ∈ T.nodes, (a.name.length ≤ 1000000 ∧ a.tgt.length ≤ 1000000 ∧ a.mod.length ≤ 1000000) ∧ a.kind < 256 ∧ a.typ < 256 ∧ (Lit.int .i64 a.num).wf = true
  ids : ∀ T : LT Nat, (T.nodes.map LT.lab).Nodup → T.count ≤ 20000 → (∀ a ∈ T.nodes, idsOf T a.lab ≠ 0) ∧ (∀ x, idsOf T x < 18446744073709551616) ∧ idsOf T T.lab = 1
  refs : ∀ T : LT Nat, T.count ≤ 20000 → ∀ x, (Nm.all (idsOf T) T).2 x < 18446744073709551616
def ParseSays (l : Bs) (w : World) (e : Ending) (w' : World) : Prop := Below w.heap.size w w' ∧
  ((200000 < l.length ∧ e = retP none 4) ∨ (l.length ≤ 200000 ∧ toksOf l = none ∧ e = retP none 20) ∨
    (l.length ≤ 200000 ∧ ∃ ts, toksOf l = some ts ∧
      (((Gr.program ts (ts.length + 1)).2.bad = true ∧ e = retP none 20) ∨
        ((Gr.program ts (ts.length + 1)).2.bad = false ∧ ∃ T : LT Nat, T.bare = (Gr.program ts (ts.length + 1)).1 ∧ (T.nodes.map LT.lab).Nodup ∧
          ((20000 < T.count ∧ e = retP none 5) ∨ (T.count ≤ 20000 ∧ (Nm.all (idsOf T) T).1 ≠ 0 ∧ e = retP none (Nm.all (idsOf T) T).1) ∨
            (T.count ≤ 20000 ∧ (Nm.all (idsOf T) T).1 = 0 ∧ ∃ ga ba, e = retP (some ga) 0 ∧ ArAt w' ga ba (Nm.layT (idsOf T) (Nm.all (idsOf T) T).2 [(1, .prog)] T)))))))

/-- an arena that has just been made -/
structure ArNew (w : World) (g b : Nat) : Prop where
  box : w.heap[g]? = some (.cells #[.map (some b)] 61 (0, 0))
  map : MapU Tryz.prog 34 w b [(1, NdVal .prog (.slice none 0 0))]
theorem ArNew.lt {w : World} {g b : Nat} (h : ArNew w g b) : g < w.heap.size ∧ b < w.heap.size := ⟨(Array.getElem?_eq_some_iff.1 h.box).1, h.map.lt⟩
theorem ArNew.only {w w' : World} {g b : Nat} {S : Nat → Prop} (h : ArNew w g b) (ho : Only w w' S) (hg : ¬ S g) (hb : ¬ S b) : ArNew w' g b := ⟨(ho.block g h.lt.1 hg).trans h.box, h.map.only ho hb⟩
theorem ArNew.below {w w' : World} {g b : Nat} (h : ArNew w g b) (hb : Below w.heap.size w w') : ArNew w' g b := h.only (Only.of_below hb fun _ => False) (fun h => h) fun h => h
theorem ArNew.at {w : World} {g b : Nat} (h : ArNew w g b) : ArAt w g b [(1, .prog)] := ⟨h.box, ⟨_, h.map, .cons ⟨rfl, ⟨_, rfl, OwnIds.nil _ _, Nd.prog_ok⟩⟩ .nil⟩, (fun p hp => by simp at hp; subst hp; exact Nat.one_ne_zero), by simp⟩
theorem ArNew.far {w : World} {g b : Nat} (h : ArNew w g b) : ArFar w b (fun _ => True) := ⟨_, h.map, fun _ _ _ _ _ _ _ => trivial⟩

set_option maxRecDepth 10000 in
set_option maxHeartbeats 800000 in
theorem arnew2_any (w : World) :
    Calls Tryz.prog 14 #[] w fun e w' => ∃ g b, e = .returned (.pointer (some ⟨g, 0, none⟩)) ∧ ArNew w' g b ∧ w.heap.size ≤ g ∧ w.heap.size ≤ b ∧ Below w.heap.size w w' := by
  have hmm := @run_makeMap Tryz.prog
  obtain ⟨w1, hrun, h1, h2, h3⟩ := (MapU.new (P := Tryz.prog) (k := 34) w).store (t := 59) Tryz.underlying34 Tryz.underlying59 1 (by decide) (NdVal .prog (.slice none 0 0)) (by decide)
  have hb0 := bal (bre w) (.map #[] 0)
  have hb1 : Below w.heap.size w w1 := hb0.trans (h2.below w.heap.size hb0.size fun i hi e => by omega)
  have hrun' : (Instr.mapUpdate 59 (.map (some w.heap.size)) (.int .u64 1) (.agg #[.int .u8 1, .string ⟨#[]⟩, .int .i64 0, .int .u8 0, .int .u64 0, .slice none 0 0])).run Tryz.prog (w.alloc (.map #[] 0)) = .ok () w1 := hrun
  have H1 := Lib.hid h1
  have HB1 := Lib.hid hb1
  clear hrun h1 h2 h3 hb0 hb1
  go_enter Tryz.func14, Tryz.ntmps14
  go_wp2_with fail
  go_ret
  have hbx := bal (bre w1) (.cells #[.map (some w.heap.size)] 61)
  have hn := heap_alloc_new w1 (.cells #[.map (some w.heap.size)] 61)
  exact ⟨_, w.heap.size, rfl, ⟨hn, H1.out.below hbx⟩, HB1.out.size, Nat.le_refl _, btr HB1.out hbx⟩

set_option linter.unusedSimpArgs false in
set_option maxRecDepth 40000 in
set_option maxHeartbeats 3200000 in
theorem parse_any (l : Bs) (w : World) (htb : Tb w.heap.size w) (hpl : l.length ≤ 200000 → PlainOk l) :
    Calls Tryz.prog 6 #[.string (mk8 l)] w (ParseSays l w) := by
  have HPL := Lib.hid hpl
  have HTB := Lib.hid htb
  clear hpl htb
  go_enter Tryz.func6, Tryz.ntmps6
  go_wp2_with fail
  by_cases hlong : 200000 < l.length
  · refine (all_long (mk8 l) (by show 200000 < l.toArray.size; rw [List.size_toArray]; exact hlong) w).mono ?_
    rintro e w1 ⟨rfl, hw1⟩
    subst hw1
    go_wp2_with fail
    refine bodyPost_ret (v := .tuple #[.pointer none, .int .i64 4]) (by simp [results, Tryz.results6, go_sem]) rfl ?_
    exact ⟨Below.refl _ _, .inl ⟨hlong, rfl⟩⟩
  · refine (all_any (mk8 l) (by show l.toArray.size ≤ 200000; rw [List.size_toArray]; omega) w HTB.out).mono ?_
    rintro e w1 ⟨hnone, hsome, hb1⟩
    have HLN : Hid (l.length ≤ 200000) := Lib.hid (by omega)
    replace HPL := Lib.hid (HPL.out (by omega))
    have hml : (mk8 l).data.toList = l := by show l.toArray.toList = l; simp
    rw [hml] at hnone hsome
    cases hts : toksOf l with
    | none =>
      have he := hnone hts
      subst he
      have HTS := Lib.hid hts
      have HB1 := Lib.hid hb1
      clear hts hnone hsome hb1 hlong hml
      go_wp2_with fail
      refine bodyPost_ret (v := .tuple #[.pointer none, .int .i64 20]) (by simp [results, Tryz.results6, go_sem]) rfl ?_
      exact ⟨HB1.out, .inr (.inl ⟨HLN.out, HTS.out, rfl⟩)⟩
    | some ts =>
      obtain ⟨v, he, hown⟩ := hsome ts hts
      subst he
      obtain ⟨ta, tc, rfl, hcap, htoks, hta⟩ := hown.toks
      have HTS := Lib.hid hts
      have hpk := HPL.out.toks ts hts
      obtain ⟨g, hg⟩ : ∃ q, q = w1.heap.size := ⟨_, rfl⟩
      have hb2 := bal (bre w1) (.cells #[.slice ta ts.length tc, .int .i64 0, .int .i64 0, .bool false] 46)
      have hr2 := heap_alloc_new w1 (.cells #[.slice ta ts.length tc, .int .i64 0, .int .i64 0, .bool false] 46)
      have htoks2 := htoks.only (Only.of_below hb2 fun _ => False) (fun k h => h.elim)
      have hs2 : (w1.alloc (.cells #[.slice ta ts.length tc, .int .i64 0, .int .i64 0, .bool false] 46)).heap.size = w1.heap.size + 1 := by simp
      have HB1 := Lib.hid (btr hb1 hb2)
      have HB0 := Lib.hid hb1
      rw [← hg] at hr2
      clear hts hnone hsome hlong hml hown htoks
      go_upto_region 5 with fail
      rw [← hg]
      generalize w1.alloc (.cells #[.slice ta ts.length tc, .int .i64 0, .int .i64 0, .bool false] 46) = w2 at *
      have hask : Asks w2 g ta tc ts w.heap.size ⟨0, 0, false⟩ := by
        refine ⟨⟨hr2, htoks2, hcap, by omega, fun q hq => by have := (hta q hq).1; omega⟩, HTB.out.below HB1.out, HB1.out.size, fun q hq => by have := (hta q hq).1; omega, by rw [hg]; exact HB0.out.size⟩
      have HASK := Lib.hid hask
      have HPK := Lib.hid hpk
      clear hb1 hb2 hr2 htoks2 hs2 hask hcap hta hg hpk
      go_wp2_with fail
      refine (program_walk g ta tc ts w.heap.size (ts.length + 1) w2 (Nat.le_refl _) (by have := HPK.out.1; omega) HPK.out.2 HASK.out).mono ?_
      rintro e w3 ⟨v, bs, rfl, hd, hp3, ho3⟩
      obtain ⟨gv, rfl⟩ := hd.ptr
      obtain ⟨P, hP⟩ : ∃ P, P = Gr.program ts (ts.length + 1) := ⟨_, rfl⟩
      rw [← hP] at hd hp3
      have HP := Lib.hid hP
      have hgl : w.heap.size ≤ g := HASK.out.big
      have hb3 : Below w.heap.size w w3 := HB1.out.trans (ho3.below w.heap.size HB1.out.size fun i hi e => by have : i = g := e; omega)
      have c3 := cell_of_row w3 g 3 _ _ _ hp3.row
      replace c3 : w3.cell? ⟨g, 3, none⟩ = some (.bool P.2.bad) := c3
      obtain ⟨bd, hbd⟩ : ∃ b, b = P.2.bad := ⟨_, rfl⟩
      rw [← hbd] at c3
      have HBD := Lib.hid hbd
      have HB3 := Lib.hid hb3
      obtain ⟨T, hTb, hTv, hTm, hTs⟩ := TrAt.lt (N0 := w3.heap.size) P.1 _ bs hd.at' (fun b hb => (hd.new b hb).2)
      have HTB2 := Lib.hid hTb
      have HND : Hid ((T.nodes.map LT.lab).Nodup) := Lib.hid (hTs.nodup hd.once)
      have HLO : Hid (∀ k, Lb T.nodes k → w.heap.size ≤ k ∧ k < w3.heap.size) := Lib.hid (fun k ⟨a, ha, e⟩ => by
        have h1 := hd.new k (hTs.subset (by rw [← e]; exact List.mem_map_of_mem ha))
        exact ⟨Nat.le_trans HB1.out.size h1.1, h1.2⟩)
      have HMEM := Lib.hid hTm
      have hgv : gv = T.lab := by
        unfold ptrG at hTv
        have h1 := Value.pointer.inj hTv
        have h2 := Option.some.inj h1
        exact (Addr.mk.inj h2).1
      subst hgv
      clear hP hbd hd hp3 ho3 hb3 hTb hTv hTm hTs HASK hgl
      cases bd with
      | true =>
        go_wp2_with fail
        refine bodyPost_ret (v := .tuple #[.pointer none, .int .i64 20]) (by simp [results, Tryz.results6, go_sem]) rfl ?_
        exact ⟨HB3.out, .inr (.inr ⟨HLN.out, ts, HTS.out, .inl ⟨by rw [← HP.out]; exact HBD.out.symm, rfl⟩⟩)⟩
      | false =>
        have HSZT : Hid (T.count ≤ 8000000000000000000) := Lib.hid (HPL.out.size ts T HTS.out (by rw [← HP.out]; exact HTB2.out) (by rw [← HP.out]; exact HBD.out.symm))
        go_wp2_with fail
        refine (arnew2_any w3).mono ?_
        rintro e w4 ⟨ga, ba, rfl, har, hga, hba, hb4⟩
        have hmm := @run_makeMap Tryz.prog
        have hbA := bal (bre w4) (.map #[] 0)
        have hfA := MapV.new (enc := encF) Tryz.prog 81 w4
        have hsA : (w4.alloc (.map #[] 0)).heap.size = w4.heap.size + 1 := by simp
        have hbB := bal (bre (w4.alloc (.map #[] 0))) (.map #[] 0)
        have hmB := MapV.new (enc := encS) Tryz.prog 9 (w4.alloc (.map #[] 0))
        rw [hsA] at hmB
        have hsB : ((w4.alloc (.map #[] 0)).alloc (.map #[] 0)).heap.size = w4.heap.size + 1 + 1 := by simp
        have hbC := bal (bre ((w4.alloc (.map #[] 0)).alloc (.map #[] 0))) (.cells #[.pointer (some ⟨ga, 0, none⟩), .int .u64 1, .map (some w4.heap.size), .map (some (w4.heap.size + 1)), .slice none 0 0, .map none, .slice none 0 0] 56)
        have hrC := heap_alloc_new ((w4.alloc (.map #[] 0)).alloc (.map #[] 0)) (.cells #[.pointer (some ⟨ga, 0, none⟩), .int .u64 1, .map (some w4.heap.size), .map (some (w4.heap.size + 1)), .slice none 0 0, .map none, .slice none 0 0] 56)
        rw [hsB] at hrC
        have hfC := (hfA.below hbB).below hbC
        have hmC := hmB.below hbC
        have h45 := btr (btr hbA hbB) hbC
        have HAR := Lib.hid (har.below h45)
        have HALOW := Lib.hid (And.intro hga (And.intro hba har.lt))
        have HMEM5 := Lib.hid ((HMEM.out.below hb4).below h45)
        have HB5 := Lib.hid (HB3.out.trans ((btr hb4 h45).mono HB3.out.size))
        have h34 := hb4.size
        clear hbA hfA hsA hbB hmB hsB hbC hb4 har hga hba HMEM
        go_upto_region 9 with fail
        generalize ((w4.alloc (.map #[] 0)).alloc (.map #[] 0)).alloc (.cells #[.pointer (some ⟨ga, 0, none⟩), .int .u64 1, .map (some w4.heap.size), .map (some (w4.heap.size + 1)), .slice none 0 0, .map none, .slice none 0 0] 56) = w5 at *
        obtain ⟨gm, hgm⟩ : ∃ q, q = w4.heap.size + 1 + 1 := ⟨_, rfl⟩
        obtain ⟨bm, hbm⟩ : ∃ q, q = w4.heap.size + 1 := ⟨_, rfl⟩
        obtain ⟨bf, hbf⟩ : ∃ q, q = w4.heap.size := ⟨_, rfl⟩
        rw [← hgm] at hrC ⊢
        rw [← hbm] at hrC hmC
        rw [← hbf] at hrC hfC
        have HBOX : Hid (BoxM w5 gm (.pointer (some ⟨ga, 0, none⟩)) 1 (.map (some bf)) (.map (some bm)) (.slice none 0 0) (.map none) (.slice none 0 0)) := Lib.hid hrC
        have HFM : Hid (MapV Tryz.prog 81 encF w5 bf 0 (fun _ => none)) := Lib.hid hfC
        have HMM : Hid (MapV Tryz.prog 9 encS w5 bm 0 (fun _ => none)) := Lib.hid hmC
        have HNUMS : Hid (w3.heap.size ≤ bf ∧ bm = bf + 1 ∧ gm = bf + 2 ∧ bf = w4.heap.size) := Lib.hid ⟨by omega, by omega, by omega, hbf⟩
        clear hgm hbm hbf hrC hfC hmC hmm h45 h34
        go_wp2_with fail
        refine (num_any gm w3.heap.size T.nodes (.pointer (some ⟨ga, 0, none⟩)) (.map (some bf)) (.map (some bm)) (.slice none 0 0) (.map none) (.slice none 0 0) T.count T (Nat.le_refl _) w5 (fun _ => 0) 1 (fun _ h => h) ⟨HMEM5.out, HBOX.out, by have := HNUMS.out; omega⟩ (by have := HSZT.out; omega)).mono ?_
        rintro e w6 ⟨rfl, hn6, ho6⟩
        rw [numT_next] at hn6
        have hn6' : NumM w6 gm w3.heap.size T.nodes (.pointer (some ⟨ga, 0, none⟩)) (.map (some bf)) (.map (some bm)) (.slice none 0 0) (.map none) (.slice none 0 0) (idsOf T) (1 + T.count) := hn6
        have m1 := cell_of_row w6 gm 1 _ _ _ hn6'.box
        replace m1 : w6.cell? ⟨gm, 1, none⟩ = some (.int .u64 ((1 + T.count : Nat) : Int)) := m1
        have hso : ∀ k, (k = gm ∨ Lb T.nodes k) → w.heap.size ≤ k := fun k hk => by
          rcases hk with e | e
          · have := HNUMS.out; have := HB3.out.size; omega
          · exact (HLO.out k e).1
        have HB6 := Lib.hid (HB5.out.trans (ho6.below w.heap.size HB5.out.size fun i hi e => by have := hso i e; omega))
        have HAR6 := Lib.hid (HAR.out.only ho6 (fun e => by
          rcases e with e | e
          · have := HALOW.out.2.2.1; have := HNUMS.out; omega
          · have := (HLO.out _ e).2; have := HALOW.out.1; omega) (fun e => by
          rcases e with e | e
          · have := HALOW.out.2.2.2; have := HNUMS.out; omega
          · have := (HLO.out _ e).2; have := HALOW.out.2.1; omega))
        have hmapN : ∀ b, (b = bf ∨ b = bm) → ¬ (b = gm ∨ Lb T.nodes b) := fun b hb e => by
          have h1 := HNUMS.out
          rcases e with e | e
          · omega
          · have := (HLO.out _ e).2; omega
        have HFM6 := Lib.hid (HFM.out.only ho6 (hmapN bf (.inl rfl)))
        have HMM6 := Lib.hid (HMM.out.only ho6 (hmapN bm (.inr rfl)))
        have HN6 := Lib.hid hn6'
        clear hn6 hn6' ho6 hso hmapN HFM HMM HAR HB5 HBOX HMEM5
        by_cases hfull : 20000 < T.count
        · have d1 : decide ((20001 : Int) < ((1 + T.count : Nat) : Int)) = true := decide_eq_true (by omega)
          have d1n : decide (20001 < 1 + T.count) = true := decide_eq_true (by omega)
          have d2 : decide ((20001 : Int) < 1 + (T.count : Int)) = true := decide_eq_true (by omega)
          go_wp2_with fail
          refine bodyPost_ret (v := .tuple #[.pointer none, .int .i64 5]) (by simp [results, Tryz.results6, go_sem]) rfl ?_
          exact ⟨HB6.out, .inr (.inr ⟨HLN.out, ts, HTS.out, .inr ⟨by rw [← HP.out]; exact HBD.out.symm, T, by rw [← HP.out]; exact HTB2.out, HND.out, .inl ⟨hfull, rfl⟩⟩⟩)⟩
        · have d1 : decide ((20001 : Int) < ((1 + T.count : Nat) : Int)) = false := decide_eq_false (by omega)
          have d1n : decide (20001 < 1 + T.count) = false := decide_eq_false (by omega)
          have d2 : decide ((20001 : Int) < 1 + (T.count : Int)) = false := decide_eq_false (by omega)
          have hcn : T.count ≤ 20000 := by omega
          have HIDS := Lib.hid (HPL.out.ids T HND.out hcn)
          have HREFS := Lib.hid (HPL.out.refs T hcn)
          have HNODE := Lib.hid (HPL.out.node ts T HTS.out (by rw [← HP.out]; exact HTB2.out))
          have hJ : Rob (Far w3.heap.size T.nodes [ga, ba]) (fun w' => Below w.heap.size w w' ∧ ArNew w' ga ba) w6 := fun w' ho => by
            have h1 := HALOW.out
            refine ⟨HB6.out.trans (ho.below w.heap.size HB6.out.size fun i hi e => ?_), HAR6.out.only ho (fun e => ?_) fun e => ?_⟩
            · rcases e with e | e
              · have := (HLO.out i e.2).1; omega
              · have := e.1; have := HB3.out.size; omega
            · rcases e with e | e
              · have := e.1; omega
              · exact e.2 (List.mem_cons_self ..)
            · rcases e with e | e
              · have := e.1; omega
              · exact e.2 (List.mem_cons_of_mem _ (List.mem_cons_self ..))
          have hkeep : KeepOk (bm :: [ga, ba]) w6 := fun k hk => by
            rcases List.mem_cons.1 hk with e | hk
            · rw [e]; exact .inl HMM6.out.obj
            · rcases List.mem_cons.1 hk with e | hk
              · rw [e]; exact .inr ⟨_, _, HAR6.out.box⟩
              · rw [List.mem_singleton.1 hk]; exact .inl HAR6.out.map.isMap
          have hF : FsM (fun _ => True) (bm :: [ga, ba]) gm w3.heap.size T.nodes (idsOf T) (.pointer (some ⟨ga, 0, none⟩)) (1 + T.count) bf (.map (some bm)) w6 ⟨fun _ => none, [], fun _ => 0⟩ 0 (.slice none 0 0) (.map none) (.slice none 0 0) := by
            have h1 := HNUMS.out
            have h2 := HALOW.out
            have h3 := HAR6.out.lt
            refine ⟨HN6.out.mem, HN6.out.box, ⟨⟨_, HFM6.out, fun k => rfl⟩, fun k b hk => by cases hk⟩, World.ownsRow_nil _ _ _ _, (fun c hc => nomatch hc), ⟨by omega, by omega, ?_, ?_⟩, Nat.le_refl _, (fun a ha => (HNODE.out a ha).1), fun _ _ => trivial, hkeep⟩
            · simp only [List.mem_cons, List.not_mem_nil, or_false, not_or]
              omega
            · simp only [List.mem_cons, List.not_mem_nil, or_false, not_or]
              omega
          have hbmk : w3.heap.size ≤ bm ∧ bm ∉ [ga, ba] := by
            have h1 := HNUMS.out
            have h2 := HALOW.out
            refine ⟨by omega, ?_⟩
            simp only [List.mem_cons, List.not_mem_nil, or_false, not_or]
            omega
          have HJ := Lib.hid hJ
          have HF := Lib.hid hF
          have HBMK := Lib.hid hbmk
          have HMOD : Hid (ModM w6 bm 0 (fun _ => false)) := Lib.hid ⟨_, HMM6.out, fun x => rfl⟩
          clear hJ hkeep hF hbmk HFM6 HMM6 HAR6 hfull
          go_wp2_with fail
          refine (nall_any (fun w' => Below w.heap.size w w' ∧ ArNew w' ga ba) [ga, ba] gm w3.heap.size T.nodes (idsOf T) (.pointer (some ⟨ga, 0, none⟩)) (1 + T.count) bf bm w6 0 (.slice none 0 0) (.map none) (.slice none 0 0) T (fun _ h => h) HBMK.out HF.out HJ.out HMOD.out (by omega)).mono ?_
          rintro e w7 ⟨rfl, hres⟩
          obtain ⟨A, hA⟩ : ∃ A, A = Nm.all (idsOf T) T := ⟨_, rfl⟩
          rw [← hA] at hres ⊢
          have HA := Lib.hid hA
          clear hA m1 HN6 HJ HF HMOD
          rcases hres with ⟨hz, hj7, hm7, cv7, uv7, sv7, hbx7⟩ | ⟨hnz, hj7⟩
          · have e1 : ((A.1 : Int) != 0) = false := by rw [hz]; rfl
            have e2 : decide ((A.1 : Int) = 0) = true := decide_eq_true (by omega)
            have e3 : ((A.1 : Int) == 0) = true := by rw [hz]; rfl
            have hlm : LayM gm w3.heap.size T.nodes (idsOf T) A.2 ga ba (1 + T.count) (.map (some bf)) (.map (some bm)) cv7 uv7 sv7 w7 (fun _ => .slice none 0 0) [(1, .prog)] (fun _ => True) :=
              ⟨hm7, hj7.here.2.at, hj7.here.2.far, hbx7, ⟨by have := HNUMS.out; omega, by have := HALOW.out; omega, by have := HALOW.out; omega⟩⟩
            have hok : LayOk T.nodes (idsOf T) A.2 := fun a ha => by
              obtain ⟨h1, h2, h3, h4⟩ := HNODE.out a ha
              exact ⟨HIDS.out.1 a ha, HIDS.out.2.1 _, by rw [HA.out]; exact HREFS.out _, h2, h3, h4, h1.1⟩
            have HLM := Lib.hid hlm
            have HOK := Lib.hid hok
            have HB7 := Lib.hid hj7.here.1
            have HZ := Lib.hid hz
            clear hz hj7 hm7 hbx7 hlm hok
            go_wp2_with fail
            refine (lay_any gm w3.heap.size T.nodes (idsOf T) A.2 ga ba (1 + T.count) (.map (some bf)) (.map (some bm)) cv7 uv7 sv7 HOK.out T.count T (Nat.le_refl _) w7 (fun _ => .slice none 0 0) [(1, .prog)] (fun _ => True) (fun _ h => h) HND.out HLM.out (fun _ _ => trivial) (fun _ _ => rfl) (by have := LT.count_kids T; show 1 + LT.countL T.kids ≤ 20000; omega) (.inr (by rw [HIDS.out.2.2]; rfl))).mono ?_
            rintro e w8 ⟨rfl, K8, hlm8, -, ho8⟩
            have m0 := cell_of_row w8 gm 0 _ _ _ hlm8.box
            replace m0 : w8.cell? ⟨gm, 0, none⟩ = some (.pointer (some ⟨ga, 0, none⟩)) := m0
            have HB8 := Lib.hid (HB7.out.trans (ho8.below w.heap.size HB7.out.size fun i hi e => by
              rcases e with e | e
              · have := HALOW.out.2.1; have := HB3.out.size; omega
              · have := (HLO.out i e).1; omega))
            have HAR8 := Lib.hid hlm8.ar
            clear hlm8 ho8 HLM
            go_wp2_with fail
            refine bodyPost_ret (v := .tuple #[.pointer (some ⟨ga, 0, none⟩), .int .i64 0]) (by simp [results, Tryz.results6, go_sem]) rfl ?_
            exact ⟨HB8.out, .inr (.inr ⟨HLN.out, ts, HTS.out, .inr ⟨by rw [← HP.out]; exact HBD.out.symm, T, by rw [← HP.out]; exact HTB2.out, HND.out, .inr (.inr ⟨hcn, by rw [← HA.out]; exact HZ.out, ga, ba, rfl, by rw [← HA.out]; exact HAR8.out⟩)⟩⟩)⟩
          · have e1 : ((A.1 : Int) != 0) = true := by simp only [bne_iff_ne, ne_eq]; omega
            have e2 : decide ((A.1 : Int) = 0) = false := decide_eq_false (by omega)
            have e3 : ((A.1 : Int) == 0) = false := by rw [beq_eq_false_iff_ne]; omega
            have HNZ := Lib.hid hnz
            have HB7 := Lib.hid hj7.here.1
            clear hnz hj7
            go_wp2_with fail
            refine bodyPost_ret (v := .tuple #[.pointer none, .int .i64 (A.1 : Nat)]) (by simp [results, Tryz.results6, go_sem]) rfl ?_
            exact ⟨HB7.out, .inr (.inr ⟨HLN.out, ts, HTS.out, .inr ⟨by rw [← HP.out]; exact HBD.out.symm, T, by rw [← HP.out]; exact HTB2.out, HND.out, .inr (.inl ⟨hcn, by rw [← HA.out]; exact HNZ.out, by rw [← HA.out]; rfl⟩)⟩⟩)⟩
end Go.Proofs.YtljdphpbalioaaaGreatDoor
