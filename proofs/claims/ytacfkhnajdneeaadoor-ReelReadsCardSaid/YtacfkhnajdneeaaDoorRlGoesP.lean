/- Plain: a log that goes on behind an opening. -/
import Derived.Test.YtacfkhnajdneeaaDoorRlAwake
import Derived.Test.YtacfkhnajdneeaaDoorRlSt
namespace Go.Proofs.YtacfkhnajdneeaaDoor
open Go.RowKit

theorem Live.top {z : Sess} {r : Rl} {d : Dk} {all : List (List UInt8)} {synced : Nat} (h : Live z r d all synced) (hP : z.P0 = []) (hall : all ≠ []) (hn : 0 < z.n) (s : Nat) : z.S ≤ topOf z.gen s (halfOf d r.fr r.n) := by
  have ha0 : z.all0 = [] := by unfold Sess.all0; rw [hP]; rfl
  have hi0 : z.i0 = 0 := by unfold Sess.i0 Sess.q0; rw [ha0]; rfl
  have hne : ¬ all.length ≤ z.all0.length := by
    rw [ha0]
    intro hc
    exact hall (List.eq_nil_of_length_eq_zero (Nat.le_zero.1 hc))
  rcases h.now.hd with hd | hd
  · exact absurd hd hne
  · rw [List.take_length] at hd
    obtain ⟨c, hp, -, -, -⟩ := hd 0 (by omega) hn (by have := all_len_le all; have h2 : 0 < all.length := List.length_pos_iff.2 hall; omega) _ rfl
    have := (top_ge z.gen (halfOf d r.fr r.n) s).2 (d.now (r.fr + 0)) (List.mem_map.2 ⟨0, List.mem_range.2 (by rw [h.n]; exact hn), rfl⟩) (by rw [hp.1]) (by rw [hp.1])
    rw [hp.1] at this
    exact this

theorem Row3.moved {w0 w w' : World} {gd g n3 : Nat} {z : Sess} {r : Rl} {d : Dk} {F G B' : Nat → Prop} {all : List (List UInt8)} {synced : Nat} {c : Cr} (h : Row3 w n3 c) (hs : St w0 w gd g z r d F G all synced) (hm : Moved w w' (fun k => F k ∨ G k) B') : Row3 w' n3 c :=
  h.only hm.only fun hk => by
    rcases hk with hk | hk
    · exact hs.dk.apartT h (by decide) (by decide) (by decide) hk
    · obtain ⟨cs, fr, T, hc, hT⟩ := hs.rl.kind hk
      rw [h] at hc
      cases hc
      rcases hT with hT | hT | hT <;> exact absurd hT (by decide)

theorem open_new2_any (gd N : Nat) (F : Nat → Prop) (c : Cr) (ok : c.Ok) (w : World) (hd : DiskAt w gd (Dk.new N) F) (h4 : 4 ≤ N) (hN : N ≤ 4096) (hh : c.half ≤ 1) (hs : c.serial < 4294967295) :
    Calls Tryd.prog 20 #[.pointer (some ⟨gd, 0, none⟩), CrVal c] w fun e w' => Below w.heap.size w w' ∧ ∃ g G r z, e = .returned (.tuple #[.pointer (some ⟨g, 0, none⟩), .int .i64 0, .int .i64 0]) ∧ RlIn w' g gd r G ∧ (∀ k, G k → w.heap.size ≤ k) ∧ Live z r (Dk.new N) [] 0 ∧
      z.n = (c.from N).2 ∧ z.gen = c.gen ∧ z.S = c.serial + 1 ∧ r.fr = (c.from N).1 ∧ z.P0 = [] := by
  have hlen : (Dk.new N).safe.length = N := by show (List.replicate N (List.replicate 512 (0 : UInt8))).length = N; exact List.length_replicate
  obtain ⟨l1, l2, l3⟩ := live_new (N := N) (c := c) hN ok hs
  refine (ropen_any gd (Dk.new N) F c ok w hd hh (Nat.zero_le _)).mono ?_
  rintro e w' ⟨hb, -, h⟩
  rw [hlen] at h
  obtain ⟨s, P, so, hsc, -, hg⟩ := h h4
  rw [l1] at hsc
  cases hsc
  obtain ⟨g, G, he, hr, hG⟩ := hg rfl
  rw [← l2] at hr
  exact ⟨hb, g, G, _, _, he, hr, hG, l3, rfl, rfl, rfl, rfl, rfl⟩

/-- what stands while records are appended, before and behind an opening -/
structure Goes (w wr : World) (gd n3 : Nat) (c : Cr) (g : Nat) (va : Value) (all : List (List UInt8)) (k : Nat) (re : Bool) (z : Sess) (r : Rl) (d : Dk) (F G : Nat → Prop) (synced : Nat) : Prop where
  st : St w wr gd g z r d F G all synced
  cr : Row3 wr n3 c
  recs : RecsAt w.heap.size wr va all
  ap : ∀ q, va.ownBlock = some q → ¬ (F q ∨ G q)
  zn : z.n = 19
  zg : z.gen = c.gen
  zs : c.serial < z.S ∧ z.S ≤ c.serial + 2
  fr : r.fr = (c.from 40).1
  len : d.safe.length = 40
  few : d.count ≤ 5000 * k ∧ d.wait.length ≤ 5000 * k
  cnt : all.length = k ∧ (layAll all).length ≤ k * 710
  fresh : re = false → z.S = c.serial + 1 ∧ z.P0 = [] ∧ (k = 0 → d = Dk.new 40)

theorem Goes.below {w wr w' : World} {gd n3 g k synced : Nat} {c : Cr} {va : Value} {all : List (List UInt8)} {re : Bool} {z : Sess} {r : Rl} {d : Dk} {F G : Nat → Prop} (h : Goes w wr gd n3 c g va all k re z r d F G synced) (hb : Below wr.heap.size wr w') : Goes w w' gd n3 c g va all k re z r d F G synced :=
  ⟨h.st.below hb, h.cr.below hb, h.recs.below hb, h.ap, h.zn, h.zg, h.zs, h.fr, h.len, h.few, h.cnt, h.fresh⟩
theorem Goes.from {w wr : World} {gd n3 g k synced : Nat} {c : Cr} {va : Value} {all : List (List UInt8)} {re : Bool} {z : Sess} {r : Rl} {d : Dk} {F G : Nat → Prop} (h : Goes w wr gd n3 c g va all k re z r d F G synced) : c.from d.safe.length = (r.fr, r.n) := by
  rw [h.len, h.fr, h.st.lv.n, h.zn]
  rfl
/-- the serial behind an opening -/
theorem Goes.serial {w wr : World} {gd n3 g k synced : Nat} {c : Cr} {va : Value} {all : List (List UInt8)} {z : Sess} {r : Rl} {d : Dk} {F G : Nat → Prop} (h : Goes w wr gd n3 c g va all k false z r d F G synced) (ok : c.Ok) (hs : c.serial < 2147483648) : serialOf c d.synced = if k = 0 then z.S else z.S + 1 := by
  obtain ⟨f1, f2, f3⟩ := h.fresh rfl
  by_cases hk : k = 0
  · rw [if_pos hk, f3 hk]
    have := (live_new (N := 40) (c := c) (by omega) ok (by omega)).2.1
    rw [f1, this]
    rfl
  · rw [if_neg hk]
    have hne : all ≠ [] := fun e => hk (by rw [← h.cnt.1, e]; rfl)
    have h1 := h.st.lv.sync.top f2 hne (by rw [h.zn]; decide) c.serial
    have hsy : d.synced.safe.length = d.safe.length := syncOf_length _ _
    have hfr : c.from d.synced.safe.length = (r.fr, r.n) := by rw [hsy]; exact h.from
    obtain ⟨Q, so, k', -, -, -, -, a5, a6, -⟩ := h.st.lv.sync.again (d' := d.synced) c h.zg.symm (by have := h.zs.1; omega) (by have := h.zs.2; omega) hfr rfl h.st.lv.sync.free h.st.lv.sync.ok rfl (fun j _ => .inl rfl)
    have ht := top_lt c.gen (halfOf d.synced (c.from d.synced.safe.length).1 (c.from d.synced.safe.length).2) c.serial ok.serial
    unfold serialOf at a5 a6 ⊢
    rw [hfr] at a5 a6 ht ⊢
    rw [h.zg] at h1
    simp only at a5 a6 ht ⊢
    omega

theorem Goes.sync {w wr w' : World} {gd n3 g k synced : Nat} {c : Cr} {va : Value} {all : List (List UInt8)} {re : Bool} {z : Sess} {r : Rl} {d : Dk} {F F' G : Nat → Prop} (h : Goes w wr gd n3 c g va all k re z r d F G synced) (hs : St w w' gd g z r d.synced F' G all all.length) (hm : Moved wr w' (fun q => F q ∨ G q) (fun q => F' q ∨ G q)) :
    Goes w w' gd n3 c g va all k re z r d.synced F' G all.length := by
  obtain ⟨k1, k2⟩ := h.recs.moved h.st hm h.ap
  refine ⟨hs, h.cr.moved h.st hm, k1, k2, h.zn, h.zg, h.zs, h.fr, by rw [← h.len]; exact syncOf_length _ _, ⟨h.few.1, Nat.zero_le _⟩, h.cnt, fun hre => ?_⟩
  obtain ⟨f1, f2, f3⟩ := h.fresh hre
  exact ⟨f1, f2, fun hk => by rw [f3 hk]; rfl⟩

theorem Goes.again {w wr w' : World} {gd n3 g g' k synced : Nat} {c : Cr} {va : Value} {all : List (List UInt8)} {re : Bool} {z z' : Sess} {r r' : Rl} {d : Dk} {F G G' : Nat → Prop} (h : Goes w wr gd n3 c g va all k re z r d F G synced) (hS : z.S = c.serial + 1) (hb : Below wr.heap.size wr w') (hr : RlIn w' g' gd r' G') (hG : ∀ q, G' q → wr.heap.size ≤ q)
    (hl : Live z' r' d all all.length) (hn : z'.n = z.n) (hg : z'.gen = z.gen) (hs : z'.S ≤ z.S + 1) (hc : c.serial < z'.S) (hf : r'.fr = r.fr) : Goes w w' gd n3 c g' va all k true z' r' d F G' all.length :=
  ⟨⟨h.st.dk.below hb, hr, hl, fun q hq => by
    rcases hq with hq | hq
    · exact h.st.low q (.inl hq)
    · exact Nat.le_trans h.st.bel.size (hG q hq), btr h.st.bel hb⟩, h.cr.below hb, h.recs.below hb, fun q hq hF => by
    rcases hF with hF | hF
    · exact h.ap q hq (.inl hF)
    · obtain ⟨us, -, q2, -⟩ := h.recs
      have := (World.ownsRow.lt q2 q hq).2
      have := hG q hF
      omega, hn.trans h.zn, hg.trans h.zg, ⟨hc, by omega⟩, hf.trans h.fr, h.len, h.few, h.cnt, fun hc => by cases hc⟩

theorem lay_snoc_len (all : List (List UInt8)) (x : List UInt8) (k : Nat) (h : (layAll all).length ≤ k * 710) (hx : x.length ≤ 700) : (layAll (all ++ [x])).length ≤ (k + 1) * 710 := by
  have h3 : (layOne x).length ≤ x.length + 10 := by
    have := (Vi.varint_length x.length)
    unfold layOne
    rw [List.length_append]
    omega
  rw [layAll_app, layAll_one, List.length_append]
  omega

/-- 'own = append(own, u)', what turns and where it lies then -/
theorem wpList_appRec2 {w : World} {ops : Array Oper} {rest : List Oper} {o : Oper} {a : Act} {Q : Exit → Act → World → Prop} (hgd : o.guard = none) (s x : Operand)
    (ho : o.op = .call { callee := .builtin .append, args := #[s, x], argTypes := #[22, 22] })
    (base : Nat) (v : Value) (ls : List (List UInt8)) (hs : a.eval s = v) (hown : RecsAt base w v ls)
    (u : Value) (l : List UInt8) (hu : Rec8 base w u l) (n : Nat) (hn : n = w.heap.size) (hx : a.eval x = .slice (some ⟨n, 0, none⟩) 1 1) (hlen : ls.length ≤ 1000000000) (hbase : base ≤ w.heap.size)
    (h : ∀ v' w', RecsAt base w' v' (ls ++ [l]) → Only (w.alloc (.cells #[u] 23)) w' (fun k => v.ownBlock = some k) → Stays (w.alloc (.cells #[u] 23)) v v' → wpList Tryd.prog ops Q rest (a.put o.dst v') w') : wpList Tryd.prog ops Q (o :: rest) a (w.alloc (.cells #[u] 23)) := by
  subst hn
  have hb := bal (bre w) (.cells #[u] 23)
  exact wpList_plain hgd fun _ hK => wp_appRec s x ho base v ls hs (hown.below hb) u l (hu.below hb) ⟨w.heap.size, 0, none⟩ hx (new1 w u _) hlen (Nat.le_trans hbase hb.size) fun v' w' h1 h2 h3 => hK _ _ (h v' w' h1 h2 h3)

/-- one record more -/
theorem goes_more {w wr w' : World} {gd n3 g k synced : Nat} {c : Cr} {va va' u : Value} {all : List (List UInt8)} {x : List UInt8} {re : Bool} {z : Sess} {r : Rl} {d : Dk} {F G : Nat → Prop} (hs : St w wr gd g z r d F G (all ++ [x]) synced) (hc : Row3 wr n3 c) (hva : RecsAt w.heap.size wr va all) (hap : ∀ q, va.ownBlock = some q → ¬ (F q ∨ G q))
    (hr : RecsAt w.heap.size w' va' (all ++ [x])) (ho : Only (wr.alloc (.cells #[u] 23)) w' (fun q => va.ownBlock = some q)) (hst : Stays (wr.alloc (.cells #[u] 23)) va va')
    (hz : z.n = 19 ∧ z.gen = c.gen ∧ (c.serial < z.S ∧ z.S ≤ c.serial + 2) ∧ (re = false → z.S = c.serial + 1 ∧ z.P0 = [] ∧ (k = 0 → d = d)))
    (hd : r.fr = (c.from 40).1 ∧ d.safe.length = 40 ∧ d.count ≤ 5000 * (k + 1) ∧ d.wait.length ≤ 5000 * (k + 1)) (hcn : all.length = k ∧ (layAll all).length ≤ k * 710) (hx : x.length ≤ 700) :
    Goes w w' gd n3 c g va' (all ++ [x]) (k + 1) re z r d F G synced := by
  have hb := bal (bre wr) (.cells #[u] 23)
  have hs1 := hs.below hb
  have hva1 := hva.below hb
  obtain ⟨us, -, q2, -⟩ := id hva1
  have hty : ∀ q, va.ownBlock = some q → ∃ cur, (wr.alloc (.cells #[u] 23)).heap[q]? = some (.cells cur 23 (0, 0)) := fun q hq => own_block q2 hq
  refine ⟨⟨hs1.dk.only ho fun q hF hq => hap q hq (.inl hF), hs1.rl.only ho fun q hq => ⟨fun hG => hap q hq (.inr hG), fun cs fr e => ?_⟩, hs1.lv, hs1.low, hs1.bel.trans (ho.below w.heap.size hs1.bel.size fun q hq hv => ?_)⟩, (hc.below hb).only ho fun hq => ?_, hr, fun q hq hFG => ?_, hz.1, hz.2.1, hz.2.2.1, hd.1, hd.2.1, hd.2.2, ⟨by rw [List.length_append, hcn.1]; rfl, lay_snoc_len all x k hcn.2 hx⟩, fun hre => ?_⟩
  · obtain ⟨cur, hcur⟩ := hty q hq
    rw [hcur] at e
    cases e
  · have := (World.ownsRow.lt q2 q hv).1
    omega
  · obtain ⟨cur, hcur⟩ := hty n3 hq
    rw [hc.below hb] at hcur
    cases hcur
  · rcases hst with e | e
    · rw [e] at hq; exact hap q hq hFG
    · have h1 := e q hq
      have h2 : q < wr.heap.size := by
        rcases hFG with hF | hG
        · exact hs.dk.lt q hF
        · exact hs.rl.lt q hG
      have := hb.size
      omega
  · obtain ⟨f1, f2, -⟩ := hz.2.2.2 hre
    exact ⟨f1, f2, fun h => by omega⟩
end Go.Proofs.YtacfkhnajdneeaaDoor
