/- What the namer knows of modules, in memory. No walk. -/
import Derived.Test.YtljdphpbalioaaaGreatDoorGnF
namespace Go.Proofs.YtljdphpbalioaaaGreatDoor
open Go.RowKit

/-- the modules' names -/
def ModM (w : World) (bm c : Nat) (ms : Bs → Bool) : Prop := ∃ f, MapV Tryz.prog 9 encS w bm c f ∧ ∀ x, f x = if ms x = true then some (.bool true) else none
theorem ModM.only {w w' : World} {bm c : Nat} {ms : Bs → Bool} {S : Nat → Prop} (h : ModM w bm c ms) (ho : Only w w' S) (hs : ¬ S bm) : ModM w' bm c ms := by
  obtain ⟨f, h1, h2⟩ := h
  exact ⟨f, h1.only ho hs, h2⟩
theorem ModM.mono {w : World} {bm c c' : Nat} {ms : Bs → Bool} (h : ModM w bm c ms) (hc : c ≤ c') : ModM w bm c' ms := by
  obtain ⟨f, h1, h2⟩ := h
  exact ⟨f, h1.mono hc, h2⟩
/-- a node's kids' row, below all that may be turned -/
def KR (N0 : Nat) (L : List (LT Nat)) (q : Option Addr) (ks : List (LT Nat)) (w : World) : Prop := ∀ (j : Nat) k, ks[j]? = some k → ∃ b, q = some ⟨b, 0, none⟩ ∧ b < N0 ∧ ¬ Lb L b ∧ w.cell? ⟨b, j, none⟩ = some (ptrG k.lab)
def LowX (N0 : Nat) (L : List (LT Nat)) (X : World → Prop) : Prop := ∀ (w w' : World) (S : Nat → Prop), X w → (∀ k, k < N0 → ¬ Lb L k → ¬ S k) → Only w w' S → X w'
theorem KR.low (N0 : Nat) (L : List (LT Nat)) (q : Option Addr) (ks : List (LT Nat)) : LowX N0 L (KR N0 L q ks) := fun w w' S h hs ho j k hk => by
  obtain ⟨b, h1, h2, h3, h4⟩ := h j k hk
  refine ⟨b, h1, h2, h3, ?_⟩
  have h5 := ho.block b (block_lt_of_cell h4) (hs b h2 h3)
  unfold World.cell? at h4 ⊢
  rw [h5]
  exact h4
theorem LowX.and {N0 : Nat} {L : List (LT Nat)} {X Y : World → Prop} (h : LowX N0 L X) (k : LowX N0 L Y) : LowX N0 L (fun w => X w ∧ Y w) := fun w w' S hw hs ho => ⟨h w w' S hw.1 hs ho, k w w' S hw.2 hs ho⟩
theorem MemT.kr {w : World} {N0 : Nat} {L : List (LT Nat)} {I R : Nat → Nat} {K : Nat → Value} (h : MemT w N0 L I R K) {a : LT Nat} (ha : a ∈ L) : ∃ q cap, w.heap[a.lab]? = some (.cells (rowN a (R a.lab) (I a.lab) (K a.lab) (.slice q a.kids.length cap)) 75 (0, 0)) ∧ KR N0 L q a.kids w := by
  obtain ⟨q, cap, hrow, hkids⟩ := h.kids ha
  refine ⟨q, cap, hrow, fun j k hk => ?_⟩
  rcases hkids with hz | ⟨b, rfl, hbN, ⟨cs, hcs⟩, hcell⟩
  · rw [hz] at hk; cases hk
  · refine ⟨b, rfl, hbN, fun ⟨x, hx, e⟩ => ?_, hcell j k hk⟩
    obtain ⟨kv, h3⟩ := h.row hx
    rw [e, hcs] at h3
    cases h3
def JA (N0 : Nat) (L : List (LT Nat)) (Keep : List Nat) (J : World → Prop) (bm c : Nat) (ms : Bs → Bool) (X : World → Prop) (w : World) : Prop := Rob (Far N0 L Keep) J w ∧ ModM w bm c ms ∧ X w
section
variable {J J0 : World → Prop} {Keep : List Nat} {gm N0 : Nat} {L : List (LT Nat)} {I : Nat → Nat} {ga : Value} {n bf bm : Nat} {mm : Value} {w w' : World} {fs : Nm.Fs Nat} {c c2 : Nat} {cv uv sv : Value} {ms : Bs → Bool} {X : World → Prop}
theorem FsM.ja (h : FsM J0 (bm :: Keep) gm N0 L I ga n bf mm w fs c cv uv sv) (h1 : Rob (Far N0 L Keep) J w) (h2 : ModM w bm c2 ms) (h3 : X w) (hX : LowX N0 L X) (hb : N0 ≤ bm) : FsM (JA N0 L Keep J bm c2 ms X) (bm :: Keep) gm N0 L I ga n bf mm w fs c cv uv sv := by
  refine ⟨h.mem, h.box, h.funcs, h.calls, h.callsL, h.low, h.few, h.short, fun w2 ho => ⟨h1.turn ho fun k _ e => ?_, h2.only ho fun e => ?_, hX w w2 _ h3 (fun k hk hl e => ?_) ho⟩, h.keep⟩
  · rcases e with e | ⟨e, e2⟩
    · exact .inl e
    · exact .inr ⟨e, fun h => e2 (List.mem_cons_of_mem _ h)⟩
  · rcases e with e | ⟨-, e2⟩
    · omega
    · exact e2 (List.mem_cons_self ..)
  · rcases e with e | ⟨e, -⟩
    · exact hl e.2
    · omega
theorem FsM.here (h : FsM J Keep gm N0 L I ga n bf mm w fs c cv uv sv) : J w := h.inv.here
/-- a module's name -/
theorem FsM.modded (h : FsM (JA N0 L Keep J bm c2 ms X) (bm :: Keep) gm N0 L I ga n bf mm w fs c cv uv sv) (hX : LowX N0 L X) (hb : N0 ≤ bm ∧ bm ∉ Keep) (x : Bs) {N : Nat} {f : Bs → Option Value} (hf : MapV Tryz.prog 9 encS w' bm N (putV f x (.bool true))) (hN : N ≤ c2 + 1) (hu : ∀ x, f x = if ms x = true then some (.bool true) else none) (ho : Only w w' (fun q => q = bm)) :
    FsM (JA N0 L Keep J bm (c2 + 1) (fun y => decide (y = x) || ms y) X) (bm :: Keep) gm N0 L I ga n bf mm w' fs c cv uv sv := by
  obtain ⟨h1, ⟨f0, hf0, -⟩, h3⟩ := h.here
  obtain ⟨es, t, hobj⟩ := hf0.obj
  have hcell : ∀ {k : Nat} {cs : Array Value} {t' : TypeId} {fr : Nat × Nat}, w.heap[k]? = some (.cells cs t' fr) → k ≠ bm := fun h1 e => by rw [e, hobj] at h1; cases h1
  have hmm : ModM w' bm (c2 + 1) (fun y => decide (y = x) || ms y) := by
    refine ⟨_, hf.mono hN, fun y => ?_⟩
    unfold putV
    by_cases hy : y = x
    · simp [hy]
    · rw [if_neg hy, hu y]
      simp [hy]
  have h9 : FsM (fun _ => True) (bm :: Keep) gm N0 L I ga n bf mm w' fs c cv uv sv := by
    refine ⟨h.mem.only ho (fun k hk e => by have e : k = bm := e; omega), h.box.only ho (fun e => hcell h.box e), h.funcs.only ho (fun e => h.low.2.2.2 (by rw [show bf = bm from e]; exact List.mem_cons_self ..)), own_only h.calls ho (fun k hk e => by
      obtain ⟨c1, h1⟩ := own_block h.calls hk
      exact hcell h1 e), h.callsL, h.low, h.few, h.short, fun _ _ => trivial, fun k hk => ?_⟩
    by_cases hkb : k = bm
    · obtain ⟨es2, t2, ho2⟩ := hf.obj
      exact .inl ⟨es2, t2, by rw [hkb]; exact ho2⟩
    · rcases h.keep k hk with ⟨es, t, h1⟩ | ⟨cs, fr, h1⟩
      · exact .inl ⟨es, t, (ho.block k (Array.getElem?_eq_some_iff.1 h1).1 hkb).trans h1⟩
      · exact .inr ⟨cs, fr, (ho.block k (Array.getElem?_eq_some_iff.1 h1).1 hkb).trans h1⟩
  exact h9.ja (h1.turn ho fun k _ e => .inr ⟨by rw [show k = bm from e]; exact hb.1, by rw [show k = bm from e]; exact hb.2⟩) hmm (hX w w' _ h3 (fun k hk _ e => by have e : k = bm := e; omega) ho) hX hb.1
/-- what a node names is stored -/
theorem FsM.refs (h : FsM J Keep gm N0 L I ga n bf mm w fs c cv uv sv) {a : LT Nat} (ha : a ∈ L) (x : Nat) : FsM J Keep gm N0 L I ga n bf mm (w.setCell ⟨a.lab, 4, none⟩ (.int .u64 x)) ⟨fs.funcs, fs.calls, updF fs.ref a.lab x⟩ c cv uv sv := by
  have ho : Only w (w.setCell ⟨a.lab, 4, none⟩ (.int .u64 x)) (fun k => k = a.lab) := Only.setCell w ⟨a.lab, 4, none⟩ _
  have hlt := (h.mem a ha).lt
  have hl := h.low
  obtain ⟨kv, hrow⟩ := h.mem.row ha
  refine ⟨h.mem.ref ha x, h.box.only ho (fun e => by omega), h.funcs.only ho (fun e => by omega), own_only h.calls ho (fun k hk e => by have e : k = a.lab := e; have := (h.calls.lt k hk).1; omega), h.callsL, h.low, h.few, h.short, h.inv.turn ho (fun k _ e => .inl ⟨by rw [show k = a.lab from e]; exact hlt, a, ha, (show k = a.lab from e).symm⟩), fun k hk => ?_⟩
  have hne : ¬ k = a.lab := fun e => by
    rcases h.keep k hk with ⟨es, t, h1⟩ | ⟨cs, fr, h1⟩
    · rw [e, hrow] at h1; cases h1
    · rw [e, hrow] at h1; cases h1
  rcases h.keep k hk with ⟨es, t, h1⟩ | ⟨cs, fr, h1⟩
  · exact .inl ⟨es, t, (ho.block k (Array.getElem?_eq_some_iff.1 h1).1 hne).trans h1⟩
  · exact .inr ⟨cs, fr, (ho.block k (Array.getElem?_eq_some_iff.1 h1).1 hne).trans h1⟩
/-- the calls' slice -/
theorem FsM.callRow (h : FsM J Keep gm N0 L I ga n bf mm w fs c cv uv sv) : ∃ q cap, cv = .slice q fs.calls.length cap ∧ (∀ (j : Nat) x, fs.calls[j]? = some x → ∃ b, q = some ⟨b, 0, none⟩ ∧ w.cell? ⟨b, j, none⟩ = some (ptrG x.2.2)) := by
  have hlen : (fs.calls.map fun c => ptrG c.2.2).length = fs.calls.length := List.length_map _
  rcases h.calls.2 with ⟨hn, hz⟩ | ⟨b, cap, cur, hv, hb, hg, -⟩
  · rw [hlen] at hz
    refine ⟨none, 0, by rw [hz]; exact hn, fun j x hx => ?_⟩
    rw [List.eq_nil_of_length_eq_zero hz] at hx
    cases hx
  · rw [hlen] at hv
    refine ⟨_, cap, hv, fun j x hx => ⟨b, rfl, ?_⟩⟩
    have h5 := h.calls.cells (g := b) (by rw [hv]; rfl) j (ptrG x.2.2) (by rw [List.getElem?_map, hx]; rfl)
    rw [Addr.add_mid, Nat.zero_add] at h5
    exact h5
end
end Go.Proofs.YtljdphpbalioaaaGreatDoor
