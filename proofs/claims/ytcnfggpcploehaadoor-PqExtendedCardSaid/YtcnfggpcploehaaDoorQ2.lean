/- Laid together: WkQ, WkR, WkS, WkT, WkU, WkV, WkAl, Md, C09, C09a, R09, Mh. -/
import Derived.OrdersHeld
import Derived.Test.YtcnfggpcploehaaDoorQ1

set_option linter.all false

/- The step over a call that writes into blocks of the caller's. -/
namespace Go.Wk
set_option maxRecDepth 10000
open Go.RowKit

section
variable {P : Program} {env : Env} {w0 : Base} {n : Nat} {l0 : List Oper} {K : Fr → List Blk → Prop} {l : List Oper} {F : Fr} {S : List Blk}

def renR (σ : List Nat) (ρ : Nat → Option Nat) (i : Nat) : Option Nat := (σ[i]?).bind ρ
theorem renR_rr {S S0 : List Blk} {σ : List Nat} {ρ : Nat → Option Nat} {w : World} {k : Nat} (hk : Rr S ρ w k) : Rr S0 (renR σ ρ) w k := ⟨hk.1, fun i hi => by
  unfold renR at hi
  cases hσ : σ[i]? with
  | none => rw [hσ] at hi; cases hi
  | some m => rw [hσ] at hi; exact hk.2 m hi⟩
def renA (σ : List Nat) (ρ ρ1 : Nat → Option Nat) (m : Nat) : Option Nat := match idxN σ m with
  | some i => ρ1 i
  | none => ρ m

theorem renA_in {σ : List Nat} (hn : nodupN σ = true) {ρ ρ1 : Nat → Option Nat} {i m : Nat} (h : σ[i]? = some m) : renA σ ρ ρ1 m = ρ1 i := by
  unfold renA
  cases hx : idxN σ m with
  | none => exact absurd (List.mem_of_getElem? h) (idxN_none hx)
  | some j => rw [nodupN_inj hn h (idxN_some hx)]
theorem renA_out {σ : List Nat} {ρ ρ1 : Nat → Option Nat} {m : Nat} (h : m ∉ σ) : renA σ ρ ρ1 m = ρ m := by
  unfold renA
  cases hx : idxN σ m with
  | none => rfl
  | some j => exact absurd (List.mem_of_getElem? (idxN_some hx)) h

theorem shape_renB {σ : List Nat} {b b' : Blk} (h : renB σ b = some b') : b'.esz = b.esz ∧ b'.len = b.len := by
  cases b <;> simp [renB] at h <;> first | (subst h; exact ⟨rfl, rfl⟩) | (split at h <;> simp at h; subst h; exact ⟨rfl, rfl⟩)

/-- The caller's store as the call sees it. -/
theorem sel_memG {ρ ρ0 : Nat → Option Nat} {w : World} (hm : Mem w0 S ρ w) {σ : List Nat} (hnd : nodupN σ = true) {S0 X : List Blk} (h0 : renBs σ S0 = some X) (hX : selS S σ = some X) (hρ' : ∀ i m : Nat, σ[i]? = some m → ρ0 i = ρ m) (hsub : ∀ i b, ρ0 i = some b → ∃ m, ρ m = some b) (hno : ∀ k, (Base.obj w S0 ρ0).hid k → ¬ (Base.obj w S0 ρ0).own k) :
    Mem (Base.obj w S0 (ρ0)) S0 (ρ0) w ∧ (∀ i m : Nat, σ[i]? = some m → ρ0 i = ρ m ∧ shape S0 i = shape S m) ∧ σ.length = S0.length := by
  obtain ⟨hXl, hXg⟩ := renBs_get h0
  obtain ⟨hsl, hsg⟩ := selS_get hX
  have hlen : σ.length = S0.length := by omega
  have named : ∀ {i : Nat}, i < S0.length → ∃ m b b', σ[i]? = some m ∧ m < S.length ∧ S0[i]? = some b ∧ S[m]? = some b' ∧ renB σ b = some b' := by
    intro i hi
    have h1 : i < σ.length := by omega
    have h2 : i < X.length := by omega
    obtain ⟨k1, k2⟩ := hsg i _ (List.getElem?_eq_getElem h1)
    exact ⟨_, _, _, List.getElem?_eq_getElem h1, k1, List.getElem?_eq_getElem hi, by rw [k2]; exact List.getElem?_eq_getElem h2, hXg i _ _ (List.getElem?_eq_getElem hi) (List.getElem?_eq_getElem h2)⟩
  have hρ : ∀ {i m : Nat}, σ[i]? = some m → ρ0 i = ρ m := fun h => hρ' _ _ h
  have hsh : ∀ i m : Nat, σ[i]? = some m → ρ0 i = ρ m ∧ shape S0 i = shape S m := by
    intro i m hi
    refine ⟨hρ hi, ?_⟩
    obtain ⟨m', b, b', h1, _, h2, h3, h4⟩ := named (i := i) (by have := (List.getElem?_eq_some_iff.1 hi).1; omega)
    rw [hi] at h1; cases h1
    obtain ⟨k1, k2⟩ := shape_renB h4
    simp [shape, h2, h3, k1, k2]
  have hR : ∀ k, Rr S ρ w k → Rr S0 (ρ0) w k := fun k hk => ⟨hk.1, fun i hi => let ⟨m, hm⟩ := hsub i k hi; hk.2 m hm⟩
  refine ⟨⟨Kept.refl _, Nat.le_refl _, fun i b hi hb => ?_, fun i b hi hb => ?_, fun i j b hi hj hbi hbj => ?_, ⟨fun k hk => hk, fun i b hb => let ⟨m, h⟩ := hsub i b hb; hm.hid.2 m b h, hno⟩, fun i blk hb => ?_⟩, hsh, hlen⟩
  · have hb' : pinOf S0 (ρ0) i = some b := hb
    unfold pinOf at hb'
    split at hb'
    · rename_i cs hc; exact ⟨hb', cs, hc⟩
    · simp at hb'
  · obtain ⟨m, _, _, h1, h2, _⟩ := named hi
    exact ⟨.inr ⟨i, hi, hb⟩, (hm.lt m b h2 (by rw [← hρ h1]; exact hb)).2⟩
  · obtain ⟨m, _, _, h1, h2, _⟩ := named hi
    obtain ⟨m', _, _, h1', h2', _⟩ := named hj
    have := hm.inj m m' b h2 h2' (by rw [← hρ h1]; exact hbi) (by rw [← hρ h1']; exact hbj)
    subst this
    exact nodupN_inj hnd h1 h1'
  · obtain ⟨m, b, b', h1, h2, h3, h4, h5⟩ := named (List.getElem?_eq_some_iff.1 hb).1
    rw [hb] at h3; cases h3
    have h := hm.blk m b' h4
    have rowk : blk.isRow = true → b' = blk → RelBlk S0 (ρ0) (Rr S0 (ρ0) w) w i blk := by
      rintro hr rfl
      have key : (ρ0 i = none ∧ b'.len = 0) ∨ ∃ b c ty, ρ0 i = some b ∧ w.heap[b]? = some (.cells c ty (0, 0)) ∧ b'.len * b'.esz ≤ c.size ∧ (∀ i, i < b'.len → (b'.get i).length = b'.esz) ∧
          ∀ (i j : Nat) x, i < b'.len → (b'.get i)[j]? = some x → ∃ v, c[i * b'.esz + j]? = some v ∧ RelD (Rr S0 (ρ0) w) w v x := by
        rw [hρ h1]
        rcases h.row hr with h | ⟨b, c, ty, k1, k2, k3, k4, k5⟩
        · exact .inl h
        · exact .inr ⟨b, c, ty, k1, k2, k3, k4, fun i j x hi hx => let ⟨v, hv, hr⟩ := k5 i j x hi hx; ⟨v, hv, hr.mono fun k hk => ⟨hR k hk, rfl⟩⟩⟩
      cases b' <;> first | (simp [Blk.isRow] at hr; done) | exact key
    cases blk with
    | gone => trivial
    | cells cs =>
      simp only [renB] at h5
      split at h5
      · rename_i cs' hcs
        simp at h5; subst h5
        obtain ⟨l1, l2⟩ := renL_get hcs
        obtain ⟨b, vals, ty, k1, k2, k3, k4⟩ := h
        refine ⟨b, vals, ty, by rw [hρ h1]; exact k1, k2, by omega, fun j v x hv hx => ?_⟩
        have hj : j < cs'.length := by have := (List.getElem?_eq_some_iff.1 hx).1; omega
        exact ren_bwd hsh hR (l2 j x _ hx (List.getElem?_eq_getElem hj)) (k4 j v _ hv (List.getElem?_eq_getElem hj))
      · simp at h5
    | ints k xs => exact rowk rfl (by simpa [renB] using h5.symm)
    | bools xs => exact rowk rfl (by simpa [renB] using h5.symm)
    | row e m g => exact rowk rfl (by simpa [renB] using h5.symm)

theorem renR_sub {σ : List Nat} {ρ : Nat → Option Nat} {i b : Nat} (h : renR σ ρ i = some b) : ∃ m, ρ m = some b := by
  unfold renR at h
  cases hσ : σ[i]? with
  | none => rw [hσ] at h; cases h
  | some m => rw [hσ] at h; exact ⟨m, h⟩
theorem renR_no {w : World} {S0 : List Blk} {σ : List Nat} {ρ : Nat → Option Nat} (hlen : σ.length = S0.length) : ∀ k, (Base.obj w S0 (renR σ ρ)).hid k → ¬ (Base.obj w S0 (renR σ ρ)).own k := by
  rintro k ⟨j, h1, h2⟩
  unfold renR at h2
  rw [List.getElem?_eq_none (by omega)] at h2
  cases h2
theorem sel_len {σ : List Nat} {S0 X : List Blk} (h0 : renBs σ S0 = some X) (hX : selS S σ = some X) : σ.length = S0.length := by
  have := (renBs_get h0).1
  have := (selS_get hX).1
  omega
theorem sel_mem {ρ : Nat → Option Nat} {w : World} (hm : Mem w0 S ρ w) {σ : List Nat} (hnd : nodupN σ = true) {S0 X : List Blk} (h0 : renBs σ S0 = some X) (hX : selS S σ = some X) :
    Mem (Base.obj w S0 (renR σ ρ)) S0 (renR σ ρ) w ∧ (∀ i m : Nat, σ[i]? = some m → renR σ ρ i = ρ m ∧ shape S0 i = shape S m) ∧ σ.length = S0.length :=
  sel_memG hm hnd h0 hX (fun i m h => by simp [renR, h]) (fun i b h => renR_sub h) (renR_no (sel_len h0 hX))

/-- Names told anew; what is hidden stays hidden. -/
noncomputable def renH (h : Nat → Prop) (n : Nat) (σ : List Nat) (ρ : Nat → Option Nat) (i : Nat) : Option Nat := match σ[i]? with
  | some m => ρ m
  | none => keepIf h (ρ (n + (i - σ.length)))
theorem renH_in {h : Nat → Prop} {n : Nat} {σ : List Nat} (ρ : Nat → Option Nat) {i m : Nat} (e : σ[i]? = some m) : renH h n σ ρ i = ρ m := by unfold renH; rw [e]
theorem renH_sub {h : Nat → Prop} {n : Nat} {σ : List Nat} {ρ : Nat → Option Nat} {i b : Nat} (e : renH h n σ ρ i = some b) : ∃ m, ρ m = some b := by
  unfold renH at e
  split at e
  · exact ⟨_, e⟩
  · exact ⟨_, (keepIf_some e).1⟩
theorem renH_out {h : Nat → Prop} {n : Nat} {σ : List Nat} {ρ : Nat → Option Nat} {i b : Nat} (hi : σ.length ≤ i) (e : renH h n σ ρ i = some b) : h b := by
  unfold renH at e
  rw [List.getElem?_eq_none hi] at e
  exact (keepIf_some e).2
theorem renH_hid {w0 : Base} {n m : Nat} {σ : List Nat} {ρ : Nat → Option Nat} {w : World} (h : Hid w0 n ρ w) (hm : m = σ.length) : Hid w0 m (renH w0.hid n σ ρ) w := by
  subst hm
  refine ⟨fun k hk => ?_, fun i b hb => let ⟨m, h'⟩ := renH_sub hb; h.2 m b h', h.no⟩
  obtain ⟨i, h1, h2⟩ := h.1 k hk
  refine ⟨σ.length + (i - n), by omega, ?_⟩
  unfold renH
  rw [List.getElem?_eq_none (by omega)]
  simp only
  rw [show n + (σ.length + (i - n) - σ.length) = i by omega, h2]; exact keepIf_of hk

/-- What the call leaves, as the caller sees it. -/
theorem ret_mem {ρ ρ1 : Nat → Option Nat} {a : Act} {w w' : World} (hr : Rel w0 n F S ρ a w) {σ : List Nat} (hnd : nodupN σ = true) {S0 S1 X X1 S' : List Blk} {F' : Fr} (h0 : renBs σ S0 = some X) (hX : selS S σ = some X)
    (hF : killFs (rowNames σ S0) F = some F') (hq : quietS (rowNames σ S0) σ 0 S = true) (hk : kinds S0 S1) (hfl : bflats S1) (h1 : renBs σ S1 = some X1) (hS : setsO σ X1 S = some S')
    (hm1 : Mem (Base.obj w S0 (renR σ ρ)) S1 ρ1 w') :
    Rel w0 n F' S' (renA σ ρ ρ1) a w' ∧ (∀ i m : Nat, σ[i]? = some m → renA σ ρ ρ1 m = ρ1 i ∧ shape S' m = shape S1 i) := by
  obtain ⟨hm0, hsh0, hlen⟩ := sel_mem hr.mem hnd h0 hX
  obtain ⟨hXl, hXg⟩ := renBs_get h0
  obtain ⟨hX1l, hX1g⟩ := renBs_get h1
  obtain ⟨hsl, hsg⟩ := selS_get hX
  obtain ⟨hS'l, _, hS'in, hS'out⟩ := setsO_get hnd hS
  obtain ⟨hkl, hkc⟩ := kinds_get hk
  have inσ : ∀ {m : Nat}, m ∈ σ → ∃ i : Nat, σ[i]? = some m ∧ i < S0.length := fun h => by
    obtain ⟨i, hi, he⟩ := List.mem_iff_getElem.1 h
    exact ⟨i, by rw [List.getElem?_eq_getElem hi, he], by omega⟩
  have hin : ∀ {i m : Nat}, σ[i]? = some m → renA σ ρ ρ1 m = ρ1 i := fun h => renA_in hnd h
  have hout : ∀ {m : Nat}, m ∉ σ → renA σ ρ ρ1 m = ρ m := fun h => renA_out h
  -- a block of the caller's that the call may write
  have himp : ∀ k, (Base.obj w S0 (renR σ ρ)).imp k → ∃ i m : Nat, σ[i]? = some m ∧ m < S.length ∧ ρ m = some k := by
    rintro k ⟨i, hi, hb⟩
    have hi' : i < σ.length := by omega
    have hσ := List.getElem?_eq_getElem hi'
    refine ⟨i, _, hσ, (hsg i _ hσ).1, ?_⟩
    rw [← (hsh0 i _ hσ).1]; exact hb
  have hkeep : ∀ k, k < w.heap.size → (∀ i m : Nat, σ[i]? = some m → ρ m ≠ some k) → w'.heap[k]? = w.heap[k]? := fun k hk hno =>
    hm1.below.block k hk fun hi => by obtain ⟨i, m, h1, _, h2⟩ := himp k hi; exact hno i m h1 h2
  have hsz : w.heap.size ≤ w'.heap.size := hm1.below.size
  have hother : ∀ m b, m < S.length → m ∉ σ → ρ m = some b → w'.heap[b]? = w.heap[b]? := fun m b hm hno hb =>
    hkeep b (hr.mem.lt m b hm hb).2 fun i m' hi hb' => by
      have := hr.mem.inj m m' b hm (hsg i m' hi).1 hb hb'
      subst this; exact hno (List.mem_of_getElem? hi)
  have hown : ∀ i b : Nat, i < S1.length → ρ1 i = some b → w.heap.size ≤ b ∨ ∃ m, m ∈ σ ∧ m < S.length ∧ ρ m = some b := by
    intro i b hi hb
    rcases (hm1.lt i b hi hb).1 with h | h
    · exact .inl h
    · obtain ⟨j, m, h1, h2, h3⟩ := himp b h; exact .inr ⟨m, List.mem_of_getElem? h1, h2, h3⟩
  have hnew : ∀ k, k < w.heap.size → (∀ i, i < S.length → ρ i ≠ some k) → ∀ i, i < S1.length → ρ1 i ≠ some k := by
    intro k hk hno i hi hb
    rcases hown i k hi hb with h | ⟨m, _, h1, h2⟩
    · omega
    · exact hno m h1 h2
  have hshin : ∀ i m : Nat, σ[i]? = some m → shape S' m = shape S1 i := by
    intro i m hi
    have hi1 : i < S1.length := by have := (List.getElem?_eq_some_iff.1 hi).1; omega
    have hi2 : i < X1.length := by omega
    obtain ⟨k1, k2⟩ := shape_renB (hX1g i _ _ (List.getElem?_eq_getElem hi1) (List.getElem?_eq_getElem hi2))
    simp [shape, hS'in i m hi, List.getElem?_eq_getElem hi1, List.getElem?_eq_getElem hi2, k1, k2]
  have hσ1 : ∀ i m : Nat, σ[i]? = some m → renA σ ρ ρ1 m = ρ1 i ∧ shape S' m = shape S1 i := fun i m h => ⟨hin h, hshin i m h⟩
  have hR : ∀ k, Rr S ρ w k → Rr S' (renA σ ρ ρ1) w' k ∧ w'.heap[k]? = w.heap[k]? := by
    intro k hk
    refine ⟨⟨Nat.lt_of_lt_of_le hk.1 hsz, fun m hm => ?_⟩, hkeep k hk.1 fun i m hi => hk.2 m⟩
    by_cases hmem : m ∈ σ
    · obtain ⟨i, hi, hi'⟩ := inσ hmem
      rw [hin hi] at hm; exact hnew k hk.1 (fun i _ => hk.2 i) i (by omega) hm
    · rw [hout hmem] at hm; exact hk.2 m hm
  -- values that lead to no row that the call may have written
  have hval : ∀ {u : Value} {x : V}, (∀ m ∈ rowNames σ S0, x.uses m = false) → RelV S ρ (Rr S ρ w) w u x → RelV S' (renA σ ρ ρ1) (Rr S' (renA σ ρ ρ1) w') w' u x := by
    intro u x hno h
    refine h.mono hR fun m hu => ?_
    have hm := h.uses_lt m hu
    by_cases hmem : m ∈ σ
    · obtain ⟨i, hi, hi'⟩ := inσ hmem
      rcases rowNames_get hi hi' with hrow | ⟨cs, hcs⟩
      · rw [hno m hrow] at hu; cases hu
      · obtain ⟨cs', hcs', hcsl⟩ := hkc i cs hcs
        have hS0m := (hsh0 i m hi)
        obtain ⟨b, hb⟩ : ∃ b, ρ m = some b := by
          have hi2 : i < X.length := by omega
          have hx := hXg i _ _ hcs (List.getElem?_eq_getElem hi2)
          have hSm := (hsg i m hi).2
          rw [List.getElem?_eq_getElem hi2] at hSm
          have := hr.mem.blk m _ hSm
          simp only [renB] at hx
          split at hx
          · simp at hx; rw [← hx] at this; obtain ⟨b, _, _, hb, _⟩ := this; exact ⟨b, hb⟩
          · simp at hx
        have hpin : ρ1 i = some b := (hm1.pin i b hi' (by show pinOf S0 _ i = some b; simp [pinOf, hcs, hS0m.1, hb])).1
        refine ⟨by rw [hin hi, hpin, hb], by rw [hshin i m hi, ← hS0m.2]; simp [shape, hcs, hcs', Blk.esz, Blk.len], fun b' e c hb' h => ?_⟩
        rw [hb] at hb'; cases hb'
        obtain ⟨cc, ty, g1, g2, g3⟩ := h
        obtain ⟨b0, vals0, ty0, q1, q2, q3, _⟩ := hm0.blk i _ hcs
        rw [hS0m.1, hb] at q1; cases q1
        rw [g1] at q2
        simp only [Option.some.injEq, Obj.cells.injEq] at q2
        obtain ⟨b1, vals1, ty1, r1, r2, r3, _⟩ := hm1.blk i _ hcs'
        rw [hpin] at r1; cases r1
        refine ⟨_, _, r2, ?_, g3⟩
        have : cc.size = vals0.length := by rw [q2.1]; simp
        simp only [List.size_toArray]
        omega
    · refine ⟨hout hmem, by simp [shape, hS'out m hmem], fun b e c hb h => ?_⟩
      obtain ⟨cc, ty, h1, h2⟩ := h
      exact ⟨cc, ty, by rw [hother m b hm hmem hb]; exact h1, h2⟩
  have pair : ∀ {i m : Nat}, σ[i]? = some m → i < S0.length → ∃ b0 b1 x0 x1, S0[i]? = some b0 ∧ S1[i]? = some b1 ∧ S[m]? = some x0 ∧ S'[m]? = some x1 ∧ renB σ b0 = some x0 ∧ renB σ b1 = some x1 := by
    intro i m hi hi0
    have hi1 : i < S1.length := by omega
    have hi2 : i < X1.length := by omega
    have hi3 : i < X.length := by omega
    exact ⟨_, _, _, _, List.getElem?_eq_getElem hi0, List.getElem?_eq_getElem hi1, by rw [(hsg i m hi).2]; exact List.getElem?_eq_getElem hi3, by rw [hS'in i m hi]; exact List.getElem?_eq_getElem hi2,
      hXg i _ _ (List.getElem?_eq_getElem hi0) (List.getElem?_eq_getElem hi3), hX1g i _ _ (List.getElem?_eq_getElem hi1) (List.getElem?_eq_getElem hi2)⟩
  refine ⟨⟨⟨hr.fr.size, hr.fr.defers, fun t g v hl => ?_⟩, ⟨?_, ?_, ?_, ?_, ?_, ⟨fun k hk => ?_, fun m b hb => ?_, hr.mem.hid.no⟩, ?_⟩⟩, hσ1⟩
  · obtain ⟨v', hl', h⟩ := killFs_get hF hl
    refine ⟨fun hg => ?_, (hr.fr.get t g v' hl').2⟩
    rcases h with rfl | ⟨rfl, hno⟩
    · exact .bot _
    · exact hval hno ((hr.fr.get t g v hl').1 hg)
  · refine ⟨hm1.below.os.trans hr.mem.below.os, hm1.below.tape.trans hr.mem.below.tape, hm1.below.output.trans hr.mem.below.output, Nat.le_trans hr.mem.below.size hsz, fun k hk hi => ?_⟩
    rw [← hr.mem.below.block k hk hi]
    refine hkeep k (Nat.lt_of_lt_of_le hk hr.mem.below.size) fun i m hσm hb => ?_
    rcases (hr.mem.lt m k (hsg i m hσm).1 hb).1 with h | h
    · omega
    · exact hi h
  · rw [hS'l]; exact hr.mem.np
  · intro m b hm hb
    obtain ⟨k1, cs, k2⟩ := hr.mem.pin m b hm hb
    by_cases hmem : m ∈ σ
    · obtain ⟨i, hi, hi'⟩ := inσ hmem
      obtain ⟨b0, b1, x0, x1, p1, p2, p3, p4, p5, p6⟩ := pair hi hi'
      rw [k2] at p3; cases p3
      cases b0 with
      | cells cs0 =>
        obtain ⟨cs', hcs', _⟩ := hkc i cs0 p1
        have hpin : ρ1 i = some b := (hm1.pin i b hi' (by show pinOf S0 _ i = some b; simp [pinOf, p1, (hsh0 i m hi).1, k1])).1
        refine ⟨by rw [hin hi, hpin], ?_⟩
        rw [hcs'] at p2; cases p2
        simp only [renB] at p6
        split at p6
        · simp at p6; subst p6; exact ⟨_, p4⟩
        · simp at p6
      | _ => simp [renB] at p5
    · exact ⟨by rw [hout hmem]; exact k1, cs, by rw [hS'out m hmem]; exact k2⟩
  · intro m b hm hb
    rw [hS'l] at hm
    by_cases hmem : m ∈ σ
    · obtain ⟨i, hi, hi'⟩ := inσ hmem
      rw [hin hi] at hb
      refine ⟨?_, (hm1.lt i b (by omega) hb).2⟩
      rcases hown i b (by omega) hb with h | ⟨m', _, h1, h2⟩
      · exact .inl (Nat.le_trans hr.mem.below.size h)
      · exact (hr.mem.lt m' b h1 h2).1
    · rw [hout hmem] at hb
      have := hr.mem.lt m b hm hb
      exact ⟨this.1, Nat.lt_of_lt_of_le this.2 hsz⟩
  · have mixed : ∀ {m m' b : Nat}, m ∈ σ → m' ∉ σ → m' < S.length → renA σ ρ ρ1 m = some b → renA σ ρ ρ1 m' = some b → False := by
      intro m m' b hmem hmem' hm' hb hb'
      obtain ⟨i, hi, hi'⟩ := inσ hmem
      rw [hin hi] at hb
      rw [hout hmem'] at hb'
      have h2 := (hr.mem.lt m' b hm' hb').2
      rcases hown i b (by omega) hb with h | ⟨m'', h0, h1, h3⟩
      · omega
      · have := hr.mem.inj m'' m' b h1 hm' h3 hb'
        subst this; exact hmem' h0
    intro m m' b hm hm' hb hb'
    rw [hS'l] at hm hm'
    by_cases hmem : m ∈ σ
    · by_cases hmem' : m' ∈ σ
      · obtain ⟨i, hi, hi'⟩ := inσ hmem
        obtain ⟨j, hj, hj'⟩ := inσ hmem'
        rw [hin hi] at hb; rw [hin hj] at hb'
        have := hm1.inj i j b (by omega) (by omega) hb hb'
        subst this; rw [hi] at hj; cases hj; rfl
      · exact (mixed hmem hmem' hm' hb hb').elim
    · by_cases hmem' : m' ∈ σ
      · exact (mixed hmem' hmem hm hb' hb).elim
      · rw [hout hmem] at hb; rw [hout hmem'] at hb'
        exact hr.mem.inj m m' b hm hm' hb hb'
  · obtain ⟨m, h1, h2⟩ := hr.mem.hid.1 k hk
    exact ⟨m, by omega, by rw [hout (fun h => by obtain ⟨i, hi, _⟩ := inσ h; have := (hsg i m hi).1; omega)]; exact h2⟩
  · by_cases hmem : m ∈ σ
    · obtain ⟨i, hi, hi'⟩ := inσ hmem
      rw [hin hi] at hb; exact hm1.hid.2 i b hb
    · rw [hout hmem] at hb; exact Nat.lt_of_lt_of_le (hr.mem.hid.2 m b hb) hsz
  · intro m blk hb
    have hm : m < S.length := by have := (List.getElem?_eq_some_iff.1 hb).1; omega
    by_cases hmem : m ∈ σ
    · obtain ⟨i, hi, hi'⟩ := inσ hmem
      obtain ⟨b0, b1, x0, x1, p1, p2, p3, p4, p5, p6⟩ := pair hi hi'
      rw [hb] at p4; cases p4
      have h := hm1.blk i b1 p2
      have hf := bflats_get hfl p2
      have hρ := hin hi
      have rowk : b1.isRow = true → b1.flat → blk = b1 → RelBlk S' (renA σ ρ ρ1) (Rr S' (renA σ ρ ρ1) w') w' m blk := by
        rintro hrow hfl' rfl
        have key : (renA σ ρ ρ1 m = none ∧ blk.len = 0) ∨ ∃ b c ty, renA σ ρ ρ1 m = some b ∧ w'.heap[b]? = some (.cells c ty (0, 0)) ∧ blk.len * blk.esz ≤ c.size ∧ (∀ i, i < blk.len → (blk.get i).length = blk.esz) ∧
            ∀ (i j : Nat) x, i < blk.len → (blk.get i)[j]? = some x → ∃ v, c[i * blk.esz + j]? = some v ∧ RelD (Rr S' (renA σ ρ ρ1) w') w' v x := by
          rw [hρ]
          rcases h.row hrow with h | ⟨b, c, ty, k1, k2, k3, k4, k5⟩
          · exact .inl h
          · exact .inr ⟨b, c, ty, k1, k2, k3, k4, fun i j x hi hx => let ⟨v, hv, hr⟩ := k5 i j x hi hx; ⟨v, hv, by
              have hs := Blk.flat_get hfl' hi hx
              rw [RelD.valOf_eq hs hr]; exact RelD.of_scal hs _ _⟩⟩
        cases blk <;> first | (simp [Blk.isRow] at hrow; done) | exact key
      cases b1 with
      | gone => simp [renB] at p6; subst p6; trivial
      | cells cs =>
        simp only [renB] at p6
        split at p6
        · rename_i cs' hcs
          simp at p6; subst p6
          obtain ⟨l1, l2⟩ := renL_get hcs
          obtain ⟨b, vals, ty, k1, k2, k3, k4⟩ := h
          refine ⟨b, vals, ty, by rw [hρ]; exact k1, k2, by omega, fun j v x hv hx => ?_⟩
          have hj : j < cs.length := by have := (List.getElem?_eq_some_iff.1 hx).1; omega
          exact ren_fwd hσ1 (vflats_get hf (List.getElem?_eq_getElem hj)) (l2 j _ x (List.getElem?_eq_getElem hj) hx) (k4 j v _ hv (List.getElem?_eq_getElem hj))
        · simp at p6
      | ints k xs => exact rowk rfl hf (by simpa [renB] using p6.symm)
      | bools xs => exact rowk rfl hf (by simpa [renB] using p6.symm)
      | row e q g => exact rowk rfl hf (by simpa [renB] using p6.symm)
    · rw [hS'out m hmem] at hb
      have h := hr.mem.blk m blk hb
      have hρ := hout hmem
      have rowk : blk.isRow = true → RelBlk S' (renA σ ρ ρ1) (Rr S' (renA σ ρ ρ1) w') w' m blk := by
        intro hrow
        have key : (renA σ ρ ρ1 m = none ∧ blk.len = 0) ∨ ∃ b c ty, renA σ ρ ρ1 m = some b ∧ w'.heap[b]? = some (.cells c ty (0, 0)) ∧ blk.len * blk.esz ≤ c.size ∧ (∀ i, i < blk.len → (blk.get i).length = blk.esz) ∧
            ∀ (i j : Nat) x, i < blk.len → (blk.get i)[j]? = some x → ∃ v, c[i * blk.esz + j]? = some v ∧ RelD (Rr S' (renA σ ρ ρ1) w') w' v x := by
          rw [hρ]
          rcases h.row hrow with h | ⟨b, c, ty, k1, k2, k3, k4, k5⟩
          · exact .inl h
          · exact .inr ⟨b, c, ty, k1, by rw [hother m b hm hmem k1]; exact k2, k3, k4, fun i j x hi hx => let ⟨v, hv, hr⟩ := k5 i j x hi hx; ⟨v, hv, hr.mono hR⟩⟩
        cases blk <;> first | (simp [Blk.isRow] at hrow; done) | exact key
      cases blk with
      | gone => trivial
      | cells cs =>
        obtain ⟨b, vals, ty, k1, k2, k3, k4⟩ := h
        have hno : noneUse (rowNames σ S0) cs = true := by
          rcases quietS_get hq hb with h | h
          · rw [Nat.zero_add] at h; exact absurd h hmem
          · exact h
        exact ⟨b, vals, ty, by rw [hρ]; exact k1, by rw [hother m b hm hmem k1]; exact k2, k3, fun j v x hv hx => hval (fun m' hm' => noneUse_get hno hm' hx) (k4 j v x hv hx)⟩
      | ints k xs => exact rowk rfl
      | bools xs => exact rowk rfl
      | row e q g => exact rowk rfl

/-- What a call over the caller's own values is. -/
def vargs (F : Fr) (g : List Bool) : List Operand → Option (List V × List Prop)
  | [] => some ([], [])
  | x :: r => match rd F g x with
    | some (v, p) => match vargs F g r with
      | some (vs, q) => some (v :: vs, p ++ q)
      | none => none
    | none => none
theorem vargs_sound {ρ : Nat → Option Nat} {w : World} {a : Act} (hf : FrOK n F S ρ a w) {xs : List Operand} {vs : List V} {os : List Prop} (h : vargs F [] xs = some (vs, os)) (ho : allP os) :
    (xs.map a.eval).length = vs.length ∧ ∀ (i : Nat) u x, (xs.map a.eval)[i]? = some u → vs[i]? = some x → RelV S ρ (Rr S ρ w) w u x := by
  induction xs generalizing vs os with
  | nil => simp [vargs] at h; obtain ⟨rfl, rfl⟩ := h; simp
  | cons x r ih =>
    simp only [vargs] at h
    split at h
    · rename_i v p hv
      split at h
      · rename_i vs' q hq
        simp at h; obtain ⟨rfl, rfl⟩ := h
        obtain ⟨hp, hq'⟩ := allP_append ho
        obtain ⟨h1, h2⟩ := ih hq hq'
        refine ⟨by simpa using h1, fun i u y hu hy => ?_⟩
        cases i with
        | zero => simp at hu hy; subst hu hy; exact rd_sound hf hv hp trivial
        | succ i => exact h2 i u y (by simpa using hu) (by simpa using hy)
      · simp at h
    · simp at h

def isCallV (F : Fr) (o : Oper) : Option (FuncId × List V × List Prop) :=
  match o.guard, o.op with
  | none, .call c => match calleeF F [] c.callee with
    | some (f, p) => match vargs F [] c.args.toList with
      | some (vs, q) => some (f, vs, p ++ q)
      | none => none
    | none => none
  | _, _ => none

theorem renV_fwd {S' S1 : List Blk} {σ : List Nat} {ρ' ρ1 : Nat → Option Nat} {R R' : Nat → Prop} {w : World} (hσ : ∀ i m : Nat, σ[i]? = some m → ρ' m = ρ1 i ∧ shape S' m = shape S1 i)
    {u : Value} {v v' : V} (hf : rflat v = true) (h : renV σ v = some v') (hu : RelV S1 ρ1 R w u v) : RelV S' ρ' R' w u v' := by
  cases v with
  | tup vs =>
    simp only [renV] at h
    split at h
    · rename_i us hus
      simp at h; subst h
      obtain ⟨l1, l2⟩ := renL_get hus
      cases hu with
      | tup vals _ hl hr =>
        refine .tup vals us (by omega) fun i a b ha hb => ?_
        have hi : i < vs.length := by have := (List.getElem?_eq_some_iff.1 hb).1; omega
        exact ren_fwd hσ (vflats_get hf (List.getElem?_eq_getElem hi)) (l2 i _ b (List.getElem?_eq_getElem hi) hb) (hr i a _ ha (List.getElem?_eq_getElem hi))
    · simp at h
  | d x => exact ren_fwd hσ (v := .d x) hf (by simpa [renV, renS] using h) hu
  | nil => exact ren_fwd hσ (v := .nil) hf (by simpa [renV, renS] using h) hu
  | bot => exact ren_fwd hσ (v := .bot) hf (by simpa [renV] using h) hu
  | agg cs => exact ren_fwd hσ (v := .agg cs) hf (by simpa [renV] using h) hu
  | ptr a b => exact ren_fwd hσ (v := .ptr a b) hf (by simpa [renV] using h) hu
  | ep a b c => exact ren_fwd hσ (v := .ep a b c) hf (by simpa [renV] using h) hu
  | own a => exact ren_fwd hσ (v := .own a) hf (by simpa [renV] using h) hu
  | sl a b c => exact ren_fwd hσ (v := .sl a b c) hf (by simpa [renV] using h) hu
  | rp c => exact ren_fwd hσ (v := .rp c) hf (by simpa [renV] using h) hu
  | clo f c => exact ren_fwd hσ (v := .clo f c) hf (by simpa [renV] using h) hu

theorem callO_core {o : Oper} {f : FuncId} {as0 avs : List V} {os : List Prop} {S0 S1 X X1 S' : List Blk} {rv rv' : V} {F' : Fr} (h : isCallV F o = some (f, avs, os)) (sp : CtrO P f as0 S0 S1 rv) (σ : List Nat) (ho : allP os) (hnd : nodupN σ = true)
    (ha : renL σ as0 = some avs) (h0 : renBs σ S0 = some X) (hX : selS S σ = some X) (hF : killFs (rowNames σ S0) F = some F') (hq : quietS (rowNames σ S0) σ 0 S = true) (hk : kinds S0 S1) (hfl : bflats S1)
    (h1 : renBs σ S1 = some X1) (hS : setsO σ X1 S = some S') (hrf : rflat rv = true) (hrv : renV σ rv = some rv')
    (k : EnvOK P env → ∀ ρ a w u, Rel w0 n F' S' ρ a w → RelV S' ρ (Rr S' ρ w) w u rv' → wpList P l0.toArray (fun e a' w' => e = .normal ∧ ∃ F'' S'' ρ'', Rel w0 n F'' S'' ρ'' a' w' ∧ K F'' S'') l (a.put o.dst u) w) : AO P env w0 n l0 K (o :: l) F S := by
  intro hE ρ a w hr
  unfold isCallV at h
  split at h
  · rename_i c hg hop
    split at h
    · rename_i f' p hc
      split at h
      · rename_i vs' q hq'
        simp at h
        obtain ⟨rfl, rfl, rfl⟩ := h
        obtain ⟨hp, hqq⟩ := allP_append ho
        obtain ⟨x, hx, hxv⟩ := calleeF_sound (g := []) hr.fr trivial hc hp
        obtain ⟨cal, args, ts⟩ := c
        simp only at hx; subst hx
        refine wpList_plain hg fun K' hK => ?_
        unfold Oper.wp
        rw [run_call sp.1 hop hxv]
        obtain ⟨d1, d2⟩ := vargs_sound hr.fr hq' hqq
        obtain ⟨hm0, hsh0, hlen⟩ := sel_mem hr.mem hnd h0 hX
        obtain ⟨e1, e2⟩ := renL_get ha
        have hR : ∀ k, Rr S ρ w k → Rr S0 (renR σ ρ) w k := fun k hk => renR_rr hk
        have hda : RelVs S0 (renR σ ρ) w (args.toList.map a.eval) as0 := ⟨by simp at d1; simp; omega, fun i u y hu hy => by
          have hi : i < vs'.length := by have := (List.getElem?_eq_some_iff.1 hy).1; omega
          exact ren_bwd hsh0 hR (e2 i y _ hy (List.getElem?_eq_getElem hi)) (d2 i u _ hu (List.getElem?_eq_getElem hi))⟩
        have := sp.2 w _ (renR σ ρ) hm0 hda
        have harr : (args.toList.map a.eval).toArray = args.map a.eval := by apply Array.ext'; simp
        rw [harr] at this
        refine this.mono ?_
        rintro e w'' ⟨v, ρ1, rfl, hm1, hv⟩
        obtain ⟨hr', hσ1⟩ := ret_mem hr hnd h0 hX hF hq hk hfl h1 hS hm1
        refine hK _ _ ?_
        exact k hE _ a w'' v hr' (renV_fwd hσ1 hrf hrv hv)
      · simp at h
    · simp at h
  · simp at h

theorem ao_callO {o : Oper} {f : FuncId} {as0 avs : List V} {os : List Prop} {S0 S1 X X1 S' : List Blk} {rv rv' : V} {F' : Fr} {d : Nat} (h : isCallV F o = some (f, avs, os)) (sp : CtrO P f as0 S0 S1 rv) (σ : List Nat) (ho : allP os) (hnd : nodupN σ = true)
    (ha : renL σ as0 = some avs) (h0 : renBs σ S0 = some X) (hX : selS S σ = some X) (hF : killFs (rowNames σ S0) F = some F') (hq : quietS (rowNames σ S0) σ 0 S = true) (hk : kinds S0 S1) (hfl : bflats S1)
    (h1 : renBs σ S1 = some X1) (hS : setsO σ X1 S = some S') (hrf : rflat rv = true) (hrv : renV σ rv = some rv') (hd : o.dst = some d) (hdn : Nat.blt d n = true)
    (k : AO P env w0 n l0 K l ((d, [], rv') :: F') S') : AO P env w0 n l0 K (o :: l) F S := by
  refine callO_core h sp σ ho hnd ha h0 hX hF hq hk hfl h1 hS hrf hrv fun hE ρ a w u hr hu => ?_
  rw [hd]
  exact k hE ρ _ w ⟨hr.fr.put (Nat.le_of_ble_eq_true hdn) ⟨fun _ => hu, fun h => absurd trivial h⟩, hr.mem⟩
theorem ao_callN {o : Oper} {f : FuncId} {as0 avs : List V} {os : List Prop} {S0 S1 X X1 S' : List Blk} {rv rv' : V} {F' : Fr} (h : isCallV F o = some (f, avs, os)) (sp : CtrO P f as0 S0 S1 rv) (σ : List Nat) (ho : allP os) (hnd : nodupN σ = true)
    (ha : renL σ as0 = some avs) (h0 : renBs σ S0 = some X) (hX : selS S σ = some X) (hF : killFs (rowNames σ S0) F = some F') (hq : quietS (rowNames σ S0) σ 0 S = true) (hk : kinds S0 S1) (hfl : bflats S1)
    (h1 : renBs σ S1 = some X1) (hS : setsO σ X1 S = some S') (hrf : rflat rv = true) (hrv : renV σ rv = some rv') (hd : o.dst = none)
    (k : AO P env w0 n l0 K l F' S') : AO P env w0 n l0 K (o :: l) F S := by
  refine callO_core h sp σ ho hnd ha h0 hX hF hq hk hfl h1 hS hrf hrv fun hE ρ a w u hr hu => ?_
  rw [hd]
  exact k hE ρ _ w hr

end
end Go.Wk

/- Regions that draw their order and write into rows. -/
namespace Go.Wk
set_option maxRecDepth 10000
open Go.RowKit

/-- The worlds in which such a region stands. -/
def Cls (N : List Nat) (ρ : Nat → Option Nat) (ws w : World) : Prop := w.heap.size = ws.heap.size ∧ Sm N ρ ws w
theorem Cls.refl (N : List Nat) (ρ : Nat → Option Nat) (w : World) : Cls N ρ w w := ⟨rfl, fun _ _ _ => rfl⟩
theorem Cls.sm {N : List Nat} {ρ : Nat → Option Nat} {ws w w' : World} (h : Cls N ρ ws w) (h' : Cls N ρ ws w') : Sm N ρ w w' := fun k hk hno => by
  rw [h'.2 k (by rw [← h.1]; exact hk) hno, h.2 k (by rw [← h.1]; exact hk) hno]

/-- Which operations are taken in the order of the text (false), and which come up alone (true). -/
def planB (md : Region.Mode) (ops : Array Oper) : Nat → List Bool → Array Bool → Bool
  | _, [], listed => (Region.ready md ops listed).isEmpty
  | k, false :: r, listed => (Region.ready md ops listed).contains k && Region.free md ops listed k && planB md ops (k + 1) r (listed.setIfInBounds k true)
  | k, true :: r, listed => decide (Region.ready md ops listed = [k]) && planB md ops (k + 1) r (listed.setIfInBounds k true)

def wpMix (P : Program) (ops : Array Oper) (C : World → Prop) (Q : Exit → Act → World → Prop) : List Bool → List Oper → Act → World → Prop
  | false :: r, o :: l, a, w => C w ∧ ∃ v, YieldsIf P ops C o v a ∧ wpMix P ops C Q r l (a.put o.dst v) w
  | true :: r, o :: l, a, w => o.guard = none ∧ o.wp P a w (fun a' w' => C w' ∧ wpMix P ops C Q r l a' w') Q
  | [], _, a, w => Q .normal a w
  | _, _, _, _ => False

theorem wpAnyH_of_mix {P : Program} {ops : Array Oper} {md : Region.Mode} {C : World → Prop} {Q : Exit → Act → World → Prop} (hs : Region.noSelect ops = true) (hQ : ∀ c a w, ¬ Q (.panic c) a w) :
    ∀ (pl : List Bool) (k : Nat) (l : List Oper) (listed : Array Bool) (a : Act) (w : World), (∀ j, l[j]? = ops[k + j]?) → planB md ops k pl listed = true → wpMix P ops C Q pl l a w → wpAnyH P md ops Q C pl.length listed a w
  | [], k, l, listed, a, w, _, hB, h => ⟨by simpa [planB] using hB, h⟩
  | false :: r, k, [], listed, a, w, _, _, h => h.elim
  | true :: r, k, [], listed, a, w, _, _, h => h.elim
  | false :: r, k, o :: l, listed, a, w, hl, hB, h => by
    have h0 : ops[k]? = some o := by simpa using (hl 0).symm
    simp only [planB, Bool.and_eq_true] at hB
    obtain ⟨⟨h1, h2⟩, h3⟩ := hB
    obtain ⟨hC, v, hy, hK⟩ := h
    exact wpAnyH_take h0 hs h2 h1 (fun c a w h => absurd h (hQ c _ w)) hy hC
      (wpAnyH_of_mix hs hQ r (k + 1) l _ _ _ (fun j => by have := hl (j + 1); simpa [Nat.add_assoc, Nat.add_comm 1 j] using this) h3 hK)
  | true :: r, k, o :: l, listed, a, w, hl, hB, h => by
    have h0 : ops[k]? = some o := by simpa using (hl 0).symm
    simp only [planB, Bool.and_eq_true, decide_eq_true_eq] at hB
    obtain ⟨h1, h2⟩ := hB
    obtain ⟨hg, hw⟩ := h
    refine wpAnyH_all h1 (by simp) fun i hi => ?_
    simp at hi; subst hi
    unfold wpOp
    simp only [h0, Region.wanted, hg, if_true]
    refine .inl (Oper.wp_mono (fun a' w' h' => ⟨h'.1, ?_⟩) hw)
    exact wpAnyH_of_mix hs hQ r (i + 1) l _ _ _ (fun j => by have := hl (j + 1); simpa [Nat.add_assoc, Nat.add_comm 1 j] using this) h2 h'.2

section
variable {P : Program} {env : Env} {w0 : Base} {n : Nat} {l0 : List Oper} {K : Fr → List Blk → Prop} {l : List Oper} {F : Fr} {S : List Blk}

def AM (P : Program) (env : Env) (w0 : Base) (n : Nat) (l0 : List Oper) (N : List Nat) (K : Fr → List Blk → Prop) (pl : List Bool) (l : List Oper) (F : Fr) (S : List Blk) : Prop :=
  EnvOK P env → (∀ m ∈ N, m < S.length) → ∀ ρ a w ws, Rel w0 n F S ρ a w → Cls N ρ ws w → wpMix P l0.toArray (Cls N ρ ws) (fun e a' w' => e = .normal ∧ ∃ F' S' ρ', Rel w0 n F' S' ρ' a' w' ∧ K F' S') pl l a w

theorem am_nil {N : List Nat} (h : K F S) : AM P env w0 n l0 N K [] l F S := fun _ _ ρ _ _ _ hr _ => ⟨rfl, F, S, ρ, hr, h⟩
theorem am_op {N : List Nat} {pl : List Bool} {o : Oper} {F' : Fr} {os : List Prop} (h : stepQ env n l0 F S o = some (F', os)) (ho : allP os) (hoff : offS l0 N F o = true) (k : AM P env w0 n l0 N K pl l F' S) : AM P env w0 n l0 N K (false :: pl) (o :: l) F S := by
  intro hE hN ρ a w ws hr hc
  refine ⟨hc, ?_⟩
  obtain (⟨hw, val, hq, hr'⟩ | ⟨hw, hr'⟩) := stepN_sound (P := P) hE h ho hN hoff hr
  · exact ⟨val, .inl ⟨hw, fun w' hc' => hq w' (hc.sm hc')⟩, k hE hN ρ _ w ws hr' hc⟩
  · exact ⟨undef, .inr ⟨hw, rfl⟩, k hE hN ρ _ w ws hr' hc⟩
theorem am_steps {N : List Nat} {pl : List Bool} {o : Oper} {F' : Fr} {S' : List Blk} {nm : Nat} (hg : o.guard = none) (h : EnvOK P env → StepsIn P n o F S F' S' nm) (hmem : memN N nm = true) (hlen : S'.length = S.length)
    (k : AM P env w0 n l0 N K pl l F' S') : AM P env w0 n l0 N K (true :: pl) (o :: l) F S := by
  intro hE hN ρ a w ws hr hc
  refine ⟨hg, ?_⟩
  obtain ⟨w', hrun, hr', hsz, hoth⟩ := h hE w0 ρ a w hr
  have hc' : Cls N ρ ws w' := ⟨by rw [hsz, hc.1], fun k hk hno => by rw [hoth k (hno nm (memN_iff.1 hmem)), hc.2 k hk hno]⟩
  unfold Oper.wp
  rw [hrun]
  exact ⟨hc', k hE (by rw [hlen]; exact hN) ρ _ w' ws hr' hc'⟩
theorem am_store_ep {N : List Nat} {pl : List Bool} {ty : TypeId} {pos : String} {after : Array Edge} {T : TypeId} {p x : Operand} {ti : TI} {v : V} {qs ps : List Prop} {nm i off : Nat} {ds : List D} {blk blk' : Blk} {S' : List Blk} (hT : ti? env T = some ti) (hp : rd F [] p = some (.ep nm i off, qs)) (hq : allP qs) (hx : rd F [] x = some (v, ps)) (hps : allP ps)
    (hc : dcells v = some ds) (hl : Nat.beq ds.length ti.size = true) (h1 : ds.all D.one = true) (hb : nthF S nm = some blk) (hs : rowSet blk i off ds = some blk') (hS : setO S nm blk' = some S') (hmem : memN N nm = true)
    (k : AM P env w0 n l0 N K pl l F S') : AM P env w0 n l0 N K (true :: pl) (⟨none, .store T p x, ty, pos, after, none⟩ :: l) F S :=
  am_steps rfl (fun hE => steps_store_ep (hE.get hT) hp hq hx hps hc hl h1 hb hs hS) hmem (by obtain ⟨rfl, _⟩ := setO_eq hS; simp) k
end

section
variable {P : Program} {env : Env} {w0 : Base} {n : Nat} {Q : Exit → Fr → List Blk → Prop} {F : Fr} {S : List Blk}
theorem aw_region_m {id : Nat} {l0 : List Oper} (N : List Nat) (pl : List Bool) (hm : P.follows .mixedOrders = true) (hs : Region.noSelect l0.toArray = true) (hB : planB .any l0.toArray 0 pl (Array.replicate l0.toArray.size false) = true) (hlen : Nat.beq pl.length l0.length = true)
    (hN : ∀ m ∈ N, m < S.length) (h : AM P env w0 n l0 N (Q .normal) pl l0 F S) : AW P env w0 n (.region id l0.toArray true) Q F S := by
  intro hE ρ a w hr
  have hr' := hr.ext (w' := { w with drawn := w.drawn + 1 }) ⟨rfl, rfl, rfl, Nat.le_refl _, fun _ _ => rfl⟩
  refine Code.wp_mono (Q := fun e a' w' => e = .normal ∧ ∃ F' S' ρ', Rel w0 n F' S' ρ' a' w' ∧ Q .normal F' S') (fun e a' w' hq => ?_) (wp_region_held (S := Cls N ρ { w with drawn := w.drawn + 1 }) hm ?_)
  · obtain ⟨rfl, F', S', ρ', hr', hQ⟩ := hq
    exact ⟨F', S', ρ', hr', hQ⟩
  · have hl := Nat.eq_of_beq_eq_true hlen
    have := wpAnyH_of_mix (md := .any) hs (fun c a w h => by simp at h) pl 0 l0 _ a _ (fun j => by simp) hB (h hE hN ρ a _ _ hr' (Cls.refl _ _ _))
    rwa [hl, show l0.length = l0.toArray.size by simp] at this
end

/-! ### A guarded call that leaves the caller's blocks with the same contents -/

section
variable {P : Program} {env : Env} {w0 : Base} {n : Nat} {l0 : List Oper} {K : Fr → List Blk → Prop} {l : List Oper} {F : Fr} {S : List Blk}

def vargsG (F : Fr) (g : List Bool) : List Operand → Option (List V × List Prop)
  | [] => some ([], [])
  | x :: r => match rd F g x with
    | some (v, p) => match vargsG F g r with
      | some (vs, q) => some (v :: vs, p ++ q)
      | none => none
    | none => none
theorem vargsG_sound {ρ : Nat → Option Nat} {w : World} {a : Act} (hf : FrOK n F S ρ a w) {g : List Bool} (hg : allT g) {xs : List Operand} {vs : List V} {os : List Prop} (h : vargsG F g xs = some (vs, os)) (ho : allP os) :
    (xs.map a.eval).length = vs.length ∧ ∀ (i : Nat) u x, (xs.map a.eval)[i]? = some u → vs[i]? = some x → RelV S ρ (Rr S ρ w) w u x := by
  induction xs generalizing vs os with
  | nil => simp [vargsG] at h; obtain ⟨rfl, rfl⟩ := h; simp
  | cons x r ih =>
    simp only [vargsG] at h
    split at h
    · rename_i v p hv
      split at h
      · rename_i vs' q hq
        simp at h; obtain ⟨rfl, rfl⟩ := h
        obtain ⟨hp, hq'⟩ := allP_append ho
        obtain ⟨h1, h2⟩ := ih hq hq'
        refine ⟨by simpa using h1, fun i u y hu hy => ?_⟩
        cases i with
        | zero => simp at hu hy; subst hu hy; exact rd_sound hf hv hp hg
        | succ i => exact h2 i u y (by simpa using hu) (by simpa using hy)
      · simp at h
    · simp at h
def isCallG (F : Fr) (l0 : List Oper) (o : Oper) : Option (List Bool × FuncId × List V × List Prop) :=
  match gof F l0 o.guard, o.op with
  | some g, .call c => match calleeF F g c.callee with
    | some (f, p) => match vargsG F g c.args.toList with
      | some (vs, q) => some (g, f, vs, p ++ q)
      | none => none
    | none => none
  | _, _ => none

theorem kinds_refl {S0 S1 : List Blk} (h : kinds S0 S1) : kinds S0 S1 := h

theorem ao_callG {o : Oper} {f : FuncId} {as0 avs : List V} {os : List Prop} {S0 X : List Blk} {rv rv' : V} {F' : Fr} {d : Nat} {g : List Bool} (h : isCallG F l0 o = some (g, f, avs, os)) (sp : allT g → CtrO P f as0 S0 S0 rv) (σ : List Nat) (ho : allP os) (hnd : nodupN σ = true)
    (ha : renL σ as0 = some avs) (h0 : renBs σ S0 = some X) (hX : selS S σ = some X) (hF : killFs (rowNames σ S0) F = some F') (hq : quietS (rowNames σ S0) σ 0 S = true) (hk : kinds S0 S0) (hfl : bflats S0)
    (hS : setsO σ X S = some S) (hrf : rflat rv = true) (hrv : renV σ rv = some rv') (hd : o.dst = some d) (hdn : Nat.blt d n = true)
    (k : AO P env w0 n l0 K l ((d, g, rv') :: F') S) : AO P env w0 n l0 K (o :: l) F S := by
  intro hE ρ a w hr
  unfold isCallG at h
  split at h
  · rename_i g' c hgof hop
    split at h
    · rename_i f' p hc
      split at h
      · rename_i vs' q hq'
        simp at h
        obtain ⟨rfl, rfl, rfl, rfl⟩ := h
        obtain ⟨hw1, hw2⟩ := gof_wanted hr.fr hgof
        by_cases hg : allT g'
        · obtain ⟨hp, hqq⟩ := allP_append ho
          obtain ⟨x, hx, hxv⟩ := calleeF_sound (g := g') hr.fr hg hc hp
          obtain ⟨cal, args, ts⟩ := c
          simp only at hx; subst hx
          refine wpList_step fun K' hK => ?_
          rw [if_pos (hw1 hg)]
          unfold Oper.wp
          rw [run_call (sp hg).1 hop hxv]
          obtain ⟨d1, d2⟩ := vargsG_sound hr.fr hg hq' hqq
          obtain ⟨hm0, hsh0, hlen⟩ := sel_mem hr.mem hnd h0 hX
          obtain ⟨e1, e2⟩ := renL_get ha
          have hR : ∀ k, Rr S ρ w k → Rr S0 (renR σ ρ) w k := fun k hk => renR_rr hk
          have hda : RelVs S0 (renR σ ρ) w (args.toList.map a.eval) as0 := ⟨by simp at d1; simp; omega, fun i u y hu hy => by
            have hi : i < vs'.length := by have := (List.getElem?_eq_some_iff.1 hy).1; omega
            exact ren_bwd hsh0 hR (e2 i y _ hy (List.getElem?_eq_getElem hi)) (d2 i u _ hu (List.getElem?_eq_getElem hi))⟩
          have := (sp hg).2 w _ (renR σ ρ) hm0 hda
          have harr : (args.toList.map a.eval).toArray = args.map a.eval := by apply Array.ext'; simp
          rw [harr] at this
          refine this.mono ?_
          rintro e w'' ⟨v, ρ1, rfl, hm1, hv⟩
          obtain ⟨hr', hσ1⟩ := ret_mem hr hnd h0 hX hF hq hk hfl h0 hS hm1
          refine hK _ _ ?_
          rw [hd]
          exact k hE _ _ w'' ⟨hr'.fr.put (Nat.le_of_ble_eq_true hdn) ⟨fun _ => renV_fwd hσ1 hrf hrv hv, fun h => absurd hg h⟩, hr'.mem⟩
        · refine wpList_step fun K' hK => ?_
          rw [if_neg (by simp [hw2 hg])]
          refine hK _ _ ?_
          rw [hd]
          have hfr : FrOK n F' S ρ a w := ⟨hr.fr.size, hr.fr.defers, fun t gs v hl => by
            obtain ⟨v', hl', h⟩ := killFs_get hF hl
            refine ⟨fun hgs => ?_, (hr.fr.get t gs v' hl').2⟩
            rcases h with rfl | ⟨rfl, _⟩
            · exact .bot _
            · exact (hr.fr.get t gs v hl').1 hgs⟩
          exact k hE ρ _ w ⟨hfr.put (Nat.le_of_ble_eq_true hdn) ⟨fun h => absurd h hg, fun _ => rfl⟩, hr.mem⟩
      · simp at h
    · simp at h
  · simp at h

end
end Go.Wk

/- Forgetting, further: a cut row; a nil field; results with blocks of cells. -/
namespace Go.Wk
set_option maxRecDepth 10000
open Go.RowKit

theorem ao_weak {P : Program} {env : Env} {w0 : Base} {n : Nat} {l0 : List Oper} {K : Fr → List Blk → Prop} {l : List Oper} {F F' : Fr} {S S' : List Blk} (h : Weak F S F' S') (hn : w0.np ≤ S'.length) (k : AO P env w0 n l0 K l F' S') : AO P env w0 n l0 K l F S :=
  fun hE ρ a w hr => let ⟨ρ', hr'⟩ := h w0 n ρ a w hn hr; k hE ρ' a w hr'

def setV : List V → Nat → V → Option (List V)
  | [], _, _ => none
  | _ :: r, 0, v => some (v :: r)
  | x :: r, m + 1, v => match setV r m v with | some r' => some (x :: r') | none => none
theorem setV_get {cs cs' : List V} {j : Nat} {v : V} (h : setV cs j v = some cs') : cs'.length = cs.length ∧ cs'[j]? = some v ∧ ∀ i, i ≠ j → cs'[i]? = cs[i]? := by
  induction cs generalizing j cs' with
  | nil => simp [setV] at h
  | cons x r ih => cases j with
    | zero =>
      simp [setV] at h; subst h
      exact ⟨by simp, by simp, fun i hi => by cases i with | zero => omega | succ i => simp⟩
    | succ m =>
      simp only [setV] at h
      split at h
      · rename_i r' hr
        simp at h; subst h
        obtain ⟨h1, h2, h3⟩ := ih hr
        refine ⟨by simp [h1], by simpa using h2, fun i hi => ?_⟩
        cases i with
        | zero => simp
        | succ i => simpa using h3 i (by omega)
      · simp at h

theorem takeB_any {k : Nat} {a b : Blk} (h : takeB k a = some b) (hk : k ≤ a.len) : a.isRow = true ∧ b.isRow = true ∧ b.esz = a.esz ∧ b.len = k ∧ ∀ i, i < k → b.get i = a.get i := takeB_ok h hk

/-- A field that holds the head of a row becomes the whole of the row that is left. -/
theorem weak_cut {F F' : Fr} {S S1 S' : List Blk} {nm hn j m : Nat} {blk blk' : Blk} {cs cs1 cs' : List V} (hblk : nthF S nm = some blk) (ht : takeB m blk = some blk') (hm : m ≤ blk.len) (hF : killF nm F = some F') (hS : killS nm blk' 0 S = some S1)
    (hc : nthF S hn = some (.cells cs)) (hj : nthF cs j = some (.sl nm 0 m)) (hc1 : nthF S1 hn = some (.cells cs1)) (hset : setV cs1 j (.own nm) = some cs') (hS' : putO S1 hn (.cells cs') = some S') : Weak F S F' S' := by
  intro w0 n ρ a w _ hr
  rw [nthF_eq] at hblk hc hj hc1
  obtain ⟨r1, r2, r3, r4, r5⟩ := takeB_ok ht hm
  obtain ⟨hlen, hget⟩ := killS_get hS
  obtain ⟨plen, pat, pother⟩ := putO_get hS'
  obtain ⟨slen, sat, sother⟩ := setV_get hset
  have hnm : nm < S.length := (List.getElem?_eq_some_iff.1 hblk).1
  have hne : hn ≠ nm := fun he => by subst he; rw [hblk] at hc; cases hc; simp [Blk.isRow] at r1
  have at1 : S1[nm]? = some blk' := by
    have hlt : nm < S1.length := by omega
    rcases hget nm _ (List.getElem?_eq_getElem hlt) with ⟨_, h⟩ | ⟨h, _⟩
    · rw [List.getElem?_eq_getElem hlt, h]
    · omega
  have other1 : ∀ (j : Nat) x', S1[j]? = some x' → j ≠ nm → ∃ x, S[j]? = some x ∧ Killed nm x x' := by
    intro j x' hx hne
    rcases hget j x' hx with ⟨h, _⟩ | ⟨_, h⟩
    · omega
    · exact h
  have at' : S'[nm]? = some blk' := by rw [pother nm (Ne.symm hne)]; exact at1
  have hshape : ∀ i, i < S.length → i ≠ nm → shape S' i = shape S i := by
    intro i hi hine
    by_cases hh : i = hn
    · subst hh; simp [shape, pat, hc, Blk.esz, Blk.len]
    · obtain ⟨x, hx, hk⟩ := other1 i _ (List.getElem?_eq_getElem (by omega)) hine
      unfold shape
      rw [pother i hh, List.getElem?_eq_getElem (by omega : i < S1.length), hx]
      rcases hk with ⟨h, _⟩ | ⟨c1, c2, h1, h2, _⟩
      · rw [h]
      · rw [h1, h2]; rfl
  have hR : ∀ k, Rr S ρ w k → Rr S' ρ w k ∧ w.heap[k]? = w.heap[k]? := fun k hk => ⟨hk, rfl⟩
  have hkill : ∀ {u : Value} {x : V}, RelV S ρ (Rr S ρ w) w u x → RelV S' ρ (Rr S' ρ w) w u (x.kill nm) := by
    intro u x h
    unfold V.kill
    cases hu : x.uses nm with
    | true => exact .bot u
    | false => exact h.mono hR fun i hu' => ⟨rfl, hshape i (h.uses_lt i hu') (fun he => by subst he; rw [hu] at hu'; cases hu'), fun _ _ _ _ h => h⟩
  refine ⟨ρ, ⟨hr.fr.size, hr.fr.defers, fun t g v hl => ?_⟩, hr.mem.below, by have := hr.mem.np; omega, fun i b hi hb => ?_, fun i b hi hb => hr.mem.lt i b (by omega) hb, fun i j b hi hj => hr.mem.inj i j b (by omega) (by omega), hr.mem.hid.mono (by omega) (Nat.le_refl _), fun i bi hbi => ?_⟩
  · obtain ⟨v', hl', rfl⟩ := killF_get hF hl
    exact ⟨fun hg => hkill ((hr.fr.get t g v' hl').1 hg), (hr.fr.get t g v' hl').2⟩
  · obtain ⟨h1, c, h2⟩ := hr.mem.pin i b hi hb
    refine ⟨h1, ?_⟩
    by_cases hh : i = hn
    · subst hh; exact ⟨_, pat⟩
    · obtain ⟨_, h4⟩ := pin_killed hblk r1 (by omega) other1 h2
      rw [pother i hh]; exact h4
  · by_cases h : i = nm
    · subst h
      rw [at'] at hbi; cases hbi
      have key : (ρ i = none ∧ blk'.len = 0) ∨ ∃ b c ty, ρ i = some b ∧ w.heap[b]? = some (.cells c ty (0, 0)) ∧ blk'.len * blk'.esz ≤ c.size ∧ (∀ i, i < blk'.len → (blk'.get i).length = blk'.esz) ∧
          ∀ (k j : Nat) x, k < blk'.len → (blk'.get k)[j]? = some x → ∃ v, c[k * blk'.esz + j]? = some v ∧ RelD (Rr S' ρ w) w v x := by
        rcases (hr.mem.blk i _ hblk).row r1 with ⟨k1, k2⟩ | ⟨b, c, ty, k1, k2, k3, k4, k5⟩
        · exact .inl ⟨k1, by omega⟩
        · refine .inr ⟨b, c, ty, k1, k2, ?_, fun q hq => ?_, fun q z x hq hx => ?_⟩
          · rw [r3, r4]; exact Nat.le_trans (Nat.mul_le_mul_right _ hm) k3
          · rw [r5 q (by omega), r3]; exact k4 q (by omega)
          · rw [r5 q (by omega)] at hx
            obtain ⟨v, hv, hrel⟩ := k5 q z x (by omega) hx
            exact ⟨v, by rw [r3]; exact hv, hrel.mono hR⟩
      cases blk' <;> first | (simp [Blk.isRow] at r2; done) | exact key
    · by_cases hh : i = hn
      · subst hh
        rw [pat] at hbi; cases hbi
        obtain ⟨x, hx, hk⟩ := other1 i _ hc1 h
        rw [hc] at hx; cases hx
        obtain ⟨b, vals, ty, h1, h2, h3, h4⟩ := hr.mem.blk i _ hc
        rcases hk with ⟨_, hnc⟩ | ⟨c0, c1, e1, e2, hcl, hcg⟩
        · exact absurd rfl (hnc cs)
        · cases e1; cases e2
          refine ⟨b, vals, ty, h1, h2, by omega, fun k v x hv hx => ?_⟩
          by_cases hkj : k = j
          · subst hkj
            rw [sat] at hx; cases hx
            have := h4 k v _ hv hj
            cases this with
            | slNil hb hs => exact .ownNil (esz := blk'.esz) hb (by simp [shape, at', r4])
            | @sl _ b2 esz nn off len cap hb hs hl hcc hcap =>
              have he : blk.esz = esz := by simp [shape, hblk] at hs; exact hs.1
              rw [Nat.zero_mul]
              exact .own (esz := esz) hb (by simp [shape, at', r3, r4, he]) hcc (by simpa using hcap)
          · rw [sother k hkj] at hx
            obtain ⟨y, hy, rfl⟩ := hcg k x hx
            exact hkill (h4 k v y hv hy)
      · rw [pother i hh] at hbi
        obtain ⟨x, hx, hk⟩ := other1 i _ hbi h
        have hold := hr.mem.blk i x hx
        rcases hk with ⟨rfl, hnc⟩ | ⟨c0, c1, rfl, rfl, hcl, hcg⟩
        · have rowk : ((ρ i = none ∧ bi.len = 0) ∨ ∃ b c ty, ρ i = some b ∧ w.heap[b]? = some (.cells c ty (0, 0)) ∧ bi.len * bi.esz ≤ c.size ∧ (∀ i, i < bi.len → (bi.get i).length = bi.esz) ∧
              ∀ (i j : Nat) x, i < bi.len → (bi.get i)[j]? = some x → ∃ v, c[i * bi.esz + j]? = some v ∧ RelD (Rr S ρ w) w v x) →
              ((ρ i = none ∧ bi.len = 0) ∨ ∃ b c ty, ρ i = some b ∧ w.heap[b]? = some (.cells c ty (0, 0)) ∧ bi.len * bi.esz ≤ c.size ∧ (∀ i, i < bi.len → (bi.get i).length = bi.esz) ∧
              ∀ (i j : Nat) x, i < bi.len → (bi.get i)[j]? = some x → ∃ v, c[i * bi.esz + j]? = some v ∧ RelD (Rr S' ρ w) w v x) := by
            rintro (h0 | ⟨b, c, ty, h1, h2, h3, h4, h5⟩)
            · exact .inl h0
            · exact .inr ⟨b, c, ty, h1, h2, h3, h4, fun i j x hi hx => let ⟨v, hv, hr⟩ := h5 i j x hi hx; ⟨v, hv, hr.mono hR⟩⟩
          cases bi with
          | gone => trivial
          | cells cs => exact absurd rfl (hnc cs)
          | ints k xs => exact rowk hold
          | bools xs => exact rowk hold
          | row esz m get => exact rowk hold
        · obtain ⟨b, vals, ty, h1, h2, h3, h4⟩ := hold
          refine ⟨b, vals, ty, h1, h2, by rw [hcl]; exact h3, fun k v x hv hx => ?_⟩
          obtain ⟨y, hy, rfl⟩ := hcg k x hx
          exact hkill (h4 k v y hv hy)

/-! ### Results with blocks of cells -/

theorem flat_move {S S' : List Blk} {ρ : Nat → Option Nat} {R R' : Nat → Prop} {w : World} {u : Value} {v : V} (hf : vflat v = true) (hs : ∀ nm, v.uses nm = true → shape S' nm = shape S nm) (hu : RelV S ρ R w u v) : RelV S' ρ R' w u v := by
  cases hu with
  | d h => exact .d (h.flat hf)
  | nil => exact .nil
  | bot => exact .bot _
  | agg => simp [vflat] at hf
  | tup => simp [vflat] at hf
  | rp => simp [vflat] at hf
  | clo => simp [vflat] at hf
  | ptr hb hsh => exact .ptr hb (by rw [hs _ (by simp [V.uses])]; exact hsh)
  | ep hb hsh hi => exact .ep hb (by rw [hs _ (by simp [V.uses])]; exact hsh) hi
  | ownNil hb hsh => exact .ownNil hb (by rw [hs _ (by simp [V.uses])]; exact hsh)
  | own hb hsh hc hcap => exact .own hb (by rw [hs _ (by simp [V.uses])]; exact hsh) hc hcap
  | slNil hb hsh => exact .slNil hb (by rw [hs _ (by simp [V.uses])]; exact hsh)
  | sl hb hsh hl hc hcap => exact .sl hb (by rw [hs _ (by simp [V.uses])]; exact hsh) hl hc hcap

def retN (env : Env) (rs : List ResultVar) (rS : List Blk) (rv : V) (F : Fr) (S : List Blk) : Prop :=
  ∃ vs, resL env F S rs = some vs ∧ subS S rS ∧ lowS rS.length rS = true ∧ V.low.lowL rS.length vs = true ∧ bflats rS ∧ vflats vs = true ∧ match vs with
    | [v] => v = rv
    | vs => rv = .tup vs

/-- A contract out of a walk, where the result leads to new blocks of cells. -/
theorem spec_new {P : Program} {env : Env} (hE : EnvOK P env) {f : FuncId} {fn : Func} {c : Code} {rs : List ResultVar} {ds : List D} {rS : List Blk} {rv : V} (hen : Enters P f) (hf : P.funcs[f]? = some fn) (hb : fn.body = some c)
    (hrs : fn.results = rs.toArray) (n : Nat) (hn : fn.ntmps = n) (hds : ds.length ≤ n) {F0 : Fr} (hF : entryO 0 ds = some F0)
    (k : ∀ w0, AW P env (Base.of w0) n c (fun e F S => (e = .normal ∨ e = .ret) ∧ retN env rs rS rv F S) F0 []) : Ctr P f ds rS rv := by
  rw [entryO_eq] at hF; cases hF
  refine ⟨hen, fun w vs hvs => ?_⟩
  obtain ⟨hl, hv⟩ := hvs
  refine calls_of_wp hf hb (Code.wp_mono (fun e a' w' hq => ?_) (k w hE (fun _ => none) _ w ⟨⟨?_, rfl, fun t g v h => ?_⟩, ⟨Kept.refl _, Nat.zero_le _, fun i b hi => absurd hi (Nat.not_lt_zero _), fun i b hi => by simp at hi, fun i j b hi => by simp at hi, ⟨fun k hk => hk.elim, fun i b hb => (by cases hb), fun k hk => hk.elim⟩, fun i blk h => by simp at h⟩⟩))
  · obtain ⟨F', S', ρ', hr, hex, vs', hres, hS, hlow, hlv, hbf, hvf, hval⟩ := hq
    obtain ⟨vals, hall, hlen, hrel⟩ := resL_run (P := P) hE hr.fr hr.mem hres
    have hrun := run_results hrs hall
    obtain ⟨G, rfl⟩ := subS_eq hS
    have hsh : ∀ nm, nm < rS.length → shape rS nm = shape (rS ++ G) nm := fun nm h => by simp [shape, List.getElem?_append_left h]
    have mv : ∀ {u : Value} {x : V}, vflat x = true → x.low rS.length = true → RelV (rS ++ G) ρ' (Rr (rS ++ G) ρ' w') w' u x → RelV rS ρ' (Rf w rS ρ' w') w' u x := fun hf hx h =>
      flat_move hf (fun nm hu => hsh nm (V.low_uses _ hx nm hu)) h
    have hrel' : ∀ (i : Nat) u x, vals[i]? = some u → vs'[i]? = some x → RelV rS ρ' (Rf w rS ρ' w') w' u x := fun i u x hu hx => mv (vflats_get hvf hx) (V.lowL_get hlv hx) (hrel i u x hu hx)
    have done : ∃ v ρ, Ending.returned (retVal vals) = .returned v ∧ Out w rS ρ w' v rv := by
      refine ⟨_, ρ', rfl, hr.mem.below.of, fun i b hi hb => ?_, fun i j b hi hj => hr.mem.inj i j b (by simp; omega) (by simp; omega), fun i blk hb => ?_, ?_⟩
      · have := hr.mem.lt i b (by simp; omega) hb
        exact ⟨this.1.resolve_right (fun h => h), this.2⟩
      · have hlt := (List.getElem?_eq_some_iff.1 hb).1
        have h := hr.mem.blk i blk (by rw [List.getElem?_append_left hlt]; exact hb)
        have hfl := bflats_get hbf hb
        have rowk : blk.isRow = true → blk.flat → RelBlk rS ρ' (Rf w rS ρ' w') w' i blk := by
          intro hrow hfl'
          have key : (ρ' i = none ∧ blk.len = 0) ∨ ∃ b c ty, ρ' i = some b ∧ w'.heap[b]? = some (.cells c ty (0, 0)) ∧ blk.len * blk.esz ≤ c.size ∧ (∀ i, i < blk.len → (blk.get i).length = blk.esz) ∧
              ∀ (i j : Nat) x, i < blk.len → (blk.get i)[j]? = some x → ∃ v, c[i * blk.esz + j]? = some v ∧ RelD (Rf w rS ρ' w') w' v x := by
            rcases h.row hrow with h | ⟨b, c, ty, k1, k2, k3, k4, k5⟩
            · exact .inl h
            · exact .inr ⟨b, c, ty, k1, k2, k3, k4, fun i j x hi hx => let ⟨v, hv, hr⟩ := k5 i j x hi hx; ⟨v, hv, by
                have hs := Blk.flat_get hfl' hi hx
                rw [RelD.valOf_eq hs hr]; exact RelD.of_scal hs _ _⟩⟩
          cases blk <;> first | (simp [Blk.isRow] at hrow; done) | exact key
        cases blk with
        | gone => trivial
        | cells cs =>
          obtain ⟨b, vals0, ty, h1, h2, h3, h4⟩ := h
          exact ⟨b, vals0, ty, h1, h2, h3, fun j v x hv hx => mv (vflats_get hfl hx) (V.lowL_get (by simpa [Blk.low] using lowS_get hlow hb) hx) (h4 j v x hv hx)⟩
        | ints k xs => exact rowk rfl hfl
        | bools xs => exact rowk rfl hfl
        | row e m g => exact rowk rfl hfl
      · match vals, vs', hlen, hrel', hval with
        | [u], [v], _, hrel, hval => subst hval; exact hrel 0 u v (by simp) (by simp)
        | [], [], _, hrel, hval => simp only at hval; subst hval; exact .tup [] [] rfl fun i v x hv => by simp at hv
        | u :: u' :: ur, v :: v' :: vr, hlen, hrel, hval => simp only at hval; subst hval; exact .tup _ _ hlen fun i a b ha hb => hrel i a b ha hb
    rcases hex with rfl | rfl
    · exact ⟨hr.fr.defers, _, hrun, done⟩
    · exact ⟨hr.fr.defers, _, hrun, done⟩
  · simp [hl, hn]; omega
  · obtain ⟨rfl, j, x, hx, rfl, rfl⟩ := entryF_get h
    refine ⟨fun _ => ?_, fun h => absurd trivial h⟩
    have hj : j < vs.length := by rw [hl]; exact (List.getElem?_eq_some_iff.1 hx).1
    have hg : (vs.toArray ++ Array.replicate (fn.ntmps - vs.toArray.size) undef).getD (0 + j) undef = vs[j] := by
      rw [Nat.zero_add, Array.getD_eq_getD_getElem?, Array.getElem?_append_left (by simpa using hj)]
      simp [hj]
    rw [hg]
    exact ofD_rel (fun k hk => ⟨hk, fun i hi => by simp at hi⟩) (hv j _ x (List.getElem?_eq_getElem hj) hx) _ _

/-- A nil field becomes an empty row of the call's own. -/
theorem weak_nilc {F : Fr} {S S1 : List Blk} {hn j : Nat} {cs cs' : List V} (blk : Blk) (hc : nthF S hn = some (.cells cs)) (hj : nthF cs j = some .nil) (hset : setV cs j (.own S.length) = some cs') (hS1 : putO S hn (.cells cs') = some S1)
    (h0 : blk.len = 0) (hrow : blk.isRow = true) (hF : lowF S.length F = true) (hS : lowS S.length S = true) : Weak F S F (S1 ++ [blk]) := by
  intro w0 n ρ a w _ hr
  rw [nthF_eq] at hc hj
  obtain ⟨plen, pat, pother⟩ := putO_get hS1
  obtain ⟨slen, sat, sother⟩ := setV_get hset
  have hhn : hn < S.length := (List.getElem?_eq_some_iff.1 hc).1
  refine ⟨grw ρ S.length none, ?_⟩
  have hsh : ∀ nm, nm < S.length → shape (S1 ++ [blk]) nm = shape S nm := fun nm h => by
    unfold shape
    rw [List.getElem?_append_left (by omega)]
    by_cases hh : nm = hn
    · subst hh; rw [pat, hc]; rfl
    · rw [pother nm hh]
  have last : shape (S1 ++ [blk]) S.length = some (blk.esz, 0) := by
    unfold shape
    rw [List.getElem?_append_right (by omega), plen]; simp [h0]
  have hR : ∀ k, Rr S ρ w k → Rr (S1 ++ [blk]) (grw ρ S.length none) w k ∧ w.heap[k]? = w.heap[k]? := fun k hk => ⟨grw_rr (fun b hb => by cases hb) (Nat.le_refl _) hk, rfl⟩
  have mono : ∀ {u : Value} {x : V}, x.low S.length = true → RelV S ρ (Rr S ρ w) w u x → RelV (S1 ++ [blk]) (grw ρ S.length none) (Rr (S1 ++ [blk]) (grw ρ S.length none) w) w u x := fun hx h =>
    h.mono hR fun nm hu => ⟨grw_lt _ _ (V.low_uses _ hx nm hu), hsh nm (V.low_uses _ hx nm hu), fun _ _ _ _ h => h⟩
  have hnp := hr.mem.np
  refine ⟨⟨hr.fr.size, hr.fr.defers, fun t g v hl => ⟨fun hg => mono (lowF_get hF hl) ((hr.fr.get t g v hl).1 hg), (hr.fr.get t g v hl).2⟩⟩, hr.mem.below, by simp; omega, fun i b hi hb => ?_, fun i b hi hb => ?_, fun i j b hi hj hbi hbj => ?_, grw_hid hr.mem.hid (by simp [plen]) (Nat.le_refl _) (fun b hb => by cases hb), fun i blk' hb => ?_⟩
  · obtain ⟨h1, c, h2⟩ := hr.mem.pin i b hi hb
    refine ⟨by rw [grw_lt _ _ (by omega)]; exact h1, ?_⟩
    rw [List.getElem?_append_left (by omega)]
    by_cases hh : i = hn
    · subst hh; exact ⟨_, pat⟩
    · exact ⟨c, by rw [pother i hh]; exact h2⟩
  · by_cases hlt : i < S.length
    · rw [grw_lt _ _ hlt] at hb; exact hr.mem.lt i b hlt hb
    · have : i = S.length := by simp at hi; omega
      subst this; rw [grw_same] at hb; cases hb
  · by_cases hi' : i < S.length
    · by_cases hj' : j < S.length
      · rw [grw_lt _ _ hi'] at hbi; rw [grw_lt _ _ hj'] at hbj; exact hr.mem.inj i j b hi' hj' hbi hbj
      · have : j = S.length := by simp at hj; omega
        subst this; rw [grw_same] at hbj; cases hbj
    · have : i = S.length := by simp at hi; omega
      subst this; rw [grw_same] at hbi; cases hbi
  · by_cases hlt : i < S.length
    · rw [List.getElem?_append_left (by omega)] at hb
      by_cases hh : i = hn
      · subst hh
        rw [pat] at hb; cases hb
        obtain ⟨b, vals, ty, h1, h2, h3, h4⟩ := hr.mem.blk i _ hc
        refine ⟨b, vals, ty, by rw [grw_lt _ _ hlt]; exact h1, h2, by omega, fun k v x hv hx => ?_⟩
        by_cases hkj : k = j
        · subst hkj
          rw [sat] at hx; cases hx
          have := h4 k v _ hv hj
          cases this
          exact .ownNil (grw_same _ _ _) last
        · rw [sother k hkj] at hx
          exact mono (V.lowL_get (by simpa [Blk.low] using lowS_get hS hc) hx) (h4 k v x hv hx)
      · rw [pother i hh] at hb
        have h := hr.mem.blk i blk' hb
        cases blk' with
        | gone => trivial
        | cells cs0 =>
          obtain ⟨b, vals, ty, h1, h2, h3, h4⟩ := h
          exact ⟨b, vals, ty, by rw [grw_lt _ _ hlt]; exact h1, h2, h3, fun j v x hv hx => mono (V.lowL_get (by simpa [Blk.low] using lowS_get hS hb) hx) (h4 j v x hv hx)⟩
        | ints k xs => rcases h with h | ⟨b, c, ty, h1, h2, h3, h4, h5⟩
                       · exact .inl ⟨by rw [grw_lt _ _ hlt]; exact h.1, h.2⟩
                       · exact .inr ⟨b, c, ty, by rw [grw_lt _ _ hlt]; exact h1, h2, h3, h4, fun i j x hi hx => let ⟨v, hv, hr⟩ := h5 i j x hi hx; ⟨v, hv, hr.mono hR⟩⟩
        | bools xs => rcases h with h | ⟨b, c, ty, h1, h2, h3, h4, h5⟩
                      · exact .inl ⟨by rw [grw_lt _ _ hlt]; exact h.1, h.2⟩
                      · exact .inr ⟨b, c, ty, by rw [grw_lt _ _ hlt]; exact h1, h2, h3, h4, fun i j x hi hx => let ⟨v, hv, hr⟩ := h5 i j x hi hx; ⟨v, hv, hr.mono hR⟩⟩
        | row esz m get => rcases h with h | ⟨b, c, ty, h1, h2, h3, h4, h5⟩
                           · exact .inl ⟨by rw [grw_lt _ _ hlt]; exact h.1, h.2⟩
                           · exact .inr ⟨b, c, ty, by rw [grw_lt _ _ hlt]; exact h1, h2, h3, h4, fun i j x hi hx => let ⟨v, hv, hr⟩ := h5 i j x hi hx; ⟨v, hv, hr.mono hR⟩⟩
    · have : i = S.length := by have := (List.getElem?_eq_some_iff.1 hb).1; simp at this; omega
      subst this
      rw [List.getElem?_append_right (by omega), plen] at hb
      simp at hb; subst hb
      have hh : grw ρ S.length none S.length = none ∧ blk.len = 0 := ⟨grw_same _ _ _, h0⟩
      cases blk <;> first | (simp [Blk.isRow] at hrow; done) | exact Or.inl hh

end Go.Wk

/- Regions that draw their order, by a plan of the prover's. -/
namespace Go.Wk
set_option maxRecDepth 10000
open Go.RowKit

section
variable {P : Program} {env : Env} {w0 : Base} {n : Nat} {l0 : List Oper} {K : Fr → List Blk → Prop} {F : Fr} {S : List Blk}

def AN (P : Program) (env : Env) (w0 : Base) (n : Nat) (l0 : List Oper) (N : List Nat) (K : Fr → List Blk → Prop) (fr : Bool) (fuel : Nat) (listed : Array Bool) (F : Fr) (S : List Blk) : Prop :=
  EnvOK P env → ∀ (ρ0 : Nat → Option Nat) (ws : World) ρ a w, Rel w0 n F S ρ a w → (∀ m ∈ N, m < S.length) → Sm N ρ0 ws w → ws.heap.size ≤ w.heap.size → (∀ m ∈ N, ρ m = ρ0 m) → (fr = true → w = ws) →
    wpAnyH P .any l0.toArray (fun e a' w' => e = .normal ∧ ∃ F' S' ρ', Rel w0 n F' S' ρ' a' w' ∧ K F' S') (Sm N ρ0 ws) fuel listed a w

/-- One operation that acts on the world. -/
def AX (P : Program) (env : Env) (w0 : Base) (n : Nat) (l0 : List Oper) (N : List Nat) (o : Oper) (K : Fr → List Blk → Prop) (F : Fr) (S : List Blk) : Prop :=
  EnvOK P env → ∀ (Q : Exit → Act → World → Prop) ρ a w, Rel w0 n F S ρ a w → (∀ m ∈ N, m < S.length) → ∀ KK : Act → World → Prop,
    (∀ F' S' ρ' a' w', Rel w0 n F' S' ρ' a' w' → (∀ m ∈ N, m < S'.length) → Sm N ρ w w' → w.heap.size ≤ w'.heap.size → (∀ m ∈ N, ρ' m = ρ m) → K F' S' → KK a' w') →
    if Region.wanted o (yielded l0.toArray a.tmps) then o.wp P a w KK Q else KK (a.put o.dst undef) w

theorem an_nil {N : List Nat} {fr : Bool} {listed : Array Bool} (hB : (Region.ready .any l0.toArray listed).isEmpty = true) (h : K F S) : AN P env w0 n l0 N K fr 0 listed F S :=
  fun _ _ _ ρ _ _ hr _ _ _ _ _ => ⟨by simpa using hB, rfl, F, S, ρ, hr, h⟩

theorem an_q (k : Nat) {N : List Nat} {fr : Bool} {fuel : Nat} {listed : Array Bool} {o : Oper} {F' : Fr} {os : List Prop} (hs : Region.noSelect l0.toArray = true)
    (hB : ((Region.ready .any l0.toArray listed).contains k && Region.free .any l0.toArray listed k) = true) (hk : nthF l0 k = some o) (h : stepQ env n l0 F S o = some (F', os)) (ho : allP os)
    (hf : (!loadO o.op || (fr && offS l0 N F o)) = true) (kk : AN P env w0 n l0 N K fr fuel (listed.setIfInBounds k true) F' S) : AN P env w0 n l0 N K fr (fuel + 1) listed F S := by
  intro hE ρ0 ws ρ a w hr hN hSm hsz hρ hfr
  rw [Bool.and_eq_true] at hB
  have hk' : l0.toArray[k]? = some o := by rw [nthF_eq] at hk; simpa using hk
  have hC : loadO o.op = true → (∀ w', Sm N ρ0 ws w' → Sm N ρ w w') ∧ (∀ m ∈ N, m < S.length) ∧ offS l0 N F o = true := fun hl => by
    rw [hl] at hf
    simp only [Bool.not_true, Bool.false_or, Bool.and_eq_true] at hf
    have := hfr hf.1; subst this
    exact ⟨fun w' h' j hj hno => h' j hj (fun m hm => by rw [← hρ m hm]; exact hno m hm), hN, hf.2⟩
  obtain (⟨hw, val, hq, hr'⟩ | ⟨hw, hr'⟩) := stepG_sound (P := P) hE h ho hC hr
  · exact wpAnyH_take hk' hs hB.2 hB.1 (fun c a w h => by simp at h) (.inl ⟨hw, hq⟩) hSm (kk hE ρ0 ws ρ _ w hr' hN hSm hsz hρ hfr)
  · exact wpAnyH_take hk' hs hB.2 hB.1 (fun c a w h => by simp at h) (.inr ⟨hw, rfl⟩) hSm (kk hE ρ0 ws ρ _ w hr' hN hSm hsz hρ hfr)

theorem an_at {N : List Nat} {fuel k : Nat} {listed : Array Bool} {o : Oper} (hk : nthF l0 k = some o) (h : AX P env w0 n l0 N o (AN P env w0 n l0 N K false fuel (listed.setIfInBounds k true)) F S)
    (hE : EnvOK P env) (ρ0 : Nat → Option Nat) (ws : World) {ρ : Nat → Option Nat} {a : Act} {w : World} (hr : Rel w0 n F S ρ a w) (hN : ∀ m ∈ N, m < S.length) (hSm : Sm N ρ0 ws w) (hsz : ws.heap.size ≤ w.heap.size) (hρ : ∀ m ∈ N, ρ m = ρ0 m) :
    wpOp P l0.toArray (fun e a' w' => e = .normal ∧ ∃ F' S' ρ', Rel w0 n F' S' ρ' a' w' ∧ K F' S') k (fun a' w' => Sm N ρ0 ws w' ∧ wpAnyH P .any l0.toArray (fun e a' w' => e = .normal ∧ ∃ F' S' ρ', Rel w0 n F' S' ρ' a' w' ∧ K F' S') (Sm N ρ0 ws) fuel (listed.setIfInBounds k true) a' w') a w := by
  have hk' : l0.toArray[k]? = some o := by rw [nthF_eq] at hk; simpa using hk
  unfold wpOp
  simp only [hk']
  have := h hE (fun e a' w' => e = .normal ∧ ∃ F' S' ρ', Rel w0 n F' S' ρ' a' w' ∧ K F' S') ρ a w hr hN (fun a' w' => Sm N ρ0 ws w' ∧ wpAnyH P .any l0.toArray (fun e a' w' => e = .normal ∧ ∃ F' S' ρ', Rel w0 n F' S' ρ' a' w' ∧ K F' S') (Sm N ρ0 ws) fuel (listed.setIfInBounds k true) a' w') ?_
  · split
    · rename_i hw; rw [if_pos hw] at this; exact .inl this
    · rename_i hw; rw [if_neg hw] at this; exact this
  · intro F' S' ρ' a' w' hr' hN' hS' hz' hρ' hK
    have hS2 : Sm N ρ0 ws w' := fun j hj hno => by
      rw [hS' j (by omega) (fun m hm => by rw [hρ m hm]; exact hno m hm)]
      exact hSm j hj hno
    exact ⟨hS2, hK hE ρ0 ws ρ' a' w' hr' hN' hS2 (by omega) (fun m hm => by rw [hρ' m hm, hρ m hm]) (fun h => by cases h)⟩

theorem an_1 (k : Nat) {N : List Nat} {fr : Bool} {fuel : Nat} {listed : Array Bool} {o : Oper} (hB : decide (Region.ready .any l0.toArray listed = [k]) = true) (hk : nthF l0 k = some o)
    (h : AX P env w0 n l0 N o (AN P env w0 n l0 N K false fuel (listed.setIfInBounds k true)) F S) : AN P env w0 n l0 N K fr (fuel + 1) listed F S := by
  intro hE ρ0 ws ρ a w hr hN hSm hsz hρ hfr
  refine wpAnyH_all (of_decide_eq_true hB) (by simp) fun i hi => ?_
  simp at hi; subst hi
  exact an_at hk h hE ρ0 ws hr hN hSm hsz hρ

theorem an_2 (k1 k2 : Nat) {N : List Nat} {fr : Bool} {fuel : Nat} {listed : Array Bool} {o1 o2 : Oper} (hB : decide (Region.ready .any l0.toArray listed = [k1, k2]) = true) (hk1 : nthF l0 k1 = some o1) (hk2 : nthF l0 k2 = some o2)
    (h1 : AX P env w0 n l0 N o1 (AN P env w0 n l0 N K false fuel (listed.setIfInBounds k1 true)) F S) (h2 : AX P env w0 n l0 N o2 (AN P env w0 n l0 N K false fuel (listed.setIfInBounds k2 true)) F S) : AN P env w0 n l0 N K fr (fuel + 1) listed F S := by
  intro hE ρ0 ws ρ a w hr hN hSm hsz hρ hfr
  refine wpAnyH_all (of_decide_eq_true hB) (by simp) fun i hi => ?_
  simp at hi
  rcases hi with rfl | rfl
  · exact an_at hk1 h1 hE ρ0 ws hr hN hSm hsz hρ
  · exact an_at hk2 h2 hE ρ0 ws hr hN hSm hsz hρ

theorem ax_q {N : List Nat} {o : Oper} {F' : Fr} {os : List Prop} (h : stepQ env n l0 F S o = some (F', os)) (ho : allP os) (k : K F' S) : AX P env w0 n l0 N o K F S := by
  intro hE Q ρ a w hr hN KK hKK
  obtain (⟨hw, val, hq, hr'⟩ | ⟨hw, hr'⟩) := stepR_sound (P := P) hE h ho hr
  · rw [if_pos hw]
    unfold Oper.wp
    rw [hq w (Below.refl _ _)]
    exact hKK F' S ρ _ w hr' hN (fun _ _ _ => rfl) (Nat.le_refl _) (fun _ _ => rfl) k
  · rw [if_neg (by simp [hw])]
    exact hKK F' S ρ _ w hr' hN (fun _ _ _ => rfl) (Nat.le_refl _) (fun _ _ => rfl) k

/-- The operation makes a new block, or none. -/
def StepsX (P : Program) (n : Nat) (o : Oper) (F : Fr) (S : List Blk) (F' : Fr) (S' : List Blk) : Prop :=
  ∀ w0 ρ a w, Rel w0 n F S ρ a w → ∃ val w' ρ', (execOp a.eval o).run P w = .ok (.value val) w' ∧ Rel w0 n F' S' ρ' (a.put o.dst val) w' ∧ Ext w w' ∧ S.length ≤ S'.length ∧ ∀ i, i < S.length → ρ' i = ρ i
theorem wanted_none {o : Oper} (hg : o.guard = none) (y : Nat → Option Bool) : Region.wanted o y = true := by simp [Region.wanted, hg]
theorem ax_steps {N : List Nat} {o : Oper} {F' : Fr} {S' : List Blk} (hg : o.guard = none) (h : EnvOK P env → StepsX P n o F S F' S') (k : K F' S') : AX P env w0 n l0 N o K F S := by
  intro hE Q ρ a w hr hN KK hKK
  rw [if_pos (wanted_none hg _)]
  obtain ⟨val, w', ρ', hrun, hr', he, hl, hρ⟩ := h hE w0 ρ a w hr
  unfold Oper.wp
  rw [hrun]
  exact hKK F' S' ρ' _ w' hr' (fun m hm => Nat.lt_of_lt_of_le (hN m hm) hl) (Sm.to_ext he N) he.size (fun m hm => hρ m (hN m hm)) k
theorem ax_in {N : List Nat} {o : Oper} {F' : Fr} {S' : List Blk} {nm : Nat} (hg : o.guard = none) (h : EnvOK P env → StepsIn P n o F S F' S' nm) (hmem : memN N nm = true) (hlen : S'.length = S.length) (k : K F' S') : AX P env w0 n l0 N o K F S := by
  intro hE Q ρ a w hr hN KK hKK
  rw [if_pos (wanted_none hg _)]
  obtain ⟨w', hrun, hr', hsz, hoth⟩ := h hE w0 ρ a w hr
  unfold Oper.wp
  rw [hrun]
  exact hKK F' S' ρ _ w' hr' (by rw [hlen]; exact hN) (fun j hj hno => hoth j (hno nm (memN_iff.1 hmem))) (by omega) (fun _ _ => rfl) k

theorem ax_call {N : List Nat} {o : Oper} {F' : Fr} {os : List Prop} {r : D} {f : FuncId} {ds : List D} (h : stepC n l0 F S o r = some (f, ds, F', os)) (sp : Ctr P f ds [] (.d r)) (hs : r.scal = true) (ho : allP os) (k : K F' S) : AX P env w0 n l0 N o K F S := by
  intro hE Q ρ a w hr hN KK hKK
  obtain (⟨hw, val, hq, hr'⟩ | ⟨hw, hr'⟩) := stepC_sound h hs sp ho hr
  · rw [if_pos hw]
    refine Oper.wp_of_quiet (C := Ext w) (K := fun a' => a' = a.put o.dst val) (Below.refl _ _) (fun a' w' he ha => ?_) ⟨val, hq, rfl⟩
    subst ha
    exact hKK F' S ρ _ w' (hr'.ext he) hN (Sm.to_ext he N) he.size (fun _ _ => rfl) k
  · rw [if_neg (by simp [hw])]
    exact hKK F' S ρ _ w hr' hN (fun _ _ _ => rfl) (Nat.le_refl _) (fun _ _ => rfl) k

/-! ### Operations that make a block -/

variable {d : Nat} {ty : TypeId} {pos : String} {after : Array Edge} {S' : List Blk} {F' : Fr} {nm : Nat} {N : List Nat}

theorem ax_box {T : TypeId} {x : Operand} {v : V} {ps : List Prop} {cs : List V} (hx : rd F [] x = some (v, ps)) (hp : allP ps) (hc : cellsOf v = some cs) (hS : snocO S (.cells cs) = some (S', nm)) (hd : Nat.blt d n = true)
    (k : K ((d, [], .ptr nm 0) :: F) S') : AX P env w0 n l0 N ⟨some d, .box T x, ty, pos, after, none⟩ K F S := by
  refine ax_steps rfl (fun _ => ?_) k
  rw [snocO_eq] at hS; cases hS
  intro w0 ρ a w hr
  have hu := rd_sound hr.fr hx hp trivial
  obtain ⟨c1, c2⟩ := cellsOf_rel hc hu
  exact ⟨_, _, _, by simp [execOp, Instr.box, newVar, newRow], new_cells (T := T) hr (Nat.le_of_ble_eq_true hd) ⟨c1, fun i v y hv hy => (c2 i v y hv hy).1⟩, alloc_ext w _, by simp, fun i hi => grw_lt _ _ (by omega)⟩

theorem ax_alloc {T : TypeId} {ti : TI} {cs : List V} (hT : ti? env T = some ti) (hz : zeroV ti.zero = some cs) (hS : snocO S (.cells cs) = some (S', nm)) (hd : Nat.blt d n = true)
    (k : K ((d, [], .ptr nm 0) :: F) S') : AX P env w0 n l0 N ⟨some d, .alloc T, ty, pos, after, none⟩ K F S := by
  refine ax_steps rfl (fun hE => ?_) k
  rw [snocO_eq] at hS; cases hS
  intro w0 ρ a w hr
  obtain ⟨i, hi, _, _, hzero⟩ := (hE.get hT).info
  exact ⟨_, _, _, by simp [execOp, Instr.alloc, zeroValue, typeInfo, hi, hzero, newVar, newRow], new_cells (T := T) hr (Nat.le_of_ble_eq_true hd) (zeroV_rel hz _ _ _ _), alloc_ext w _, by simp, fun i hi => grw_lt _ _ (by omega)⟩

theorem ax_make {T e : TypeId} {s by_ : Nat} {z : Value} {x y : Operand} {te : TI} {kx ky : IntKind} {m : Int} {ps qs : List Prop} {blk : Blk} (hT : ti? env T = some ⟨.slice e, s, by_, z⟩) (he : ti? env e = some te) (hz : Nat.beq te.zero.cells.size te.size = true)
    (hx : rd F [] x = some (.d (.int kx m), ps)) (hp : allP ps) (hy : rd F [] y = some (.d (.int ky m), qs)) (hq : allP qs) (h0 : 0 ≤ m) (h1 : te.bytes * m.toNat ≤ 140737488355328) (h2 : m ≤ 9223372036854775807) (hb : mkRow te m.toNat = some blk) (hS : snocO S blk = some (S', nm)) (hd : Nat.blt d n = true)
    (k : K ((d, [], .own nm) :: F) S') : AX P env w0 n l0 N ⟨some d, .makeSlice T x y, ty, pos, after, none⟩ K F S := by
  refine ax_steps rfl (fun hE => ?_) k
  rw [snocO_eq] at hS; cases hS
  intro w0 ρ a w hr
  have hT' := hE.get hT
  have he' := hE.get he
  have hz' := Nat.eq_of_beq_eq_true hz
  have ex : a.eval x = .int kx m := by
    have := rd_sound hr.fr hx hp trivial
    generalize a.eval x = u at this
    cases this with | d h => cases h; rfl
  have ey : a.eval y = .int ky m := by
    have := rd_sound hr.fr hy hq trivial
    generalize a.eval y = u at this
    cases this with | d h => cases h; rfl
  obtain ⟨dd, hdd, hk⟩ := hT'.desc
  have := desc_slice hk; subst this
  obtain ⟨i, hi, hsz, hby, hzero⟩ := he'.info
  have hbytes : (i.bytes : Int) * m ≤ 281474976710656 := by
    rw [hby]
    have e1 : (m.toNat : Int) = m := Int.toNat_of_nonneg h0
    have : ((te.bytes * m.toNat : Nat) : Int) ≤ 140737488355328 := by omega
    rw [Int.natCast_mul, e1] at this
    omega
  have hrun := run_make (P := P) w T e i te.zero hdd hi hzero kx ky m m h0 (Int.le_refl _) hbytes h2
  obtain ⟨b1, b2, b3, b4, b5⟩ := mkRow_ok hb hz'
  have hrow := new_row (w' := w.alloc (.cells (madeCells te.zero.cells (m.toNat * i.size)) e)) hr (alloc_ext w _) (Nat.le_of_ble_eq_true hd) (blk := blk) (cap := m.toNat) (c := madeCells te.zero.cells (m.toNat * i.size)) (e := e) b1 (heap_alloc_new w _)
    (by rw [size_madeCells, b3, hsz]) (by rw [b2]; exact Nat.le_refl _) (by unfold maxLen; omega) (fun j hj => by rw [b3]; exact b4 j (by rw [← b2]; exact hj)) fun j c x hj hx => by
      rw [b2] at hj
      obtain ⟨v, hv, hr'⟩ := b5 j c x hj hx
      have hc : c < te.size := by rw [← b4 j hj]; exact (List.getElem?_eq_some_iff.1 hx).1
      exact ⟨v, by rw [b3, hsz, madeCells_get hz' hj hc]; exact hv, hr' _ _⟩
  rw [b2] at hrow
  exact ⟨_, _, _, by simp only [execOp, ex, ey]; exact run_v hrun, hrow, alloc_ext w _, by simp, fun i hi => grw_lt _ _ (by omega)⟩

theorem ax_store_ep {T : TypeId} {p x : Operand} {ti : TI} {v : V} {qs ps : List Prop} {i off : Nat} {ds : List D} {blk blk' : Blk} (hT : ti? env T = some ti) (hp : rd F [] p = some (.ep nm i off, qs)) (hq : allP qs) (hx : rd F [] x = some (v, ps)) (hps : allP ps)
    (hc : dcells v = some ds) (hl : Nat.beq ds.length ti.size = true) (h1 : ds.all D.one = true) (hb : nthF S nm = some blk) (hs : rowSet blk i off ds = some blk') (hS : setO S nm blk' = some S') (hmem : memN N nm = true)
    (k : K F S') : AX P env w0 n l0 N ⟨none, .store T p x, ty, pos, after, none⟩ K F S :=
  ax_in rfl (fun hE => steps_store_ep (hE.get hT) hp hq hx hps hc hl h1 hb hs hS) hmem (by obtain ⟨rfl, _⟩ := setO_eq hS; simp) k

end

section
variable {P : Program} {env : Env} {w0 : Base} {n : Nat} {Q : Exit → Fr → List Blk → Prop} {F : Fr} {S : List Blk}
theorem aw_region_n {id : Nat} {l0 : List Oper} (N : List Nat) (hm : P.follows .mixedOrders = true) (hN : ∀ m ∈ N, m < S.length) (h : AN P env w0 n l0 N (Q .normal) true l0.length (Array.replicate l0.toArray.size false) F S) : AW P env w0 n (.region id l0.toArray true) Q F S := by
  intro hE ρ a w hr
  have hr' := hr.ext (w' := { w with drawn := w.drawn + 1 }) ⟨rfl, rfl, rfl, Nat.le_refl _, fun _ _ => rfl⟩
  refine Code.wp_mono (Q := fun e a' w' => e = .normal ∧ ∃ F' S' ρ', Rel w0 n F' S' ρ' a' w' ∧ Q .normal F' S') (fun e a' w' hq => ?_) (wp_region_held (S := Sm N ρ { w with drawn := w.drawn + 1 }) hm ?_)
  · obtain ⟨rfl, F', S', ρ', hr', hQ⟩ := hq
    exact ⟨F', S', ρ', hr', hQ⟩
  · have := h hE ρ { w with drawn := w.drawn + 1 } ρ a _ hr' hN (fun _ _ _ => rfl) (Nat.le_refl _) (fun _ _ => rfl) (fun _ => rfl)
    rwa [show l0.length = l0.toArray.size by simp] at this
end
end Go.Wk

/- The own blocks under other names. -/
namespace Go.Wk
set_option maxRecDepth 10000
open Go.RowKit

def subR (σ : List Nat) (F : Fr) : Fr → Prop
  | [] => True
  | (t, g, v) :: r => (∃ v', look F t = some (g, v') ∧ renS σ v = some v') ∧ subR σ F r
theorem subR_nil {σ : List Nat} {F : Fr} : subR σ F [] := trivial
theorem subR_cons {σ : List Nat} {F r : Fr} {t : Nat} {g : List Bool} {v v' : V} (h : look F t = some (g, v')) (h2 : renS σ v = some v') (k : subR σ F r) : subR σ F ((t, g, v) :: r) := ⟨⟨v', h, h2⟩, k⟩
theorem subR_get {σ : List Nat} {F F0 : Fr} (h : subR σ F F0) {t : Nat} {g : List Bool} {v : V} (hl : look F0 t = some (g, v)) : ∃ v', look F t = some (g, v') ∧ renS σ v = some v' := by
  induction F0 with
  | nil => simp [look] at hl
  | cons x r ih =>
    obtain ⟨k, g', u⟩ := x
    simp only [look] at hl
    cases hb : Nat.beq k t with
    | true =>
      have := Nat.eq_of_beq_eq_true hb; subst this
      simp only [hb, cond_true, Option.some.injEq, Prod.mk.injEq] at hl
      obtain ⟨rfl, rfl⟩ := hl
      exact h.1
    | false =>
      simp only [hb, cond_false] at hl
      exact ih h.2 hl

theorem renH_no {w0 : Base} {S S0 : List Blk} {σ : List Nat} {ρ : Nat → Option Nat} {w : World} (hm : Mem w0 S ρ w) (hlen : σ.length = S0.length) (hlt : ∀ i m : Nat, σ[i]? = some m → m < S.length) :
    ∀ k, (Base.obj w S0 (renH w0.hid S.length σ ρ)).hid k → ¬ (Base.obj w S0 (renH w0.hid S.length σ ρ)).own k := by
  rintro k ⟨j, h1, h2⟩ (h3 | ⟨i, h3, h4⟩)
  · obtain ⟨m, h5⟩ := renH_sub h2
    have := hm.hid.low m k h5
    have h6 : w.heap.size ≤ k := h3
    omega
  · have hi : i < σ.length := by omega
    have hσ := List.getElem?_eq_getElem hi
    rw [renH_in ρ hσ] at h4
    exact hm.hid.no k (renH_out (by omega) h2) (hm.lt _ k (hlt _ _ hσ) h4).1
theorem sel_rel {w0 : Base} {n : Nat} {F F0 : Fr} {S S0 X : List Blk} {ρ : Nat → Option Nat} {a : Act} {w : World} (hr : Rel w0 n F S ρ a w) (σ : List Nat) (hnd : nodupN σ = true) (h0 : renBs σ S0 = some X) (hX : selS S σ = some X) (hF : subR σ F F0)
    (hnl : w0.np ≤ S0.length) (hnp : ∀ i, i < w0.np → σ[i]? = some i) : Rel w0 n F0 S0 (renH w0.hid S.length σ ρ) a w := by
  obtain ⟨hm, hsh, hlen⟩ := sel_memG hr.mem hnd h0 hX (ρ0 := renH w0.hid S.length σ ρ) (fun i m h => renH_in ρ h) (fun i b h => renH_sub h) (renH_no hr.mem (sel_len h0 hX) (fun i m h => ((selS_get hX).2 i m h).1))
  obtain ⟨hsl, hsg⟩ := selS_get hX
  have hR : ∀ k, Rr S ρ w k → Rr S0 (renH w0.hid S.length σ ρ) w k := fun k hk => ⟨hk.1, fun i hi => let ⟨m, hm⟩ := renH_sub hi; hk.2 m hm⟩
  refine ⟨⟨hr.fr.size, hr.fr.defers, fun t g v hl => ?_⟩, ⟨hr.mem.below, hnl, fun i b hi hb => ?_, fun i b hi hb => ?_, hm.inj, renH_hid hr.mem.hid hlen.symm, hm.blk⟩⟩
  · obtain ⟨v', h1, h2⟩ := subR_get hF hl
    obtain ⟨g1, g2⟩ := hr.fr.get t g v' h1
    exact ⟨fun hg => ren_bwd hsh hR h2 (g1 hg), g2⟩
  · obtain ⟨h1, cs, h2⟩ := hr.mem.pin i b hi hb
    have hs := hnp i hi
    refine ⟨by rw [(hsh i i hs).1]; exact h1, ?_⟩
    have hiS : i < S0.length := by omega
    obtain ⟨hXl, hXg⟩ := renBs_get h0
    have hx := (hsg i i hs).2
    rw [h2] at hx
    have := hXg i _ _ (List.getElem?_eq_getElem hiS) hx.symm
    cases hb0 : S0[i] with
    | cells cs' => exact ⟨cs', by rw [List.getElem?_eq_getElem hiS, hb0]⟩
    | _ => rw [hb0] at this; simp [renB] at this
  · have hi' : i < σ.length := by omega
    have h := hsg i _ (List.getElem?_eq_getElem hi')
    exact hr.mem.lt _ b h.1 (by rw [← (hsh i _ (List.getElem?_eq_getElem hi')).1]; exact hb)

theorem aw_sel {P : Program} {env : Env} {w0 : Base} {n : Nat} {Q : Exit → Fr → List Blk → Prop} {F F0 : Fr} {S S0 X : List Blk} {c : Code} (σ : List Nat) (hnd : nodupN σ = true) (hX : selS S σ = some X) (h0 : renBs σ S0 = some X)
    (hnl : w0.np ≤ S0.length) (hnp : ∀ i, i < w0.np → σ[i]? = some i) (hF : subR σ F F0) (k : AW P env w0 n c Q F0 S0) : AW P env w0 n c Q F S :=
  fun hE _ a w hr => k hE _ a w (sel_rel hr σ hnd h0 hX hF hnl hnp)

theorem retN1 {env : Env} {rs : List ResultVar} {rS : List Blk} {rv v : V} {F : Fr} {S : List Blk} (h : resL env F S rs = some [v]) (hS : subS S rS) (h1 : lowS rS.length rS = true) (h2 : V.low.lowL rS.length [v] = true) (hb : bflats rS) (hv : vflats [v] = true) (e : v = rv) :
    (Exit.ret = .normal ∨ Exit.ret = .ret) ∧ retN env rs rS rv F S := ⟨.inr rfl, _, h, hS, h1, h2, hb, hv, e⟩
theorem retN2 {env : Env} {rs : List ResultVar} {rS : List Blk} {r1 r2 v1 v2 : V} {F : Fr} {S : List Blk} (h : resL env F S rs = some [v1, v2]) (hS : subS S rS) (h1 : lowS rS.length rS = true) (h2 : V.low.lowL rS.length [v1, v2] = true) (hb : bflats rS) (hv : vflats [v1, v2] = true) (e1 : v1 = r1) (e2 : v2 = r2) :
    (Exit.ret = .normal ∨ Exit.ret = .ret) ∧ retN env rs rS (.tup [r1, r2]) F S := ⟨.inr rfl, _, h, hS, h1, h2, hb, hv, by rw [e1, e2]⟩

/-! ### A loop of a function, by its first region -/

def firstR : Code → Option Nat
  | .region id _ _ => some id
  | .seq a b => match firstR a with
    | some k => some k
    | none => firstR b
  | .block _ b => firstR b
  | .loop b => firstR b
  | .scope b => firstR b
  | _ => none
def loopAt (k : Nat) : Code → Option Code
  | .loop b => match firstR b with
    | some j => bif Nat.beq j k then some (.loop b) else loopAt k b
    | none => loopAt k b
  | .seq a b => match loopAt k a with
    | some c => some c
    | none => loopAt k b
  | .cond _ a b => match loopAt k a with
    | some c => some c
    | none => loopAt k b
  | .block _ b => loopAt k b
  | .scope b => loopAt k b
  | _ => none
def loopC (f : Func) (k : Nat) : Code := match f.body with
  | some c => match loopAt k c with
    | some d => d
    | none => .skip
  | none => .skip

end Go.Wk

/- Rows told otherwise; results as data; arguments told otherwise; operations under guards that are met. -/
namespace Go.Wk
set_option maxRecDepth 10000
open Go.RowKit

theorem weak_row {F : Fr} {S S' : List Blk} {nm e m : Nat} {g g' : Nat → List D} (hb : nthF S nm = some (.row e m g)) (hg : ∀ i, i < m → g i = g' i) (hS : putO S nm (.row e m g') = some S') : Weak F S F S' := by
  intro w0 n ρ a w hnp hr
  rw [nthF_eq] at hb
  obtain ⟨plen, pat, pother⟩ := putO_get hS
  have hsh : ∀ k, shape S' k = shape S k := fun k => by
    unfold shape
    by_cases hk : k = nm
    · subst hk; rw [pat, hb]; rfl
    · rw [pother k hk]
  have mv : Moves S ρ w S' ρ w := ⟨fun k hk => ⟨hk, rfl⟩, fun k _ => ⟨rfl, hsh k, fun _ _ _ _ h => h⟩⟩
  refine ⟨ρ, mv.fr hr.fr, hr.mem.below, by rw [plen]; exact hr.mem.np, fun i b hi hbp => ?_, fun i b hi => hr.mem.lt i b (by omega), fun i j b hi hj => hr.mem.inj i j b (by omega) (by omega), hr.mem.hid.mono (by omega) (Nat.le_refl _), fun i blk hi => ?_⟩
  · obtain ⟨h1, cs, h2⟩ := hr.mem.pin i b hi hbp
    refine ⟨h1, cs, ?_⟩
    by_cases hk : i = nm
    · subst hk; rw [hb] at h2; cases h2
    · rw [pother i hk]; exact h2
  · by_cases hk : i = nm
    · subst hk
      rw [pat] at hi; cases hi
      rcases hr.mem.blk i _ hb with h | ⟨b, c, ty, h1, h2, h3, h4, h5⟩
      · exact .inl h
      · refine .inr ⟨b, c, ty, h1, h2, h3, fun j hj => ?_, fun j k x hj hx => ?_⟩
        · have := h4 j hj
          simp only [Blk.get] at this ⊢
          rw [← hg j hj]; exact this
        · simp only [Blk.get] at hx
          rw [← hg j hj] at hx
          obtain ⟨v, hv, hr'⟩ := h5 j k x hj hx
          exact ⟨v, hv, mv.d hr'⟩
    · rw [pother i hk] at hi
      exact mv.blk (List.getElem?_eq_some_iff.1 hi).1 (hr.mem.blk i blk hi) (fun _ _ _ => rfl)

/-! ### Results as data -/

def expD1 (S : List Blk) : V → D → Prop
  | .d x, y => x = y ∧ x.flat = true
  | .nil, y => y = nilD
  | .own nm, y => ∃ b, nthF S nm = some b ∧ b.isRow = true ∧ b.flat ∧ y = .arr b.esz b.len b.get
  | _, _ => False
def expDs (S : List Blk) : List V → List D → Prop
  | [], [] => True
  | v :: r, x :: s => expD1 S v x ∧ expDs S r s
  | _, _ => False
def expD (S : List Blk) : V → D → Prop
  | .agg cs, .agg ds => expDs S cs ds
  | v, x => expD1 S v x
def expL2 (S : List Blk) : List V → List V → Prop
  | [], [] => True
  | v :: r, .d x :: s => expD S v x ∧ expL2 S r s
  | _, _ => False
def retD (env : Env) (rs : List ResultVar) (rv : V) (F : Fr) (S : List Blk) : Prop :=
  ∃ vs, resL env F S rs = some vs ∧ match vs with
    | [v] => ∃ x, rv = .d x ∧ expD S v x
    | vs => ∃ us, rv = .tup us ∧ expL2 S vs us

theorem expD1_rel {w0 : World} {S : List Blk} {ρ : Nat → Option Nat} {w : World} (hm : Mem (Base.of w0) S ρ w) {v : V} {x : D} (h : expD1 S v x) {u : Value} (hu : RelV S ρ (Rr S ρ w) w u v) : RelD (Rf w0 [] (fun _ => none) w) w u x := by
  cases v with
  | d y =>
    obtain ⟨rfl, hf⟩ := h
    cases hu with | d h => exact h.flat hf
  | nil =>
    simp only [expD1] at h; subst h
    cases hu; exact .nil _ _
  | own nm =>
    obtain ⟨b, hb, hrow, hfl, rfl⟩ := h
    rw [nthF_eq] at hb
    have hd := toD_own hm hb hrow hu
    cases hu with
    | ownNil hb' hs =>
      have hl : b.len = 0 := by simp [shape, hb] at hs; exact hs.2
      rw [hl]; exact .nil _ _
    | @own _ b' esz len cap hb' hs hc hcap =>
      have hown := hm.lt nm b' (List.getElem?_eq_some_iff.1 hb).1 hb'
      cases hd with
      | arr _ _ _ _ _ _ val hR hnc hlen hce h =>
        refine .arr _ _ _ _ _ _ val ⟨hown.1.resolve_right (fun h => h), hR, fun i hi => by cases hi⟩ hnc hlen hce (fun i j x hi hx => ?_)
        have hs := Blk.flat_get hfl hi hx
        rw [RelD.valOf_eq hs (h i j x hi hx)]
        exact RelD.of_scal hs _ _
  | _ => exact h.elim
theorem expDs_rel {w0 : World} {S : List Blk} {ρ : Nat → Option Nat} {w : World} (hm : Mem (Base.of w0) S ρ w) : ∀ {cs : List V} {ds : List D}, expDs S cs ds → cs.length = ds.length ∧ ∀ (i : Nat) u v x, cs[i]? = some v → ds[i]? = some x → RelV S ρ (Rr S ρ w) w u v → RelD (Rf w0 [] (fun _ => none) w) w u x
  | [], [], _ => by simp
  | [], _ :: _, h => h.elim
  | _ :: _, [], h => h.elim
  | v :: r, x :: s, h => by
    obtain ⟨h1, h2⟩ := expDs_rel hm h.2
    refine ⟨by simp [h1], fun i u y z hy hz hu => ?_⟩
    cases i with
    | zero => simp at hy hz; subst hy hz; exact expD1_rel hm h.1 hu
    | succ i => exact h2 i u y z (by simpa using hy) (by simpa using hz) hu
theorem expD_rel {w0 : World} {S : List Blk} {ρ : Nat → Option Nat} {w : World} (hm : Mem (Base.of w0) S ρ w) {v : V} {x : D} (h : expD S v x) {u : Value} (hu : RelV S ρ (Rr S ρ w) w u v) : RelD (Rf w0 [] (fun _ => none) w) w u x := by
  unfold expD at h
  split at h
  · rename_i cs ds
    obtain ⟨h1, h2⟩ := expDs_rel hm h
    cases hu with
    | agg vals _ hl hr =>
      refine .agg vals ds (by omega) fun i u' x hv hx => ?_
      have hi : i < cs.length := by have := (List.getElem?_eq_some_iff.1 hx).1; omega
      exact h2 i u' _ x (List.getElem?_eq_getElem hi) hx (hr i u' _ hv (List.getElem?_eq_getElem hi))
  · exact expD1_rel hm h hu
theorem expL2_rel {w0 : World} {S : List Blk} {ρ : Nat → Option Nat} {w : World} (hm : Mem (Base.of w0) S ρ w) : ∀ {vs us : List V}, expL2 S vs us → vs.length = us.length ∧ ∀ (i : Nat) u v y, vs[i]? = some v → us[i]? = some y → RelV S ρ (Rr S ρ w) w u v → RelV [] (fun _ => none) (Rf w0 [] (fun _ => none) w) w u y
  | [], [], _ => by simp
  | [], _ :: _, h => h.elim
  | _ :: _, [], h => h.elim
  | v :: r, y :: s, h => by
    cases y with
    | d x =>
      obtain ⟨h1, h2⟩ := expL2_rel hm h.2
      refine ⟨by simp [h1], fun i u a b ha hb hu => ?_⟩
      cases i with
      | zero => simp at ha hb; subst ha hb; exact .d (expD_rel hm h.1 hu)
      | succ i => exact h2 i u a b (by simpa using ha) (by simpa using hb) hu
    | _ => exact h.elim

/-- A contract out of a walk, where the result is data in new memory. -/
theorem spec_data {P : Program} {env : Env} (hE : EnvOK P env) {f : FuncId} {fn : Func} {c : Code} {rs : List ResultVar} {ds : List D} {rv : V} (hen : Enters P f) (hf : P.funcs[f]? = some fn) (hb : fn.body = some c)
    (hrs : fn.results = rs.toArray) (n : Nat) (hn : fn.ntmps = n) (hds : ds.length ≤ n) {F0 : Fr} (hF : entryO 0 ds = some F0)
    (k : ∀ w0, AW P env (Base.of w0) n c (fun e F S => (e = .normal ∨ e = .ret) ∧ retD env rs rv F S) F0 []) : Ctr P f ds [] rv := by
  rw [entryO_eq] at hF; cases hF
  refine ⟨hen, fun w vs hvs => ?_⟩
  obtain ⟨hl, hv⟩ := hvs
  refine calls_of_wp hf hb (Code.wp_mono (fun e a' w' hq => ?_) (k w hE (fun _ => none) _ w ⟨⟨?_, rfl, fun t g v h => ?_⟩, ⟨Kept.refl _, Nat.zero_le _, fun i b hi => absurd hi (Nat.not_lt_zero _), fun i b hi => by simp at hi, fun i j b hi => by simp at hi, ⟨fun k hk => hk.elim, fun i b hb => (by cases hb), fun k hk => hk.elim⟩, fun i blk h => by simp at h⟩⟩))
  · obtain ⟨F', S', ρ', hr, hex, vs', hres, hval⟩ := hq
    obtain ⟨vals, hall, hlen, hrel⟩ := resL_run (P := P) hE hr.fr hr.mem hres
    have hrun := run_results hrs hall
    have done : ∃ v ρ, Ending.returned (retVal vals) = .returned v ∧ Out w [] ρ w' v rv := by
      refine ⟨_, fun _ => none, rfl, hr.mem.below.of, fun i b hi => by simp at hi, fun i j b hi => by simp at hi, fun i blk hb => by simp at hb, ?_⟩
      match vals, vs', hlen, hrel, hval with
      | [u], [v], _, hrel, ⟨x, hx, he⟩ => subst hx; exact .d (expD_rel hr.mem he (hrel 0 u v (by simp) (by simp)))
      | [], [], _, hrel, ⟨us, hus, hL⟩ =>
        subst hus
        have := (expL2_rel hr.mem hL).1
        exact .tup [] us (by simpa using this) fun i v x hv => by simp at hv
      | u :: u' :: ur, v :: v' :: vr, hlen, hrel, ⟨us, hus, hL⟩ =>
        subst hus
        obtain ⟨h1, h2⟩ := expL2_rel hr.mem hL
        refine .tup _ _ (by rw [hlen, h1]) fun i a b ha hb => ?_
        have hi : i < (v :: v' :: vr).length := by rw [h1]; exact (List.getElem?_eq_some_iff.1 hb).1
        exact h2 i a _ b (List.getElem?_eq_getElem hi) hb (hrel i a _ ha (List.getElem?_eq_getElem hi))
    rcases hex with rfl | rfl
    · exact ⟨hr.fr.defers, _, hrun, done⟩
    · exact ⟨hr.fr.defers, _, hrun, done⟩
  · simp [hl, hn]; omega
  · obtain ⟨rfl, j, x, hx, rfl, rfl⟩ := entryF_get h
    refine ⟨fun _ => ?_, fun h => absurd trivial h⟩
    have hj : j < vs.length := by rw [hl]; exact (List.getElem?_eq_some_iff.1 hx).1
    have hg : (vs.toArray ++ Array.replicate (fn.ntmps - vs.toArray.size) undef).getD (0 + j) undef = vs[j] := by
      rw [Nat.zero_add, Array.getD_eq_getD_getElem?, Array.getElem?_append_left (by simpa using hj)]
      simp [hj]
    rw [hg]
    exact ofD_rel (fun k hk => ⟨hk, fun i hi => by simp at hi⟩) (hv j _ x (List.getElem?_eq_getElem hj) hx) _ _

/-! ### Data told otherwise -/

/-- Whatever reads as the one reads as the other. -/
def DLe (x y : D) : Prop := ∀ (R : Nat → Prop) (w : World) (v : Value), RelD R w v x → RelD R w v y
theorem DLe.refl (x : D) : DLe x x := fun _ _ _ h => h
theorem DLe.arr {e n : Nat} {g g' : Nat → List D} (h : ∀ i, i < n → g i = g' i) : DLe (.arr e n g) (.arr e n g') := by
  intro R w v hv
  cases hv with
  | nil => exact .nil _ _
  | arr b off _ cap _ _ val hR hnc hlen hc hr => exact .arr b off n cap e g' val hR hnc (fun i hi => by rw [← h i hi]; exact hlen i hi) hc (fun i j x hi hx => hr i j x hi (by rw [h i hi]; exact hx))
theorem DLe.nil {e e' : Nat} {g g' : Nat → List D} : DLe (.arr e 0 g) (.arr e' 0 g') := by
  intro R w v hv
  cases hv with
  | nil => exact .nil _ _
  | arr b off _ cap _ _ val hR _ hlen hc hr => exact .arr b off 0 cap e' g' val hR (Nat.zero_le _) (fun i hi => by omega) (fun i j hi => by omega) (fun i j x hi => by omega)
def DLes : List D → List D → Prop
  | [], [] => True
  | x :: r, y :: s => DLe x y ∧ DLes r s
  | _, _ => False
theorem DLes.get : ∀ {xs ys : List D}, DLes xs ys → xs.length = ys.length ∧ ∀ (i : Nat) x y, xs[i]? = some x → ys[i]? = some y → DLe x y
  | [], [], _ => by simp
  | [], _ :: _, h => h.elim
  | _ :: _, [], h => h.elim
  | x :: r, y :: s, h => by
    obtain ⟨h1, h2⟩ := DLes.get h.2
    refine ⟨by simp [h1], fun i a b ha hb => ?_⟩
    cases i with
    | zero => simp at ha hb; subst ha hb; exact h.1
    | succ i => exact h2 i a b (by simpa using ha) (by simpa using hb)
theorem DLe.agg {xs ys : List D} (h : DLes xs ys) : DLe (.agg xs) (.agg ys) := by
  obtain ⟨h1, h2⟩ := h.get
  intro R w v hv
  cases hv with
  | agg vals _ hl hr =>
    refine .agg vals ys (by omega) fun i u y hu hy => ?_
    have hi : i < xs.length := by have := (List.getElem?_eq_some_iff.1 hy).1; omega
    exact h2 i _ y (List.getElem?_eq_getElem hi) hy R w u (hr i u _ hu (List.getElem?_eq_getElem hi))
theorem Ctr.args {P : Program} {f : FuncId} {ds ds' : List D} {rS : List Blk} {rv : V} (h : Ctr P f ds rS rv) (hd : DLes ds' ds) : Ctr P f ds' rS rv := by
  obtain ⟨h1, h2⟩ := hd.get
  refine ⟨h.1, fun w vs hvs => h.2 w vs ⟨by rw [hvs.1, h1], fun i v y hv hy => ?_⟩⟩
  have hi : i < ds'.length := by have := (List.getElem?_eq_some_iff.1 hy).1; omega
  exact h2 i _ y (List.getElem?_eq_getElem hi) hy _ _ _ (hvs.2 i v _ hv (List.getElem?_eq_getElem hi))

/-! ### Guards that are met -/

section
variable {P : Program} {env : Env} {w0 : Base} {n : Nat} {l0 : List Oper} {K : Fr → List Blk → Prop} {l : List Oper} {F : Fr} {S : List Blk}
theorem ao_stepsT {o : Oper} {F' : Fr} {S' : List Blk} {g : List Bool} (hg : gof F l0 o.guard = some g) (hall : allT g) (h : EnvOK P env → StepsTo P n o F S F' S') (k : AO P env w0 n l0 K l F' S') : AO P env w0 n l0 K (o :: l) F S := by
  intro hE ρ a w hr
  obtain ⟨nx, w', ρ', a', hrun, hr', hcase⟩ := h hE w0 ρ a w hr
  have hw := (gof_wanted hr.fr hg).1 hall
  refine wpList_step fun K' hK => ?_
  rw [if_pos hw]
  unfold Oper.wp
  rw [hrun]
  rcases hcase with ⟨val, rfl, rfl⟩ | ⟨rfl, rfl⟩
  · exact hK _ _ (k hE ρ' _ w' hr')
  · exact hK _ _ (k hE ρ' _ w' hr')
theorem ao_litT {d : Nat} {ty : TypeId} {pos : String} {after : Array Edge} {S' : List Blk} {nm : Nat} {gd : Option (Nat × Bool)} {g : List Bool} {T e : TypeId} {len s by_ : Nat} {z : Value} {parts : Array (Nat × Operand)} {te : TI} {ps : List Prop} {css : List (List D)} (hg : gof F l0 gd = some g) (hall : allT g) (hT : ti? env T = some ⟨.slice e, s, by_, z⟩) (he : ti? env e = some te) (hz : Nat.beq te.zero.cells.size te.size = true)
    (hx : litD F te.size 0 parts.toList = some (css, ps)) (hp : allP ps) (hlen : Nat.beq parts.toList.length len = true) (hsm : Nat.ble (len * te.size) 16777216 = true) (hpos : Nat.blt 0 te.size = true) {b : Blk} (hb : litB te.size css = b) (hS : snocO S b = some (S', nm)) (hd : Nat.blt d n = true)
    (k : AO P env w0 n l0 K l ((d, [], .own nm) :: F) S') : AO P env w0 n l0 K (⟨some d, .buildSlice T len parts, ty, pos, after, gd⟩ :: l) F S := by
  subst hb
  exact ao_stepsT hg hall (fun hE => steps_lit (hE.get hT) (hE.get he) hz hx hp hlen hsm hpos hS hd) k
end
end Go.Wk

/- Short names of the steps, and of the rules that close what they ask. -/
namespace Go.Wk
set_option maxRecDepth 10000
open Go.RowKit

theorem obS : (∀ (p : Prop) (r : List Prop), allP (p :: r) = (p ∧ allP r)) ∧ (allP [] = True) ∧ (∀ g : List Bool, obg g [] = []) ∧ (∀ (g : List Bool) (b : Bool) (r : List Bool), obg g (b :: r) = [allT g → allT (b :: r)]) ∧ (∀ g : List Bool, grd g [] = []) ∧
    (∀ (p : Prop) (r : List Prop), grd [] (p :: r) = p :: r) ∧ (∀ (b : Bool) (g : List Bool) (p : Prop) (r : List Prop), grd (b :: g) (p :: r) = [allT (b :: g) → allP (p :: r)]) ∧ (allT [] = True) ∧ (∀ (b : Bool) (r : List Bool), allT (b :: r) = (b = true ∧ allT r)) ∧
    (∀ n : Int, InR .i64 n = (-9223372036854775808 ≤ n ∧ n ≤ 9223372036854775807)) ∧ (∀ (p : Prop) [Decidable p], (decide p = true) = p) ∧ (∀ a b : Bool, ((a && b) = true) = (a = true ∧ b = true)) ∧ (∀ a : Bool, ((!a) = true) = (a = false)) ∧ (∀ (p : Prop) [Decidable p], (decide p = false) = ¬ p) ∧
    (∀ r : List Prop, [] ++ r = r) ∧ (∀ (p : Prop) (r s : List Prop), (p :: r) ++ s = p :: (r ++ s)) ∧ (∀ r : List Prop, r ++ [] = r) ∧ (∀ r : List Bool, [] ++ r = r) ∧ (∀ (p : Bool) (r s : List Bool), (p :: r) ++ s = p :: (r ++ s)) ∧ (∀ r : List Bool, r ++ [] = r) ∧ (∀ p : Prop, (p ∧ True) = p) ∧ (∀ p : Prop, (True ∧ p) = p) := by
  refine ⟨fun _ _ => rfl, rfl, fun _ => rfl, fun _ _ _ => rfl, fun _ => rfl, fun _ _ => rfl, fun _ _ _ _ => rfl, rfl, fun _ _ => rfl, fun _ => rfl, ?_, ?_, ?_, ?_, fun _ => rfl, fun _ _ _ => rfl, ?_, fun _ => rfl, fun _ _ _ => rfl, ?_, ?_, ?_⟩ <;> intros <;> simp
theorem obL : (∀ (k : IntKind) (xs : List Int), (Blk.ints k xs).len = xs.length) ∧ (∀ xs : List Bool, (Blk.bools xs).len = xs.length) ∧ (∀ (e n : Nat) (g : Nat → List D), (Blk.row e n g).len = n) ∧ (∀ (l : List Int) (i : Nat) (x : Int), (l.set i x).length = l.length) ∧ (∀ (l : List Bool) (i : Nat) (x : Bool), (l.set i x).length = l.length) ∧
    (∀ a b : List Int, (a ++ b).length = a.length + b.length) ∧ (∀ a b : List Bool, (a ++ b).length = a.length + b.length) ∧ (∀ (x : Int) (r : List Int), (x :: r).length = r.length + 1) ∧ (∀ (x : Bool) (r : List Bool), (x :: r).length = r.length + 1) ∧ (([] : List Int).length = 0) ∧ (([] : List Bool).length = 0) := by
  refine ⟨fun _ _ => rfl, fun _ => rfl, fun _ _ _ => rfl, ?_, ?_, ?_, ?_, fun _ _ => rfl, fun _ _ => rfl, rfl, rfl⟩ <;> intros <;> simp
theorem obB : (∀ a b : Bool, ((a || b) = true) = (a = true ∨ b = true)) ∧ (∀ a b : Bool, ((a || b) = false) = (a = false ∧ b = false)) ∧ (∀ a b : Bool, ((a && b) = true) = (a = true ∧ b = true)) ∧ (∀ a b : Bool, ((a && b) = false) = (a = false ∨ b = false)) ∧
    (∀ (p : Prop) [Decidable p], (decide p = true) = p) ∧ (∀ (p : Prop) [Decidable p], (decide p = false) = ¬ p) ∧ (∀ a : Bool, ((!a) = true) = (a = false)) ∧ (∀ a : Bool, ((!a) = false) = (a = true)) := by
  refine ⟨?_, ?_, ?_, ?_, ?_, ?_, ?_, ?_⟩ <;> intros <;> first | (simp; done) | (rename_i a b; cases a <;> cases b <;> simp)

set_option linter.all false
def zA := @aw_seq
def zB := @aw_region
def zC := @aw_region_q
def zD := @aw_block
def zE := @ao_nil
def zF := @ao_op
def zG := @aq_nil
def zH := @aq_op
def zI := @at_nil
def zJ := @at_op
def zK := @am_nil
def zL := @am_op
def zM := @aw_skip
def zN := @aw_condT
def zO := @aw_condF
def zP := @aw_condD
def zQ := @aw_condN
def zR := @aw_condNB
def zS := @aw_cond
def zT := @aw_ret
def zU := @aw_exit
def zV := @ao_box
def zW := @ao_alloc
def zX := @ao_store
end Go.Wk

/- The data of the program, plainly, and how it reads. -/
namespace Go.Wk
set_option maxRecDepth 10000

structure Lk where
  a : Int
  b : Int
  c0 : Int
  c1 : Int
  cap : Int
  delay : Int
  grp : Int
  deriving Inhabited, DecidableEq

structure Topo where
  nodes : Int
  overload : List Bool
  links : List Lk
  deriving Inhabited

def lkD (l : Lk) : List D := [.int .i64 l.a, .int .i64 l.b, .int .i64 l.c0, .int .i64 l.c1, .int .i64 l.cap, .int .i64 l.delay, .int .i64 l.grp]
def linksD (ls : List Lk) : D := .arr 7 ls.length fun i => lkD (ls.getD i default)
def topoD (t : Topo) : D := .agg [.int .i64 t.nodes, boolsD t.overload, linksD t.links]
abbrev iD (n : Int) : D := .int .i64 n
abbrev bD (b : Bool) : D := .bool b

theorem getD_mem {α : Type} {l : List α} {i : Nat} {d : α} (h : i < l.length) : l.getD i d ∈ l := by
  simp [List.getD_eq_getElem?_getD, h]
theorem all_false_of {α : Type} {l : List α} {p : α → Bool} {i : Nat} {d : α} (h : i < l.length) (hp : p (l.getD i d) = false) : l.all p = false := by
  rw [List.all_eq_false]
  exact ⟨l.getD i d, getD_mem h, by rw [hp]; simp⟩
theorem all_true_of {α : Type} {l : List α} {p : α → Bool} {d : α} (h : ∀ i, i < l.length → p (l.getD i d) = true) : l.all p = true := by
  rw [List.all_eq_true]
  intro x hx
  obtain ⟨k, hk, rfl⟩ := List.mem_iff_getElem.1 hx
  have := h k hk
  simpa [List.getD_eq_getElem?_getD, hk] using this

end Go.Wk

/- Layer 9: the small functions. -/
namespace Go.Proofs.YtcnfggpcploehaaDoor
set_option maxRecDepth 10000
open Go.Wk

def insideB (n lo hi : Int) : Bool := decide (lo ≤ n) && decide (n ≤ hi)

theorem c_inside (n lo hi : Int) : Ctr Tryd.prog 62 [iD n, iD lo, iD hi] [] (.d (bD (insideB n lo hi))) := by
  refine spec_of envOK (Go.Wk.enters_of Tryd.func62 (by kernel_rfl) (by kernel_rfl)) Tryd.func62 rfl rfl _ rfl (Nat.le_of_ble_eq_true rfl) rfl fun w0 => ?_
  repeat' (first
  
    |refine zA ?_|refine zB ?_|refine zC (by kernel_rfl) (by kernel_rfl) ?_|refine zD ?_|refine zE ?_|refine zF rfl trivial ?_|refine zG ?_|refine zH rfl trivial ?_|refine zI ?_|refine zJ rfl trivial ?_|refine zK ?_|refine zL rfl trivial rfl ?_|refine zM ?_|refine zN rfl trivial ?_|refine zO rfl trivial ?_|refine zP rfl trivial (fun hc => ?_) (fun hc => ?_)|refine zQ rfl trivial (fun hc => ?_) (fun hc => ?_)|refine zR rfl trivial (fun hc => ?_) (fun hc => ?_)|refine zS rfl trivial (fun hc => ?_) (fun hc => ?_)|refine zT ?_|refine zU ?_|refine zF rfl ?_ ?_|refine zH rfl ?_ ?_|refine zJ rfl ?_ ?_|refine zL rfl ?_ rfl ?_|refine zV rfl trivial rfl rfl rfl ?_|refine zW rfl rfl rfl rfl ?_|refine zX rfl rfl trivial rfl trivial rfl rfl rfl rfl rfl ?_
  
    |(show allP _; first | trivial | exact ob1 (fun h => h) | exact ob2 (fun h => h) (fun h => h) | exact ob1 (fun h => ⟨h.1, trivial⟩) | (simp only [obS]; first | omega | (intros; omega) | (simp only [obL]; first | omega | (intros; omega)) | (refine ⟨?_, ?_⟩ <;> intros <;> first | (with_reducible assumption) | omega) | ((repeat' refine And.intro ?_ ?_) <;> (intros; first | (with_reducible assumption) | omega | (simp only [obL]; omega))) | ((try simp only [obB] at *); (try simp only [Blk.len] at *); first | omega | (intros; omega)) | (simp_all; done))))
  (refine fin_ret ?_; exact ret1 (by rfl) (by rfl) (by rfl))

def properB (l : Lk) (nodes : Int) : Bool :=
  insideB l.a 0 (nodes - 1) && insideB l.b 0 (nodes - 1) && !decide (l.a = l.b) && insideB l.c0 1 65535 && insideB l.c1 1 65535 && insideB l.cap 0 1048576 && insideB l.delay 1 65536 && insideB l.grp 0 64

theorem c_proper (l : Lk) (nodes : Int) (h0 : 1 ≤ nodes) (h1 : nodes ≤ 9223372036854775807) : Ctr Tryd.prog 63 [.agg (lkD l), iD nodes] [] (.d (bD (properB l nodes))) := by
  refine spec_of envOK (Go.Wk.enters_of Tryd.func63 (by kernel_rfl) (by kernel_rfl)) Tryd.func63 rfl rfl _ rfl (Nat.le_of_ble_eq_true rfl) rfl fun w0 => ?_
  repeat' (first
  
    |refine zA ?_|refine zB ?_|refine zC (by kernel_rfl) (by kernel_rfl) ?_|refine zD ?_|refine zE ?_|refine zF rfl trivial ?_|refine zG ?_|refine zH rfl trivial ?_|refine zI ?_|refine zJ rfl trivial ?_|refine zK ?_|refine zL rfl trivial rfl ?_|refine zM ?_|refine zN rfl trivial ?_|refine zO rfl trivial ?_|refine zP rfl trivial (fun hc => ?_) (fun hc => ?_)|refine zQ rfl trivial (fun hc => ?_) (fun hc => ?_)|refine zR rfl trivial (fun hc => ?_) (fun hc => ?_)|refine zS rfl trivial (fun hc => ?_) (fun hc => ?_)|refine zT ?_|refine zU ?_|refine zF rfl ?_ ?_|refine zH rfl ?_ ?_|refine zJ rfl ?_ ?_|refine zL rfl ?_ rfl ?_|refine zV rfl trivial rfl rfl rfl ?_|refine zW rfl rfl rfl rfl ?_|refine zX rfl rfl trivial rfl trivial rfl rfl rfl rfl rfl ?_
    | refine ao_call rfl (c_inside _ _ _) rfl ?_ ?_
    |(show allP _; first | trivial | exact ob1 (fun h => h) | exact ob2 (fun h => h) (fun h => h) | exact ob1 (fun h => ⟨h.1, trivial⟩) | (simp only [obS]; first | omega | (intros; omega) | (simp only [obL]; first | omega | (intros; omega)) | (refine ⟨?_, ?_⟩ <;> intros <;> first | (with_reducible assumption) | omega) | ((repeat' refine And.intro ?_ ?_) <;> (intros; first | (with_reducible assumption) | omega | (simp only [obL]; omega))) | ((try simp only [obB] at *); (try simp only [Blk.len] at *); first | omega | (intros; omega)) | (simp_all; done))))

  (refine fin_ret ?_; exact ret1 (by rfl) (by rfl) (by rfl))

def badHead (t : Topo) : Bool := !insideB t.nodes 1 64 || (!decide ((t.overload.length : Int) = 0) && !decide ((t.overload.length : Int) = t.nodes)) || decide (256 < (t.links.length : Int))
def validB (t : Topo) : Bool := !badHead t && t.links.all fun l => properB l t.nodes

theorem badHead_f {t : Topo} (h : badHead t = false) : 1 ≤ t.nodes ∧ t.nodes ≤ 64 ∧ t.links.length ≤ 256 ∧ (t.overload.length = 0 ∨ (t.overload.length : Int) = t.nodes) := by
  simp only [badHead, insideB, Bool.or_eq_false_iff, Bool.not_eq_false', Bool.and_eq_true, decide_eq_true_eq, Bool.and_eq_false_iff, decide_eq_false_iff_not] at h
  omega

theorem c_Valid (t : Topo) : Ctr Tryd.prog 50 [topoD t] [] (.d (bD (validB t))) := by
  refine spec_of envOK (Go.Wk.enters_of Tryd.func50 (by kernel_rfl) (by kernel_rfl)) Tryd.func50 rfl rfl _ rfl (Nat.le_of_ble_eq_true rfl) rfl fun w0 => ?_
  repeat' (first
  
    |refine zA ?_|refine zB ?_|refine zC (by kernel_rfl) (by kernel_rfl) ?_|refine zD ?_|refine zE ?_|refine zF rfl trivial ?_|refine zG ?_|refine zH rfl trivial ?_|refine zI ?_|refine zJ rfl trivial ?_|refine zK ?_|refine zL rfl trivial rfl ?_|refine zM ?_|refine zN rfl trivial ?_|refine zO rfl trivial ?_|refine zP rfl trivial (fun hc => ?_) (fun hc => ?_)|refine zQ rfl trivial (fun hc => ?_) (fun hc => ?_)|refine zR rfl trivial (fun hc => ?_) (fun hc => ?_)|refine zS rfl trivial (fun hc => ?_) (fun hc => ?_)|refine zT ?_|refine zU ?_|refine zF rfl ?_ ?_|refine zH rfl ?_ ?_|refine zJ rfl ?_ ?_|refine zL rfl ?_ rfl ?_|refine zV rfl trivial rfl rfl rfl ?_|refine zW rfl rfl rfl rfl ?_|refine zX rfl rfl trivial rfl trivial rfl rfl rfl rfl rfl ?_
    | refine ao_call rfl (c_inside _ _ _) rfl ?_ ?_
    |(show allP _; first | trivial | exact ob1 (fun h => h) | exact ob2 (fun h => h) (fun h => h) | exact ob1 (fun h => ⟨h.1, trivial⟩) | (simp only [obS]; first | omega | (intros; omega) | (simp only [obL]; first | omega | (intros; omega)) | (refine ⟨?_, ?_⟩ <;> intros <;> first | (with_reducible assumption) | omega) | ((repeat' refine And.intro ?_ ?_) <;> (intros; first | (with_reducible assumption) | omega | (simp only [obL]; omega))) | ((try simp only [obB] at *); (try simp only [Blk.len] at *); first | omega | (intros; omega)) | (simp_all; done))))
  · have hb : badHead t = true := hc
    (refine fin_ret ?_; exact ret1 (by rfl) (by (unfold validB; rw [hb]; rfl)) (by rfl))
  have hb : badHead t = false := hc
  obtain ⟨n1, n2, n3, _⟩ := badHead_f hb
  refine aw_loop (ι := Nat) (fun i => [(32, [], .d (iD i)), (30, [], .d (linksD t.links)), (31, [], .d (iD t.links.length)), (1, [], .ptr 0 0)]) (fun _ => [.cells [.d (iD t.nodes), .d (boolsD t.overload), .d (linksD t.links)]])
    (fun i => i ≤ t.links.length ∧ ∀ j, j < i → properB (t.links.getD j default) t.nodes = true) (fun i => t.links.length - i) 0 ⟨by omega, fun j hj => by omega⟩ (fun _ => Nat.le_of_ble_eq_true rfl) (by refine weak_to ?_ ?_ rfl rfl
                                                                                                                                                                                                           · repeat (first | exact subF_nil | refine subF_cons (by first | rfl | (simp [look]; done)) ?_)
                                                                                                                                                                                                           · repeat (first | exact subS_nil | refine subS_cons (by first | rfl | (simp; done)) ?_)) fun i hi => ?_
  obtain ⟨hi1, hi2⟩ := hi
  repeat' (first
  
    |refine zA ?_|refine zB ?_|refine zC (by kernel_rfl) (by kernel_rfl) ?_|refine zD ?_|refine zE ?_|refine zF rfl trivial ?_|refine zG ?_|refine zH rfl trivial ?_|refine zI ?_|refine zJ rfl trivial ?_|refine zK ?_|refine zL rfl trivial rfl ?_|refine zM ?_|refine zN rfl trivial ?_|refine zO rfl trivial ?_|refine zP rfl trivial (fun hc => ?_) (fun hc => ?_)|refine zQ rfl trivial (fun hc => ?_) (fun hc => ?_)|refine zR rfl trivial (fun hc => ?_) (fun hc => ?_)|refine zS rfl trivial (fun hc => ?_) (fun hc => ?_)|refine zT ?_|refine zU ?_|refine zF rfl ?_ ?_|refine zH rfl ?_ ?_|refine zJ rfl ?_ ?_|refine zL rfl ?_ rfl ?_|refine zV rfl trivial rfl rfl rfl ?_|refine zW rfl rfl rfl rfl ?_|refine zX rfl rfl trivial rfl trivial rfl rfl rfl rfl rfl ?_
    | refine ao_call rfl (c_proper _ _ (by omega) (by omega)) rfl ?_ ?_
    |(show allP _; first | trivial | exact ob1 (fun h => h) | exact ob2 (fun h => h) (fun h => h) | exact ob1 (fun h => ⟨h.1, trivial⟩) | (simp only [obS]; first | omega | (intros; omega) | (simp only [obL]; first | omega | (intros; omega)) | (refine ⟨?_, ?_⟩ <;> intros <;> first | (with_reducible assumption) | omega) | ((repeat' refine And.intro ?_ ?_) <;> (intros; first | (with_reducible assumption) | omega | (simp only [obL]; omega))) | ((try simp only [obB] at *); (try simp only [Blk.len] at *); first | omega | (intros; omega)) | (simp_all; done))))
  · rw [Int.toNat_natCast] at hc
    (refine fin_ret ?_; exact ret1 (by rfl) (by (simp [validB, all_false_of (p := fun l => properB l t.nodes) (by omega : i < t.links.length) hc])) (by rfl))
  · refine ⟨i + 1, ⟨by omega, fun j hj => ?_⟩, by omega, ?_⟩
    · rw [Int.toNat_natCast] at hc
      rcases Nat.lt_succ_iff_lt_or_eq.1 hj with h | rfl
      · exact hi2 j h
      · exact hc
    · refine weak_to ?_ ?_ rfl rfl
      · repeat (first | exact subF_nil | refine subF_cons (by first | rfl | (simp [look]; done)) ?_)
      · repeat (first | exact subS_nil | refine subS_cons (by first | rfl | (simp; done)) ?_)
  · (refine fin_ret ?_; exact ret1 (by rfl) (by (simp [validB, hb, all_true_of (p := fun l => properB l t.nodes) (d := default) fun k hk => hi2 k (by omega)])) (by rfl))

def arcsT (t : Topo) : Int := bif validB t then 2 * t.links.length else 0
theorem validB_head {t : Topo} (h : validB t = true) : 1 ≤ t.nodes ∧ t.nodes ≤ 64 ∧ t.links.length ≤ 256 ∧ (t.overload.length = 0 ∨ (t.overload.length : Int) = t.nodes) := by
  simp only [validB, Bool.and_eq_true, Bool.not_eq_true'] at h
  exact badHead_f h.1
theorem arcsT_le (t : Topo) : 0 ≤ arcsT t ∧ arcsT t ≤ 512 := by
  unfold arcsT
  cases h : validB t with
  | false => simp
  | true => have := validB_head h; simp; omega

theorem c_Arcs (t : Topo) : Ctr Tryd.prog 51 [topoD t] [] (.d (iD (arcsT t))) := by
  refine spec_of envOK (Go.Wk.enters_of Tryd.func51 (by kernel_rfl) (by kernel_rfl)) Tryd.func51 rfl rfl _ rfl (Nat.le_of_ble_eq_true rfl) rfl fun w0 => ?_
  repeat' (first
  
    |refine zA ?_|refine zB ?_|refine zC (by kernel_rfl) (by kernel_rfl) ?_|refine zD ?_|refine zE ?_|refine zF rfl trivial ?_|refine zG ?_|refine zH rfl trivial ?_|refine zI ?_|refine zJ rfl trivial ?_|refine zK ?_|refine zL rfl trivial rfl ?_|refine zM ?_|refine zN rfl trivial ?_|refine zO rfl trivial ?_|refine zP rfl trivial (fun hc => ?_) (fun hc => ?_)|refine zQ rfl trivial (fun hc => ?_) (fun hc => ?_)|refine zR rfl trivial (fun hc => ?_) (fun hc => ?_)|refine zS rfl trivial (fun hc => ?_) (fun hc => ?_)|refine zT ?_|refine zU ?_|refine zF rfl ?_ ?_|refine zH rfl ?_ ?_|refine zJ rfl ?_ ?_|refine zL rfl ?_ rfl ?_|refine zV rfl trivial rfl rfl rfl ?_|refine zW rfl rfl rfl rfl ?_|refine zX rfl rfl trivial rfl trivial rfl rfl rfl rfl rfl ?_
    | refine ao_call rfl (c_Valid _) rfl ?_ ?_
    |(show allP _; first | trivial | exact ob1 (fun h => h) | exact ob2 (fun h => h) (fun h => h) | exact ob1 (fun h => ⟨h.1, trivial⟩) | (simp only [obS]; first | omega | (intros; omega) | (simp only [obL]; first | omega | (intros; omega)) | (refine ⟨?_, ?_⟩ <;> intros <;> first | (with_reducible assumption) | omega) | ((repeat' refine And.intro ?_ ?_) <;> (intros; first | (with_reducible assumption) | omega | (simp only [obL]; omega))) | ((try simp only [obB] at *); (try simp only [Blk.len] at *); first | omega | (intros; omega)) | (simp_all; done))))
  · (refine fin_ret ?_; exact ret1 (by rfl) (by (simp [arcsT, (by simpa using hc : validB t = false)])) (by rfl))
  · have := validB_head (by simpa using hc : validB t = true)
    first | trivial | exact ob1 (fun h => h) | exact ob2 (fun h => h) (fun h => h) | exact ob1 (fun h => ⟨h.1, trivial⟩) | (simp only [obS]; first | omega | (intros; omega) | (simp only [obL]; first | omega | (intros; omega)) | (refine ⟨?_, ?_⟩ <;> intros <;> first | (with_reducible assumption) | omega) | ((repeat' refine And.intro ?_ ?_) <;> (intros; first | (with_reducible assumption) | omega | (simp only [obL]; omega))) | ((try simp only [obB] at *); (try simp only [Blk.len] at *); first | omega | (intros; omega)) | (simp_all; done))
  · have hv : validB t = true := by simpa using hc
    (refine fin_ret ?_; exact ret1 (by rfl) (by (simp [arcsT, hv])) (by rfl))

def overT (t : Topo) (n : Int) : Bool := decide (0 ≤ n) && decide (n < t.overload.length) && t.overload.getD n.toNat false && validB t
theorem c_Overloaded (t : Topo) (n : Int) : Ctr Tryd.prog 34 [topoD t, iD n] [] (.d (bD (overT t n))) := by
  refine spec_of envOK (Go.Wk.enters_of Tryd.func34 (by kernel_rfl) (by kernel_rfl)) Tryd.func34 rfl rfl _ rfl (Nat.le_of_ble_eq_true rfl) rfl fun w0 => ?_
  repeat' (first
  
    |refine zA ?_|refine zB ?_|refine zC (by kernel_rfl) (by kernel_rfl) ?_|refine zD ?_|refine zE ?_|refine zF rfl trivial ?_|refine zG ?_|refine zH rfl trivial ?_|refine zI ?_|refine zJ rfl trivial ?_|refine zK ?_|refine zL rfl trivial rfl ?_|refine zM ?_|refine zN rfl trivial ?_|refine zO rfl trivial ?_|refine zP rfl trivial (fun hc => ?_) (fun hc => ?_)|refine zQ rfl trivial (fun hc => ?_) (fun hc => ?_)|refine zR rfl trivial (fun hc => ?_) (fun hc => ?_)|refine zS rfl trivial (fun hc => ?_) (fun hc => ?_)|refine zT ?_|refine zU ?_|refine zF rfl ?_ ?_|refine zH rfl ?_ ?_|refine zJ rfl ?_ ?_|refine zL rfl ?_ rfl ?_|refine zV rfl trivial rfl rfl rfl ?_|refine zW rfl rfl rfl rfl ?_|refine zX rfl rfl trivial rfl trivial rfl rfl rfl rfl rfl ?_
    | refine ao_call rfl (c_Valid _) rfl ?_ ?_
    | refine aq_call rfl (c_Valid _) rfl ?_ ?_
    |(show allP _; first | trivial | exact ob1 (fun h => h) | exact ob2 (fun h => h) (fun h => h) | exact ob1 (fun h => ⟨h.1, trivial⟩) | (simp only [obS]; first | omega | (intros; omega) | (simp only [obL]; first | omega | (intros; omega)) | (refine ⟨?_, ?_⟩ <;> intros <;> first | (with_reducible assumption) | omega) | ((repeat' refine And.intro ?_ ?_) <;> (intros; first | (with_reducible assumption) | omega | (simp only [obL]; omega))) | ((try simp only [obB] at *); (try simp only [Blk.len] at *); first | omega | (intros; omega)) | (simp_all; done))))
  (refine fin_ret ?_; exact ret1 (by rfl) (by (rfl)) (by rfl))

def lkAt (t : Topo) (a : Int) : Lk := t.links.getD (a / 2).toNat default
def arcIn (t : Topo) (a : Int) : Bool := decide (0 ≤ a) && decide (a < arcsT t)
def tailT (t : Topo) (a : Int) : Int := bif arcIn t a then (bif decide (a % 2 = 0) then (lkAt t a).a else (lkAt t a).b) else -1
def headT (t : Topo) (a : Int) : Int := bif arcIn t a then (bif decide (a % 2 = 0) then (lkAt t a).b else (lkAt t a).a) else -1
def costT (t : Topo) (a : Int) : Int := bif arcIn t a then (bif decide (a % 2 = 0) then (lkAt t a).c0 else (lkAt t a).c1) else -1

theorem arcs_half (t : Topo) (a : Int) : 0 ≤ a ∧ a < arcsT t → a < 512 ∧ a / 2 < t.links.length := by
  intro ⟨h, h1⟩
  unfold arcsT at h1
  cases hv : validB t with
  | false => simp [hv] at h1; omega
  | true => have := validB_head hv; simp [hv] at h1; omega

theorem c_ends (t : Topo) (a : Int) : Ctr Tryd.prog 54 [topoD t, iD a] [] (.tup [.d (iD (tailT t a)), .d (iD (headT t a)), .d (iD (costT t a))]) := by
  refine spec_of envOK (Go.Wk.enters_of Tryd.func54 (by kernel_rfl) (by kernel_rfl)) Tryd.func54 rfl rfl _ rfl (Nat.le_of_ble_eq_true rfl) rfl fun w0 => ?_
  have hA := arcs_half t a
  repeat' (first
  
    |refine zA ?_|refine zB ?_|refine zC (by kernel_rfl) (by kernel_rfl) ?_|refine zD ?_|refine zE ?_|refine zF rfl trivial ?_|refine zG ?_|refine zH rfl trivial ?_|refine zI ?_|refine zJ rfl trivial ?_|refine zK ?_|refine zL rfl trivial rfl ?_|refine zM ?_|refine zN rfl trivial ?_|refine zO rfl trivial ?_|refine zP rfl trivial (fun hc => ?_) (fun hc => ?_)|refine zQ rfl trivial (fun hc => ?_) (fun hc => ?_)|refine zR rfl trivial (fun hc => ?_) (fun hc => ?_)|refine zS rfl trivial (fun hc => ?_) (fun hc => ?_)|refine zT ?_|refine zU ?_|refine zF rfl ?_ ?_|refine zH rfl ?_ ?_|refine zJ rfl ?_ ?_|refine zL rfl ?_ rfl ?_|refine zV rfl trivial rfl rfl rfl ?_|refine zW rfl rfl rfl rfl ?_|refine zX rfl rfl trivial rfl trivial rfl rfl rfl rfl rfl ?_
    | refine ao_call rfl (c_Arcs _) rfl ?_ ?_
    | refine aq_call rfl (c_Arcs _) rfl ?_ ?_
    |(show allP _; first | trivial | exact ob1 (fun h => h) | exact ob2 (fun h => h) (fun h => h) | exact ob1 (fun h => ⟨h.1, trivial⟩) | (simp only [obS]; first | omega | (intros; omega) | (simp only [obL]; first | omega | (intros; omega)) | (refine ⟨?_, ?_⟩ <;> intros <;> first | (with_reducible assumption) | omega) | ((repeat' refine And.intro ?_ ?_) <;> (intros; first | (with_reducible assumption) | omega | (simp only [obL]; omega))) | ((try simp only [obB] at *); (try simp only [Blk.len] at *); first | omega | (intros; omega)) | (simp_all; done))))
  · have hi : arcIn t a = false := by simp only [arcIn]; simp only [Bool.or_eq_true, decide_eq_true_eq] at hc; simp; omega
    (refine fin_ret ?_; exact ret3 (by rfl) (by simp [tailT, hi]) (by simp [headT, hi]) (by simp [costT, hi]) (by rfl) (by rfl) (by rfl))
  · rename_i h
    have hi : arcIn t a = true := by simp only [arcIn]; simp only [Bool.or_eq_false_iff, decide_eq_false_iff_not] at h; simp; omega
    (refine fin_ret ?_; exact ret3 (by rfl) (by simp [tailT, hi, hc, lkAt]) (by simp [headT, hi, hc, lkAt]) (by simp [costT, hi, hc, lkAt]) (by rfl) (by rfl) (by rfl))
  · rename_i h
    have hi : arcIn t a = true := by simp only [arcIn]; simp only [Bool.or_eq_false_iff, decide_eq_false_iff_not] at h; simp; omega
    (refine fin_ret ?_; exact ret3 (by rfl) (by simp [tailT, hi, hc, lkAt]) (by simp [headT, hi, hc, lkAt]) (by simp [costT, hi, hc, lkAt]) (by rfl) (by rfl) (by rfl))

theorem c_Tail (t : Topo) (a : Int) : Ctr Tryd.prog 32 [topoD t, iD a] [] (.d (iD (tailT t a))) := by
  refine spec_of envOK (Go.Wk.enters_of Tryd.func32 (by kernel_rfl) (by kernel_rfl)) Tryd.func32 rfl rfl _ rfl (Nat.le_of_ble_eq_true rfl) rfl fun w0 => ?_
  repeat' (first
  
    |refine zA ?_|refine zB ?_|refine zC (by kernel_rfl) (by kernel_rfl) ?_|refine zD ?_|refine zE ?_|refine zF rfl trivial ?_|refine zG ?_|refine zH rfl trivial ?_|refine zI ?_|refine zJ rfl trivial ?_|refine zK ?_|refine zL rfl trivial rfl ?_|refine zM ?_|refine zN rfl trivial ?_|refine zO rfl trivial ?_|refine zP rfl trivial (fun hc => ?_) (fun hc => ?_)|refine zQ rfl trivial (fun hc => ?_) (fun hc => ?_)|refine zR rfl trivial (fun hc => ?_) (fun hc => ?_)|refine zS rfl trivial (fun hc => ?_) (fun hc => ?_)|refine zT ?_|refine zU ?_|refine zF rfl ?_ ?_|refine zH rfl ?_ ?_|refine zJ rfl ?_ ?_|refine zL rfl ?_ rfl ?_|refine zV rfl trivial rfl rfl rfl ?_|refine zW rfl rfl rfl rfl ?_|refine zX rfl rfl trivial rfl trivial rfl rfl rfl rfl rfl ?_
    | refine ao_callR rfl (c_ends _ _) trivial rfl rfl ?_
    |(show allP _; first | trivial | exact ob1 (fun h => h) | exact ob2 (fun h => h) (fun h => h) | exact ob1 (fun h => ⟨h.1, trivial⟩) | (simp only [obS]; first | omega | (intros; omega) | (simp only [obL]; first | omega | (intros; omega)) | (refine ⟨?_, ?_⟩ <;> intros <;> first | (with_reducible assumption) | omega) | ((repeat' refine And.intro ?_ ?_) <;> (intros; first | (with_reducible assumption) | omega | (simp only [obL]; omega))) | ((try simp only [obB] at *); (try simp only [Blk.len] at *); first | omega | (intros; omega)) | (simp_all; done))))
  (refine fin_ret ?_; exact ret1 (by rfl) (by rfl) (by rfl))
theorem c_Head (t : Topo) (a : Int) : Ctr Tryd.prog 33 [topoD t, iD a] [] (.d (iD (headT t a))) := by
  refine spec_of envOK (Go.Wk.enters_of Tryd.func33 (by kernel_rfl) (by kernel_rfl)) Tryd.func33 rfl rfl _ rfl (Nat.le_of_ble_eq_true rfl) rfl fun w0 => ?_
  repeat' (first
  
    |refine zA ?_|refine zB ?_|refine zC (by kernel_rfl) (by kernel_rfl) ?_|refine zD ?_|refine zE ?_|refine zF rfl trivial ?_|refine zG ?_|refine zH rfl trivial ?_|refine zI ?_|refine zJ rfl trivial ?_|refine zK ?_|refine zL rfl trivial rfl ?_|refine zM ?_|refine zN rfl trivial ?_|refine zO rfl trivial ?_|refine zP rfl trivial (fun hc => ?_) (fun hc => ?_)|refine zQ rfl trivial (fun hc => ?_) (fun hc => ?_)|refine zR rfl trivial (fun hc => ?_) (fun hc => ?_)|refine zS rfl trivial (fun hc => ?_) (fun hc => ?_)|refine zT ?_|refine zU ?_|refine zF rfl ?_ ?_|refine zH rfl ?_ ?_|refine zJ rfl ?_ ?_|refine zL rfl ?_ rfl ?_|refine zV rfl trivial rfl rfl rfl ?_|refine zW rfl rfl rfl rfl ?_|refine zX rfl rfl trivial rfl trivial rfl rfl rfl rfl rfl ?_
    | refine ao_callR rfl (c_ends _ _) trivial rfl rfl ?_
    |(show allP _; first | trivial | exact ob1 (fun h => h) | exact ob2 (fun h => h) (fun h => h) | exact ob1 (fun h => ⟨h.1, trivial⟩) | (simp only [obS]; first | omega | (intros; omega) | (simp only [obL]; first | omega | (intros; omega)) | (refine ⟨?_, ?_⟩ <;> intros <;> first | (with_reducible assumption) | omega) | ((repeat' refine And.intro ?_ ?_) <;> (intros; first | (with_reducible assumption) | omega | (simp only [obL]; omega))) | ((try simp only [obB] at *); (try simp only [Blk.len] at *); first | omega | (intros; omega)) | (simp_all; done))))
  (refine fin_ret ?_; exact ret1 (by rfl) (by rfl) (by rfl))
theorem c_Cost (t : Topo) (a : Int) : Ctr Tryd.prog 35 [topoD t, iD a] [] (.d (iD (costT t a))) := by
  refine spec_of envOK (Go.Wk.enters_of Tryd.func35 (by kernel_rfl) (by kernel_rfl)) Tryd.func35 rfl rfl _ rfl (Nat.le_of_ble_eq_true rfl) rfl fun w0 => ?_
  repeat' (first
  
    |refine zA ?_|refine zB ?_|refine zC (by kernel_rfl) (by kernel_rfl) ?_|refine zD ?_|refine zE ?_|refine zF rfl trivial ?_|refine zG ?_|refine zH rfl trivial ?_|refine zI ?_|refine zJ rfl trivial ?_|refine zK ?_|refine zL rfl trivial rfl ?_|refine zM ?_|refine zN rfl trivial ?_|refine zO rfl trivial ?_|refine zP rfl trivial (fun hc => ?_) (fun hc => ?_)|refine zQ rfl trivial (fun hc => ?_) (fun hc => ?_)|refine zR rfl trivial (fun hc => ?_) (fun hc => ?_)|refine zS rfl trivial (fun hc => ?_) (fun hc => ?_)|refine zT ?_|refine zU ?_|refine zF rfl ?_ ?_|refine zH rfl ?_ ?_|refine zJ rfl ?_ ?_|refine zL rfl ?_ rfl ?_|refine zV rfl trivial rfl rfl rfl ?_|refine zW rfl rfl rfl rfl ?_|refine zX rfl rfl trivial rfl trivial rfl rfl rfl rfl rfl ?_
    | refine ao_callR rfl (c_ends _ _) trivial rfl rfl ?_
    |(show allP _; first | trivial | exact ob1 (fun h => h) | exact ob2 (fun h => h) (fun h => h) | exact ob1 (fun h => ⟨h.1, trivial⟩) | (simp only [obS]; first | omega | (intros; omega) | (simp only [obL]; first | omega | (intros; omega)) | (refine ⟨?_, ?_⟩ <;> intros <;> first | (with_reducible assumption) | omega) | ((repeat' refine And.intro ?_ ?_) <;> (intros; first | (with_reducible assumption) | omega | (simp only [obL]; omega))) | ((try simp only [obB] at *); (try simp only [Blk.len] at *); first | omega | (intros; omega)) | (simp_all; done))))
  (refine fin_ret ?_; exact ret1 (by rfl) (by rfl) (by rfl))

end Go.Proofs.YtcnfggpcploehaaDoor

/- Layer 9: the lists of arcs. -/
namespace Go.Proofs.YtcnfggpcploehaaDoor
set_option maxRecDepth 10000
open Go.Wk

/-- The arc over a link, at a node. -/
def arcOf (l : Lk) (i : Nat) (n : Int) (out : Bool) : List Int :=
  bif (decide (l.a = n) == out) && (decide (l.a = n) || decide (l.b = n)) then [2 * i] else bif decide (l.a = n) || decide (l.b = n) then [2 * i + 1] else []
def arcsUpto (t : Topo) (n : Int) (out : Bool) : Nat → List Int
  | 0 => []
  | i + 1 => arcsUpto t n out i ++ arcOf (t.links.getD i default) i n out
def arcsL (t : Topo) (n : Int) (out : Bool) : List Int := bif validB t then arcsUpto t n out t.links.length else []

theorem arcsUpto_len (t : Topo) (n : Int) (out : Bool) (i : Nat) : (arcsUpto t n out i).length ≤ i := by
  induction i with
  | zero => simp [arcsUpto]
  | succ i ih =>
    simp only [arcsUpto, List.length_append]
    have : (arcOf (t.links.getD i default) i n out).length ≤ 1 := by
      unfold arcOf
      cases (decide ((t.links.getD i default).a = n) == out) && (decide ((t.links.getD i default).a = n) || decide ((t.links.getD i default).b = n)) <;> cases decide ((t.links.getD i default).a = n) || decide ((t.links.getD i default).b = n) <;> simp
    omega

theorem c_arcs (t : Topo) (n : Int) (out : Bool) : Ctr Tryd.prog 61 [topoD t, iD n, bD out] [.ints .i64 (arcsL t n out)] (.own 0) := by
  refine spec_of envOK (Go.Wk.enters_of Tryd.func61 (by kernel_rfl) (by kernel_rfl)) Tryd.func61 rfl rfl _ rfl (Nat.le_of_ble_eq_true rfl) rfl fun w0 => ?_
  repeat' (first
  
    |refine zA ?_|refine zB ?_|refine zC (by kernel_rfl) (by kernel_rfl) ?_|refine zD ?_|refine zE ?_|refine zF rfl trivial ?_|refine zG ?_|refine zH rfl trivial ?_|refine zI ?_|refine zJ rfl trivial ?_|refine zK ?_|refine zL rfl trivial rfl ?_|refine zM ?_|refine zN rfl trivial ?_|refine zO rfl trivial ?_|refine zP rfl trivial (fun hc => ?_) (fun hc => ?_)|refine zQ rfl trivial (fun hc => ?_) (fun hc => ?_)|refine zR rfl trivial (fun hc => ?_) (fun hc => ?_)|refine zS rfl trivial (fun hc => ?_) (fun hc => ?_)|refine zT ?_|refine zU ?_|refine zF rfl ?_ ?_|refine zH rfl ?_ ?_|refine zJ rfl ?_ ?_|refine zL rfl ?_ rfl ?_|refine zV rfl trivial rfl rfl rfl ?_|refine zW rfl rfl rfl rfl ?_|refine zX rfl rfl trivial rfl trivial rfl rfl rfl rfl rfl ?_
    | refine ao_call rfl (c_Valid _) rfl ?_ ?_
    |(show allP _; first | trivial | exact ob1 (fun h => h) | exact ob2 (fun h => h) (fun h => h) | exact ob1 (fun h => ⟨h.1, trivial⟩) | (simp only [obS]; first | omega | (intros; omega) | (simp only [obL]; first | omega | (intros; omega)) | (refine ⟨?_, ?_⟩ <;> intros <;> first | (with_reducible assumption) | omega) | ((repeat' refine And.intro ?_ ?_) <;> (intros; first | (with_reducible assumption) | omega | (simp only [obL]; omega))) | ((try simp only [obB] at *); (try simp only [Blk.len] at *); first | omega | (intros; omega)) | (simp_all; done))))
  · refine fin_ret ?_; exact retNil (by rfl) (by simp [arcsL, hc, Blk.len]) (by trivial)
  refine aw_weak (weak_nil (t := 7) (.ints .i64 []) rfl rfl rfl rfl rfl) (Nat.le_of_ble_eq_true rfl) ?_
  have hb := validB_head hc
  refine aw_loop (ι := Nat) (fun i => [(7, [], .own 1), (16, [], .d (iD i)), (14, [], .d (linksD t.links)), (15, [], .d (iD t.links.length)), (1, [], .d (iD n)), (2, [], .d (bD out))])
    (fun i => [.cells [.d (iD t.nodes), .d (boolsD t.overload), .d (linksD t.links)], .ints .i64 (arcsUpto t n out i)])
    (fun i => i ≤ t.links.length) (fun i => t.links.length - i) 0 (by omega) (fun _ => Nat.le_of_ble_eq_true rfl) (by refine weak_to ?_ ?_ rfl rfl
                                                                                                                      · repeat (first | exact subF_nil | refine subF_cons (by first | rfl | (simp [look]; done)) ?_)
                                                                                                                      · repeat (first | exact subS_nil | refine subS_cons (by first | rfl | (simp; done)) ?_)) fun i hi => ?_
  have hl := arcsUpto_len t n out i
  repeat' (first
  
    |refine zA ?_|refine zB ?_|refine zC (by kernel_rfl) (by kernel_rfl) ?_|refine zD ?_|refine zE ?_|refine zF rfl trivial ?_|refine zG ?_|refine zH rfl trivial ?_|refine zI ?_|refine zJ rfl trivial ?_|refine zK ?_|refine zL rfl trivial rfl ?_|refine zM ?_|refine zN rfl trivial ?_|refine zO rfl trivial ?_|refine zP rfl trivial (fun hc => ?_) (fun hc => ?_)|refine zQ rfl trivial (fun hc => ?_) (fun hc => ?_)|refine zR rfl trivial (fun hc => ?_) (fun hc => ?_)|refine zS rfl trivial (fun hc => ?_) (fun hc => ?_)|refine zT ?_|refine zU ?_|refine zF rfl ?_ ?_|refine zH rfl ?_ ?_|refine zJ rfl ?_ ?_|refine zL rfl ?_ rfl ?_|refine zV rfl trivial rfl rfl rfl ?_|refine zW rfl rfl rfl rfl ?_|refine zX rfl rfl trivial rfl trivial rfl rfl rfl rfl rfl ?_
    | refine ao_lit rfl rfl rfl rfl trivial rfl rfl rfl rfl rfl rfl ?_
    | refine ao_app rfl rfl rfl rfl trivial rfl trivial rfl rfl trivial rfl rfl rfl rfl rfl (by simp [Blk.len]; omega) rfl rfl rfl ?_
    |(show allP _; first | trivial | exact ob1 (fun h => h) | exact ob2 (fun h => h) (fun h => h) | exact ob1 (fun h => ⟨h.1, trivial⟩) | (simp only [obS]; first | omega | (intros; omega) | (simp only [obL]; first | omega | (intros; omega)) | (refine ⟨?_, ?_⟩ <;> intros <;> first | (with_reducible assumption) | omega) | ((repeat' refine And.intro ?_ ?_) <;> (intros; first | (with_reducible assumption) | omega | (simp only [obL]; omega))) | ((try simp only [obB] at *); (try simp only [Blk.len] at *); first | omega | (intros; omega)) | (simp_all; done))))
  · rw [Int.toNat_natCast] at hc
    refine ⟨i + 1, by omega, by omega, ?_⟩
    refine weak_to ?_ ?_ rfl rfl
    · repeat (first | exact subF_nil | refine subF_cons (by first | rfl | (simp [look]; done)) ?_)
    · repeat (first | exact subS_nil | refine subS_cons (by first | rfl | (simp only [arcsUpto, arcOf]; rw [hc]; rfl)) ?_)
  · rename_i h1
    rw [Int.toNat_natCast] at hc h1
    refine ⟨i + 1, by omega, by omega, ?_⟩
    refine weak_to ?_ ?_ rfl rfl
    · repeat (first | exact subF_nil | refine subF_cons (by first | rfl | (simp [look]; done)) ?_)
    · repeat (first | exact subS_nil | refine subS_cons (by first | rfl | (simp only [arcsUpto, arcOf]; rw [h1, hc]; rfl)) ?_)
  · rename_i h1
    rw [Int.toNat_natCast] at hc h1
    refine ⟨i + 1, by omega, by omega, ?_⟩
    refine weak_to ?_ ?_ rfl rfl
    · repeat (first | exact subF_nil | refine subF_cons (by first | rfl | (simp [look]; done)) ?_)
    · repeat (first | exact subS_nil | refine subS_cons (by first | rfl | (simp only [arcsUpto, arcOf]; rw [h1, hc]; simp only [cond_false, List.append_nil])) ?_)
  · refine fin_ret ?_
    exact retOwn (by rfl) (by rfl) (by simp [arcsL, (by assumption : validB t = true), (by omega : i = t.links.length)]) (by trivial)

theorem c_Out (t : Topo) (n : Int) : Ctr Tryd.prog 49 [topoD t, iD n] [.ints .i64 (arcsL t n true)] (.own 0) := by
  refine spec_of envOK (Go.Wk.enters_of Tryd.func49 (by kernel_rfl) (by kernel_rfl)) Tryd.func49 rfl rfl _ rfl (Nat.le_of_ble_eq_true rfl) rfl fun w0 => ?_
  repeat' (first
  
    |refine zA ?_|refine zB ?_|refine zC (by kernel_rfl) (by kernel_rfl) ?_|refine zD ?_|refine zE ?_|refine zF rfl trivial ?_|refine zG ?_|refine zH rfl trivial ?_|refine zI ?_|refine zJ rfl trivial ?_|refine zK ?_|refine zL rfl trivial rfl ?_|refine zM ?_|refine zN rfl trivial ?_|refine zO rfl trivial ?_|refine zP rfl trivial (fun hc => ?_) (fun hc => ?_)|refine zQ rfl trivial (fun hc => ?_) (fun hc => ?_)|refine zR rfl trivial (fun hc => ?_) (fun hc => ?_)|refine zS rfl trivial (fun hc => ?_) (fun hc => ?_)|refine zT ?_|refine zU ?_|refine zF rfl ?_ ?_|refine zH rfl ?_ ?_|refine zJ rfl ?_ ?_|refine zL rfl ?_ rfl ?_|refine zV rfl trivial rfl rfl rfl ?_|refine zW rfl rfl rfl rfl ?_|refine zX rfl rfl trivial rfl trivial rfl rfl rfl rfl rfl ?_
    | refine ao_callR rfl (c_arcs _ _ _) trivial rfl rfl ?_
    |(show allP _; first | trivial | exact ob1 (fun h => h) | exact ob2 (fun h => h) (fun h => h) | exact ob1 (fun h => ⟨h.1, trivial⟩) | (simp only [obS]; first | omega | (intros; omega) | (simp only [obL]; first | omega | (intros; omega)) | (refine ⟨?_, ?_⟩ <;> intros <;> first | (with_reducible assumption) | omega) | ((repeat' refine And.intro ?_ ?_) <;> (intros; first | (with_reducible assumption) | omega | (simp only [obL]; omega))) | ((try simp only [obB] at *); (try simp only [Blk.len] at *); first | omega | (intros; omega)) | (simp_all; done))))
  refine fin_ret ?_
  exact retOwn (by rfl) (by rfl) (by rfl) (by trivial)
theorem c_In (t : Topo) (n : Int) : Ctr Tryd.prog 53 [topoD t, iD n] [.ints .i64 (arcsL t n false)] (.own 0) := by
  refine spec_of envOK (Go.Wk.enters_of Tryd.func53 (by kernel_rfl) (by kernel_rfl)) Tryd.func53 rfl rfl _ rfl (Nat.le_of_ble_eq_true rfl) rfl fun w0 => ?_
  repeat' (first
  
    |refine zA ?_|refine zB ?_|refine zC (by kernel_rfl) (by kernel_rfl) ?_|refine zD ?_|refine zE ?_|refine zF rfl trivial ?_|refine zG ?_|refine zH rfl trivial ?_|refine zI ?_|refine zJ rfl trivial ?_|refine zK ?_|refine zL rfl trivial rfl ?_|refine zM ?_|refine zN rfl trivial ?_|refine zO rfl trivial ?_|refine zP rfl trivial (fun hc => ?_) (fun hc => ?_)|refine zQ rfl trivial (fun hc => ?_) (fun hc => ?_)|refine zR rfl trivial (fun hc => ?_) (fun hc => ?_)|refine zS rfl trivial (fun hc => ?_) (fun hc => ?_)|refine zT ?_|refine zU ?_|refine zF rfl ?_ ?_|refine zH rfl ?_ ?_|refine zJ rfl ?_ ?_|refine zL rfl ?_ rfl ?_|refine zV rfl trivial rfl rfl rfl ?_|refine zW rfl rfl rfl rfl ?_|refine zX rfl rfl trivial rfl trivial rfl rfl rfl rfl rfl ?_
    | refine ao_callR rfl (c_arcs _ _ _) trivial rfl rfl ?_
    |(show allP _; first | trivial | exact ob1 (fun h => h) | exact ob2 (fun h => h) (fun h => h) | exact ob1 (fun h => ⟨h.1, trivial⟩) | (simp only [obS]; first | omega | (intros; omega) | (simp only [obL]; first | omega | (intros; omega)) | (refine ⟨?_, ?_⟩ <;> intros <;> first | (with_reducible assumption) | omega) | ((repeat' refine And.intro ?_ ?_) <;> (intros; first | (with_reducible assumption) | omega | (simp only [obL]; omega))) | ((try simp only [obB] at *); (try simp only [Blk.len] at *); first | omega | (intros; omega)) | (simp_all; done))))
  refine fin_ret ?_
  exact retOwn (by rfl) (by rfl) (by rfl) (by trivial)

end Go.Proofs.YtcnfggpcploehaaDoor

/- The reference of layer 9: the small functions. -/
namespace Go.Proofs.YtcnfggpcploehaaDoor
set_option maxRecDepth 10000
open Go.Wk

theorem r_within (n lo hi : Int) : Ctr Tryd.prog 48 [iD n, iD lo, iD hi] [] (.d (bD (insideB n lo hi))) := by
  refine spec_of envOK (Go.Wk.enters_of Tryd.func48 (by kernel_rfl) (by kernel_rfl)) Tryd.func48 rfl rfl _ rfl (Nat.le_of_ble_eq_true rfl) rfl fun w0 => ?_
  repeat' (first
  
    |refine zA ?_|refine zB ?_|refine zC (by kernel_rfl) (by kernel_rfl) ?_|refine zD ?_|refine zE ?_|refine zF rfl trivial ?_|refine zG ?_|refine zH rfl trivial ?_|refine zI ?_|refine zJ rfl trivial ?_|refine zK ?_|refine zL rfl trivial rfl ?_|refine zM ?_|refine zN rfl trivial ?_|refine zO rfl trivial ?_|refine zP rfl trivial (fun hc => ?_) (fun hc => ?_)|refine zQ rfl trivial (fun hc => ?_) (fun hc => ?_)|refine zR rfl trivial (fun hc => ?_) (fun hc => ?_)|refine zS rfl trivial (fun hc => ?_) (fun hc => ?_)|refine zT ?_|refine zU ?_|refine zF rfl ?_ ?_|refine zH rfl ?_ ?_|refine zJ rfl ?_ ?_|refine zL rfl ?_ rfl ?_|refine zV rfl trivial rfl rfl rfl ?_|refine zW rfl rfl rfl rfl ?_|refine zX rfl rfl trivial rfl trivial rfl rfl rfl rfl rfl ?_
  
    |(show allP _; first | trivial | exact ob1 (fun h => h) | exact ob2 (fun h => h) (fun h => h) | exact ob1 (fun h => ⟨h.1, trivial⟩) | (simp only [obS]; first | omega | (intros; omega) | (simp only [obL]; first | omega | (intros; omega)) | (refine ⟨?_, ?_⟩ <;> intros <;> first | (with_reducible assumption) | omega) | ((repeat' refine And.intro ?_ ?_) <;> (intros; first | (with_reducible assumption) | omega | (simp only [obL]; omega))) | ((try simp only [obB] at *); (try simp only [Blk.len] at *); first | omega | (intros; omega)) | (simp_all; done))))
  (refine fin_ret ?_; exact ret1 (by rfl) (by rfl) (by rfl))

theorem r_Valid (t : Topo) : Ctr Tryd.prog 26 [topoD t] [] (.d (bD (validB t))) := by
  refine spec_of envOK (Go.Wk.enters_of Tryd.func26 (by kernel_rfl) (by kernel_rfl)) Tryd.func26 rfl rfl _ rfl (Nat.le_of_ble_eq_true rfl) rfl fun w0 => ?_
  repeat' (first
  
    |refine zA ?_|refine zB ?_|refine zC (by kernel_rfl) (by kernel_rfl) ?_|refine zD ?_|refine zE ?_|refine zF rfl trivial ?_|refine zG ?_|refine zH rfl trivial ?_|refine zI ?_|refine zJ rfl trivial ?_|refine zK ?_|refine zL rfl trivial rfl ?_|refine zM ?_|refine zN rfl trivial ?_|refine zO rfl trivial ?_|refine zP rfl trivial (fun hc => ?_) (fun hc => ?_)|refine zQ rfl trivial (fun hc => ?_) (fun hc => ?_)|refine zR rfl trivial (fun hc => ?_) (fun hc => ?_)|refine zS rfl trivial (fun hc => ?_) (fun hc => ?_)|refine zT ?_|refine zU ?_|refine zF rfl ?_ ?_|refine zH rfl ?_ ?_|refine zJ rfl ?_ ?_|refine zL rfl ?_ rfl ?_|refine zV rfl trivial rfl rfl rfl ?_|refine zW rfl rfl rfl rfl ?_|refine zX rfl rfl trivial rfl trivial rfl rfl rfl rfl rfl ?_
    | refine ao_call rfl (r_within _ _ _) rfl ?_ ?_
    |(show allP _; first | trivial | exact ob1 (fun h => h) | exact ob2 (fun h => h) (fun h => h) | exact ob1 (fun h => ⟨h.1, trivial⟩) | (simp only [obS]; first | omega | (intros; omega) | (simp only [obL]; first | omega | (intros; omega)) | (refine ⟨?_, ?_⟩ <;> intros <;> first | (with_reducible assumption) | omega) | ((repeat' refine And.intro ?_ ?_) <;> (intros; first | (with_reducible assumption) | omega | (simp only [obL]; omega))) | ((try simp only [obB] at *); (try simp only [Blk.len] at *); first | omega | (intros; omega)) | (simp_all; done))))
  · have hb : badHead t = true := hc
    (refine fin_ret ?_; exact ret1 (by rfl) (by (unfold validB; rw [hb]; rfl)) (by rfl))
  have hb : badHead t = false := hc
  obtain ⟨n1, n2, n3, _⟩ := badHead_f hb
  refine aw_loop (ι := Nat) (fun i => [(3, [], .d (iD i)), (1, [], .ptr 0 0)]) (fun _ => [.cells [.d (iD t.nodes), .d (boolsD t.overload), .d (linksD t.links)]])
    (fun i => i ≤ t.links.length ∧ ∀ j, j < i → properB (t.links.getD j default) t.nodes = true) (fun i => t.links.length - i) 0 ⟨by omega, fun j hj => by omega⟩ (fun _ => Nat.le_of_ble_eq_true rfl) (by refine weak_to ?_ ?_ rfl rfl
                                                                                                                                                                                                           · repeat (first | exact subF_nil | refine subF_cons (by first | rfl | (simp [look]; done)) ?_)
                                                                                                                                                                                                           · repeat (first | exact subS_nil | refine subS_cons (by first | rfl | (simp; done)) ?_)) fun i hi => ?_
  obtain ⟨hi1, hi2⟩ := hi
  repeat' (first
  
    |refine zA ?_|refine zB ?_|refine zC (by kernel_rfl) (by kernel_rfl) ?_|refine zD ?_|refine zE ?_|refine zF rfl trivial ?_|refine zG ?_|refine zH rfl trivial ?_|refine zI ?_|refine zJ rfl trivial ?_|refine zK ?_|refine zL rfl trivial rfl ?_|refine zM ?_|refine zN rfl trivial ?_|refine zO rfl trivial ?_|refine zP rfl trivial (fun hc => ?_) (fun hc => ?_)|refine zQ rfl trivial (fun hc => ?_) (fun hc => ?_)|refine zR rfl trivial (fun hc => ?_) (fun hc => ?_)|refine zS rfl trivial (fun hc => ?_) (fun hc => ?_)|refine zT ?_|refine zU ?_|refine zF rfl ?_ ?_|refine zH rfl ?_ ?_|refine zJ rfl ?_ ?_|refine zL rfl ?_ rfl ?_|refine zV rfl trivial rfl rfl rfl ?_|refine zW rfl rfl rfl rfl ?_|refine zX rfl rfl trivial rfl trivial rfl rfl rfl rfl rfl ?_
    | refine ao_call rfl (r_within _ _ _) rfl ?_ ?_
    |(show allP _; first | trivial | exact ob1 (fun h => h) | exact ob2 (fun h => h) (fun h => h) | exact ob1 (fun h => ⟨h.1, trivial⟩) | (simp only [obS]; first | omega | (intros; omega) | (simp only [obL]; first | omega | (intros; omega)) | (refine ⟨?_, ?_⟩ <;> intros <;> first | (with_reducible assumption) | omega) | ((repeat' refine And.intro ?_ ?_) <;> (intros; first | (with_reducible assumption) | omega | (simp only [obL]; omega))) | ((try simp only [obB] at *); (try simp only [Blk.len] at *); first | omega | (intros; omega)) | (simp_all; done))))
  · rw [Int.toNat_natCast] at hc
    have : properB (t.links.getD i default) t.nodes = false := by
      simp only [Bool.or_eq_true, Bool.not_eq_true'] at hc
      simp only [properB]
      grind
    (refine fin_ret ?_; exact ret1 (by rfl) (by (simp [validB, all_false_of (p := fun l => properB l t.nodes) (by omega : i < t.links.length) this])) (by rfl))
  · rename_i h1
    rw [Int.toNat_natCast] at hc h1
    have : properB (t.links.getD i default) t.nodes = false := by
      simp only [Bool.or_eq_true, Bool.not_eq_true'] at hc
      simp only [properB]
      grind
    (refine fin_ret ?_; exact ret1 (by rfl) (by (simp [validB, all_false_of (p := fun l => properB l t.nodes) (by omega : i < t.links.length) this])) (by rfl))
  · rename_i h1
    rw [Int.toNat_natCast] at hc h1
    refine ⟨i + 1, ⟨by omega, fun j hj => ?_⟩, by omega, ?_⟩
    · rcases Nat.lt_succ_iff_lt_or_eq.1 hj with h | rfl
      · exact hi2 j h
      · simp only [Bool.or_eq_false_iff, Bool.not_eq_false'] at hc h1
        simp only [properB]
        grind
    · refine weak_to ?_ ?_ rfl rfl
      · repeat (first | exact subF_nil | refine subF_cons (by first | rfl | (simp [look]; done)) ?_)
      · repeat (first | exact subS_nil | refine subS_cons (by first | rfl | (simp; done)) ?_)
  · (refine fin_ret ?_; exact ret1 (by rfl) (by (simp [validB, hb, all_true_of (p := fun l => properB l t.nodes) (d := default) fun k hk => hi2 k (by omega)])) (by rfl))

theorem r_Overloaded (t : Topo) (n : Int) : Ctr Tryd.prog 23 [topoD t, iD n] [] (.d (bD (overT t n))) := by
  refine spec_of envOK (Go.Wk.enters_of Tryd.func23 (by kernel_rfl) (by kernel_rfl)) Tryd.func23 rfl rfl _ rfl (Nat.le_of_ble_eq_true rfl) rfl fun w0 => ?_
  repeat' (first
  
    |refine zA ?_|refine zB ?_|refine zC (by kernel_rfl) (by kernel_rfl) ?_|refine zD ?_|refine zE ?_|refine zF rfl trivial ?_|refine zG ?_|refine zH rfl trivial ?_|refine zI ?_|refine zJ rfl trivial ?_|refine zK ?_|refine zL rfl trivial rfl ?_|refine zM ?_|refine zN rfl trivial ?_|refine zO rfl trivial ?_|refine zP rfl trivial (fun hc => ?_) (fun hc => ?_)|refine zQ rfl trivial (fun hc => ?_) (fun hc => ?_)|refine zR rfl trivial (fun hc => ?_) (fun hc => ?_)|refine zS rfl trivial (fun hc => ?_) (fun hc => ?_)|refine zT ?_|refine zU ?_|refine zF rfl ?_ ?_|refine zH rfl ?_ ?_|refine zJ rfl ?_ ?_|refine zL rfl ?_ rfl ?_|refine zV rfl trivial rfl rfl rfl ?_|refine zW rfl rfl rfl rfl ?_|refine zX rfl rfl trivial rfl trivial rfl rfl rfl rfl rfl ?_
    | refine ao_call rfl (r_Valid _) rfl ?_ ?_
    | refine aq_call rfl (r_Valid _) rfl ?_ ?_
    |(show allP _; first | trivial | exact ob1 (fun h => h) | exact ob2 (fun h => h) (fun h => h) | exact ob1 (fun h => ⟨h.1, trivial⟩) | (simp only [obS]; first | omega | (intros; omega) | (simp only [obL]; first | omega | (intros; omega)) | (refine ⟨?_, ?_⟩ <;> intros <;> first | (with_reducible assumption) | omega) | ((repeat' refine And.intro ?_ ?_) <;> (intros; first | (with_reducible assumption) | omega | (simp only [obL]; omega))) | ((try simp only [obB] at *); (try simp only [Blk.len] at *); first | omega | (intros; omega)) | (simp_all; done))))
  (refine fin_ret ?_; exact ret1 (by rfl) (by (simp only [overT]; cases validB t <;> cases decide (0 ≤ n) <;> cases decide (n < t.overload.length) <;> cases t.overload.getD n.toNat false <;> rfl)) (by rfl))

theorem r_Arcs (t : Topo) : Ctr Tryd.prog 47 [topoD t] [] (.d (iD (arcsT t))) := by
  refine spec_of envOK (Go.Wk.enters_of Tryd.func47 (by kernel_rfl) (by kernel_rfl)) Tryd.func47 rfl rfl _ rfl (Nat.le_of_ble_eq_true rfl) rfl fun w0 => ?_
  repeat' (first
  
    |refine zA ?_|refine zB ?_|refine zC (by kernel_rfl) (by kernel_rfl) ?_|refine zD ?_|refine zE ?_|refine zF rfl trivial ?_|refine zG ?_|refine zH rfl trivial ?_|refine zI ?_|refine zJ rfl trivial ?_|refine zK ?_|refine zL rfl trivial rfl ?_|refine zM ?_|refine zN rfl trivial ?_|refine zO rfl trivial ?_|refine zP rfl trivial (fun hc => ?_) (fun hc => ?_)|refine zQ rfl trivial (fun hc => ?_) (fun hc => ?_)|refine zR rfl trivial (fun hc => ?_) (fun hc => ?_)|refine zS rfl trivial (fun hc => ?_) (fun hc => ?_)|refine zT ?_|refine zU ?_|refine zF rfl ?_ ?_|refine zH rfl ?_ ?_|refine zJ rfl ?_ ?_|refine zL rfl ?_ rfl ?_|refine zV rfl trivial rfl rfl rfl ?_|refine zW rfl rfl rfl rfl ?_|refine zX rfl rfl trivial rfl trivial rfl rfl rfl rfl rfl ?_
    | refine ao_call rfl (r_Valid _) rfl ?_ ?_
    |(show allP _; first | trivial | exact ob1 (fun h => h) | exact ob2 (fun h => h) (fun h => h) | exact ob1 (fun h => ⟨h.1, trivial⟩) | (simp only [obS]; first | omega | (intros; omega) | (simp only [obL]; first | omega | (intros; omega)) | (refine ⟨?_, ?_⟩ <;> intros <;> first | (with_reducible assumption) | omega) | ((repeat' refine And.intro ?_ ?_) <;> (intros; first | (with_reducible assumption) | omega | (simp only [obL]; omega))) | ((try simp only [obB] at *); (try simp only [Blk.len] at *); first | omega | (intros; omega)) | (simp_all; done))))
  · (refine fin_ret ?_; exact ret1 (by rfl) (by (simp [arcsT, (by simpa using hc : validB t = false)])) (by rfl))
  · have := validB_head (by simpa using hc : validB t = true)
    first | trivial | exact ob1 (fun h => h) | exact ob2 (fun h => h) (fun h => h) | exact ob1 (fun h => ⟨h.1, trivial⟩) | (simp only [obS]; first | omega | (intros; omega) | (simp only [obL]; first | omega | (intros; omega)) | (refine ⟨?_, ?_⟩ <;> intros <;> first | (with_reducible assumption) | omega) | ((repeat' refine And.intro ?_ ?_) <;> (intros; first | (with_reducible assumption) | omega | (simp only [obL]; omega))) | ((try simp only [obB] at *); (try simp only [Blk.len] at *); first | omega | (intros; omega)) | (simp_all; done))
  · have hv : validB t = true := by simpa using hc
    (refine fin_ret ?_; exact ret1 (by rfl) (by (simp [arcsT, hv])) (by rfl))

theorem r_Tail (t : Topo) (a : Int) : Ctr Tryd.prog 20 [topoD t, iD a] [] (.d (iD (tailT t a))) := by
  refine spec_of envOK (Go.Wk.enters_of Tryd.func20 (by kernel_rfl) (by kernel_rfl)) Tryd.func20 rfl rfl _ rfl (Nat.le_of_ble_eq_true rfl) rfl fun w0 => ?_
  have hA := arcs_half t a
  repeat' (first
  
    |refine zA ?_|refine zB ?_|refine zC (by kernel_rfl) (by kernel_rfl) ?_|refine zD ?_|refine zE ?_|refine zF rfl trivial ?_|refine zG ?_|refine zH rfl trivial ?_|refine zI ?_|refine zJ rfl trivial ?_|refine zK ?_|refine zL rfl trivial rfl ?_|refine zM ?_|refine zN rfl trivial ?_|refine zO rfl trivial ?_|refine zP rfl trivial (fun hc => ?_) (fun hc => ?_)|refine zQ rfl trivial (fun hc => ?_) (fun hc => ?_)|refine zR rfl trivial (fun hc => ?_) (fun hc => ?_)|refine zS rfl trivial (fun hc => ?_) (fun hc => ?_)|refine zT ?_|refine zU ?_|refine zF rfl ?_ ?_|refine zH rfl ?_ ?_|refine zJ rfl ?_ ?_|refine zL rfl ?_ rfl ?_|refine zV rfl trivial rfl rfl rfl ?_|refine zW rfl rfl rfl rfl ?_|refine zX rfl rfl trivial rfl trivial rfl rfl rfl rfl rfl ?_
    | refine ao_call rfl (r_Arcs _) rfl ?_ ?_
    | refine aq_call rfl (r_Arcs _) rfl ?_ ?_
    |(show allP _; first | trivial | exact ob1 (fun h => h) | exact ob2 (fun h => h) (fun h => h) | exact ob1 (fun h => ⟨h.1, trivial⟩) | (simp only [obS]; first | omega | (intros; omega) | (simp only [obL]; first | omega | (intros; omega)) | (refine ⟨?_, ?_⟩ <;> intros <;> first | (with_reducible assumption) | omega) | ((repeat' refine And.intro ?_ ?_) <;> (intros; first | (with_reducible assumption) | omega | (simp only [obL]; omega))) | ((try simp only [obB] at *); (try simp only [Blk.len] at *); first | omega | (intros; omega)) | (simp_all; done))))
  · have hi : arcIn t a = false := by simp only [arcIn]; simp only [Bool.or_eq_true, decide_eq_true_eq] at hc; simp; omega
    (refine fin_ret ?_; exact ret1 (by rfl) (by simp [tailT, hi]) (by rfl))
  · rename_i h
    have hi : arcIn t a = true := by simp only [arcIn]; simp only [Bool.or_eq_false_iff, decide_eq_false_iff_not] at h; simp; omega
    (refine fin_ret ?_; exact ret1 (by rfl) (by simp [tailT, hi, hc, lkAt]) (by rfl))
  · rename_i h
    have hi : arcIn t a = true := by simp only [arcIn]; simp only [Bool.or_eq_false_iff, decide_eq_false_iff_not] at h; simp; omega
    (refine fin_ret ?_; exact ret1 (by rfl) (by simp [tailT, hi, hc, lkAt]) (by rfl))

theorem arcIn_iff {t : Topo} {a : Int} : arcIn t a = true ↔ 0 ≤ a ∧ a < arcsT t := by simp [arcIn]
theorem arcsT_even (t : Topo) : arcsT t % 2 = 0 := by
  unfold arcsT
  cases validB t <;> simp
theorem tail_flip {t : Topo} {a : Int} (h : arcIn t a = true) : tailT t (a / 2 * 2 + 1 - a % 2) = headT t a := by
  have h2 := arcIn_iff.1 h
  have h3 := arcsT_even t
  have h1 : arcIn t (a / 2 * 2 + 1 - a % 2) = true := arcIn_iff.2 (by omega)
  have hd : (a / 2 * 2 + 1 - a % 2) / 2 = a / 2 := by omega
  simp only [tailT, headT, h, h1, cond_true, lkAt, hd]
  by_cases hz : a % 2 = 0
  · have : (a / 2 * 2 + 1 - a % 2) % 2 ≠ 0 := by omega
    rw [decide_eq_false this, decide_eq_true hz]; rfl
  · have : (a / 2 * 2 + 1 - a % 2) % 2 = 0 := by omega
    rw [decide_eq_true this, decide_eq_false hz]; rfl

theorem r_Head (t : Topo) (a : Int) : Ctr Tryd.prog 21 [topoD t, iD a] [] (.d (iD (headT t a))) := by
  refine spec_of envOK (Go.Wk.enters_of Tryd.func21 (by kernel_rfl) (by kernel_rfl)) Tryd.func21 rfl rfl _ rfl (Nat.le_of_ble_eq_true rfl) rfl fun w0 => ?_
  have hA := arcs_half t a
  repeat' (first
  
    |refine zA ?_|refine zB ?_|refine zC (by kernel_rfl) (by kernel_rfl) ?_|refine zD ?_|refine zE ?_|refine zF rfl trivial ?_|refine zG ?_|refine zH rfl trivial ?_|refine zI ?_|refine zJ rfl trivial ?_|refine zK ?_|refine zL rfl trivial rfl ?_|refine zM ?_|refine zN rfl trivial ?_|refine zO rfl trivial ?_|refine zP rfl trivial (fun hc => ?_) (fun hc => ?_)|refine zQ rfl trivial (fun hc => ?_) (fun hc => ?_)|refine zR rfl trivial (fun hc => ?_) (fun hc => ?_)|refine zS rfl trivial (fun hc => ?_) (fun hc => ?_)|refine zT ?_|refine zU ?_|refine zF rfl ?_ ?_|refine zH rfl ?_ ?_|refine zJ rfl ?_ ?_|refine zL rfl ?_ rfl ?_|refine zV rfl trivial rfl rfl rfl ?_|refine zW rfl rfl rfl rfl ?_|refine zX rfl rfl trivial rfl trivial rfl rfl rfl rfl rfl ?_
    | refine ao_call rfl (r_Arcs _) rfl ?_ ?_
    | refine aq_call rfl (r_Arcs _) rfl ?_ ?_
    | refine ao_call rfl (r_Tail _ _) rfl ?_ ?_
    |(show allP _; first | trivial | exact ob1 (fun h => h) | exact ob2 (fun h => h) (fun h => h) | exact ob1 (fun h => ⟨h.1, trivial⟩) | (simp only [obS]; first | omega | (intros; omega) | (simp only [obL]; first | omega | (intros; omega)) | (refine ⟨?_, ?_⟩ <;> intros <;> first | (with_reducible assumption) | omega) | ((repeat' refine And.intro ?_ ?_) <;> (intros; first | (with_reducible assumption) | omega | (simp only [obL]; omega))) | ((try simp only [obB] at *); (try simp only [Blk.len] at *); first | omega | (intros; omega)) | (simp_all; done))))
  · have hi : arcIn t a = false := by simp only [arcIn]; simp only [Bool.or_eq_true, decide_eq_true_eq] at hc; simp; omega
    (refine fin_ret ?_; exact ret1 (by rfl) (by simp [headT, hi]) (by rfl))
  · have hi : arcIn t a = true := by simp only [arcIn]; simp only [Bool.or_eq_false_iff, decide_eq_false_iff_not] at hc; simp; omega
    (refine fin_ret ?_; exact ret1 (by rfl) (by (rw [tail_flip hi])) (by rfl))

theorem r_Cost (t : Topo) (a : Int) : Ctr Tryd.prog 22 [topoD t, iD a] [] (.d (iD (costT t a))) := by
  refine spec_of envOK (Go.Wk.enters_of Tryd.func22 (by kernel_rfl) (by kernel_rfl)) Tryd.func22 rfl rfl _ rfl (Nat.le_of_ble_eq_true rfl) rfl fun w0 => ?_
  have hA := arcs_half t a
  repeat' (first
  
    |refine zA ?_|refine zB ?_|refine zC (by kernel_rfl) (by kernel_rfl) ?_|refine zD ?_|refine zE ?_|refine zF rfl trivial ?_|refine zG ?_|refine zH rfl trivial ?_|refine zI ?_|refine zJ rfl trivial ?_|refine zK ?_|refine zL rfl trivial rfl ?_|refine zM ?_|refine zN rfl trivial ?_|refine zO rfl trivial ?_|refine zP rfl trivial (fun hc => ?_) (fun hc => ?_)|refine zQ rfl trivial (fun hc => ?_) (fun hc => ?_)|refine zR rfl trivial (fun hc => ?_) (fun hc => ?_)|refine zS rfl trivial (fun hc => ?_) (fun hc => ?_)|refine zT ?_|refine zU ?_|refine zF rfl ?_ ?_|refine zH rfl ?_ ?_|refine zJ rfl ?_ ?_|refine zL rfl ?_ rfl ?_|refine zV rfl trivial rfl rfl rfl ?_|refine zW rfl rfl rfl rfl ?_|refine zX rfl rfl trivial rfl trivial rfl rfl rfl rfl rfl ?_
    | refine ao_call rfl (r_Arcs _) rfl ?_ ?_
    | refine aq_call rfl (r_Arcs _) rfl ?_ ?_
    |(show allP _; first | trivial | exact ob1 (fun h => h) | exact ob2 (fun h => h) (fun h => h) | exact ob1 (fun h => ⟨h.1, trivial⟩) | (simp only [obS]; first | omega | (intros; omega) | (simp only [obL]; first | omega | (intros; omega)) | (refine ⟨?_, ?_⟩ <;> intros <;> first | (with_reducible assumption) | omega) | ((repeat' refine And.intro ?_ ?_) <;> (intros; first | (with_reducible assumption) | omega | (simp only [obL]; omega))) | ((try simp only [obB] at *); (try simp only [Blk.len] at *); first | omega | (intros; omega)) | (simp_all; done))))
  · have hi : arcIn t a = false := by simp only [arcIn]; simp only [Bool.or_eq_true, decide_eq_true_eq] at hc; simp; omega
    (refine fin_ret ?_; exact ret1 (by rfl) (by simp [costT, hi]) (by rfl))
  · have hi : arcIn t a = true := by simp only [arcIn]; simp only [Bool.or_eq_false_iff, decide_eq_false_iff_not] at hc; simp; omega
    rcases (by omega : a % 2 = 0 ∨ a % 2 = 1) with h | h
    · rw [h]
      repeat' (first
      
        |refine zA ?_|refine zB ?_|refine zC (by kernel_rfl) (by kernel_rfl) ?_|refine zD ?_|refine zE ?_|refine zF rfl trivial ?_|refine zG ?_|refine zH rfl trivial ?_|refine zI ?_|refine zJ rfl trivial ?_|refine zK ?_|refine zL rfl trivial rfl ?_|refine zM ?_|refine zN rfl trivial ?_|refine zO rfl trivial ?_|refine zP rfl trivial (fun hc => ?_) (fun hc => ?_)|refine zQ rfl trivial (fun hc => ?_) (fun hc => ?_)|refine zR rfl trivial (fun hc => ?_) (fun hc => ?_)|refine zS rfl trivial (fun hc => ?_) (fun hc => ?_)|refine zT ?_|refine zU ?_|refine zF rfl ?_ ?_|refine zH rfl ?_ ?_|refine zJ rfl ?_ ?_|refine zL rfl ?_ rfl ?_|refine zV rfl trivial rfl rfl rfl ?_|refine zW rfl rfl rfl rfl ?_|refine zX rfl rfl trivial rfl trivial rfl rfl rfl rfl rfl ?_
      
        |(show allP _; first | trivial | exact ob1 (fun h => h) | exact ob2 (fun h => h) (fun h => h) | exact ob1 (fun h => ⟨h.1, trivial⟩) | (simp only [obS]; first | omega | (intros; omega) | (simp only [obL]; first | omega | (intros; omega)) | (refine ⟨?_, ?_⟩ <;> intros <;> first | (with_reducible assumption) | omega) | ((repeat' refine And.intro ?_ ?_) <;> (intros; first | (with_reducible assumption) | omega | (simp only [obL]; omega))) | ((try simp only [obB] at *); (try simp only [Blk.len] at *); first | omega | (intros; omega)) | (simp_all; done))))
      (refine fin_ret ?_; exact ret1 (by rfl) (by simp [costT, hi, h, lkAt]) (by rfl))
    · rw [h]
      repeat' (first
      
        |refine zA ?_|refine zB ?_|refine zC (by kernel_rfl) (by kernel_rfl) ?_|refine zD ?_|refine zE ?_|refine zF rfl trivial ?_|refine zG ?_|refine zH rfl trivial ?_|refine zI ?_|refine zJ rfl trivial ?_|refine zK ?_|refine zL rfl trivial rfl ?_|refine zM ?_|refine zN rfl trivial ?_|refine zO rfl trivial ?_|refine zP rfl trivial (fun hc => ?_) (fun hc => ?_)|refine zQ rfl trivial (fun hc => ?_) (fun hc => ?_)|refine zR rfl trivial (fun hc => ?_) (fun hc => ?_)|refine zS rfl trivial (fun hc => ?_) (fun hc => ?_)|refine zT ?_|refine zU ?_|refine zF rfl ?_ ?_|refine zH rfl ?_ ?_|refine zJ rfl ?_ ?_|refine zL rfl ?_ rfl ?_|refine zV rfl trivial rfl rfl rfl ?_|refine zW rfl rfl rfl rfl ?_|refine zX rfl rfl trivial rfl trivial rfl rfl rfl rfl rfl ?_
      
        |(show allP _; first | trivial | exact ob1 (fun h => h) | exact ob2 (fun h => h) (fun h => h) | exact ob1 (fun h => ⟨h.1, trivial⟩) | (simp only [obS]; first | omega | (intros; omega) | (simp only [obL]; first | omega | (intros; omega)) | (refine ⟨?_, ?_⟩ <;> intros <;> first | (with_reducible assumption) | omega) | ((repeat' refine And.intro ?_ ?_) <;> (intros; first | (with_reducible assumption) | omega | (simp only [obL]; omega))) | ((try simp only [obB] at *); (try simp only [Blk.len] at *); first | omega | (intros; omega)) | (simp_all; done))))
      (refine fin_ret ?_; exact ret1 (by rfl) (by simp [costT, hi, h, lkAt]) (by rfl))

theorem ext_getD {a b : List Int} (h : a.length = b.length) (h2 : ∀ j, j < a.length → a.getD j 0 = b.getD j 0) : a = b := by
  apply List.ext_getElem h
  intro i h1 h3
  have := h2 i h1
  simpa [List.getD_eq_getElem?_getD, h1, h3] using this

theorem r_SameInts (a b : List Int) (hb : a.length ≤ 4611686018427387904) : Ctr Tryd.prog 15 [intsD a, intsD b] [] (.d (bD (decide (a = b)))) := by
  refine spec_of envOK (Go.Wk.enters_of Tryd.func15 (by kernel_rfl) (by kernel_rfl)) Tryd.func15 rfl rfl _ rfl (Nat.le_of_ble_eq_true rfl) rfl fun w0 => ?_
  repeat' (first
  
    |refine zA ?_|refine zB ?_|refine zC (by kernel_rfl) (by kernel_rfl) ?_|refine zD ?_|refine zE ?_|refine zF rfl trivial ?_|refine zG ?_|refine zH rfl trivial ?_|refine zI ?_|refine zJ rfl trivial ?_|refine zK ?_|refine zL rfl trivial rfl ?_|refine zM ?_|refine zN rfl trivial ?_|refine zO rfl trivial ?_|refine zP rfl trivial (fun hc => ?_) (fun hc => ?_)|refine zQ rfl trivial (fun hc => ?_) (fun hc => ?_)|refine zR rfl trivial (fun hc => ?_) (fun hc => ?_)|refine zS rfl trivial (fun hc => ?_) (fun hc => ?_)|refine zT ?_|refine zU ?_|refine zF rfl ?_ ?_|refine zH rfl ?_ ?_|refine zJ rfl ?_ ?_|refine zL rfl ?_ rfl ?_|refine zV rfl trivial rfl rfl rfl ?_|refine zW rfl rfl rfl rfl ?_|refine zX rfl rfl trivial rfl trivial rfl rfl rfl rfl rfl ?_
  
    |(show allP _; first | trivial | exact ob1 (fun h => h) | exact ob2 (fun h => h) (fun h => h) | exact ob1 (fun h => ⟨h.1, trivial⟩) | (simp only [obS]; first | omega | (intros; omega) | (simp only [obL]; first | omega | (intros; omega)) | (refine ⟨?_, ?_⟩ <;> intros <;> first | (with_reducible assumption) | omega) | ((repeat' refine And.intro ?_ ?_) <;> (intros; first | (with_reducible assumption) | omega | (simp only [obL]; omega))) | ((try simp only [obB] at *); (try simp only [Blk.len] at *); first | omega | (intros; omega)) | (simp_all; done))))
  · (refine fin_ret ?_; exact ret1 (by rfl) (by (have : ¬ a = b := fun h => hc (by rw [h]); simp [this])) (by rfl))
  refine aw_loop (ι := Nat) (fun i => [(5, [], .d (iD i)), (0, [], .d (intsD a)), (1, [], .d (intsD b))]) (fun _ => [])
    (fun i => i ≤ a.length ∧ ∀ j, j < i → a.getD j 0 = b.getD j 0) (fun i => a.length - i) 0 ⟨by omega, fun j hj => by omega⟩ (fun _ => Nat.le_of_ble_eq_true rfl) (by refine weak_to ?_ ?_ rfl rfl
                                                                                                                                                                       · repeat (first | exact subF_nil | refine subF_cons (by first | rfl | (simp [look]; done)) ?_)
                                                                                                                                                                       · repeat (first | exact subS_nil | refine subS_cons (by first | rfl | (simp; done)) ?_)) fun i hi => ?_
  obtain ⟨hi1, hi2⟩ := hi
  repeat' (first
  
    |refine zA ?_|refine zB ?_|refine zC (by kernel_rfl) (by kernel_rfl) ?_|refine zD ?_|refine zE ?_|refine zF rfl trivial ?_|refine zG ?_|refine zH rfl trivial ?_|refine zI ?_|refine zJ rfl trivial ?_|refine zK ?_|refine zL rfl trivial rfl ?_|refine zM ?_|refine zN rfl trivial ?_|refine zO rfl trivial ?_|refine zP rfl trivial (fun hc => ?_) (fun hc => ?_)|refine zQ rfl trivial (fun hc => ?_) (fun hc => ?_)|refine zR rfl trivial (fun hc => ?_) (fun hc => ?_)|refine zS rfl trivial (fun hc => ?_) (fun hc => ?_)|refine zT ?_|refine zU ?_|refine zF rfl ?_ ?_|refine zH rfl ?_ ?_|refine zJ rfl ?_ ?_|refine zL rfl ?_ rfl ?_|refine zV rfl trivial rfl rfl rfl ?_|refine zW rfl rfl rfl rfl ?_|refine zX rfl rfl trivial rfl trivial rfl rfl rfl rfl rfl ?_
  
    |(show allP _; first | trivial | exact ob1 (fun h => h) | exact ob2 (fun h => h) (fun h => h) | exact ob1 (fun h => ⟨h.1, trivial⟩) | (simp only [obS]; first | omega | (intros; omega) | (simp only [obL]; first | omega | (intros; omega)) | (refine ⟨?_, ?_⟩ <;> intros <;> first | (with_reducible assumption) | omega) | ((repeat' refine And.intro ?_ ?_) <;> (intros; first | (with_reducible assumption) | omega | (simp only [obL]; omega))) | ((try simp only [obB] at *); (try simp only [Blk.len] at *); first | omega | (intros; omega)) | (simp_all; done))))
  · rw [Int.toNat_natCast] at hc
    (refine fin_ret ?_; exact ret1 (by rfl) (by (have : ¬ a = b := (fun h => hc (by rw [h])); simp [this])) (by rfl))
  · rw [Int.toNat_natCast] at hc
    refine ⟨i + 1, ⟨by omega, fun j hj => ?_⟩, by omega, ?_⟩
    · rcases Nat.lt_succ_iff_lt_or_eq.1 hj with h | rfl
      · exact hi2 j h
      · exact hc
    · refine weak_to ?_ ?_ rfl rfl
      · repeat (first | exact subF_nil | refine subF_cons (by first | rfl | (simp [look]; done)) ?_)
      · repeat (first | exact subS_nil | refine subS_cons (by first | rfl | (simp; done)) ?_)
  · (refine fin_ret ?_; exact ret1 (by rfl) (by (have : a = b := (ext_getD (by omega) fun j hj => hi2 j (by omega)); simp [this])) (by rfl))

end Go.Proofs.YtcnfggpcploehaaDoor

/- The heap, plainly. -/
namespace Go.Wk
set_option maxRecDepth 10000

abbrev gI (l : List Int) (i : Int) : Int := l.getD i.toNat 0
def beforeB (keys : List Int) (i k : Int) : Bool := decide (gI keys i < gI keys k) || (decide (gI keys i = gI keys k) && decide (i < k))

def upF (keys : List Int) (i : Int) (items places : List Int) (at_ : Nat) : List Int × List Int :=
  if 0 < at_ ∧ beforeB keys i (items.getD ((at_ - 1) / 2) 0) = true then
    upF keys i (items.set at_ (items.getD ((at_ - 1) / 2) 0)) (places.set (items.getD ((at_ - 1) / 2) 0).toNat at_) ((at_ - 1) / 2)
  else (items.set at_ i, places.set i.toNat at_)
termination_by at_
decreasing_by omega

/-- The items are numbers below the size. -/
def okH (keys items places : List Int) : Prop := places.length = keys.length ∧ items.length ≤ 65536 ∧ ∀ k, k < items.length → 0 ≤ items.getD k 0 ∧ items.getD k 0 < keys.length

theorem getD_set {l : List Int} {m k : Nat} {v : Int} : (l.set m v).getD k 0 = if m = k ∧ k < l.length then v else l.getD k 0 := by
  simp only [List.getD_eq_getElem?_getD, List.getElem?_set]
  by_cases h : m = k
  · subst h
    by_cases h2 : m < l.length <;> simp [h2]
  · simp [h]
theorem okH_set {keys items places : List Int} (h : okH keys items places) {m p : Nat} {v q : Int} (hv : 0 ≤ v ∧ v < keys.length) : okH keys (items.set m v) (places.set p q) := by
  refine ⟨by simp [h.1], by simp [h.2.1], fun k hk => ?_⟩
  rw [getD_set]
  split
  · exact hv
  · exact h.2.2 k (by simpa using hk)

/-- The lesser child of a place. -/
def kidF (keys items : List Int) (at_ : Nat) : Nat :=
  if 2 * at_ + 2 < items.length ∧ beforeB keys (items.getD (2 * at_ + 2) 0) (items.getD (2 * at_ + 1) 0) = true then 2 * at_ + 2 else 2 * at_ + 1
theorem kidF_gt (keys items : List Int) (at_ : Nat) : at_ < kidF keys items at_ := by unfold kidF; split <;> omega

def downF (keys : List Int) (i : Int) (items places : List Int) (at_ : Nat) : List Int × List Int :=
  if kidF keys items at_ < items.length ∧ beforeB keys (items.getD (kidF keys items at_) 0) i = true then
    downF keys i (items.set at_ (items.getD (kidF keys items at_) 0)) (places.set (items.getD (kidF keys items at_) 0).toNat at_) (kidF keys items at_)
  else (items.set at_ i, places.set i.toNat at_)
termination_by items.length - at_
decreasing_by have := kidF_gt keys items at_; simp; omega


/-! ### Places -/

/-- Places and items tell of one another. -/
structure InvP (keys items places : List Int) : Prop where
  ok : okH keys items places
  at_ : ∀ k, k < items.length → places.getD (items.getD k 0).toNat 0 = k
  of : ∀ x, x < keys.length → places.getD x 0 < 0 ∨ ∃ k, k < items.length ∧ places.getD x 0 = (k : Int) ∧ items.getD k 0 = x

theorem InvP.inj {keys items places : List Int} (h : InvP keys items places) {j k : Nat} (hj : j < items.length) (hk : k < items.length) (he : items.getD j 0 = items.getD k 0) : j = k := by
  have h1 := h.at_ j hj
  have h2 := h.at_ k hk
  rw [he, h2] at h1
  omega

/-- One step upward or downward: the item at p moves to a, the item i (at a) to p. -/
theorem InvP.swap {keys items places : List Int} {i : Int} {a p : Nat} (ha : a < items.length) (hp : p < items.length) (hne : a ≠ p) (hi : 0 ≤ i ∧ i < keys.length)
    (h : InvP keys (items.set a i) (places.set i.toNat a)) :
    InvP keys ((items.set a (items.getD p 0)).set p i) ((places.set (items.getD p 0).toNat a).set i.toNat p) := by
  have hlp : places.length = keys.length := by simpa using h.ok.1
  have gp : (items.set a i).getD p 0 = items.getD p 0 := by rw [getD_set, if_neg (by omega)]
  have hq := h.ok.2.2 p (by simpa using hp)
  rw [gp] at hq
  have hqi : items.getD p 0 ≠ i := fun he => by
    have := h.inj (j := p) (k := a) (by simpa using hp) (by simpa using ha) (by rw [gp, getD_set, if_pos ⟨rfl, ha⟩]; exact he)
    omega
  have hql : (items.getD p 0).toNat < places.length := by omega
  have hil : i.toNat < places.length := by omega
  have hqn : (items.getD p 0).toNat ≠ i.toNat := by omega
  have getI : ∀ k, k < items.length → ((items.set a (items.getD p 0)).set p i).getD k 0 = if k = p then i else if k = a then items.getD p 0 else items.getD k 0 := by
    intro k hk
    rw [getD_set, getD_set]
    simp only [List.length_set]
    by_cases h1 : k = p
    · rw [if_pos ⟨h1.symm, hk⟩, if_pos h1]
    · rw [if_neg (by omega), if_neg h1]
      by_cases h2 : k = a
      · rw [if_pos ⟨h2.symm, hk⟩, if_pos h2]
      · rw [if_neg (by omega), if_neg h2]
  have getP : ∀ x, ((places.set (items.getD p 0).toNat a).set i.toNat p).getD x 0 = if x = i.toNat then (p : Int) else if x = (items.getD p 0).toNat then (a : Int) else places.getD x 0 := by
    intro x
    rw [getD_set, getD_set]
    simp only [List.length_set]
    by_cases h1 : x = i.toNat
    · rw [if_pos ⟨h1.symm, by omega⟩, if_pos h1]
    · rw [if_neg (by omega), if_neg h1]
      by_cases h2 : x = (items.getD p 0).toNat
      · rw [if_pos ⟨h2.symm, by omega⟩, if_pos h2]
      · rw [if_neg (by omega), if_neg h2]
  have ek : ∀ k, k ≠ a → (items.set a i).getD k 0 = items.getD k 0 := fun k hk => by rw [getD_set, if_neg (by omega)]
  refine ⟨⟨by simp [hlp], by simpa using h.ok.2.1, fun k hk => ?_⟩, fun k hk => ?_, fun x hx => ?_⟩
  · have hk' : k < items.length := by simpa using hk
    rw [getI k hk']
    split
    · exact hi
    · split
      · exact hq
      · rename_i h1 h2
        have := h.ok.2.2 k (by simpa using hk')
        rwa [ek k h2] at this
  · have hk' : k < items.length := by simpa using hk
    rw [getI k hk', getP]
    by_cases h1 : k = p
    · rw [if_pos h1, if_pos rfl, h1]
    · rw [if_neg h1]
      by_cases h2 : k = a
      · rw [if_pos h2, if_neg hqn, if_pos rfl, h2]
      · rw [if_neg h2]
        have e := h.at_ k (by simpa using hk')
        rw [ek k h2] at e
        have n1 : (items.getD k 0).toNat ≠ i.toNat := fun he => by
          rw [he, getD_set, if_pos ⟨rfl, by omega⟩] at e; omega
        have n2 : (items.getD k 0).toNat ≠ (items.getD p 0).toNat := fun he => by
          have e2 := h.at_ p (by simpa using hp)
          rw [gp] at e2
          rw [he, e2] at e; omega
        rw [if_neg n1, if_neg n2]
        rwa [getD_set, if_neg (by omega)] at e
  · rw [getP]
    by_cases h1 : x = i.toNat
    · rw [if_pos h1]
      exact .inr ⟨p, by simpa using hp, rfl, by rw [getI p hp, if_pos rfl]; omega⟩
    · rw [if_neg h1]
      by_cases h2 : x = (items.getD p 0).toNat
      · rw [if_pos h2]
        exact .inr ⟨a, by simpa using ha, rfl, by rw [getI a ha, if_neg hne, if_pos rfl]; omega⟩
      · rw [if_neg h2]
        have := h.of x hx
        rw [getD_set, if_neg (by omega)] at this
        rcases this with h3 | ⟨k, hk, e1, e2⟩
        · exact .inl h3
        · have hk' : k < items.length := by simpa using hk
          have hka : k ≠ a := fun he => by subst he; rw [getD_set, if_pos ⟨rfl, ha⟩] at e2; omega
          rw [getD_set, if_neg (by omega)] at e2
          have hkp : k ≠ p := fun he => by subst he; omega
          exact .inr ⟨k, by simpa using hk', e1, by rw [getI k hk', if_neg hkp, if_neg hka]; exact e2⟩

theorem InvP.sign {keys items places : List Int} {i : Int} {a p : Nat} (ha : a < items.length) (hp : p < items.length) (hne : a ≠ p) (hi : 0 ≤ i ∧ i < keys.length)
    (h : InvP keys (items.set a i) (places.set i.toNat a)) (x : Nat) :
    ((places.set (items.getD p 0).toNat a).set i.toNat p).getD x 0 < 0 ↔ (places.set i.toNat a).getD x 0 < 0 := by
  have hlp : places.length = keys.length := by simpa using h.ok.1
  have gp : (items.set a i).getD p 0 = items.getD p 0 := by rw [getD_set, if_neg (by omega)]
  have hq := h.ok.2.2 p (by simpa using hp)
  have e := h.at_ p (by simpa using hp)
  have hqi : items.getD p 0 ≠ i := fun he => by
    have := h.inj (j := p) (k := a) (by simpa using hp) (by simpa using ha) (by rw [gp, getD_set, if_pos ⟨rfl, ha⟩]; exact he)
    omega
  rw [gp] at hq e
  have hqn : i.toNat ≠ (items.getD p 0).toNat := by omega
  rw [getD_set, if_neg (by omega)] at e
  rw [getD_set, getD_set, getD_set]
  simp only [List.length_set]
  by_cases h1 : i.toNat = x
  · have hx : x < places.length := by omega
    simp only [h1, true_and, if_pos hx]; omega
  · simp only [h1, false_and, if_false]
    by_cases h2 : (items.getD p 0).toNat = x
    · have hx : x < places.length := by omega
      rw [if_pos ⟨h2, hx⟩, ← h2, e]; omega
    · rw [if_neg (by omega)]

theorem upF_inv {keys items places : List Int} {i : Int} {a : Nat} (ha : a < items.length) (hi : 0 ≤ i ∧ i < keys.length) (h : InvP keys (items.set a i) (places.set i.toNat a)) :
    InvP keys (upF keys i items places a).1 (upF keys i items places a).2 ∧ (upF keys i items places a).1.length = items.length ∧
      ∀ x, (upF keys i items places a).2.getD x 0 < 0 ↔ (places.set i.toNat a).getD x 0 < 0 := by
  induction a using Nat.strongRecOn generalizing items places with
  | _ a ih =>
    rw [upF]
    split
    · rename_i hc
      have hne : a ≠ (a - 1) / 2 := by omega
      have hs := h.swap ha (p := (a - 1) / 2) (by omega) hne hi
      obtain ⟨h1, h2, h3⟩ := ih ((a - 1) / 2) (by omega) (items := items.set a (items.getD ((a - 1) / 2) 0)) (places := places.set (items.getD ((a - 1) / 2) 0).toNat a) (by simp; omega) hs
      exact ⟨h1, by rw [h2]; simp, fun x => by rw [h3]; exact h.sign ha (by omega) hne hi x⟩
    · exact ⟨h, by simp, fun x => Iff.rfl⟩

theorem kidF_le {keys items : List Int} {a : Nat} : kidF keys items a = 2 * a + 1 ∨ kidF keys items a = 2 * a + 2 := by
  unfold kidF; split <;> omega

theorem downF_inv {keys items places : List Int} {i : Int} {a : Nat} (ha : a < items.length) (hi : 0 ≤ i ∧ i < keys.length) (h : InvP keys (items.set a i) (places.set i.toNat a)) :
    InvP keys (downF keys i items places a).1 (downF keys i items places a).2 ∧ (downF keys i items places a).1.length = items.length ∧
      ∀ x, (downF keys i items places a).2.getD x 0 < 0 ↔ (places.set i.toNat a).getD x 0 < 0 := by
  induction hm : items.length - a using Nat.strongRecOn generalizing items places a with
  | _ m ih =>
    rw [downF]
    split
    · rename_i hc
      have hgt := kidF_gt keys items a
      generalize kidF keys items a = c at hc hgt
      have hs := h.swap ha (p := c) hc.1 (by omega) hi
      obtain ⟨h1, h2, h3⟩ := ih (items.length - c) (by omega) (items := items.set a (items.getD c 0)) (places := places.set (items.getD c 0).toNat a) (a := c) (by simpa using hc.1) hs (by simp)
      exact ⟨h1, by rw [h2]; simp, fun x => by rw [h3]; exact h.sign ha hc.1 (by omega) hi x⟩
    · exact ⟨h, by simp, fun x => Iff.rfl⟩

/-! ### Order -/

theorem beforeB_iff {keys : List Int} {i k : Int} : beforeB keys i k = true ↔ gI keys i < gI keys k ∨ gI keys i = gI keys k ∧ i < k := by
  simp [beforeB]
theorem beforeB_not {keys : List Int} {i k : Int} : beforeB keys i k = false ↔ gI keys k < gI keys i ∨ gI keys i = gI keys k ∧ k ≤ i := by
  rw [← Bool.not_eq_true, beforeB_iff]; omega
theorem before_asymm {keys : List Int} {i k : Int} (h : beforeB keys i k = true) : beforeB keys k i = false := by
  rw [beforeB_iff] at h; rw [beforeB_not]; omega
theorem before_nt {keys : List Int} {i k l : Int} (h : beforeB keys k i = false) (h2 : beforeB keys l k = false) : beforeB keys l i = false := by
  rw [beforeB_not] at *; omega

/-- No item comes before its parent. -/
def Ord (keys items : List Int) : Prop := ∀ k, 0 < k → k < items.length → beforeB keys (items.getD k 0) (items.getD ((k - 1) / 2) 0) = false
/-- The same but for the item at a, which may come before its parent. -/
def OrdU (keys items : List Int) (a : Nat) : Prop :=
  (∀ k, 0 < k → k < items.length → k ≠ a → beforeB keys (items.getD k 0) (items.getD ((k - 1) / 2) 0) = false) ∧
  ∀ c, 0 < a → 0 < c → c < items.length → (c - 1) / 2 = a → beforeB keys (items.getD c 0) (items.getD ((a - 1) / 2) 0) = false
/-- The same but for the item at a, which may come behind its children. -/
def OrdD (keys items : List Int) (a : Nat) : Prop :=
  (∀ k, 0 < k → k < items.length → (k - 1) / 2 ≠ a → beforeB keys (items.getD k 0) (items.getD ((k - 1) / 2) 0) = false) ∧
  ∀ c, 0 < a → 0 < c → c < items.length → (c - 1) / 2 = a → beforeB keys (items.getD c 0) (items.getD ((a - 1) / 2) 0) = false

theorem swap_get {items : List Int} {i : Int} {a p : Nat} (ha : a < items.length) (hp : p < items.length) (hne : a ≠ p) (k : Nat) :
    ((items.set a (items.getD p 0)).set p i).getD k 0 = if k = p then (items.set a i).getD a 0 else if k = a then (items.set a i).getD p 0 else (items.set a i).getD k 0 := by
  rw [getD_set, getD_set, getD_set, getD_set, getD_set]
  simp only [List.length_set]
  by_cases h1 : k = p
  · subst h1; simp [hp, ha]
  · by_cases h2 : k = a
    · subst h2; simp [ha, h1, hne]; intro h; omega
    · simp [h1, h2, Ne.symm h1, Ne.symm h2]

theorem upF_ord {keys items places : List Int} {i : Int} {a : Nat} (ha : a < items.length) (h : OrdU keys (items.set a i) a) : Ord keys (upF keys i items places a).1 := by
  induction a using Nat.strongRecOn generalizing items places with
  | _ a ih =>
    rw [upF]
    have gi : (items.set a i).getD a 0 = i := by rw [getD_set, if_pos ⟨rfl, ha⟩]
    have go : ∀ k, k ≠ a → (items.set a i).getD k 0 = items.getD k 0 := fun k hk => by rw [getD_set, if_neg (by omega)]
    split
    · rename_i hc
      obtain ⟨h0, hb⟩ := hc
      refine ih ((a - 1) / 2) (by omega) (items := items.set a (items.getD ((a - 1) / 2) 0)) (by simp; omega) ?_
      have hp : (a - 1) / 2 < items.length := by omega
      have hne : a ≠ (a - 1) / 2 := by omega
      generalize hpd : (a - 1) / 2 = p at *
      have G := swap_get (i := i) ha hp hne
      obtain ⟨u1, u2⟩ := h
      have hpa := before_asymm hb
      refine ⟨fun k k0 kl kp => ?_, fun c p0 c0 cl cp => ?_⟩
      · have kl' : k < items.length := by simpa using kl
        rw [G, G, if_neg kp, gi]
        by_cases hka : k = a
        · subst hka
          rw [if_pos rfl, hpd, if_pos rfl, go p (Ne.symm hne)]
          exact hpa
        · rw [if_neg hka]
          by_cases q1 : (k - 1) / 2 = p
          · rw [if_pos q1]
            have := u1 k k0 (by simpa using kl') hka
            rw [q1, go p (Ne.symm hne)] at this
            exact before_nt hpa this
          · rw [if_neg q1]
            by_cases q2 : (k - 1) / 2 = a
            · rw [if_pos q2]
              have := u2 k h0 k0 (by simpa using kl') q2
              rwa [hpd] at this
            · rw [if_neg q2]
              exact u1 k k0 (by simpa using kl') hka
      · have cl' : c < items.length := by simpa using cl
        rw [G, G, gi]
        have e1 : (p - 1) / 2 ≠ p := by omega
        have e2 : (p - 1) / 2 ≠ a := by omega
        have hpp := u1 p p0 (by simpa using hp) (Ne.symm hne)
        rw [if_neg e1, if_neg e2]
        by_cases q1 : c = p
        · omega
        · rw [if_neg q1]
          by_cases q2 : c = a
          · rw [if_pos q2]; exact hpp
          · rw [if_neg q2]
            have := u1 c c0 (by simpa using cl') q2
            rw [cp] at this
            exact before_nt hpp this
    · rename_i hc
      intro k k0 kl
      have kl' : k < items.length := by simpa using kl
      by_cases hka : k = a
      · subst hka
        rw [gi, go _ (by omega)]
        cases hb : beforeB keys i (items.getD ((k - 1) / 2) 0) with
        | false => rfl
        | true => exact absurd ⟨k0, hb⟩ hc
      · exact h.1 k k0 (by simpa using kl') hka

theorem kidF_least {keys items : List Int} {a k : Nat} (hk : 0 < k) (hkl : k < items.length) (hp : (k - 1) / 2 = a) : beforeB keys (items.getD k 0) (items.getD (kidF keys items a) 0) = false := by
  have self : ∀ x : Int, beforeB keys x x = false := fun x => by rw [beforeB_not]; omega
  have h12 : k = 2 * a + 1 ∨ k = 2 * a + 2 := by omega
  unfold kidF
  split
  · rename_i h
    rcases h12 with h1 | h1
    · rw [h1]; exact before_asymm h.2
    · rw [h1]; exact self _
  · rename_i h
    rcases h12 with h1 | h1
    · rw [h1]; exact self _
    · rw [h1]
      cases hb : beforeB keys (items.getD (2 * a + 2) 0) (items.getD (2 * a + 1) 0) with
      | false => rfl
      | true => exact absurd ⟨by omega, hb⟩ h

theorem downF_ord {keys items places : List Int} {i : Int} {a : Nat} (ha : a < items.length) (h : OrdD keys (items.set a i) a) : Ord keys (downF keys i items places a).1 := by
  induction hm : items.length - a using Nat.strongRecOn generalizing items places a with
  | _ m ih =>
    rw [downF]
    have gi : (items.set a i).getD a 0 = i := by rw [getD_set, if_pos ⟨rfl, ha⟩]
    have go : ∀ k, k ≠ a → (items.set a i).getD k 0 = items.getD k 0 := fun k hk => by rw [getD_set, if_neg (by omega)]
    obtain ⟨u1, u2⟩ := h
    have least : ∀ k, 0 < k → k < items.length → (k - 1) / 2 = a → beforeB keys (items.getD k 0) (items.getD (kidF keys items a) 0) = false := fun k => kidF_least
    have hkp : (kidF keys items a - 1) / 2 = a := by rcases kidF_le (keys := keys) (items := items) (a := a) with h | h <;> omega
    have hgt := kidF_gt keys items a
    split
    · rename_i hc
      generalize kidF keys items a = c at hc hgt least hkp
      obtain ⟨hcl, hb⟩ := hc
      have hne : a ≠ c := by omega
      have G := swap_get (i := i) ha hcl hne
      have hpa := before_asymm hb
      refine ih (items.length - c) (by omega) (items := items.set a (items.getD c 0)) (a := c) (by simpa using hcl) ⟨fun k k0 kl kp => ?_, fun e c0 e0 el ep => ?_⟩ (by simp)
      · have kl' : k < items.length := by simpa using kl
        rw [G, G, gi, if_neg kp]
        by_cases q1 : k = c
        · subst q1
          rw [if_pos rfl, if_pos hkp, go k (by omega)]
          exact hpa
        · rw [if_neg q1]
          by_cases q2 : k = a
          · subst q2
            rw [if_pos rfl, if_neg (by omega)]
            exact u2 c k0 (by omega) (by simpa using hcl) hkp
          · rw [if_neg q2]
            by_cases q3 : (k - 1) / 2 = a
            · rw [if_pos q3, go k q2, go c (by omega)]
              exact least k k0 kl' q3
            · rw [if_neg q3]
              exact u1 k k0 (by simpa using kl') q3
      · have el' : e < items.length := by simpa using el
        rw [G, G, hkp]
        rw [if_neg (by omega), if_neg (by omega), if_neg hne, if_pos rfl]
        have := u1 e e0 (by simpa using el') (by omega)
        rwa [ep] at this
    · rename_i hc
      intro k k0 kl
      have kl' : k < items.length := by simpa using kl
      by_cases q : (k - 1) / 2 = a
      · rw [q, gi, go k (by omega)]
        have h1 := least k k0 kl' q
        have h2 : kidF keys items a < items.length := by
          rcases kidF_le (keys := keys) (items := items) (a := a) with h | h
          · omega
          · have : k = 2 * a + 1 ∨ k = 2 * a + 2 := by omega
            unfold kidF at h ⊢
            split at h
            · rename_i h3; rw [if_pos h3]; omega
            · omega
        cases hb : beforeB keys (items.getD (kidF keys items a) 0) i with
        | true => exact absurd ⟨h2, hb⟩ hc
        | false => exact before_nt hb h1
      · exact u1 k k0 (by simpa using kl') q

/-! ### Set -/

structure Hp where
  items : List Int
  keys : List Int
  places : List Int

def bumpF (h : Hp) (i : Nat) : Hp :=
  let a := (h.places.getD i 0).toNat
  let u := upF h.keys (h.items.getD a 0) h.items h.places a
  let b := (u.2.getD i 0).toNat
  let d := downF h.keys (u.1.getD b 0) u.1 u.2 b
  ⟨d.1, h.keys, d.2⟩
def setF (h : Hp) (i : Nat) (k : Int) : Hp :=
  if h.places.getD i 0 < 0 then bumpF ⟨h.items ++ [(i : Int)], h.keys.set i k, h.places.set i h.items.length⟩ i else bumpF ⟨h.items, h.keys.set i k, h.places⟩ i

theorem pigeon : ∀ (n : Nat) (l : List Nat), (∀ x ∈ l, x < n) → l.Nodup → l.length ≤ n
  | 0, l, h, _ => by cases l with
    | nil => simp
    | cons x r => exact absurd (h x (by simp)) (Nat.not_lt_zero x)
  | n + 1, l, h, hd => by
    by_cases hn : n ∈ l
    · have := pigeon n (l.erase n) (fun x hx => by
        have h1 := h x (List.mem_of_mem_erase hx)
        have h2 : x ≠ n := fun he => by subst he; exact (hd.not_mem_erase) hx
        omega) (hd.erase n)
      rw [List.length_erase_of_mem hn] at this
      omega
    · have := pigeon n l (fun x hx => by
        have h1 := h x hx
        have h2 : x ≠ n := fun he => by subst he; exact hn hx
        omega) hd
      omega

theorem InvP.len {keys items places : List Int} (h : InvP keys items places) : items.length ≤ keys.length := by
  have := pigeon keys.length (items.map Int.toNat) (fun x hx => by
    obtain ⟨y, hy, rfl⟩ := List.mem_map.1 hx
    obtain ⟨k, hk, rfl⟩ := List.mem_iff_getElem.1 hy
    have := h.ok.2.2 k hk
    simp only [List.getD_eq_getElem?_getD, List.getElem?_eq_getElem hk, Option.getD_some] at this
    omega) (by
    rw [List.Nodup, List.pairwise_iff_getElem]
    intro i j hi hj hij
    have hi' : i < items.length := by simpa using hi
    have hj' : j < items.length := by simpa using hj
    simp only [List.getElem_map]
    intro he
    have hi1 := h.ok.2.2 i hi'
    have hj1 := h.ok.2.2 j hj'
    simp only [List.getD_eq_getElem?_getD, List.getElem?_eq_getElem hi', List.getElem?_eq_getElem hj', Option.getD_some] at hi1 hj1
    have := h.inj (j := i) (k := j) hi' hj' (by
      simp only [List.getD_eq_getElem?_getD, List.getElem?_eq_getElem hi', List.getElem?_eq_getElem hj', Option.getD_some]
      omega)
    omega)
  simpa using this

theorem InvP.keys {keys keys' items places : List Int} (h : InvP keys items places) (hl : keys'.length = keys.length) : InvP keys' items places :=
  ⟨⟨by rw [hl]; exact h.ok.1, h.ok.2.1, fun k hk => by rw [hl]; exact h.ok.2.2 k hk⟩, h.at_, fun x hx => h.of x (by rw [← hl]; exact hx)⟩

theorem InvP.push {keys items places : List Int} {i : Nat} (h : InvP keys items places) (hn : keys.length ≤ 65536) (hi : i < keys.length) (hno : places.getD i 0 < 0) : InvP keys (items ++ [(i : Int)]) (places.set i items.length) := by
  have hlp := h.ok.1
  have gI' : ∀ k, k < items.length → (items ++ [(i : Int)]).getD k 0 = items.getD k 0 := fun k hk => by simp [List.getD_eq_getElem?_getD, List.getElem?_append_left hk]
  have gL : (items ++ [(i : Int)]).getD items.length 0 = i := by simp [List.getD_eq_getElem?_getD]
  have hne : ∀ k, k < items.length → (items.getD k 0).toNat ≠ i := fun k hk he => by
    have := h.at_ k hk
    rw [he] at this; omega
  have hlen : items.length < keys.length := by
    have hl := pigeon keys.length ((items.map Int.toNat) ++ [i]) (fun x hx => by
      rcases List.mem_append.1 hx with hx | hx
      · obtain ⟨y, hy, rfl⟩ := List.mem_map.1 hx
        obtain ⟨k, hk, rfl⟩ := List.mem_iff_getElem.1 hy
        have := h.ok.2.2 k hk
        simp only [List.getD_eq_getElem?_getD, List.getElem?_eq_getElem hk, Option.getD_some] at this
        omega
      · simp at hx; omega) (by
      rw [List.nodup_append]
      refine ⟨?_, by simp, ?_⟩
      · rw [List.Nodup, List.pairwise_iff_getElem]
        intro i j hi hj hij
        have hi' : i < items.length := by simpa using hi
        have hj' : j < items.length := by simpa using hj
        simp only [List.getElem_map]
        intro he
        have hi1 := h.ok.2.2 i hi'
        have hj1 := h.ok.2.2 j hj'
        simp only [List.getD_eq_getElem?_getD, List.getElem?_eq_getElem hi', List.getElem?_eq_getElem hj', Option.getD_some] at hi1 hj1
        have := h.inj (j := i) (k := j) hi' hj' (by
          simp only [List.getD_eq_getElem?_getD, List.getElem?_eq_getElem hi', List.getElem?_eq_getElem hj', Option.getD_some]
          omega)
        omega
      · intro x hx y hy he
        simp at hy; subst hy; subst he
        obtain ⟨z, hz, hze⟩ := List.mem_map.1 hx
        obtain ⟨p, hp', rfl⟩ := List.mem_iff_getElem.1 hz
        have := hne p hp'
        simp only [List.getD_eq_getElem?_getD, List.getElem?_eq_getElem hp', Option.getD_some] at this
        exact this hze)
    simp at hl; omega
  refine ⟨⟨by simp [hlp], by simp; omega, fun k hk => ?_⟩, fun k hk => ?_, fun x hx => ?_⟩
  · by_cases hkl : k < items.length
    · rw [gI' k hkl]; exact h.ok.2.2 k hkl
    · have : k = items.length := by simp at hk; omega
      subst this; rw [gL]; omega
  · by_cases hkl : k < items.length
    · rw [gI' k hkl, getD_set, if_neg (by have := hne k hkl; omega)]; exact h.at_ k hkl
    · have : k = items.length := by simp at hk; omega
      subst this
      rw [gL, getD_set, if_pos (by omega)]
  · rw [getD_set]
    by_cases hxi : i = x
    · rw [if_pos ⟨hxi, by omega⟩]
      exact .inr ⟨items.length, by simp, rfl, by rw [gL, hxi]⟩
    · rw [if_neg (by omega)]
      rcases h.of x hx with h1 | ⟨k, hk, h1, h2⟩
      · exact .inl h1
      · exact .inr ⟨k, by simp; omega, h1, by rw [gI' k hk]; exact h2⟩

theorem set_same {l : List Int} {k : Nat} {v : Int} (h : l.getD k 0 = v) : l.set k v = l := by
  apply List.ext_getElem (by simp)
  intro j h1 h2
  rw [List.getElem_set]
  split
  · rename_i hj; subst hj
    have : k < l.length := by simpa using h1
    simpa [List.getD_eq_getElem?_getD, this] using h.symm
  · rfl
theorem InvP.held {keys items places : List Int} (h : InvP keys items places) {x : Nat} (hx : x < keys.length) (h0 : 0 ≤ places.getD x 0) : (places.getD x 0).toNat < items.length ∧ items.getD (places.getD x 0).toNat 0 = x ∧ places.getD x 0 < items.length := by
  rcases h.of x hx with h1 | ⟨k, hk, h1, h2⟩
  · omega
  · rw [h1]; exact ⟨by simpa using hk, by simpa using h2, by omega⟩
theorem InvP.self {keys items places : List Int} (h : InvP keys items places) {a : Nat} (ha : a < items.length) : InvP keys (items.set a (items.getD a 0)) (places.set (items.getD a 0).toNat a) := by
  rw [set_same rfl, set_same (h.at_ a ha)]; exact h

theorem bump_up {keys items places : List Int} (h : InvP keys items places) {x : Nat} (hx : x < keys.length) (h0 : 0 ≤ places.getD x 0) :
    InvP keys (upF keys (items.getD (places.getD x 0).toNat 0) items places (places.getD x 0).toNat).1 (upF keys (items.getD (places.getD x 0).toNat 0) items places (places.getD x 0).toNat).2 ∧
      0 ≤ (upF keys (items.getD (places.getD x 0).toNat 0) items places (places.getD x 0).toNat).2.getD x 0 := by
  obtain ⟨h1, h2, h3⟩ := h.held hx h0
  have := upF_inv (keys := keys) (items := items) (places := places) (i := items.getD (places.getD x 0).toNat 0) h1 (h.ok.2.2 _ h1) (h.self h1)
  refine ⟨this.1, ?_⟩
  have h4 := this.2.2 x
  rw [set_same (h.at_ _ h1)] at h4
  omega

/-! ### Pop -/

def popF (h : Hp) : Hp :=
  let i := h.items.getD 0 0
  let last := h.items.getD (h.items.length - 1) 0
  let its := h.items.take (h.items.length - 1)
  let pls := h.places.set i.toNat (-1)
  if i = last then ⟨its, h.keys, pls⟩ else
  let d := downF h.keys last (its.set 0 last) (pls.set last.toNat 0) 0
  ⟨d.1, h.keys, d.2⟩

theorem upF_zero (keys items places : List Int) (i : Int) : upF keys i items places 0 = (items.set 0 i, places.set i.toNat 0) := by
  rw [upF, if_neg (by omega)]; rfl

end Go.Wk
