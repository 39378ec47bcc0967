/- Laid together: WkQ, WkR, WkS, WkT, WkU, WkV, Md, C09, C09a, R09. -/
import Derived.OrdersHeld
import Derived.Test.YtcnfggpcploehaaQ1

set_option linter.all false

/- The step over a call that writes into blocks of the caller's. -/
namespace Go.Wk
set_option maxRecDepth 10000
open Go.RowKit

section
variable {P : Program} {env : Env} {w0 : Base} {n : Nat} {l0 : List Oper} {K : Fr → List Blk → Prop} {l : List Oper} {F : Fr} {S : List Blk}

def renR (σ : List Nat) (ρ : Nat → Option Nat) (i : Nat) : Option Nat := (σ[i]?).bind ρ
def renA (σ : List Nat) (ρ ρ1 : Nat → Option Nat) (m : Nat) : Option Nat := match idxN σ m with
  | some i => ρ1 i
  | none => ρ m

theorem renA_in {σ : List Nat} (hn : nodupN σ = true) {ρ ρ1 : Nat → Option Nat} {i m : Nat} (h : σ[i]? = some m) : renA σ ρ ρ1 m = ρ1 i := by
  unfold renA
  cases hx : idxN σ m with
  | none => exact absurd (List.mem_of_getElem? h) (idxN_none hx)
  | some j => rw [nodupN_inj hn h (idxN_some hx)]
theorem renA_out {σ : List Nat} {ρ ρ1 : Nat → Option Nat} {m : Nat} (h : m ∉ σ) : renA σ ρ ρ1 m = ρ m := by
  unfold renA
  cases hx : idxN σ m with
  | none => rfl
  | some j => exact absurd (List.mem_of_getElem? (idxN_some hx)) h

theorem shape_renB {σ : List Nat} {b b' : Blk} (h : renB σ b = some b') : b'.esz = b.esz ∧ b'.len = b.len := by
  cases b <;> simp [renB] at h <;> first | (subst h; exact ⟨rfl, rfl⟩) | (split at h <;> simp at h; subst h; exact ⟨rfl, rfl⟩)

/-- The caller's store as the call sees it. -/
theorem sel_mem {ρ : Nat → Option Nat} {w : World} (hm : Mem w0 S ρ w) {σ : List Nat} (hnd : nodupN σ = true) {S0 X : List Blk} (h0 : renBs σ S0 = some X) (hX : selS S σ = some X) :
    Mem (Base.obj w S0 (renR σ ρ)) S0 (renR σ ρ) w ∧ (∀ i m : Nat, σ[i]? = some m → renR σ ρ i = ρ m ∧ shape S0 i = shape S m) ∧ σ.length = S0.length := by
  obtain ⟨hXl, hXg⟩ := renBs_get h0
  obtain ⟨hsl, hsg⟩ := selS_get hX
  have hlen : σ.length = S0.length := by omega
  have named : ∀ {i : Nat}, i < S0.length → ∃ m b b', σ[i]? = some m ∧ m < S.length ∧ S0[i]? = some b ∧ S[m]? = some b' ∧ renB σ b = some b' := by
    intro i hi
    have h1 : i < σ.length := by omega
    have h2 : i < X.length := by omega
    obtain ⟨k1, k2⟩ := hsg i _ (List.getElem?_eq_getElem h1)
    exact ⟨_, _, _, List.getElem?_eq_getElem h1, k1, List.getElem?_eq_getElem hi, by rw [k2]; exact List.getElem?_eq_getElem h2, hXg i _ _ (List.getElem?_eq_getElem hi) (List.getElem?_eq_getElem h2)⟩
  have hρ : ∀ {i m : Nat}, σ[i]? = some m → renR σ ρ i = ρ m := fun h => by simp [renR, h]
  have hsh : ∀ i m : Nat, σ[i]? = some m → renR σ ρ i = ρ m ∧ shape S0 i = shape S m := by
    intro i m hi
    refine ⟨hρ hi, ?_⟩
    obtain ⟨m', b, b', h1, _, h2, h3, h4⟩ := named (i := i) (by have := (List.getElem?_eq_some_iff.1 hi).1; omega)
    rw [hi] at h1; cases h1
    obtain ⟨k1, k2⟩ := shape_renB h4
    simp [shape, h2, h3, k1, k2]
  have hR : ∀ k, Rr S ρ w k → Rr S0 (renR σ ρ) w k := fun k hk => ⟨hk.1, fun i hi => by
    obtain ⟨m, _, _, h1, h2, _⟩ := named hi
    rw [hρ h1]; exact hk.2 m h2⟩
  refine ⟨⟨Kept.refl _, Nat.le_refl _, fun i b hi hb => ?_, fun i b hi hb => ?_, fun i j b hi hj hbi hbj => ?_, fun i blk hb => ?_⟩, hsh, hlen⟩
  · have hb' : pinOf S0 (renR σ ρ) i = some b := hb
    unfold pinOf at hb'
    split at hb'
    · rename_i cs hc; exact ⟨hb', cs, hc⟩
    · simp at hb'
  · obtain ⟨m, _, _, h1, h2, _⟩ := named hi
    exact ⟨.inr ⟨i, hi, hb⟩, (hm.lt m b h2 (by rw [← hρ h1]; exact hb)).2⟩
  · obtain ⟨m, _, _, h1, h2, _⟩ := named hi
    obtain ⟨m', _, _, h1', h2', _⟩ := named hj
    have := hm.inj m m' b h2 h2' (by rw [← hρ h1]; exact hbi) (by rw [← hρ h1']; exact hbj)
    subst this
    exact nodupN_inj hnd h1 h1'
  · obtain ⟨m, b, b', h1, h2, h3, h4, h5⟩ := named (List.getElem?_eq_some_iff.1 hb).1
    rw [hb] at h3; cases h3
    have h := hm.blk m b' h4
    have rowk : blk.isRow = true → b' = blk → RelBlk S0 (renR σ ρ) (Rr S0 (renR σ ρ) w) w i blk := by
      rintro hr rfl
      have key : (renR σ ρ i = none ∧ b'.len = 0) ∨ ∃ b c ty, renR σ ρ i = some b ∧ w.heap[b]? = some (.cells c ty (0, 0)) ∧ b'.len * b'.esz ≤ c.size ∧ (∀ i, i < b'.len → (b'.get i).length = b'.esz) ∧
          ∀ (i j : Nat) x, i < b'.len → (b'.get i)[j]? = some x → ∃ v, c[i * b'.esz + j]? = some v ∧ RelD (Rr S0 (renR σ ρ) w) w v x := by
        rw [hρ h1]
        rcases h.row hr with h | ⟨b, c, ty, k1, k2, k3, k4, k5⟩
        · exact .inl h
        · exact .inr ⟨b, c, ty, k1, k2, k3, k4, fun i j x hi hx => let ⟨v, hv, hr⟩ := k5 i j x hi hx; ⟨v, hv, hr.mono fun k hk => ⟨hR k hk, rfl⟩⟩⟩
      cases b' <;> first | (simp [Blk.isRow] at hr; done) | exact key
    cases blk with
    | gone => trivial
    | cells cs =>
      simp only [renB] at h5
      split at h5
      · rename_i cs' hcs
        simp at h5; subst h5
        obtain ⟨l1, l2⟩ := renL_get hcs
        obtain ⟨b, vals, ty, k1, k2, k3, k4⟩ := h
        refine ⟨b, vals, ty, by rw [hρ h1]; exact k1, k2, by omega, fun j v x hv hx => ?_⟩
        have hj : j < cs'.length := by have := (List.getElem?_eq_some_iff.1 hx).1; omega
        exact ren_bwd hsh hR (l2 j x _ hx (List.getElem?_eq_getElem hj)) (k4 j v _ hv (List.getElem?_eq_getElem hj))
      · simp at h5
    | ints k xs => exact rowk rfl (by simpa [renB] using h5.symm)
    | bools xs => exact rowk rfl (by simpa [renB] using h5.symm)
    | row e m g => exact rowk rfl (by simpa [renB] using h5.symm)

/-- What the call leaves, as the caller sees it. -/
theorem ret_mem {ρ ρ1 : Nat → Option Nat} {a : Act} {w w' : World} (hr : Rel w0 n F S ρ a w) {σ : List Nat} (hnd : nodupN σ = true) {S0 S1 X X1 S' : List Blk} {F' : Fr} (h0 : renBs σ S0 = some X) (hX : selS S σ = some X)
    (hF : killFs (rowNames σ S0) F = some F') (hq : quietS (rowNames σ S0) σ 0 S = true) (hk : kinds S0 S1) (hfl : bflats S1) (h1 : renBs σ S1 = some X1) (hS : setsO σ X1 S = some S')
    (hm1 : Mem (Base.obj w S0 (renR σ ρ)) S1 ρ1 w') :
    Rel w0 n F' S' (renA σ ρ ρ1) a w' ∧ (∀ i m : Nat, σ[i]? = some m → renA σ ρ ρ1 m = ρ1 i ∧ shape S' m = shape S1 i) := by
  obtain ⟨hm0, hsh0, hlen⟩ := sel_mem hr.mem hnd h0 hX
  obtain ⟨hXl, hXg⟩ := renBs_get h0
  obtain ⟨hX1l, hX1g⟩ := renBs_get h1
  obtain ⟨hsl, hsg⟩ := selS_get hX
  obtain ⟨hS'l, _, hS'in, hS'out⟩ := setsO_get hnd hS
  obtain ⟨hkl, hkc⟩ := kinds_get hk
  have inσ : ∀ {m : Nat}, m ∈ σ → ∃ i : Nat, σ[i]? = some m ∧ i < S0.length := fun h => by
    obtain ⟨i, hi, he⟩ := List.mem_iff_getElem.1 h
    exact ⟨i, by rw [List.getElem?_eq_getElem hi, he], by omega⟩
  have hin : ∀ {i m : Nat}, σ[i]? = some m → renA σ ρ ρ1 m = ρ1 i := fun h => renA_in hnd h
  have hout : ∀ {m : Nat}, m ∉ σ → renA σ ρ ρ1 m = ρ m := fun h => renA_out h
  -- a block of the caller's that the call may write
  have himp : ∀ k, (Base.obj w S0 (renR σ ρ)).imp k → ∃ i m : Nat, σ[i]? = some m ∧ m < S.length ∧ ρ m = some k := by
    rintro k ⟨i, hi, hb⟩
    have hi' : i < σ.length := by omega
    have hσ := List.getElem?_eq_getElem hi'
    refine ⟨i, _, hσ, (hsg i _ hσ).1, ?_⟩
    rw [← (hsh0 i _ hσ).1]; exact hb
  have hkeep : ∀ k, k < w.heap.size → (∀ i m : Nat, σ[i]? = some m → ρ m ≠ some k) → w'.heap[k]? = w.heap[k]? := fun k hk hno =>
    hm1.below.block k hk fun hi => by obtain ⟨i, m, h1, _, h2⟩ := himp k hi; exact hno i m h1 h2
  have hsz : w.heap.size ≤ w'.heap.size := hm1.below.size
  have hother : ∀ m b, m < S.length → m ∉ σ → ρ m = some b → w'.heap[b]? = w.heap[b]? := fun m b hm hno hb =>
    hkeep b (hr.mem.lt m b hm hb).2 fun i m' hi hb' => by
      have := hr.mem.inj m m' b hm (hsg i m' hi).1 hb hb'
      subst this; exact hno (List.mem_of_getElem? hi)
  have hown : ∀ i b : Nat, i < S1.length → ρ1 i = some b → w.heap.size ≤ b ∨ ∃ m, m ∈ σ ∧ m < S.length ∧ ρ m = some b := by
    intro i b hi hb
    rcases (hm1.lt i b hi hb).1 with h | h
    · exact .inl h
    · obtain ⟨j, m, h1, h2, h3⟩ := himp b h; exact .inr ⟨m, List.mem_of_getElem? h1, h2, h3⟩
  have hnew : ∀ k, k < w.heap.size → (∀ i, i < S.length → ρ i ≠ some k) → ∀ i, i < S1.length → ρ1 i ≠ some k := by
    intro k hk hno i hi hb
    rcases hown i k hi hb with h | ⟨m, _, h1, h2⟩
    · omega
    · exact hno m h1 h2
  have hshin : ∀ i m : Nat, σ[i]? = some m → shape S' m = shape S1 i := by
    intro i m hi
    have hi1 : i < S1.length := by have := (List.getElem?_eq_some_iff.1 hi).1; omega
    have hi2 : i < X1.length := by omega
    obtain ⟨k1, k2⟩ := shape_renB (hX1g i _ _ (List.getElem?_eq_getElem hi1) (List.getElem?_eq_getElem hi2))
    simp [shape, hS'in i m hi, List.getElem?_eq_getElem hi1, List.getElem?_eq_getElem hi2, k1, k2]
  have hσ1 : ∀ i m : Nat, σ[i]? = some m → renA σ ρ ρ1 m = ρ1 i ∧ shape S' m = shape S1 i := fun i m h => ⟨hin h, hshin i m h⟩
  have hR : ∀ k, Rr S ρ w k → Rr S' (renA σ ρ ρ1) w' k ∧ w'.heap[k]? = w.heap[k]? := by
    intro k hk
    refine ⟨⟨Nat.lt_of_lt_of_le hk.1 hsz, fun m hm => ?_⟩, hkeep k hk.1 fun i m hi => hk.2 m (hsg i m hi).1⟩
    by_cases hmem : m ∈ σ
    · obtain ⟨i, hi, hi'⟩ := inσ hmem
      rw [hin hi]; exact hnew k hk.1 hk.2 i (by omega)
    · rw [hout hmem]; exact hk.2 m (by omega)
  -- values that lead to no row that the call may have written
  have hval : ∀ {u : Value} {x : V}, (∀ m ∈ rowNames σ S0, x.uses m = false) → RelV S ρ (Rr S ρ w) w u x → RelV S' (renA σ ρ ρ1) (Rr S' (renA σ ρ ρ1) w') w' u x := by
    intro u x hno h
    refine h.mono hR fun m hu => ?_
    have hm := h.uses_lt m hu
    by_cases hmem : m ∈ σ
    · obtain ⟨i, hi, hi'⟩ := inσ hmem
      rcases rowNames_get hi hi' with hrow | ⟨cs, hcs⟩
      · rw [hno m hrow] at hu; cases hu
      · obtain ⟨cs', hcs', hcsl⟩ := hkc i cs hcs
        have hS0m := (hsh0 i m hi)
        obtain ⟨b, hb⟩ : ∃ b, ρ m = some b := by
          have hi2 : i < X.length := by omega
          have hx := hXg i _ _ hcs (List.getElem?_eq_getElem hi2)
          have hSm := (hsg i m hi).2
          rw [List.getElem?_eq_getElem hi2] at hSm
          have := hr.mem.blk m _ hSm
          simp only [renB] at hx
          split at hx
          · simp at hx; rw [← hx] at this; obtain ⟨b, _, _, hb, _⟩ := this; exact ⟨b, hb⟩
          · simp at hx
        have hpin : ρ1 i = some b := (hm1.pin i b hi' (by show pinOf S0 _ i = some b; simp [pinOf, hcs, hS0m.1, hb])).1
        refine ⟨by rw [hin hi, hpin, hb], by rw [hshin i m hi, ← hS0m.2]; simp [shape, hcs, hcs', Blk.esz, Blk.len], fun b' e c hb' h => ?_⟩
        rw [hb] at hb'; cases hb'
        obtain ⟨cc, ty, g1, g2, g3⟩ := h
        obtain ⟨b0, vals0, ty0, q1, q2, q3, _⟩ := hm0.blk i _ hcs
        rw [hS0m.1, hb] at q1; cases q1
        rw [g1] at q2
        simp only [Option.some.injEq, Obj.cells.injEq] at q2
        obtain ⟨b1, vals1, ty1, r1, r2, r3, _⟩ := hm1.blk i _ hcs'
        rw [hpin] at r1; cases r1
        refine ⟨_, _, r2, ?_, g3⟩
        have : cc.size = vals0.length := by rw [q2.1]; simp
        simp only [List.size_toArray]
        omega
    · refine ⟨hout hmem, by simp [shape, hS'out m hmem], fun b e c hb h => ?_⟩
      obtain ⟨cc, ty, h1, h2⟩ := h
      exact ⟨cc, ty, by rw [hother m b hm hmem hb]; exact h1, h2⟩
  have pair : ∀ {i m : Nat}, σ[i]? = some m → i < S0.length → ∃ b0 b1 x0 x1, S0[i]? = some b0 ∧ S1[i]? = some b1 ∧ S[m]? = some x0 ∧ S'[m]? = some x1 ∧ renB σ b0 = some x0 ∧ renB σ b1 = some x1 := by
    intro i m hi hi0
    have hi1 : i < S1.length := by omega
    have hi2 : i < X1.length := by omega
    have hi3 : i < X.length := by omega
    exact ⟨_, _, _, _, List.getElem?_eq_getElem hi0, List.getElem?_eq_getElem hi1, by rw [(hsg i m hi).2]; exact List.getElem?_eq_getElem hi3, by rw [hS'in i m hi]; exact List.getElem?_eq_getElem hi2,
      hXg i _ _ (List.getElem?_eq_getElem hi0) (List.getElem?_eq_getElem hi3), hX1g i _ _ (List.getElem?_eq_getElem hi1) (List.getElem?_eq_getElem hi2)⟩
  refine ⟨⟨⟨hr.fr.size, hr.fr.defers, fun t g v hl => ?_⟩, ⟨?_, ?_, ?_, ?_, ?_, ?_⟩⟩, hσ1⟩
  · obtain ⟨v', hl', h⟩ := killFs_get hF hl
    refine ⟨fun hg => ?_, (hr.fr.get t g v' hl').2⟩
    rcases h with rfl | ⟨rfl, hno⟩
    · exact .bot _
    · exact hval hno ((hr.fr.get t g v hl').1 hg)
  · refine ⟨hm1.below.os.trans hr.mem.below.os, hm1.below.tape.trans hr.mem.below.tape, hm1.below.output.trans hr.mem.below.output, Nat.le_trans hr.mem.below.size hsz, fun k hk hi => ?_⟩
    rw [← hr.mem.below.block k hk hi]
    refine hkeep k (Nat.lt_of_lt_of_le hk hr.mem.below.size) fun i m hσm hb => ?_
    rcases (hr.mem.lt m k (hsg i m hσm).1 hb).1 with h | h
    · omega
    · exact hi h
  · rw [hS'l]; exact hr.mem.np
  · intro m b hm hb
    obtain ⟨k1, cs, k2⟩ := hr.mem.pin m b hm hb
    by_cases hmem : m ∈ σ
    · obtain ⟨i, hi, hi'⟩ := inσ hmem
      obtain ⟨b0, b1, x0, x1, p1, p2, p3, p4, p5, p6⟩ := pair hi hi'
      rw [k2] at p3; cases p3
      cases b0 with
      | cells cs0 =>
        obtain ⟨cs', hcs', _⟩ := hkc i cs0 p1
        have hpin : ρ1 i = some b := (hm1.pin i b hi' (by show pinOf S0 _ i = some b; simp [pinOf, p1, (hsh0 i m hi).1, k1])).1
        refine ⟨by rw [hin hi, hpin], ?_⟩
        rw [hcs'] at p2; cases p2
        simp only [renB] at p6
        split at p6
        · simp at p6; subst p6; exact ⟨_, p4⟩
        · simp at p6
      | _ => simp [renB] at p5
    · exact ⟨by rw [hout hmem]; exact k1, cs, by rw [hS'out m hmem]; exact k2⟩
  · intro m b hm hb
    rw [hS'l] at hm
    by_cases hmem : m ∈ σ
    · obtain ⟨i, hi, hi'⟩ := inσ hmem
      rw [hin hi] at hb
      refine ⟨?_, (hm1.lt i b (by omega) hb).2⟩
      rcases hown i b (by omega) hb with h | ⟨m', _, h1, h2⟩
      · exact .inl (Nat.le_trans hr.mem.below.size h)
      · exact (hr.mem.lt m' b h1 h2).1
    · rw [hout hmem] at hb
      have := hr.mem.lt m b hm hb
      exact ⟨this.1, Nat.lt_of_lt_of_le this.2 hsz⟩
  · have mixed : ∀ {m m' b : Nat}, m ∈ σ → m' ∉ σ → m' < S.length → renA σ ρ ρ1 m = some b → renA σ ρ ρ1 m' = some b → False := by
      intro m m' b hmem hmem' hm' hb hb'
      obtain ⟨i, hi, hi'⟩ := inσ hmem
      rw [hin hi] at hb
      rw [hout hmem'] at hb'
      have h2 := (hr.mem.lt m' b hm' hb').2
      rcases hown i b (by omega) hb with h | ⟨m'', h0, h1, h3⟩
      · omega
      · have := hr.mem.inj m'' m' b h1 hm' h3 hb'
        subst this; exact hmem' h0
    intro m m' b hm hm' hb hb'
    rw [hS'l] at hm hm'
    by_cases hmem : m ∈ σ
    · by_cases hmem' : m' ∈ σ
      · obtain ⟨i, hi, hi'⟩ := inσ hmem
        obtain ⟨j, hj, hj'⟩ := inσ hmem'
        rw [hin hi] at hb; rw [hin hj] at hb'
        have := hm1.inj i j b (by omega) (by omega) hb hb'
        subst this; rw [hi] at hj; cases hj; rfl
      · exact (mixed hmem hmem' hm' hb hb').elim
    · by_cases hmem' : m' ∈ σ
      · exact (mixed hmem' hmem hm hb' hb).elim
      · rw [hout hmem] at hb; rw [hout hmem'] at hb'
        exact hr.mem.inj m m' b hm hm' hb hb'
  · intro m blk hb
    have hm : m < S.length := by have := (List.getElem?_eq_some_iff.1 hb).1; omega
    by_cases hmem : m ∈ σ
    · obtain ⟨i, hi, hi'⟩ := inσ hmem
      obtain ⟨b0, b1, x0, x1, p1, p2, p3, p4, p5, p6⟩ := pair hi hi'
      rw [hb] at p4; cases p4
      have h := hm1.blk i b1 p2
      have hf := bflats_get hfl p2
      have hρ := hin hi
      have rowk : b1.isRow = true → b1.flat → blk = b1 → RelBlk S' (renA σ ρ ρ1) (Rr S' (renA σ ρ ρ1) w') w' m blk := by
        rintro hrow hfl' rfl
        have key : (renA σ ρ ρ1 m = none ∧ blk.len = 0) ∨ ∃ b c ty, renA σ ρ ρ1 m = some b ∧ w'.heap[b]? = some (.cells c ty (0, 0)) ∧ blk.len * blk.esz ≤ c.size ∧ (∀ i, i < blk.len → (blk.get i).length = blk.esz) ∧
            ∀ (i j : Nat) x, i < blk.len → (blk.get i)[j]? = some x → ∃ v, c[i * blk.esz + j]? = some v ∧ RelD (Rr S' (renA σ ρ ρ1) w') w' v x := by
          rw [hρ]
          rcases h.row hrow with h | ⟨b, c, ty, k1, k2, k3, k4, k5⟩
          · exact .inl h
          · exact .inr ⟨b, c, ty, k1, k2, k3, k4, fun i j x hi hx => let ⟨v, hv, hr⟩ := k5 i j x hi hx; ⟨v, hv, by
              have hs := Blk.flat_get hfl' hi hx
              rw [RelD.valOf_eq hs hr]; exact RelD.of_scal hs _ _⟩⟩
        cases blk <;> first | (simp [Blk.isRow] at hrow; done) | exact key
      cases b1 with
      | gone => simp [renB] at p6; subst p6; trivial
      | cells cs =>
        simp only [renB] at p6
        split at p6
        · rename_i cs' hcs
          simp at p6; subst p6
          obtain ⟨l1, l2⟩ := renL_get hcs
          obtain ⟨b, vals, ty, k1, k2, k3, k4⟩ := h
          refine ⟨b, vals, ty, by rw [hρ]; exact k1, k2, by omega, fun j v x hv hx => ?_⟩
          have hj : j < cs.length := by have := (List.getElem?_eq_some_iff.1 hx).1; omega
          exact ren_fwd hσ1 (vflats_get hf (List.getElem?_eq_getElem hj)) (l2 j _ x (List.getElem?_eq_getElem hj) hx) (k4 j v _ hv (List.getElem?_eq_getElem hj))
        · simp at p6
      | ints k xs => exact rowk rfl hf (by simpa [renB] using p6.symm)
      | bools xs => exact rowk rfl hf (by simpa [renB] using p6.symm)
      | row e q g => exact rowk rfl hf (by simpa [renB] using p6.symm)
    · rw [hS'out m hmem] at hb
      have h := hr.mem.blk m blk hb
      have hρ := hout hmem
      have rowk : blk.isRow = true → RelBlk S' (renA σ ρ ρ1) (Rr S' (renA σ ρ ρ1) w') w' m blk := by
        intro hrow
        have key : (renA σ ρ ρ1 m = none ∧ blk.len = 0) ∨ ∃ b c ty, renA σ ρ ρ1 m = some b ∧ w'.heap[b]? = some (.cells c ty (0, 0)) ∧ blk.len * blk.esz ≤ c.size ∧ (∀ i, i < blk.len → (blk.get i).length = blk.esz) ∧
            ∀ (i j : Nat) x, i < blk.len → (blk.get i)[j]? = some x → ∃ v, c[i * blk.esz + j]? = some v ∧ RelD (Rr S' (renA σ ρ ρ1) w') w' v x := by
          rw [hρ]
          rcases h.row hrow with h | ⟨b, c, ty, k1, k2, k3, k4, k5⟩
          · exact .inl h
          · exact .inr ⟨b, c, ty, k1, by rw [hother m b hm hmem k1]; exact k2, k3, k4, fun i j x hi hx => let ⟨v, hv, hr⟩ := k5 i j x hi hx; ⟨v, hv, hr.mono hR⟩⟩
        cases blk <;> first | (simp [Blk.isRow] at hrow; done) | exact key
      cases blk with
      | gone => trivial
      | cells cs =>
        obtain ⟨b, vals, ty, k1, k2, k3, k4⟩ := h
        have hno : noneUse (rowNames σ S0) cs = true := by
          rcases quietS_get hq hb with h | h
          · rw [Nat.zero_add] at h; exact absurd h hmem
          · exact h
        exact ⟨b, vals, ty, by rw [hρ]; exact k1, by rw [hother m b hm hmem k1]; exact k2, k3, fun j v x hv hx => hval (fun m' hm' => noneUse_get hno hm' hx) (k4 j v x hv hx)⟩
      | ints k xs => exact rowk rfl
      | bools xs => exact rowk rfl
      | row e q g => exact rowk rfl

/-- What a call over the caller's own values is. -/
def vargs (F : Fr) (g : List Bool) : List Operand → Option (List V × List Prop)
  | [] => some ([], [])
  | x :: r => match rd F g x with
    | some (v, p) => match vargs F g r with
      | some (vs, q) => some (v :: vs, p ++ q)
      | none => none
    | none => none
theorem vargs_sound {ρ : Nat → Option Nat} {w : World} {a : Act} (hf : FrOK n F S ρ a w) {xs : List Operand} {vs : List V} {os : List Prop} (h : vargs F [] xs = some (vs, os)) (ho : allP os) :
    (xs.map a.eval).length = vs.length ∧ ∀ (i : Nat) u x, (xs.map a.eval)[i]? = some u → vs[i]? = some x → RelV S ρ (Rr S ρ w) w u x := by
  induction xs generalizing vs os with
  | nil => simp [vargs] at h; obtain ⟨rfl, rfl⟩ := h; simp
  | cons x r ih =>
    simp only [vargs] at h
    split at h
    · rename_i v p hv
      split at h
      · rename_i vs' q hq
        simp at h; obtain ⟨rfl, rfl⟩ := h
        obtain ⟨hp, hq'⟩ := allP_append ho
        obtain ⟨h1, h2⟩ := ih hq hq'
        refine ⟨by simpa using h1, fun i u y hu hy => ?_⟩
        cases i with
        | zero => simp at hu hy; subst hu hy; exact rd_sound hf hv hp trivial
        | succ i => exact h2 i u y (by simpa using hu) (by simpa using hy)
      · simp at h
    · simp at h

def isCallV (F : Fr) (o : Oper) : Option (FuncId × List V × List Prop) :=
  match o.guard, o.op with
  | none, .call c => match calleeF F [] c.callee with
    | some (f, p) => match vargs F [] c.args.toList with
      | some (vs, q) => some (f, vs, p ++ q)
      | none => none
    | none => none
  | _, _ => none

theorem renV_fwd {S' S1 : List Blk} {σ : List Nat} {ρ' ρ1 : Nat → Option Nat} {R R' : Nat → Prop} {w : World} (hσ : ∀ i m : Nat, σ[i]? = some m → ρ' m = ρ1 i ∧ shape S' m = shape S1 i)
    {u : Value} {v v' : V} (hf : rflat v = true) (h : renV σ v = some v') (hu : RelV S1 ρ1 R w u v) : RelV S' ρ' R' w u v' := by
  cases v with
  | tup vs =>
    simp only [renV] at h
    split at h
    · rename_i us hus
      simp at h; subst h
      obtain ⟨l1, l2⟩ := renL_get hus
      cases hu with
      | tup vals _ hl hr =>
        refine .tup vals us (by omega) fun i a b ha hb => ?_
        have hi : i < vs.length := by have := (List.getElem?_eq_some_iff.1 hb).1; omega
        exact ren_fwd hσ (vflats_get hf (List.getElem?_eq_getElem hi)) (l2 i _ b (List.getElem?_eq_getElem hi) hb) (hr i a _ ha (List.getElem?_eq_getElem hi))
    · simp at h
  | d x => exact ren_fwd hσ (v := .d x) hf (by simpa [renV, renS] using h) hu
  | nil => exact ren_fwd hσ (v := .nil) hf (by simpa [renV, renS] using h) hu
  | bot => exact ren_fwd hσ (v := .bot) hf (by simpa [renV] using h) hu
  | agg cs => exact ren_fwd hσ (v := .agg cs) hf (by simpa [renV] using h) hu
  | ptr a b => exact ren_fwd hσ (v := .ptr a b) hf (by simpa [renV] using h) hu
  | ep a b c => exact ren_fwd hσ (v := .ep a b c) hf (by simpa [renV] using h) hu
  | own a => exact ren_fwd hσ (v := .own a) hf (by simpa [renV] using h) hu
  | sl a b c => exact ren_fwd hσ (v := .sl a b c) hf (by simpa [renV] using h) hu
  | rp c => exact ren_fwd hσ (v := .rp c) hf (by simpa [renV] using h) hu
  | clo f c => exact ren_fwd hσ (v := .clo f c) hf (by simpa [renV] using h) hu

theorem callO_core {o : Oper} {f : FuncId} {as0 avs : List V} {os : List Prop} {S0 S1 X X1 S' : List Blk} {rv rv' : V} {F' : Fr} (h : isCallV F o = some (f, avs, os)) (sp : CtrO P f as0 S0 S1 rv) (σ : List Nat) (ho : allP os) (hnd : nodupN σ = true)
    (ha : renL σ as0 = some avs) (h0 : renBs σ S0 = some X) (hX : selS S σ = some X) (hF : killFs (rowNames σ S0) F = some F') (hq : quietS (rowNames σ S0) σ 0 S = true) (hk : kinds S0 S1) (hfl : bflats S1)
    (h1 : renBs σ S1 = some X1) (hS : setsO σ X1 S = some S') (hrf : rflat rv = true) (hrv : renV σ rv = some rv')
    (k : EnvOK P env → ∀ ρ a w u, Rel w0 n F' S' ρ a w → RelV S' ρ (Rr S' ρ w) w u rv' → wpList P l0.toArray (fun e a' w' => e = .normal ∧ ∃ F'' S'' ρ'', Rel w0 n F'' S'' ρ'' a' w' ∧ K F'' S'') l (a.put o.dst u) w) : AO P env w0 n l0 K (o :: l) F S := by
  intro hE ρ a w hr
  unfold isCallV at h
  split at h
  · rename_i c hg hop
    split at h
    · rename_i f' p hc
      split at h
      · rename_i vs' q hq'
        simp at h
        obtain ⟨rfl, rfl, rfl⟩ := h
        obtain ⟨hp, hqq⟩ := allP_append ho
        obtain ⟨x, hx, hxv⟩ := calleeF_sound (g := []) hr.fr trivial hc hp
        obtain ⟨cal, args, ts⟩ := c
        simp only at hx; subst hx
        refine wpList_plain hg fun K' hK => ?_
        unfold Oper.wp
        rw [run_call sp.1 hop hxv]
        obtain ⟨d1, d2⟩ := vargs_sound hr.fr hq' hqq
        obtain ⟨hm0, hsh0, hlen⟩ := sel_mem hr.mem hnd h0 hX
        obtain ⟨e1, e2⟩ := renL_get ha
        have hR : ∀ k, Rr S ρ w k → Rr S0 (renR σ ρ) w k := fun k hk => ⟨hk.1, fun i hi => by
          have hi' : i < σ.length := by omega
          rw [(hsh0 i _ (List.getElem?_eq_getElem hi')).1]
          exact hk.2 _ ((selS_get hX).2 i _ (List.getElem?_eq_getElem hi')).1⟩
        have hda : RelVs S0 (renR σ ρ) w (args.toList.map a.eval) as0 := ⟨by simp at d1; simp; omega, fun i u y hu hy => by
          have hi : i < vs'.length := by have := (List.getElem?_eq_some_iff.1 hy).1; omega
          exact ren_bwd hsh0 hR (e2 i y _ hy (List.getElem?_eq_getElem hi)) (d2 i u _ hu (List.getElem?_eq_getElem hi))⟩
        have := sp.2 w _ (renR σ ρ) hm0 hda
        have harr : (args.toList.map a.eval).toArray = args.map a.eval := by apply Array.ext'; simp
        rw [harr] at this
        refine this.mono ?_
        rintro e w'' ⟨v, ρ1, rfl, hm1, hv⟩
        obtain ⟨hr', hσ1⟩ := ret_mem hr hnd h0 hX hF hq hk hfl h1 hS hm1
        refine hK _ _ ?_
        exact k hE _ a w'' v hr' (renV_fwd hσ1 hrf hrv hv)
      · simp at h
    · simp at h
  · simp at h

theorem ao_callO {o : Oper} {f : FuncId} {as0 avs : List V} {os : List Prop} {S0 S1 X X1 S' : List Blk} {rv rv' : V} {F' : Fr} {d : Nat} (h : isCallV F o = some (f, avs, os)) (sp : CtrO P f as0 S0 S1 rv) (σ : List Nat) (ho : allP os) (hnd : nodupN σ = true)
    (ha : renL σ as0 = some avs) (h0 : renBs σ S0 = some X) (hX : selS S σ = some X) (hF : killFs (rowNames σ S0) F = some F') (hq : quietS (rowNames σ S0) σ 0 S = true) (hk : kinds S0 S1) (hfl : bflats S1)
    (h1 : renBs σ S1 = some X1) (hS : setsO σ X1 S = some S') (hrf : rflat rv = true) (hrv : renV σ rv = some rv') (hd : o.dst = some d) (hdn : Nat.blt d n = true)
    (k : AO P env w0 n l0 K l ((d, [], rv') :: F') S') : AO P env w0 n l0 K (o :: l) F S := by
  refine callO_core h sp σ ho hnd ha h0 hX hF hq hk hfl h1 hS hrf hrv fun hE ρ a w u hr hu => ?_
  rw [hd]
  exact k hE ρ _ w ⟨hr.fr.put (Nat.le_of_ble_eq_true hdn) ⟨fun _ => hu, fun h => absurd trivial h⟩, hr.mem⟩
theorem ao_callN {o : Oper} {f : FuncId} {as0 avs : List V} {os : List Prop} {S0 S1 X X1 S' : List Blk} {rv rv' : V} {F' : Fr} (h : isCallV F o = some (f, avs, os)) (sp : CtrO P f as0 S0 S1 rv) (σ : List Nat) (ho : allP os) (hnd : nodupN σ = true)
    (ha : renL σ as0 = some avs) (h0 : renBs σ S0 = some X) (hX : selS S σ = some X) (hF : killFs (rowNames σ S0) F = some F') (hq : quietS (rowNames σ S0) σ 0 S = true) (hk : kinds S0 S1) (hfl : bflats S1)
    (h1 : renBs σ S1 = some X1) (hS : setsO σ X1 S = some S') (hrf : rflat rv = true) (hrv : renV σ rv = some rv') (hd : o.dst = none)
    (k : AO P env w0 n l0 K l F' S') : AO P env w0 n l0 K (o :: l) F S := by
  refine callO_core h sp σ ho hnd ha h0 hX hF hq hk hfl h1 hS hrf hrv fun hE ρ a w u hr hu => ?_
  rw [hd]
  exact k hE ρ _ w hr

end
end Go.Wk

/- Regions that draw their order and write into rows. -/
namespace Go.Wk
set_option maxRecDepth 10000
open Go.RowKit

/-- The worlds in which such a region stands. -/
def Cls (N : List Nat) (ρ : Nat → Option Nat) (ws w : World) : Prop := w.heap.size = ws.heap.size ∧ Sm N ρ ws w
theorem Cls.refl (N : List Nat) (ρ : Nat → Option Nat) (w : World) : Cls N ρ w w := ⟨rfl, fun _ _ _ => rfl⟩
theorem Cls.sm {N : List Nat} {ρ : Nat → Option Nat} {ws w w' : World} (h : Cls N ρ ws w) (h' : Cls N ρ ws w') : Sm N ρ w w' := fun k hk hno => by
  rw [h'.2 k (by rw [← h.1]; exact hk) hno, h.2 k (by rw [← h.1]; exact hk) hno]

/-- Which operations are taken in the order of the text (false), and which come up alone (true). -/
def planB (md : Region.Mode) (ops : Array Oper) : Nat → List Bool → Array Bool → Bool
  | _, [], listed => (Region.ready md ops listed).isEmpty
  | k, false :: r, listed => (Region.ready md ops listed).contains k && Region.free md ops listed k && planB md ops (k + 1) r (listed.setIfInBounds k true)
  | k, true :: r, listed => decide (Region.ready md ops listed = [k]) && planB md ops (k + 1) r (listed.setIfInBounds k true)

def wpMix (P : Program) (ops : Array Oper) (C : World → Prop) (Q : Exit → Act → World → Prop) : List Bool → List Oper → Act → World → Prop
  | false :: r, o :: l, a, w => C w ∧ ∃ v, YieldsIf P ops C o v a ∧ wpMix P ops C Q r l (a.put o.dst v) w
  | true :: r, o :: l, a, w => o.guard = none ∧ o.wp P a w (fun a' w' => C w' ∧ wpMix P ops C Q r l a' w') Q
  | [], _, a, w => Q .normal a w
  | _, _, _, _ => False

theorem wpAnyH_of_mix {P : Program} {ops : Array Oper} {md : Region.Mode} {C : World → Prop} {Q : Exit → Act → World → Prop} (hs : Region.noSelect ops = true) (hQ : ∀ c a w, ¬ Q (.panic c) a w) :
    ∀ (pl : List Bool) (k : Nat) (l : List Oper) (listed : Array Bool) (a : Act) (w : World), (∀ j, l[j]? = ops[k + j]?) → planB md ops k pl listed = true → wpMix P ops C Q pl l a w → wpAnyH P md ops Q C pl.length listed a w
  | [], k, l, listed, a, w, _, hB, h => ⟨by simpa [planB] using hB, h⟩
  | false :: r, k, [], listed, a, w, _, _, h => h.elim
  | true :: r, k, [], listed, a, w, _, _, h => h.elim
  | false :: r, k, o :: l, listed, a, w, hl, hB, h => by
    have h0 : ops[k]? = some o := by simpa using (hl 0).symm
    simp only [planB, Bool.and_eq_true] at hB
    obtain ⟨⟨h1, h2⟩, h3⟩ := hB
    obtain ⟨hC, v, hy, hK⟩ := h
    exact wpAnyH_take h0 hs h2 h1 (fun c a w h => absurd h (hQ c _ w)) hy hC
      (wpAnyH_of_mix hs hQ r (k + 1) l _ _ _ (fun j => by have := hl (j + 1); simpa [Nat.add_assoc, Nat.add_comm 1 j] using this) h3 hK)
  | true :: r, k, o :: l, listed, a, w, hl, hB, h => by
    have h0 : ops[k]? = some o := by simpa using (hl 0).symm
    simp only [planB, Bool.and_eq_true, decide_eq_true_eq] at hB
    obtain ⟨h1, h2⟩ := hB
    obtain ⟨hg, hw⟩ := h
    refine wpAnyH_all h1 (by simp) fun i hi => ?_
    simp at hi; subst hi
    unfold wpOp
    simp only [h0, Region.wanted, hg, if_true]
    refine .inl (Oper.wp_mono (fun a' w' h' => ⟨h'.1, ?_⟩) hw)
    exact wpAnyH_of_mix hs hQ r (i + 1) l _ _ _ (fun j => by have := hl (j + 1); simpa [Nat.add_assoc, Nat.add_comm 1 j] using this) h2 h'.2

section
variable {P : Program} {env : Env} {w0 : Base} {n : Nat} {l0 : List Oper} {K : Fr → List Blk → Prop} {l : List Oper} {F : Fr} {S : List Blk}

def AM (P : Program) (env : Env) (w0 : Base) (n : Nat) (l0 : List Oper) (N : List Nat) (K : Fr → List Blk → Prop) (pl : List Bool) (l : List Oper) (F : Fr) (S : List Blk) : Prop :=
  EnvOK P env → (∀ m ∈ N, m < S.length) → ∀ ρ a w ws, Rel w0 n F S ρ a w → Cls N ρ ws w → wpMix P l0.toArray (Cls N ρ ws) (fun e a' w' => e = .normal ∧ ∃ F' S' ρ', Rel w0 n F' S' ρ' a' w' ∧ K F' S') pl l a w

theorem am_nil {N : List Nat} (h : K F S) : AM P env w0 n l0 N K [] l F S := fun _ _ ρ _ _ _ hr _ => ⟨rfl, F, S, ρ, hr, h⟩
theorem am_op {N : List Nat} {pl : List Bool} {o : Oper} {F' : Fr} {os : List Prop} (h : stepQ env n l0 F S o = some (F', os)) (ho : allP os) (hoff : offS l0 N F o = true) (k : AM P env w0 n l0 N K pl l F' S) : AM P env w0 n l0 N K (false :: pl) (o :: l) F S := by
  intro hE hN ρ a w ws hr hc
  refine ⟨hc, ?_⟩
  obtain (⟨hw, val, hq, hr'⟩ | ⟨hw, hr'⟩) := stepN_sound (P := P) hE h ho hN hoff hr
  · exact ⟨val, .inl ⟨hw, fun w' hc' => hq w' (hc.sm hc')⟩, k hE hN ρ _ w ws hr' hc⟩
  · exact ⟨undef, .inr ⟨hw, rfl⟩, k hE hN ρ _ w ws hr' hc⟩
theorem am_steps {N : List Nat} {pl : List Bool} {o : Oper} {F' : Fr} {S' : List Blk} {nm : Nat} (hg : o.guard = none) (h : EnvOK P env → StepsIn P n o F S F' S' nm) (hmem : memN N nm = true) (hlen : S'.length = S.length)
    (k : AM P env w0 n l0 N K pl l F' S') : AM P env w0 n l0 N K (true :: pl) (o :: l) F S := by
  intro hE hN ρ a w ws hr hc
  refine ⟨hg, ?_⟩
  obtain ⟨w', hrun, hr', hsz, hoth⟩ := h hE w0 ρ a w hr
  have hc' : Cls N ρ ws w' := ⟨by rw [hsz, hc.1], fun k hk hno => by rw [hoth k (hno nm (memN_iff.1 hmem)), hc.2 k hk hno]⟩
  unfold Oper.wp
  rw [hrun]
  exact ⟨hc', k hE (by rw [hlen]; exact hN) ρ _ w' ws hr' hc'⟩
theorem am_store_ep {N : List Nat} {pl : List Bool} {ty : TypeId} {pos : String} {after : Array Edge} {T : TypeId} {p x : Operand} {ti : TI} {v : V} {qs ps : List Prop} {nm i off : Nat} {ds : List D} {blk blk' : Blk} {S' : List Blk} (hT : ti? env T = some ti) (hp : rd F [] p = some (.ep nm i off, qs)) (hq : allP qs) (hx : rd F [] x = some (v, ps)) (hps : allP ps)
    (hc : dcells v = some ds) (hl : Nat.beq ds.length ti.size = true) (h1 : ds.all D.one = true) (hb : nthF S nm = some blk) (hs : rowSet blk i off ds = some blk') (hS : setO S nm blk' = some S') (hmem : memN N nm = true)
    (k : AM P env w0 n l0 N K pl l F S') : AM P env w0 n l0 N K (true :: pl) (⟨none, .store T p x, ty, pos, after, none⟩ :: l) F S :=
  am_steps rfl (fun hE => steps_store_ep (hE.get hT) hp hq hx hps hc hl h1 hb hs hS) hmem (by obtain ⟨rfl, _⟩ := setO_eq hS; simp) k
end

section
variable {P : Program} {env : Env} {w0 : Base} {n : Nat} {Q : Exit → Fr → List Blk → Prop} {F : Fr} {S : List Blk}
theorem aw_region_m {id : Nat} {l0 : List Oper} (N : List Nat) (pl : List Bool) (hm : P.follows .mixedOrders = true) (hs : Region.noSelect l0.toArray = true) (hB : planB .any l0.toArray 0 pl (Array.replicate l0.toArray.size false) = true) (hlen : Nat.beq pl.length l0.length = true)
    (hN : ∀ m ∈ N, m < S.length) (h : AM P env w0 n l0 N (Q .normal) pl l0 F S) : AW P env w0 n (.region id l0.toArray true) Q F S := by
  intro hE ρ a w hr
  have hr' := hr.ext (w' := { w with drawn := w.drawn + 1 }) ⟨rfl, rfl, rfl, Nat.le_refl _, fun _ _ => rfl⟩
  refine Code.wp_mono (Q := fun e a' w' => e = .normal ∧ ∃ F' S' ρ', Rel w0 n F' S' ρ' a' w' ∧ Q .normal F' S') (fun e a' w' hq => ?_) (wp_region_held (S := Cls N ρ { w with drawn := w.drawn + 1 }) hm ?_)
  · obtain ⟨rfl, F', S', ρ', hr', hQ⟩ := hq
    exact ⟨F', S', ρ', hr', hQ⟩
  · have hl := Nat.eq_of_beq_eq_true hlen
    have := wpAnyH_of_mix (md := .any) hs (fun c a w h => by simp at h) pl 0 l0 _ a _ (fun j => by simp) hB (h hE hN ρ a _ _ hr' (Cls.refl _ _ _))
    rwa [hl, show l0.length = l0.toArray.size by simp] at this
end

/-! ### A guarded call that leaves the caller's blocks with the same contents -/

section
variable {P : Program} {env : Env} {w0 : Base} {n : Nat} {l0 : List Oper} {K : Fr → List Blk → Prop} {l : List Oper} {F : Fr} {S : List Blk}

def vargsG (F : Fr) (g : List Bool) : List Operand → Option (List V × List Prop)
  | [] => some ([], [])
  | x :: r => match rd F g x with
    | some (v, p) => match vargsG F g r with
      | some (vs, q) => some (v :: vs, p ++ q)
      | none => none
    | none => none
theorem vargsG_sound {ρ : Nat → Option Nat} {w : World} {a : Act} (hf : FrOK n F S ρ a w) {g : List Bool} (hg : allT g) {xs : List Operand} {vs : List V} {os : List Prop} (h : vargsG F g xs = some (vs, os)) (ho : allP os) :
    (xs.map a.eval).length = vs.length ∧ ∀ (i : Nat) u x, (xs.map a.eval)[i]? = some u → vs[i]? = some x → RelV S ρ (Rr S ρ w) w u x := by
  induction xs generalizing vs os with
  | nil => simp [vargsG] at h; obtain ⟨rfl, rfl⟩ := h; simp
  | cons x r ih =>
    simp only [vargsG] at h
    split at h
    · rename_i v p hv
      split at h
      · rename_i vs' q hq
        simp at h; obtain ⟨rfl, rfl⟩ := h
        obtain ⟨hp, hq'⟩ := allP_append ho
        obtain ⟨h1, h2⟩ := ih hq hq'
        refine ⟨by simpa using h1, fun i u y hu hy => ?_⟩
        cases i with
        | zero => simp at hu hy; subst hu hy; exact rd_sound hf hv hp hg
        | succ i => exact h2 i u y (by simpa using hu) (by simpa using hy)
      · simp at h
    · simp at h
def isCallG (F : Fr) (l0 : List Oper) (o : Oper) : Option (List Bool × FuncId × List V × List Prop) :=
  match gof F l0 o.guard, o.op with
  | some g, .call c => match calleeF F g c.callee with
    | some (f, p) => match vargsG F g c.args.toList with
      | some (vs, q) => some (g, f, vs, p ++ q)
      | none => none
    | none => none
  | _, _ => none

theorem kinds_refl {S0 S1 : List Blk} (h : kinds S0 S1) : kinds S0 S1 := h

theorem ao_callG {o : Oper} {f : FuncId} {as0 avs : List V} {os : List Prop} {S0 X : List Blk} {rv rv' : V} {F' : Fr} {d : Nat} {g : List Bool} (h : isCallG F l0 o = some (g, f, avs, os)) (sp : allT g → CtrO P f as0 S0 S0 rv) (σ : List Nat) (ho : allP os) (hnd : nodupN σ = true)
    (ha : renL σ as0 = some avs) (h0 : renBs σ S0 = some X) (hX : selS S σ = some X) (hF : killFs (rowNames σ S0) F = some F') (hq : quietS (rowNames σ S0) σ 0 S = true) (hk : kinds S0 S0) (hfl : bflats S0)
    (hS : setsO σ X S = some S) (hrf : rflat rv = true) (hrv : renV σ rv = some rv') (hd : o.dst = some d) (hdn : Nat.blt d n = true)
    (k : AO P env w0 n l0 K l ((d, g, rv') :: F') S) : AO P env w0 n l0 K (o :: l) F S := by
  intro hE ρ a w hr
  unfold isCallG at h
  split at h
  · rename_i g' c hgof hop
    split at h
    · rename_i f' p hc
      split at h
      · rename_i vs' q hq'
        simp at h
        obtain ⟨rfl, rfl, rfl, rfl⟩ := h
        obtain ⟨hw1, hw2⟩ := gof_wanted hr.fr hgof
        by_cases hg : allT g'
        · obtain ⟨hp, hqq⟩ := allP_append ho
          obtain ⟨x, hx, hxv⟩ := calleeF_sound (g := g') hr.fr hg hc hp
          obtain ⟨cal, args, ts⟩ := c
          simp only at hx; subst hx
          refine wpList_step fun K' hK => ?_
          rw [if_pos (hw1 hg)]
          unfold Oper.wp
          rw [run_call (sp hg).1 hop hxv]
          obtain ⟨d1, d2⟩ := vargsG_sound hr.fr hg hq' hqq
          obtain ⟨hm0, hsh0, hlen⟩ := sel_mem hr.mem hnd h0 hX
          obtain ⟨e1, e2⟩ := renL_get ha
          have hR : ∀ k, Rr S ρ w k → Rr S0 (renR σ ρ) w k := fun k hk => ⟨hk.1, fun i hi => by
            have hi' : i < σ.length := by omega
            rw [(hsh0 i _ (List.getElem?_eq_getElem hi')).1]
            exact hk.2 _ ((selS_get hX).2 i _ (List.getElem?_eq_getElem hi')).1⟩
          have hda : RelVs S0 (renR σ ρ) w (args.toList.map a.eval) as0 := ⟨by simp at d1; simp; omega, fun i u y hu hy => by
            have hi : i < vs'.length := by have := (List.getElem?_eq_some_iff.1 hy).1; omega
            exact ren_bwd hsh0 hR (e2 i y _ hy (List.getElem?_eq_getElem hi)) (d2 i u _ hu (List.getElem?_eq_getElem hi))⟩
          have := (sp hg).2 w _ (renR σ ρ) hm0 hda
          have harr : (args.toList.map a.eval).toArray = args.map a.eval := by apply Array.ext'; simp
          rw [harr] at this
          refine this.mono ?_
          rintro e w'' ⟨v, ρ1, rfl, hm1, hv⟩
          obtain ⟨hr', hσ1⟩ := ret_mem hr hnd h0 hX hF hq hk hfl h0 hS hm1
          refine hK _ _ ?_
          rw [hd]
          exact k hE _ _ w'' ⟨hr'.fr.put (Nat.le_of_ble_eq_true hdn) ⟨fun _ => renV_fwd hσ1 hrf hrv hv, fun h => absurd hg h⟩, hr'.mem⟩
        · refine wpList_step fun K' hK => ?_
          rw [if_neg (by simp [hw2 hg])]
          refine hK _ _ ?_
          rw [hd]
          have hfr : FrOK n F' S ρ a w := ⟨hr.fr.size, hr.fr.defers, fun t gs v hl => by
            obtain ⟨v', hl', h⟩ := killFs_get hF hl
            refine ⟨fun hgs => ?_, (hr.fr.get t gs v' hl').2⟩
            rcases h with rfl | ⟨rfl, _⟩
            · exact .bot _
            · exact (hr.fr.get t gs v hl').1 hgs⟩
          exact k hE ρ _ w ⟨hfr.put (Nat.le_of_ble_eq_true hdn) ⟨fun h => absurd h hg, fun _ => rfl⟩, hr.mem⟩
      · simp at h
    · simp at h
  · simp at h

end
end Go.Wk

/- Forgetting, further: a cut row; a nil field; results with blocks of cells. -/
namespace Go.Wk
set_option maxRecDepth 10000
open Go.RowKit

theorem ao_weak {P : Program} {env : Env} {w0 : Base} {n : Nat} {l0 : List Oper} {K : Fr → List Blk → Prop} {l : List Oper} {F F' : Fr} {S S' : List Blk} (h : Weak F S F' S') (hn : w0.np ≤ S'.length) (k : AO P env w0 n l0 K l F' S') : AO P env w0 n l0 K l F S :=
  fun hE ρ a w hr => let ⟨ρ', hr'⟩ := h w0 n ρ a w hn hr; k hE ρ' a w hr'

def setV : List V → Nat → V → Option (List V)
  | [], _, _ => none
  | _ :: r, 0, v => some (v :: r)
  | x :: r, m + 1, v => match setV r m v with | some r' => some (x :: r') | none => none
theorem setV_get {cs cs' : List V} {j : Nat} {v : V} (h : setV cs j v = some cs') : cs'.length = cs.length ∧ cs'[j]? = some v ∧ ∀ i, i ≠ j → cs'[i]? = cs[i]? := by
  induction cs generalizing j cs' with
  | nil => simp [setV] at h
  | cons x r ih => cases j with
    | zero =>
      simp [setV] at h; subst h
      exact ⟨by simp, by simp, fun i hi => by cases i with | zero => omega | succ i => simp⟩
    | succ m =>
      simp only [setV] at h
      split at h
      · rename_i r' hr
        simp at h; subst h
        obtain ⟨h1, h2, h3⟩ := ih hr
        refine ⟨by simp [h1], by simpa using h2, fun i hi => ?_⟩
        cases i with
        | zero => simp
        | succ i => simpa using h3 i (by omega)
      · simp at h

theorem takeB_any {k : Nat} {a b : Blk} (h : takeB k a = some b) (hk : k ≤ a.len) : a.isRow = true ∧ b.isRow = true ∧ b.esz = a.esz ∧ b.len = k ∧ ∀ i, i < k → b.get i = a.get i := takeB_ok h hk

/-- A field that holds the head of a row becomes the whole of the row that is left. -/
theorem weak_cut {F F' : Fr} {S S1 S' : List Blk} {nm hn j m : Nat} {blk blk' : Blk} {cs cs1 cs' : List V} (hblk : nthF S nm = some blk) (ht : takeB m blk = some blk') (hm : m ≤ blk.len) (hF : killF nm F = some F') (hS : killS nm blk' 0 S = some S1)
    (hc : nthF S hn = some (.cells cs)) (hj : nthF cs j = some (.sl nm 0 m)) (hc1 : nthF S1 hn = some (.cells cs1)) (hset : setV cs1 j (.own nm) = some cs') (hS' : putO S1 hn (.cells cs') = some S') : Weak F S F' S' := by
  intro w0 n ρ a w _ hr
  rw [nthF_eq] at hblk hc hj hc1
  obtain ⟨r1, r2, r3, r4, r5⟩ := takeB_ok ht hm
  obtain ⟨hlen, hget⟩ := killS_get hS
  obtain ⟨plen, pat, pother⟩ := putO_get hS'
  obtain ⟨slen, sat, sother⟩ := setV_get hset
  have hnm : nm < S.length := (List.getElem?_eq_some_iff.1 hblk).1
  have hne : hn ≠ nm := fun he => by subst he; rw [hblk] at hc; cases hc; simp [Blk.isRow] at r1
  have at1 : S1[nm]? = some blk' := by
    have hlt : nm < S1.length := by omega
    rcases hget nm _ (List.getElem?_eq_getElem hlt) with ⟨_, h⟩ | ⟨h, _⟩
    · rw [List.getElem?_eq_getElem hlt, h]
    · omega
  have other1 : ∀ (j : Nat) x', S1[j]? = some x' → j ≠ nm → ∃ x, S[j]? = some x ∧ Killed nm x x' := by
    intro j x' hx hne
    rcases hget j x' hx with ⟨h, _⟩ | ⟨_, h⟩
    · omega
    · exact h
  have at' : S'[nm]? = some blk' := by rw [pother nm (Ne.symm hne)]; exact at1
  have hshape : ∀ i, i < S.length → i ≠ nm → shape S' i = shape S i := by
    intro i hi hine
    by_cases hh : i = hn
    · subst hh; simp [shape, pat, hc, Blk.esz, Blk.len]
    · obtain ⟨x, hx, hk⟩ := other1 i _ (List.getElem?_eq_getElem (by omega)) hine
      unfold shape
      rw [pother i hh, List.getElem?_eq_getElem (by omega : i < S1.length), hx]
      rcases hk with ⟨h, _⟩ | ⟨c1, c2, h1, h2, _⟩
      · rw [h]
      · rw [h1, h2]; rfl
  have hR : ∀ k, Rr S ρ w k → Rr S' ρ w k ∧ w.heap[k]? = w.heap[k]? := fun k hk => ⟨⟨hk.1, fun i hi => hk.2 i (by omega)⟩, rfl⟩
  have hkill : ∀ {u : Value} {x : V}, RelV S ρ (Rr S ρ w) w u x → RelV S' ρ (Rr S' ρ w) w u (x.kill nm) := by
    intro u x h
    unfold V.kill
    cases hu : x.uses nm with
    | true => exact .bot u
    | false => exact h.mono hR fun i hu' => ⟨rfl, hshape i (h.uses_lt i hu') (fun he => by subst he; rw [hu] at hu'; cases hu'), fun _ _ _ _ h => h⟩
  refine ⟨ρ, ⟨hr.fr.size, hr.fr.defers, fun t g v hl => ?_⟩, hr.mem.below, by have := hr.mem.np; omega, fun i b hi hb => ?_, fun i b hi hb => hr.mem.lt i b (by omega) hb, fun i j b hi hj => hr.mem.inj i j b (by omega) (by omega), fun i bi hbi => ?_⟩
  · obtain ⟨v', hl', rfl⟩ := killF_get hF hl
    exact ⟨fun hg => hkill ((hr.fr.get t g v' hl').1 hg), (hr.fr.get t g v' hl').2⟩
  · obtain ⟨h1, c, h2⟩ := hr.mem.pin i b hi hb
    refine ⟨h1, ?_⟩
    by_cases hh : i = hn
    · subst hh; exact ⟨_, pat⟩
    · obtain ⟨_, h4⟩ := pin_killed hblk r1 (by omega) other1 h2
      rw [pother i hh]; exact h4
  · by_cases h : i = nm
    · subst h
      rw [at'] at hbi; cases hbi
      have key : (ρ i = none ∧ blk'.len = 0) ∨ ∃ b c ty, ρ i = some b ∧ w.heap[b]? = some (.cells c ty (0, 0)) ∧ blk'.len * blk'.esz ≤ c.size ∧ (∀ i, i < blk'.len → (blk'.get i).length = blk'.esz) ∧
          ∀ (k j : Nat) x, k < blk'.len → (blk'.get k)[j]? = some x → ∃ v, c[k * blk'.esz + j]? = some v ∧ RelD (Rr S' ρ w) w v x := by
        rcases (hr.mem.blk i _ hblk).row r1 with ⟨k1, k2⟩ | ⟨b, c, ty, k1, k2, k3, k4, k5⟩
        · exact .inl ⟨k1, by omega⟩
        · refine .inr ⟨b, c, ty, k1, k2, ?_, fun q hq => ?_, fun q z x hq hx => ?_⟩
          · rw [r3, r4]; exact Nat.le_trans (Nat.mul_le_mul_right _ hm) k3
          · rw [r5 q (by omega), r3]; exact k4 q (by omega)
          · rw [r5 q (by omega)] at hx
            obtain ⟨v, hv, hrel⟩ := k5 q z x (by omega) hx
            exact ⟨v, by rw [r3]; exact hv, hrel.mono hR⟩
      cases blk' <;> first | (simp [Blk.isRow] at r2; done) | exact key
    · by_cases hh : i = hn
      · subst hh
        rw [pat] at hbi; cases hbi
        obtain ⟨x, hx, hk⟩ := other1 i _ hc1 h
        rw [hc] at hx; cases hx
        obtain ⟨b, vals, ty, h1, h2, h3, h4⟩ := hr.mem.blk i _ hc
        rcases hk with ⟨_, hnc⟩ | ⟨c0, c1, e1, e2, hcl, hcg⟩
        · exact absurd rfl (hnc cs)
        · cases e1; cases e2
          refine ⟨b, vals, ty, h1, h2, by omega, fun k v x hv hx => ?_⟩
          by_cases hkj : k = j
          · subst hkj
            rw [sat] at hx; cases hx
            have := h4 k v _ hv hj
            cases this with
            | slNil hb hs => exact .ownNil (esz := blk'.esz) hb (by simp [shape, at', r4])
            | @sl _ b2 esz nn off len cap hb hs hl hcc hcap =>
              have he : blk.esz = esz := by simp [shape, hblk] at hs; exact hs.1
              rw [Nat.zero_mul]
              exact .own (esz := esz) hb (by simp [shape, at', r3, r4, he]) hcc (by simpa using hcap)
          · rw [sother k hkj] at hx
            obtain ⟨y, hy, rfl⟩ := hcg k x hx
            exact hkill (h4 k v y hv hy)
      · rw [pother i hh] at hbi
        obtain ⟨x, hx, hk⟩ := other1 i _ hbi h
        have hold := hr.mem.blk i x hx
        rcases hk with ⟨rfl, hnc⟩ | ⟨c0, c1, rfl, rfl, hcl, hcg⟩
        · have rowk : ((ρ i = none ∧ bi.len = 0) ∨ ∃ b c ty, ρ i = some b ∧ w.heap[b]? = some (.cells c ty (0, 0)) ∧ bi.len * bi.esz ≤ c.size ∧ (∀ i, i < bi.len → (bi.get i).length = bi.esz) ∧
              ∀ (i j : Nat) x, i < bi.len → (bi.get i)[j]? = some x → ∃ v, c[i * bi.esz + j]? = some v ∧ RelD (Rr S ρ w) w v x) →
              ((ρ i = none ∧ bi.len = 0) ∨ ∃ b c ty, ρ i = some b ∧ w.heap[b]? = some (.cells c ty (0, 0)) ∧ bi.len * bi.esz ≤ c.size ∧ (∀ i, i < bi.len → (bi.get i).length = bi.esz) ∧
              ∀ (i j : Nat) x, i < bi.len → (bi.get i)[j]? = some x → ∃ v, c[i * bi.esz + j]? = some v ∧ RelD (Rr S' ρ w) w v x) := by
            rintro (h0 | ⟨b, c, ty, h1, h2, h3, h4, h5⟩)
            · exact .inl h0
            · exact .inr ⟨b, c, ty, h1, h2, h3, h4, fun i j x hi hx => let ⟨v, hv, hr⟩ := h5 i j x hi hx; ⟨v, hv, hr.mono hR⟩⟩
          cases bi with
          | gone => trivial
          | cells cs => exact absurd rfl (hnc cs)
          | ints k xs => exact rowk hold
          | bools xs => exact rowk hold
          | row esz m get => exact rowk hold
        · obtain ⟨b, vals, ty, h1, h2, h3, h4⟩ := hold
          refine ⟨b, vals, ty, h1, h2, by rw [hcl]; exact h3, fun k v x hv hx => ?_⟩
          obtain ⟨y, hy, rfl⟩ := hcg k x hx
          exact hkill (h4 k v y hv hy)

/-! ### Results with blocks of cells -/

theorem flat_move {S S' : List Blk} {ρ : Nat → Option Nat} {R R' : Nat → Prop} {w : World} {u : Value} {v : V} (hf : vflat v = true) (hs : ∀ nm, v.uses nm = true → shape S' nm = shape S nm) (hu : RelV S ρ R w u v) : RelV S' ρ R' w u v := by
  cases hu with
  | d h => exact .d (h.flat hf)
  | nil => exact .nil
  | bot => exact .bot _
  | agg => simp [vflat] at hf
  | tup => simp [vflat] at hf
  | rp => simp [vflat] at hf
  | clo => simp [vflat] at hf
  | ptr hb hsh => exact .ptr hb (by rw [hs _ (by simp [V.uses])]; exact hsh)
  | ep hb hsh hi => exact .ep hb (by rw [hs _ (by simp [V.uses])]; exact hsh) hi
  | ownNil hb hsh => exact .ownNil hb (by rw [hs _ (by simp [V.uses])]; exact hsh)
  | own hb hsh hc hcap => exact .own hb (by rw [hs _ (by simp [V.uses])]; exact hsh) hc hcap
  | slNil hb hsh => exact .slNil hb (by rw [hs _ (by simp [V.uses])]; exact hsh)
  | sl hb hsh hl hc hcap => exact .sl hb (by rw [hs _ (by simp [V.uses])]; exact hsh) hl hc hcap

def retN (env : Env) (rs : List ResultVar) (rS : List Blk) (rv : V) (F : Fr) (S : List Blk) : Prop :=
  ∃ vs, resL env F S rs = some vs ∧ subS S rS ∧ lowS rS.length rS = true ∧ V.low.lowL rS.length vs = true ∧ bflats rS ∧ vflats vs = true ∧ match vs with
    | [v] => v = rv
    | vs => rv = .tup vs

/-- A contract out of a walk, where the result leads to new blocks of cells. -/
theorem spec_new {P : Program} {env : Env} (hE : EnvOK P env) {f : FuncId} {fn : Func} {c : Code} {rs : List ResultVar} {ds : List D} {rS : List Blk} {rv : V} (hen : Enters P f) (hf : P.funcs[f]? = some fn) (hb : fn.body = some c)
    (hrs : fn.results = rs.toArray) (n : Nat) (hn : fn.ntmps = n) (hds : ds.length ≤ n) {F0 : Fr} (hF : entryO 0 ds = some F0)
    (k : ∀ w0, AW P env (Base.of w0) n c (fun e F S => (e = .normal ∨ e = .ret) ∧ retN env rs rS rv F S) F0 []) : Ctr P f ds rS rv := by
  rw [entryO_eq] at hF; cases hF
  refine ⟨hen, fun w vs hvs => ?_⟩
  obtain ⟨hl, hv⟩ := hvs
  refine calls_of_wp hf hb (Code.wp_mono (fun e a' w' hq => ?_) (k w hE (fun _ => none) _ w ⟨⟨?_, rfl, fun t g v h => ?_⟩, ⟨Kept.refl _, Nat.zero_le _, fun i b hi => absurd hi (Nat.not_lt_zero _), fun i b hi => by simp at hi, fun i j b hi => by simp at hi, fun i blk h => by simp at h⟩⟩))
  · obtain ⟨F', S', ρ', hr, hex, vs', hres, hS, hlow, hlv, hbf, hvf, hval⟩ := hq
    obtain ⟨vals, hall, hlen, hrel⟩ := resL_run (P := P) hE hr.fr hr.mem hres
    have hrun := run_results hrs hall
    obtain ⟨G, rfl⟩ := subS_eq hS
    have hsh : ∀ nm, nm < rS.length → shape rS nm = shape (rS ++ G) nm := fun nm h => by simp [shape, List.getElem?_append_left h]
    have mv : ∀ {u : Value} {x : V}, vflat x = true → x.low rS.length = true → RelV (rS ++ G) ρ' (Rr (rS ++ G) ρ' w') w' u x → RelV rS ρ' (Rf w rS ρ' w') w' u x := fun hf hx h =>
      flat_move hf (fun nm hu => hsh nm (V.low_uses _ hx nm hu)) h
    have hrel' : ∀ (i : Nat) u x, vals[i]? = some u → vs'[i]? = some x → RelV rS ρ' (Rf w rS ρ' w') w' u x := fun i u x hu hx => mv (vflats_get hvf hx) (V.lowL_get hlv hx) (hrel i u x hu hx)
    have done : ∃ v ρ, Ending.returned (retVal vals) = .returned v ∧ Out w rS ρ w' v rv := by
      refine ⟨_, ρ', rfl, hr.mem.below.of, fun i b hi hb => ?_, fun i j b hi hj => hr.mem.inj i j b (by simp; omega) (by simp; omega), fun i blk hb => ?_, ?_⟩
      · have := hr.mem.lt i b (by simp; omega) hb
        exact ⟨this.1.resolve_right (fun h => h), this.2⟩
      · have hlt := (List.getElem?_eq_some_iff.1 hb).1
        have h := hr.mem.blk i blk (by rw [List.getElem?_append_left hlt]; exact hb)
        have hfl := bflats_get hbf hb
        have rowk : blk.isRow = true → blk.flat → RelBlk rS ρ' (Rf w rS ρ' w') w' i blk := by
          intro hrow hfl'
          have key : (ρ' i = none ∧ blk.len = 0) ∨ ∃ b c ty, ρ' i = some b ∧ w'.heap[b]? = some (.cells c ty (0, 0)) ∧ blk.len * blk.esz ≤ c.size ∧ (∀ i, i < blk.len → (blk.get i).length = blk.esz) ∧
              ∀ (i j : Nat) x, i < blk.len → (blk.get i)[j]? = some x → ∃ v, c[i * blk.esz + j]? = some v ∧ RelD (Rf w rS ρ' w') w' v x := by
            rcases h.row hrow with h | ⟨b, c, ty, k1, k2, k3, k4, k5⟩
            · exact .inl h
            · exact .inr ⟨b, c, ty, k1, k2, k3, k4, fun i j x hi hx => let ⟨v, hv, hr⟩ := k5 i j x hi hx; ⟨v, hv, by
                have hs := Blk.flat_get hfl' hi hx
                rw [RelD.valOf_eq hs hr]; exact RelD.of_scal hs _ _⟩⟩
          cases blk <;> first | (simp [Blk.isRow] at hrow; done) | exact key
        cases blk with
        | gone => trivial
        | cells cs =>
          obtain ⟨b, vals0, ty, h1, h2, h3, h4⟩ := h
          exact ⟨b, vals0, ty, h1, h2, h3, fun j v x hv hx => mv (vflats_get hfl hx) (V.lowL_get (by simpa [Blk.low] using lowS_get hlow hb) hx) (h4 j v x hv hx)⟩
        | ints k xs => exact rowk rfl hfl
        | bools xs => exact rowk rfl hfl
        | row e m g => exact rowk rfl hfl
      · match vals, vs', hlen, hrel', hval with
        | [u], [v], _, hrel, hval => subst hval; exact hrel 0 u v (by simp) (by simp)
        | [], [], _, hrel, hval => simp only at hval; subst hval; exact .tup [] [] rfl fun i v x hv => by simp at hv
        | u :: u' :: ur, v :: v' :: vr, hlen, hrel, hval => simp only at hval; subst hval; exact .tup _ _ hlen fun i a b ha hb => hrel i a b ha hb
    rcases hex with rfl | rfl
    · exact ⟨hr.fr.defers, _, hrun, done⟩
    · exact ⟨hr.fr.defers, _, hrun, done⟩
  · simp [hl, hn]; omega
  · obtain ⟨rfl, j, x, hx, rfl, rfl⟩ := entryF_get h
    refine ⟨fun _ => ?_, fun h => absurd trivial h⟩
    have hj : j < vs.length := by rw [hl]; exact (List.getElem?_eq_some_iff.1 hx).1
    have hg : (vs.toArray ++ Array.replicate (fn.ntmps - vs.toArray.size) undef).getD (0 + j) undef = vs[j] := by
      rw [Nat.zero_add, Array.getD_eq_getD_getElem?, Array.getElem?_append_left (by simpa using hj)]
      simp [hj]
    rw [hg]
    exact ofD_rel (fun k hk => ⟨hk, fun i hi => by simp at hi⟩) (hv j _ x (List.getElem?_eq_getElem hj) hx) _ _

/-- A nil field becomes an empty row of the call's own. -/
theorem weak_nilc {F : Fr} {S S1 : List Blk} {hn j : Nat} {cs cs' : List V} (blk : Blk) (hc : nthF S hn = some (.cells cs)) (hj : nthF cs j = some .nil) (hset : setV cs j (.own S.length) = some cs') (hS1 : putO S hn (.cells cs') = some S1)
    (h0 : blk.len = 0) (hrow : blk.isRow = true) (hF : lowF S.length F = true) (hS : lowS S.length S = true) : Weak F S F (S1 ++ [blk]) := by
  intro w0 n ρ a w _ hr
  rw [nthF_eq] at hc hj
  obtain ⟨plen, pat, pother⟩ := putO_get hS1
  obtain ⟨slen, sat, sother⟩ := setV_get hset
  have hhn : hn < S.length := (List.getElem?_eq_some_iff.1 hc).1
  refine ⟨fun i => if i < S.length then ρ i else none, ?_⟩
  have hsh : ∀ nm, nm < S.length → shape (S1 ++ [blk]) nm = shape S nm := fun nm h => by
    unfold shape
    rw [List.getElem?_append_left (by omega)]
    by_cases hh : nm = hn
    · subst hh; rw [pat, hc]; rfl
    · rw [pother nm hh]
  have last : shape (S1 ++ [blk]) S.length = some (blk.esz, 0) := by
    unfold shape
    rw [List.getElem?_append_right (by omega), plen]; simp [h0]
  have hR : ∀ k, Rr S ρ w k → Rr (S1 ++ [blk]) (fun i => if i < S.length then ρ i else none) w k ∧ w.heap[k]? = w.heap[k]? := fun k hk => ⟨⟨hk.1, fun i hi => by
    by_cases hlt : i < S.length
    · simp only [if_pos hlt]; exact hk.2 i hlt
    · simp only [if_neg hlt]; simp⟩, rfl⟩
  have mono : ∀ {u : Value} {x : V}, x.low S.length = true → RelV S ρ (Rr S ρ w) w u x → RelV (S1 ++ [blk]) (fun i => if i < S.length then ρ i else none) (Rr (S1 ++ [blk]) (fun i => if i < S.length then ρ i else none) w) w u x := fun hx h =>
    h.mono hR fun nm hu => ⟨if_pos (V.low_uses _ hx nm hu), hsh nm (V.low_uses _ hx nm hu), fun _ _ _ _ h => h⟩
  have hnp := hr.mem.np
  refine ⟨⟨hr.fr.size, hr.fr.defers, fun t g v hl => ⟨fun hg => mono (lowF_get hF hl) ((hr.fr.get t g v hl).1 hg), (hr.fr.get t g v hl).2⟩⟩, hr.mem.below, by simp; omega, fun i b hi hb => ?_, fun i b hi hb => ?_, fun i j b hi hj hbi hbj => ?_, fun i blk' hb => ?_⟩
  · obtain ⟨h1, c, h2⟩ := hr.mem.pin i b hi hb
    refine ⟨by rw [if_pos (by omega)]; exact h1, ?_⟩
    rw [List.getElem?_append_left (by omega)]
    by_cases hh : i = hn
    · subst hh; exact ⟨_, pat⟩
    · exact ⟨c, by rw [pother i hh]; exact h2⟩
  · by_cases hlt : i < S.length
    · simp only [if_pos hlt] at hb; exact hr.mem.lt i b hlt hb
    · simp only [if_neg hlt] at hb; cases hb
  · by_cases hi' : i < S.length
    · by_cases hj' : j < S.length
      · simp only [if_pos hi'] at hbi; simp only [if_pos hj'] at hbj; exact hr.mem.inj i j b hi' hj' hbi hbj
      · simp only [if_neg hj'] at hbj; cases hbj
    · simp only [if_neg hi'] at hbi; cases hbi
  · by_cases hlt : i < S.length
    · rw [List.getElem?_append_left (by omega)] at hb
      by_cases hh : i = hn
      · subst hh
        rw [pat] at hb; cases hb
        obtain ⟨b, vals, ty, h1, h2, h3, h4⟩ := hr.mem.blk i _ hc
        refine ⟨b, vals, ty, by simp only [if_pos hlt]; exact h1, h2, by omega, fun k v x hv hx => ?_⟩
        by_cases hkj : k = j
        · subst hkj
          rw [sat] at hx; cases hx
          have := h4 k v _ hv hj
          cases this
          exact .ownNil (by simp) last
        · rw [sother k hkj] at hx
          exact mono (V.lowL_get (by simpa [Blk.low] using lowS_get hS hc) hx) (h4 k v x hv hx)
      · rw [pother i hh] at hb
        have h := hr.mem.blk i blk' hb
        cases blk' with
        | gone => trivial
        | cells cs0 =>
          obtain ⟨b, vals, ty, h1, h2, h3, h4⟩ := h
          exact ⟨b, vals, ty, by simp only [if_pos hlt]; exact h1, h2, h3, fun j v x hv hx => mono (V.lowL_get (by simpa [Blk.low] using lowS_get hS hb) hx) (h4 j v x hv hx)⟩
        | ints k xs => rcases h with h | ⟨b, c, ty, h1, h2, h3, h4, h5⟩
                       · exact .inl ⟨by simp only [if_pos hlt]; exact h.1, h.2⟩
                       · exact .inr ⟨b, c, ty, by simp only [if_pos hlt]; exact h1, h2, h3, h4, fun i j x hi hx => let ⟨v, hv, hr⟩ := h5 i j x hi hx; ⟨v, hv, hr.mono hR⟩⟩
        | bools xs => rcases h with h | ⟨b, c, ty, h1, h2, h3, h4, h5⟩
                      · exact .inl ⟨by simp only [if_pos hlt]; exact h.1, h.2⟩
                      · exact .inr ⟨b, c, ty, by simp only [if_pos hlt]; exact h1, h2, h3, h4, fun i j x hi hx => let ⟨v, hv, hr⟩ := h5 i j x hi hx; ⟨v, hv, hr.mono hR⟩⟩
        | row esz m get => rcases h with h | ⟨b, c, ty, h1, h2, h3, h4, h5⟩
                           · exact .inl ⟨by simp only [if_pos hlt]; exact h.1, h.2⟩
                           · exact .inr ⟨b, c, ty, by simp only [if_pos hlt]; exact h1, h2, h3, h4, fun i j x hi hx => let ⟨v, hv, hr⟩ := h5 i j x hi hx; ⟨v, hv, hr.mono hR⟩⟩
    · have : i = S.length := by have := (List.getElem?_eq_some_iff.1 hb).1; simp at this; omega
      subst this
      rw [List.getElem?_append_right (by omega), plen] at hb
      simp at hb; subst hb
      have hh : (fun i => if i < S.length then ρ i else none) S.length = none ∧ blk.len = 0 := ⟨by simp, h0⟩
      cases blk <;> first | (simp [Blk.isRow] at hrow; done) | exact Or.inl hh

end Go.Wk

/- Regions that draw their order, by a plan of the prover's. -/
namespace Go.Wk
set_option maxRecDepth 10000
open Go.RowKit

section
variable {P : Program} {env : Env} {w0 : Base} {n : Nat} {l0 : List Oper} {K : Fr → List Blk → Prop} {F : Fr} {S : List Blk}

def AN (P : Program) (env : Env) (w0 : Base) (n : Nat) (l0 : List Oper) (N : List Nat) (K : Fr → List Blk → Prop) (fr : Bool) (fuel : Nat) (listed : Array Bool) (F : Fr) (S : List Blk) : Prop :=
  EnvOK P env → ∀ (ρ0 : Nat → Option Nat) (ws : World) ρ a w, Rel w0 n F S ρ a w → (∀ m ∈ N, m < S.length) → Sm N ρ0 ws w → ws.heap.size ≤ w.heap.size → (∀ m ∈ N, ρ m = ρ0 m) → (fr = true → w = ws) →
    wpAnyH P .any l0.toArray (fun e a' w' => e = .normal ∧ ∃ F' S' ρ', Rel w0 n F' S' ρ' a' w' ∧ K F' S') (Sm N ρ0 ws) fuel listed a w

/-- One operation that acts on the world. -/
def AX (P : Program) (env : Env) (w0 : Base) (n : Nat) (l0 : List Oper) (N : List Nat) (o : Oper) (K : Fr → List Blk → Prop) (F : Fr) (S : List Blk) : Prop :=
  EnvOK P env → ∀ (Q : Exit → Act → World → Prop) ρ a w, Rel w0 n F S ρ a w → (∀ m ∈ N, m < S.length) → ∀ KK : Act → World → Prop,
    (∀ F' S' ρ' a' w', Rel w0 n F' S' ρ' a' w' → (∀ m ∈ N, m < S'.length) → Sm N ρ w w' → w.heap.size ≤ w'.heap.size → (∀ m ∈ N, ρ' m = ρ m) → K F' S' → KK a' w') →
    if Region.wanted o (yielded l0.toArray a.tmps) then o.wp P a w KK Q else KK (a.put o.dst undef) w

theorem an_nil {N : List Nat} {fr : Bool} {listed : Array Bool} (hB : (Region.ready .any l0.toArray listed).isEmpty = true) (h : K F S) : AN P env w0 n l0 N K fr 0 listed F S :=
  fun _ _ _ ρ _ _ hr _ _ _ _ _ => ⟨by simpa using hB, rfl, F, S, ρ, hr, h⟩

theorem an_q (k : Nat) {N : List Nat} {fr : Bool} {fuel : Nat} {listed : Array Bool} {o : Oper} {F' : Fr} {os : List Prop} (hs : Region.noSelect l0.toArray = true)
    (hB : ((Region.ready .any l0.toArray listed).contains k && Region.free .any l0.toArray listed k) = true) (hk : nthF l0 k = some o) (h : stepQ env n l0 F S o = some (F', os)) (ho : allP os)
    (hf : (!loadO o.op || (fr && offS l0 N F o)) = true) (kk : AN P env w0 n l0 N K fr fuel (listed.setIfInBounds k true) F' S) : AN P env w0 n l0 N K fr (fuel + 1) listed F S := by
  intro hE ρ0 ws ρ a w hr hN hSm hsz hρ hfr
  rw [Bool.and_eq_true] at hB
  have hk' : l0.toArray[k]? = some o := by rw [nthF_eq] at hk; simpa using hk
  have hC : loadO o.op = true → (∀ w', Sm N ρ0 ws w' → Sm N ρ w w') ∧ (∀ m ∈ N, m < S.length) ∧ offS l0 N F o = true := fun hl => by
    rw [hl] at hf
    simp only [Bool.not_true, Bool.false_or, Bool.and_eq_true] at hf
    have := hfr hf.1; subst this
    exact ⟨fun w' h' j hj hno => h' j hj (fun m hm => by rw [← hρ m hm]; exact hno m hm), hN, hf.2⟩
  obtain (⟨hw, val, hq, hr'⟩ | ⟨hw, hr'⟩) := stepG_sound (P := P) hE h ho hC hr
  · exact wpAnyH_take hk' hs hB.2 hB.1 (fun c a w h => by simp at h) (.inl ⟨hw, hq⟩) hSm (kk hE ρ0 ws ρ _ w hr' hN hSm hsz hρ hfr)
  · exact wpAnyH_take hk' hs hB.2 hB.1 (fun c a w h => by simp at h) (.inr ⟨hw, rfl⟩) hSm (kk hE ρ0 ws ρ _ w hr' hN hSm hsz hρ hfr)

theorem an_at {N : List Nat} {fuel k : Nat} {listed : Array Bool} {o : Oper} (hk : nthF l0 k = some o) (h : AX P env w0 n l0 N o (AN P env w0 n l0 N K false fuel (listed.setIfInBounds k true)) F S)
    (hE : EnvOK P env) (ρ0 : Nat → Option Nat) (ws : World) {ρ : Nat → Option Nat} {a : Act} {w : World} (hr : Rel w0 n F S ρ a w) (hN : ∀ m ∈ N, m < S.length) (hSm : Sm N ρ0 ws w) (hsz : ws.heap.size ≤ w.heap.size) (hρ : ∀ m ∈ N, ρ m = ρ0 m) :
    wpOp P l0.toArray (fun e a' w' => e = .normal ∧ ∃ F' S' ρ', Rel w0 n F' S' ρ' a' w' ∧ K F' S') k (fun a' w' => Sm N ρ0 ws w' ∧ wpAnyH P .any l0.toArray (fun e a' w' => e = .normal ∧ ∃ F' S' ρ', Rel w0 n F' S' ρ' a' w' ∧ K F' S') (Sm N ρ0 ws) fuel (listed.setIfInBounds k true) a' w') a w := by
  have hk' : l0.toArray[k]? = some o := by rw [nthF_eq] at hk; simpa using hk
  unfold wpOp
  simp only [hk']
  have := h hE (fun e a' w' => e = .normal ∧ ∃ F' S' ρ', Rel w0 n F' S' ρ' a' w' ∧ K F' S') ρ a w hr hN (fun a' w' => Sm N ρ0 ws w' ∧ wpAnyH P .any l0.toArray (fun e a' w' => e = .normal ∧ ∃ F' S' ρ', Rel w0 n F' S' ρ' a' w' ∧ K F' S') (Sm N ρ0 ws) fuel (listed.setIfInBounds k true) a' w') ?_
  · split
    · rename_i hw; rw [if_pos hw] at this; exact .inl this
    · rename_i hw; rw [if_neg hw] at this; exact this
  · intro F' S' ρ' a' w' hr' hN' hS' hz' hρ' hK
    have hS2 : Sm N ρ0 ws w' := fun j hj hno => by
      rw [hS' j (by omega) (fun m hm => by rw [hρ m hm]; exact hno m hm)]
      exact hSm j hj hno
    exact ⟨hS2, hK hE ρ0 ws ρ' a' w' hr' hN' hS2 (by omega) (fun m hm => by rw [hρ' m hm, hρ m hm]) (fun h => by cases h)⟩

theorem an_1 (k : Nat) {N : List Nat} {fr : Bool} {fuel : Nat} {listed : Array Bool} {o : Oper} (hB : decide (Region.ready .any l0.toArray listed = [k]) = true) (hk : nthF l0 k = some o)
    (h : AX P env w0 n l0 N o (AN P env w0 n l0 N K false fuel (listed.setIfInBounds k true)) F S) : AN P env w0 n l0 N K fr (fuel + 1) listed F S := by
  intro hE ρ0 ws ρ a w hr hN hSm hsz hρ hfr
  refine wpAnyH_all (of_decide_eq_true hB) (by simp) fun i hi => ?_
  simp at hi; subst hi
  exact an_at hk h hE ρ0 ws hr hN hSm hsz hρ

theorem an_2 (k1 k2 : Nat) {N : List Nat} {fr : Bool} {fuel : Nat} {listed : Array Bool} {o1 o2 : Oper} (hB : decide (Region.ready .any l0.toArray listed = [k1, k2]) = true) (hk1 : nthF l0 k1 = some o1) (hk2 : nthF l0 k2 = some o2)
    (h1 : AX P env w0 n l0 N o1 (AN P env w0 n l0 N K false fuel (listed.setIfInBounds k1 true)) F S) (h2 : AX P env w0 n l0 N o2 (AN P env w0 n l0 N K false fuel (listed.setIfInBounds k2 true)) F S) : AN P env w0 n l0 N K fr (fuel + 1) listed F S := by
  intro hE ρ0 ws ρ a w hr hN hSm hsz hρ hfr
  refine wpAnyH_all (of_decide_eq_true hB) (by simp) fun i hi => ?_
  simp at hi
  rcases hi with rfl | rfl
  · exact an_at hk1 h1 hE ρ0 ws hr hN hSm hsz hρ
  · exact an_at hk2 h2 hE ρ0 ws hr hN hSm hsz hρ

theorem ax_q {N : List Nat} {o : Oper} {F' : Fr} {os : List Prop} (h : stepQ env n l0 F S o = some (F', os)) (ho : allP os) (k : K F' S) : AX P env w0 n l0 N o K F S := by
  intro hE Q ρ a w hr hN KK hKK
  obtain (⟨hw, val, hq, hr'⟩ | ⟨hw, hr'⟩) := stepR_sound (P := P) hE h ho hr
  · rw [if_pos hw]
    unfold Oper.wp
    rw [hq w (Below.refl _ _)]
    exact hKK F' S ρ _ w hr' hN (fun _ _ _ => rfl) (Nat.le_refl _) (fun _ _ => rfl) k
  · rw [if_neg (by simp [hw])]
    exact hKK F' S ρ _ w hr' hN (fun _ _ _ => rfl) (Nat.le_refl _) (fun _ _ => rfl) k

/-- The operation makes a new block, or none. -/
def StepsX (P : Program) (n : Nat) (o : Oper) (F : Fr) (S : List Blk) (F' : Fr) (S' : List Blk) : Prop :=
  ∀ w0 ρ a w, Rel w0 n F S ρ a w → ∃ val w' ρ', (execOp a.eval o).run P w = .ok (.value val) w' ∧ Rel w0 n F' S' ρ' (a.put o.dst val) w' ∧ Ext w w' ∧ S.length ≤ S'.length ∧ ∀ i, i < S.length → ρ' i = ρ i
theorem wanted_none {o : Oper} (hg : o.guard = none) (y : Nat → Option Bool) : Region.wanted o y = true := by simp [Region.wanted, hg]
theorem ax_steps {N : List Nat} {o : Oper} {F' : Fr} {S' : List Blk} (hg : o.guard = none) (h : EnvOK P env → StepsX P n o F S F' S') (k : K F' S') : AX P env w0 n l0 N o K F S := by
  intro hE Q ρ a w hr hN KK hKK
  rw [if_pos (wanted_none hg _)]
  obtain ⟨val, w', ρ', hrun, hr', he, hl, hρ⟩ := h hE w0 ρ a w hr
  unfold Oper.wp
  rw [hrun]
  exact hKK F' S' ρ' _ w' hr' (fun m hm => Nat.lt_of_lt_of_le (hN m hm) hl) (Sm.to_ext he N) he.size (fun m hm => hρ m (hN m hm)) k
theorem ax_in {N : List Nat} {o : Oper} {F' : Fr} {S' : List Blk} {nm : Nat} (hg : o.guard = none) (h : EnvOK P env → StepsIn P n o F S F' S' nm) (hmem : memN N nm = true) (hlen : S'.length = S.length) (k : K F' S') : AX P env w0 n l0 N o K F S := by
  intro hE Q ρ a w hr hN KK hKK
  rw [if_pos (wanted_none hg _)]
  obtain ⟨w', hrun, hr', hsz, hoth⟩ := h hE w0 ρ a w hr
  unfold Oper.wp
  rw [hrun]
  exact hKK F' S' ρ _ w' hr' (by rw [hlen]; exact hN) (fun j hj hno => hoth j (hno nm (memN_iff.1 hmem))) (by omega) (fun _ _ => rfl) k

theorem ax_call {N : List Nat} {o : Oper} {F' : Fr} {os : List Prop} {r : D} {f : FuncId} {ds : List D} (h : stepC n l0 F S o r = some (f, ds, F', os)) (sp : Ctr P f ds [] (.d r)) (hs : r.scal = true) (ho : allP os) (k : K F' S) : AX P env w0 n l0 N o K F S := by
  intro hE Q ρ a w hr hN KK hKK
  obtain (⟨hw, val, hq, hr'⟩ | ⟨hw, hr'⟩) := stepC_sound h hs sp ho hr
  · rw [if_pos hw]
    refine Oper.wp_of_quiet (C := Ext w) (K := fun a' => a' = a.put o.dst val) (Below.refl _ _) (fun a' w' he ha => ?_) ⟨val, hq, rfl⟩
    subst ha
    exact hKK F' S ρ _ w' (hr'.ext he) hN (Sm.to_ext he N) he.size (fun _ _ => rfl) k
  · rw [if_neg (by simp [hw])]
    exact hKK F' S ρ _ w hr' hN (fun _ _ _ => rfl) (Nat.le_refl _) (fun _ _ => rfl) k

/-! ### Operations that make a block -/

variable {d : Nat} {ty : TypeId} {pos : String} {after : Array Edge} {S' : List Blk} {F' : Fr} {nm : Nat} {N : List Nat}

theorem ax_box {T : TypeId} {x : Operand} {v : V} {ps : List Prop} {cs : List V} (hx : rd F [] x = some (v, ps)) (hp : allP ps) (hc : cellsOf v = some cs) (hS : snocO S (.cells cs) = some (S', nm)) (hd : Nat.blt d n = true)
    (k : K ((d, [], .ptr nm 0) :: F) S') : AX P env w0 n l0 N ⟨some d, .box T x, ty, pos, after, none⟩ K F S := by
  refine ax_steps rfl (fun _ => ?_) k
  rw [snocO_eq] at hS; cases hS
  intro w0 ρ a w hr
  have hu := rd_sound hr.fr hx hp trivial
  obtain ⟨c1, c2⟩ := cellsOf_rel hc hu
  exact ⟨_, _, _, by simp [execOp, Instr.box, newVar, newRow], new_cells (T := T) hr (Nat.le_of_ble_eq_true hd) ⟨c1, fun i v y hv hy => (c2 i v y hv hy).1⟩, alloc_ext w _, by simp, fun i hi => upd_ne _ _ (by omega)⟩

theorem ax_alloc {T : TypeId} {ti : TI} {cs : List V} (hT : ti? env T = some ti) (hz : zeroV ti.zero = some cs) (hS : snocO S (.cells cs) = some (S', nm)) (hd : Nat.blt d n = true)
    (k : K ((d, [], .ptr nm 0) :: F) S') : AX P env w0 n l0 N ⟨some d, .alloc T, ty, pos, after, none⟩ K F S := by
  refine ax_steps rfl (fun hE => ?_) k
  rw [snocO_eq] at hS; cases hS
  intro w0 ρ a w hr
  obtain ⟨i, hi, _, _, hzero⟩ := (hE.get hT).info
  exact ⟨_, _, _, by simp [execOp, Instr.alloc, zeroValue, typeInfo, hi, hzero, newVar, newRow], new_cells (T := T) hr (Nat.le_of_ble_eq_true hd) (zeroV_rel hz _ _ _ _), alloc_ext w _, by simp, fun i hi => upd_ne _ _ (by omega)⟩

theorem ax_make {T e : TypeId} {s by_ : Nat} {z : Value} {x y : Operand} {te : TI} {kx ky : IntKind} {m : Int} {ps qs : List Prop} {blk : Blk} (hT : ti? env T = some ⟨.slice e, s, by_, z⟩) (he : ti? env e = some te) (hz : Nat.beq te.zero.cells.size te.size = true)
    (hx : rd F [] x = some (.d (.int kx m), ps)) (hp : allP ps) (hy : rd F [] y = some (.d (.int ky m), qs)) (hq : allP qs) (h0 : 0 ≤ m) (h1 : te.bytes * m.toNat ≤ 140737488355328) (h2 : m ≤ 9223372036854775807) (hb : mkRow te m.toNat = some blk) (hS : snocO S blk = some (S', nm)) (hd : Nat.blt d n = true)
    (k : K ((d, [], .own nm) :: F) S') : AX P env w0 n l0 N ⟨some d, .makeSlice T x y, ty, pos, after, none⟩ K F S := by
  refine ax_steps rfl (fun hE => ?_) k
  rw [snocO_eq] at hS; cases hS
  intro w0 ρ a w hr
  have hT' := hE.get hT
  have he' := hE.get he
  have hz' := Nat.eq_of_beq_eq_true hz
  have ex : a.eval x = .int kx m := by
    have := rd_sound hr.fr hx hp trivial
    generalize a.eval x = u at this
    cases this with | d h => cases h; rfl
  have ey : a.eval y = .int ky m := by
    have := rd_sound hr.fr hy hq trivial
    generalize a.eval y = u at this
    cases this with | d h => cases h; rfl
  obtain ⟨dd, hdd, hk⟩ := hT'.desc
  have := desc_slice hk; subst this
  obtain ⟨i, hi, hsz, hby, hzero⟩ := he'.info
  have hbytes : (i.bytes : Int) * m ≤ 281474976710656 := by
    rw [hby]
    have e1 : (m.toNat : Int) = m := Int.toNat_of_nonneg h0
    have : ((te.bytes * m.toNat : Nat) : Int) ≤ 140737488355328 := by omega
    rw [Int.natCast_mul, e1] at this
    omega
  have hrun := run_make (P := P) w T e i te.zero hdd hi hzero kx ky m m h0 (Int.le_refl _) hbytes h2
  obtain ⟨b1, b2, b3, b4, b5⟩ := mkRow_ok hb hz'
  have hrow := new_row (w' := w.alloc (.cells (madeCells te.zero.cells (m.toNat * i.size)) e)) hr (alloc_ext w _) (Nat.le_of_ble_eq_true hd) (blk := blk) (cap := m.toNat) (c := madeCells te.zero.cells (m.toNat * i.size)) (e := e) b1 (heap_alloc_new w _)
    (by rw [size_madeCells, b3, hsz]) (by rw [b2]; exact Nat.le_refl _) (by unfold maxLen; omega) (fun j hj => by rw [b3]; exact b4 j (by rw [← b2]; exact hj)) fun j c x hj hx => by
      rw [b2] at hj
      obtain ⟨v, hv, hr'⟩ := b5 j c x hj hx
      have hc : c < te.size := by rw [← b4 j hj]; exact (List.getElem?_eq_some_iff.1 hx).1
      exact ⟨v, by rw [b3, hsz, madeCells_get hz' hj hc]; exact hv, hr' _ _⟩
  rw [b2] at hrow
  exact ⟨_, _, _, by simp only [execOp, ex, ey]; exact run_v hrun, hrow, alloc_ext w _, by simp, fun i hi => upd_ne _ _ (by omega)⟩

theorem ax_store_ep {T : TypeId} {p x : Operand} {ti : TI} {v : V} {qs ps : List Prop} {i off : Nat} {ds : List D} {blk blk' : Blk} (hT : ti? env T = some ti) (hp : rd F [] p = some (.ep nm i off, qs)) (hq : allP qs) (hx : rd F [] x = some (v, ps)) (hps : allP ps)
    (hc : dcells v = some ds) (hl : Nat.beq ds.length ti.size = true) (h1 : ds.all D.one = true) (hb : nthF S nm = some blk) (hs : rowSet blk i off ds = some blk') (hS : setO S nm blk' = some S') (hmem : memN N nm = true)
    (k : K F S') : AX P env w0 n l0 N ⟨none, .store T p x, ty, pos, after, none⟩ K F S :=
  ax_in rfl (fun hE => steps_store_ep (hE.get hT) hp hq hx hps hc hl h1 hb hs hS) hmem (by obtain ⟨rfl, _⟩ := setO_eq hS; simp) k

end

section
variable {P : Program} {env : Env} {w0 : Base} {n : Nat} {Q : Exit → Fr → List Blk → Prop} {F : Fr} {S : List Blk}
theorem aw_region_n {id : Nat} {l0 : List Oper} (N : List Nat) (hm : P.follows .mixedOrders = true) (hN : ∀ m ∈ N, m < S.length) (h : AN P env w0 n l0 N (Q .normal) true l0.length (Array.replicate l0.toArray.size false) F S) : AW P env w0 n (.region id l0.toArray true) Q F S := by
  intro hE ρ a w hr
  have hr' := hr.ext (w' := { w with drawn := w.drawn + 1 }) ⟨rfl, rfl, rfl, Nat.le_refl _, fun _ _ => rfl⟩
  refine Code.wp_mono (Q := fun e a' w' => e = .normal ∧ ∃ F' S' ρ', Rel w0 n F' S' ρ' a' w' ∧ Q .normal F' S') (fun e a' w' hq => ?_) (wp_region_held (S := Sm N ρ { w with drawn := w.drawn + 1 }) hm ?_)
  · obtain ⟨rfl, F', S', ρ', hr', hQ⟩ := hq
    exact ⟨F', S', ρ', hr', hQ⟩
  · have := h hE ρ { w with drawn := w.drawn + 1 } ρ a _ hr' hN (fun _ _ _ => rfl) (Nat.le_refl _) (fun _ _ => rfl) (fun _ => rfl)
    rwa [show l0.length = l0.toArray.size by simp] at this
end
end Go.Wk

/- The own blocks under other names. -/
namespace Go.Wk
set_option maxRecDepth 10000
open Go.RowKit

def subR (σ : List Nat) (F : Fr) : Fr → Prop
  | [] => True
  | (t, g, v) :: r => (∃ v', look F t = some (g, v') ∧ renS σ v = some v') ∧ subR σ F r
theorem subR_nil {σ : List Nat} {F : Fr} : subR σ F [] := trivial
theorem subR_cons {σ : List Nat} {F r : Fr} {t : Nat} {g : List Bool} {v v' : V} (h : look F t = some (g, v')) (h2 : renS σ v = some v') (k : subR σ F r) : subR σ F ((t, g, v) :: r) := ⟨⟨v', h, h2⟩, k⟩
theorem subR_get {σ : List Nat} {F F0 : Fr} (h : subR σ F F0) {t : Nat} {g : List Bool} {v : V} (hl : look F0 t = some (g, v)) : ∃ v', look F t = some (g, v') ∧ renS σ v = some v' := by
  induction F0 with
  | nil => simp [look] at hl
  | cons x r ih =>
    obtain ⟨k, g', u⟩ := x
    simp only [look] at hl
    cases hb : Nat.beq k t with
    | true =>
      have := Nat.eq_of_beq_eq_true hb; subst this
      simp only [hb, cond_true, Option.some.injEq, Prod.mk.injEq] at hl
      obtain ⟨rfl, rfl⟩ := hl
      exact h.1
    | false =>
      simp only [hb, cond_false] at hl
      exact ih h.2 hl

theorem sel_rel {w0 : Base} {n : Nat} {F F0 : Fr} {S S0 X : List Blk} {ρ : Nat → Option Nat} {a : Act} {w : World} (hr : Rel w0 n F S ρ a w) (σ : List Nat) (hnd : nodupN σ = true) (h0 : renBs σ S0 = some X) (hX : selS S σ = some X) (hF : subR σ F F0)
    (hnl : w0.np ≤ S0.length) (hnp : ∀ i, i < w0.np → σ[i]? = some i) : Rel w0 n F0 S0 (renR σ ρ) a w := by
  obtain ⟨hm, hsh, hlen⟩ := sel_mem hr.mem hnd h0 hX
  obtain ⟨hsl, hsg⟩ := selS_get hX
  have hR : ∀ k, Rr S ρ w k → Rr S0 (renR σ ρ) w k := fun k hk => ⟨hk.1, fun i hi => by
    have hi' : i < σ.length := by omega
    rw [(hsh i _ (List.getElem?_eq_getElem hi')).1]
    exact hk.2 _ (hsg i _ (List.getElem?_eq_getElem hi')).1⟩
  refine ⟨⟨hr.fr.size, hr.fr.defers, fun t g v hl => ?_⟩, ⟨hr.mem.below, hnl, fun i b hi hb => ?_, fun i b hi hb => ?_, hm.inj, hm.blk⟩⟩
  · obtain ⟨v', h1, h2⟩ := subR_get hF hl
    obtain ⟨g1, g2⟩ := hr.fr.get t g v' h1
    exact ⟨fun hg => ren_bwd hsh hR h2 (g1 hg), g2⟩
  · obtain ⟨h1, cs, h2⟩ := hr.mem.pin i b hi hb
    have hs := hnp i hi
    refine ⟨by rw [(hsh i i hs).1]; exact h1, ?_⟩
    have hiS : i < S0.length := by omega
    obtain ⟨hXl, hXg⟩ := renBs_get h0
    have hx := (hsg i i hs).2
    rw [h2] at hx
    have := hXg i _ _ (List.getElem?_eq_getElem hiS) hx.symm
    cases hb0 : S0[i] with
    | cells cs' => exact ⟨cs', by rw [List.getElem?_eq_getElem hiS, hb0]⟩
    | _ => rw [hb0] at this; simp [renB] at this
  · have hi' : i < σ.length := by omega
    have h := hsg i _ (List.getElem?_eq_getElem hi')
    exact hr.mem.lt _ b h.1 (by rw [← (hsh i _ (List.getElem?_eq_getElem hi')).1]; exact hb)

theorem aw_sel {P : Program} {env : Env} {w0 : Base} {n : Nat} {Q : Exit → Fr → List Blk → Prop} {F F0 : Fr} {S S0 X : List Blk} {c : Code} (σ : List Nat) (hnd : nodupN σ = true) (hX : selS S σ = some X) (h0 : renBs σ S0 = some X)
    (hnl : w0.np ≤ S0.length) (hnp : ∀ i, i < w0.np → σ[i]? = some i) (hF : subR σ F F0) (k : AW P env w0 n c Q F0 S0) : AW P env w0 n c Q F S :=
  fun hE _ a w hr => k hE _ a w (sel_rel hr σ hnd h0 hX hF hnl hnp)

theorem retN1 {env : Env} {rs : List ResultVar} {rS : List Blk} {rv v : V} {F : Fr} {S : List Blk} (h : resL env F S rs = some [v]) (hS : subS S rS) (h1 : lowS rS.length rS = true) (h2 : V.low.lowL rS.length [v] = true) (hb : bflats rS) (hv : vflats [v] = true) (e : v = rv) :
    (Exit.ret = .normal ∨ Exit.ret = .ret) ∧ retN env rs rS rv F S := ⟨.inr rfl, _, h, hS, h1, h2, hb, hv, e⟩
theorem retN2 {env : Env} {rs : List ResultVar} {rS : List Blk} {r1 r2 v1 v2 : V} {F : Fr} {S : List Blk} (h : resL env F S rs = some [v1, v2]) (hS : subS S rS) (h1 : lowS rS.length rS = true) (h2 : V.low.lowL rS.length [v1, v2] = true) (hb : bflats rS) (hv : vflats [v1, v2] = true) (e1 : v1 = r1) (e2 : v2 = r2) :
    (Exit.ret = .normal ∨ Exit.ret = .ret) ∧ retN env rs rS (.tup [r1, r2]) F S := ⟨.inr rfl, _, h, hS, h1, h2, hb, hv, by rw [e1, e2]⟩

/-! ### A loop of a function, by its first region -/

def firstR : Code → Option Nat
  | .region id _ _ => some id
  | .seq a b => match firstR a with
    | some k => some k
    | none => firstR b
  | .block _ b => firstR b
  | .loop b => firstR b
  | .scope b => firstR b
  | _ => none
def loopAt (k : Nat) : Code → Option Code
  | .loop b => match firstR b with
    | some j => bif Nat.beq j k then some (.loop b) else loopAt k b
    | none => loopAt k b
  | .seq a b => match loopAt k a with
    | some c => some c
    | none => loopAt k b
  | .cond _ a b => match loopAt k a with
    | some c => some c
    | none => loopAt k b
  | .block _ b => loopAt k b
  | .scope b => loopAt k b
  | _ => none
def loopC (f : Func) (k : Nat) : Code := match f.body with
  | some c => match loopAt k c with
    | some d => d
    | none => .skip
  | none => .skip

end Go.Wk

/- Rows told otherwise; results as data; arguments told otherwise; operations under guards that are met. -/
namespace Go.Wk
set_option maxRecDepth 10000
open Go.RowKit

theorem weak_row {F : Fr} {S S' : List Blk} {nm e m : Nat} {g g' : Nat → List D} (hb : nthF S nm = some (.row e m g)) (hg : ∀ i, i < m → g i = g' i) (hS : putO S nm (.row e m g') = some S') : Weak F S F S' := by
  intro w0 n ρ a w hnp hr
  rw [nthF_eq] at hb
  obtain ⟨plen, pat, pother⟩ := putO_get hS
  have hsh : ∀ k, shape S' k = shape S k := fun k => by
    unfold shape
    by_cases hk : k = nm
    · subst hk; rw [pat, hb]; rfl
    · rw [pother k hk]
  have mv : Moves S ρ w S' ρ w := ⟨fun k hk => ⟨⟨hk.1, fun i hi => hk.2 i (by omega)⟩, rfl⟩, fun k _ => ⟨rfl, hsh k, fun _ _ _ _ h => h⟩⟩
  refine ⟨ρ, mv.fr hr.fr, hr.mem.below, by rw [plen]; exact hr.mem.np, fun i b hi hbp => ?_, fun i b hi => hr.mem.lt i b (by omega), fun i j b hi hj => hr.mem.inj i j b (by omega) (by omega), fun i blk hi => ?_⟩
  · obtain ⟨h1, cs, h2⟩ := hr.mem.pin i b hi hbp
    refine ⟨h1, cs, ?_⟩
    by_cases hk : i = nm
    · subst hk; rw [hb] at h2; cases h2
    · rw [pother i hk]; exact h2
  · by_cases hk : i = nm
    · subst hk
      rw [pat] at hi; cases hi
      rcases hr.mem.blk i _ hb with h | ⟨b, c, ty, h1, h2, h3, h4, h5⟩
      · exact .inl h
      · refine .inr ⟨b, c, ty, h1, h2, h3, fun j hj => ?_, fun j k x hj hx => ?_⟩
        · have := h4 j hj
          simp only [Blk.get] at this ⊢
          rw [← hg j hj]; exact this
        · simp only [Blk.get] at hx
          rw [← hg j hj] at hx
          obtain ⟨v, hv, hr'⟩ := h5 j k x hj hx
          exact ⟨v, hv, mv.d hr'⟩
    · rw [pother i hk] at hi
      exact mv.blk (List.getElem?_eq_some_iff.1 hi).1 (hr.mem.blk i blk hi) (fun _ _ _ => rfl)

/-! ### Results as data -/

def expD1 (S : List Blk) : V → D → Prop
  | .d x, y => x = y ∧ x.flat = true
  | .nil, y => y = nilD
  | .own nm, y => ∃ b, nthF S nm = some b ∧ b.isRow = true ∧ b.flat ∧ y = .arr b.esz b.len b.get
  | _, _ => False
def expDs (S : List Blk) : List V → List D → Prop
  | [], [] => True
  | v :: r, x :: s => expD1 S v x ∧ expDs S r s
  | _, _ => False
def expD (S : List Blk) : V → D → Prop
  | .agg cs, .agg ds => expDs S cs ds
  | v, x => expD1 S v x
def expL2 (S : List Blk) : List V → List V → Prop
  | [], [] => True
  | v :: r, .d x :: s => expD S v x ∧ expL2 S r s
  | _, _ => False
def retD (env : Env) (rs : List ResultVar) (rv : V) (F : Fr) (S : List Blk) : Prop :=
  ∃ vs, resL env F S rs = some vs ∧ match vs with
    | [v] => ∃ x, rv = .d x ∧ expD S v x
    | vs => ∃ us, rv = .tup us ∧ expL2 S vs us

theorem expD1_rel {w0 : World} {S : List Blk} {ρ ρ0 : Nat → Option Nat} {w : World} (hm : Mem (Base.of w0) S ρ w) {v : V} {x : D} (h : expD1 S v x) {u : Value} (hu : RelV S ρ (Rr S ρ w) w u v) : RelD (Rf w0 [] ρ0 w) w u x := by
  cases v with
  | d y =>
    obtain ⟨rfl, hf⟩ := h
    cases hu with | d h => exact h.flat hf
  | nil =>
    simp only [expD1] at h; subst h
    cases hu; exact .nil _ _
  | own nm =>
    obtain ⟨b, hb, hrow, hfl, rfl⟩ := h
    rw [nthF_eq] at hb
    have hd := toD_own hm hb hrow hu
    cases hu with
    | ownNil hb' hs =>
      have hl : b.len = 0 := by simp [shape, hb] at hs; exact hs.2
      rw [hl]; exact .nil _ _
    | @own _ b' esz len cap hb' hs hc hcap =>
      have hown := hm.lt nm b' (List.getElem?_eq_some_iff.1 hb).1 hb'
      cases hd with
      | arr _ _ _ _ _ _ val hR hnc hlen hce h =>
        refine .arr _ _ _ _ _ _ val ⟨hown.1.resolve_right (fun h => h), hR, fun i hi => by simp at hi⟩ hnc hlen hce (fun i j x hi hx => ?_)
        have hs := Blk.flat_get hfl hi hx
        rw [RelD.valOf_eq hs (h i j x hi hx)]
        exact RelD.of_scal hs _ _
  | _ => exact h.elim
theorem expDs_rel {w0 : World} {S : List Blk} {ρ ρ0 : Nat → Option Nat} {w : World} (hm : Mem (Base.of w0) S ρ w) : ∀ {cs : List V} {ds : List D}, expDs S cs ds → cs.length = ds.length ∧ ∀ (i : Nat) u v x, cs[i]? = some v → ds[i]? = some x → RelV S ρ (Rr S ρ w) w u v → RelD (Rf w0 [] ρ0 w) w u x
  | [], [], _ => by simp
  | [], _ :: _, h => h.elim
  | _ :: _, [], h => h.elim
  | v :: r, x :: s, h => by
    obtain ⟨h1, h2⟩ := expDs_rel (ρ0 := ρ0) hm h.2
    refine ⟨by simp [h1], fun i u y z hy hz hu => ?_⟩
    cases i with
    | zero => simp at hy hz; subst hy hz; exact expD1_rel hm h.1 hu
    | succ i => exact h2 i u y z (by simpa using hy) (by simpa using hz) hu
theorem expD_rel {w0 : World} {S : List Blk} {ρ ρ0 : Nat → Option Nat} {w : World} (hm : Mem (Base.of w0) S ρ w) {v : V} {x : D} (h : expD S v x) {u : Value} (hu : RelV S ρ (Rr S ρ w) w u v) : RelD (Rf w0 [] ρ0 w) w u x := by
  unfold expD at h
  split at h
  · rename_i cs ds
    obtain ⟨h1, h2⟩ := expDs_rel (ρ0 := ρ0) hm h
    cases hu with
    | agg vals _ hl hr =>
      refine .agg vals ds (by omega) fun i u' x hv hx => ?_
      have hi : i < cs.length := by have := (List.getElem?_eq_some_iff.1 hx).1; omega
      exact h2 i u' _ x (List.getElem?_eq_getElem hi) hx (hr i u' _ hv (List.getElem?_eq_getElem hi))
  · exact expD1_rel hm h hu
theorem expL2_rel {w0 : World} {S : List Blk} {ρ ρ0 : Nat → Option Nat} {w : World} (hm : Mem (Base.of w0) S ρ w) : ∀ {vs us : List V}, expL2 S vs us → vs.length = us.length ∧ ∀ (i : Nat) u v y, vs[i]? = some v → us[i]? = some y → RelV S ρ (Rr S ρ w) w u v → RelV [] ρ0 (Rf w0 [] ρ0 w) w u y
  | [], [], _ => by simp
  | [], _ :: _, h => h.elim
  | _ :: _, [], h => h.elim
  | v :: r, y :: s, h => by
    cases y with
    | d x =>
      obtain ⟨h1, h2⟩ := expL2_rel (ρ0 := ρ0) hm h.2
      refine ⟨by simp [h1], fun i u a b ha hb hu => ?_⟩
      cases i with
      | zero => simp at ha hb; subst ha hb; exact .d (expD_rel hm h.1 hu)
      | succ i => exact h2 i u a b (by simpa using ha) (by simpa using hb) hu
    | _ => exact h.elim

/-- A contract out of a walk, where the result is data in new memory. -/
theorem spec_data {P : Program} {env : Env} (hE : EnvOK P env) {f : FuncId} {fn : Func} {c : Code} {rs : List ResultVar} {ds : List D} {rv : V} (hen : Enters P f) (hf : P.funcs[f]? = some fn) (hb : fn.body = some c)
    (hrs : fn.results = rs.toArray) (n : Nat) (hn : fn.ntmps = n) (hds : ds.length ≤ n) {F0 : Fr} (hF : entryO 0 ds = some F0)
    (k : ∀ w0, AW P env (Base.of w0) n c (fun e F S => (e = .normal ∨ e = .ret) ∧ retD env rs rv F S) F0 []) : Ctr P f ds [] rv := by
  rw [entryO_eq] at hF; cases hF
  refine ⟨hen, fun w vs hvs => ?_⟩
  obtain ⟨hl, hv⟩ := hvs
  refine calls_of_wp hf hb (Code.wp_mono (fun e a' w' hq => ?_) (k w hE (fun _ => none) _ w ⟨⟨?_, rfl, fun t g v h => ?_⟩, ⟨Kept.refl _, Nat.zero_le _, fun i b hi => absurd hi (Nat.not_lt_zero _), fun i b hi => by simp at hi, fun i j b hi => by simp at hi, fun i blk h => by simp at h⟩⟩))
  · obtain ⟨F', S', ρ', hr, hex, vs', hres, hval⟩ := hq
    obtain ⟨vals, hall, hlen, hrel⟩ := resL_run (P := P) hE hr.fr hr.mem hres
    have hrun := run_results hrs hall
    have done : ∃ v ρ, Ending.returned (retVal vals) = .returned v ∧ Out w [] ρ w' v rv := by
      refine ⟨_, fun _ => none, rfl, hr.mem.below.of, fun i b hi => by simp at hi, fun i j b hi => by simp at hi, fun i blk hb => by simp at hb, ?_⟩
      match vals, vs', hlen, hrel, hval with
      | [u], [v], _, hrel, ⟨x, hx, he⟩ => subst hx; exact .d (expD_rel hr.mem he (hrel 0 u v (by simp) (by simp)))
      | [], [], _, hrel, ⟨us, hus, hL⟩ =>
        subst hus
        have := (expL2_rel (ρ0 := fun _ => none) hr.mem hL).1
        exact .tup [] us (by simpa using this) fun i v x hv => by simp at hv
      | u :: u' :: ur, v :: v' :: vr, hlen, hrel, ⟨us, hus, hL⟩ =>
        subst hus
        obtain ⟨h1, h2⟩ := expL2_rel (ρ0 := fun _ => none) hr.mem hL
        refine .tup _ _ (by rw [hlen, h1]) fun i a b ha hb => ?_
        have hi : i < (v :: v' :: vr).length := by rw [h1]; exact (List.getElem?_eq_some_iff.1 hb).1
        exact h2 i a _ b (List.getElem?_eq_getElem hi) hb (hrel i a _ ha (List.getElem?_eq_getElem hi))
    rcases hex with rfl | rfl
    · exact ⟨hr.fr.defers, _, hrun, done⟩
    · exact ⟨hr.fr.defers, _, hrun, done⟩
  · simp [hl, hn]; omega
  · obtain ⟨rfl, j, x, hx, rfl, rfl⟩ := entryF_get h
    refine ⟨fun _ => ?_, fun h => absurd trivial h⟩
    have hj : j < vs.length := by rw [hl]; exact (List.getElem?_eq_some_iff.1 hx).1
    have hg : (vs.toArray ++ Array.replicate (fn.ntmps - vs.toArray.size) undef).getD (0 + j) undef = vs[j] := by
      rw [Nat.zero_add, Array.getD_eq_getD_getElem?, Array.getElem?_append_left (by simpa using hj)]
      simp [hj]
    rw [hg]
    exact ofD_rel (fun k hk => ⟨hk, fun i hi => by simp at hi⟩) (hv j _ x (List.getElem?_eq_getElem hj) hx) _ _

/-! ### Data told otherwise -/

/-- Whatever reads as the one reads as the other. -/
def DLe (x y : D) : Prop := ∀ (R : Nat → Prop) (w : World) (v : Value), RelD R w v x → RelD R w v y
theorem DLe.refl (x : D) : DLe x x := fun _ _ _ h => h
theorem DLe.arr {e n : Nat} {g g' : Nat → List D} (h : ∀ i, i < n → g i = g' i) : DLe (.arr e n g) (.arr e n g') := by
  intro R w v hv
  cases hv with
  | nil => exact .nil _ _
  | arr b off _ cap _ _ val hR hnc hlen hc hr => exact .arr b off n cap e g' val hR hnc (fun i hi => by rw [← h i hi]; exact hlen i hi) hc (fun i j x hi hx => hr i j x hi (by rw [h i hi]; exact hx))
theorem DLe.nil {e e' : Nat} {g g' : Nat → List D} : DLe (.arr e 0 g) (.arr e' 0 g') := by
  intro R w v hv
  cases hv with
  | nil => exact .nil _ _
  | arr b off _ cap _ _ val hR _ hlen hc hr => exact .arr b off 0 cap e' g' val hR (Nat.zero_le _) (fun i hi => by omega) (fun i j hi => by omega) (fun i j x hi => by omega)
def DLes : List D → List D → Prop
  | [], [] => True
  | x :: r, y :: s => DLe x y ∧ DLes r s
  | _, _ => False
theorem DLes.get : ∀ {xs ys : List D}, DLes xs ys → xs.length = ys.length ∧ ∀ (i : Nat) x y, xs[i]? = some x → ys[i]? = some y → DLe x y
  | [], [], _ => by simp
  | [], _ :: _, h => h.elim
  | _ :: _, [], h => h.elim
  | x :: r, y :: s, h => by
    obtain ⟨h1, h2⟩ := DLes.get h.2
    refine ⟨by simp [h1], fun i a b ha hb => ?_⟩
    cases i with
    | zero => simp at ha hb; subst ha hb; exact h.1
    | succ i => exact h2 i a b (by simpa using ha) (by simpa using hb)
theorem DLe.agg {xs ys : List D} (h : DLes xs ys) : DLe (.agg xs) (.agg ys) := by
  obtain ⟨h1, h2⟩ := h.get
  intro R w v hv
  cases hv with
  | agg vals _ hl hr =>
    refine .agg vals ys (by omega) fun i u y hu hy => ?_
    have hi : i < xs.length := by have := (List.getElem?_eq_some_iff.1 hy).1; omega
    exact h2 i _ y (List.getElem?_eq_getElem hi) hy R w u (hr i u _ hu (List.getElem?_eq_getElem hi))
theorem Ctr.args {P : Program} {f : FuncId} {ds ds' : List D} {rS : List Blk} {rv : V} (h : Ctr P f ds rS rv) (hd : DLes ds' ds) : Ctr P f ds' rS rv := by
  obtain ⟨h1, h2⟩ := hd.get
  refine ⟨h.1, fun w vs hvs => h.2 w vs ⟨by rw [hvs.1, h1], fun i v y hv hy => ?_⟩⟩
  have hi : i < ds'.length := by have := (List.getElem?_eq_some_iff.1 hy).1; omega
  exact h2 i _ y (List.getElem?_eq_getElem hi) hy _ _ _ (hvs.2 i v _ hv (List.getElem?_eq_getElem hi))

/-! ### Guards that are met -/

section
variable {P : Program} {env : Env} {w0 : Base} {n : Nat} {l0 : List Oper} {K : Fr → List Blk → Prop} {l : List Oper} {F : Fr} {S : List Blk}
theorem ao_stepsT {o : Oper} {F' : Fr} {S' : List Blk} {g : List Bool} (hg : gof F l0 o.guard = some g) (hall : allT g) (h : EnvOK P env → StepsTo P n o F S F' S') (k : AO P env w0 n l0 K l F' S') : AO P env w0 n l0 K (o :: l) F S := by
  intro hE ρ a w hr
  obtain ⟨nx, w', ρ', a', hrun, hr', hcase⟩ := h hE w0 ρ a w hr
  have hw := (gof_wanted hr.fr hg).1 hall
  refine wpList_step fun K' hK => ?_
  rw [if_pos hw]
  unfold Oper.wp
  rw [hrun]
  rcases hcase with ⟨val, rfl, rfl⟩ | ⟨rfl, rfl⟩
  · exact hK _ _ (k hE ρ' _ w' hr')
  · exact hK _ _ (k hE ρ' _ w' hr')
theorem ao_litT {d : Nat} {ty : TypeId} {pos : String} {after : Array Edge} {S' : List Blk} {nm : Nat} {gd : Option (Nat × Bool)} {g : List Bool} {T e : TypeId} {len s by_ : Nat} {z : Value} {parts : Array (Nat × Operand)} {te : TI} {ps : List Prop} {css : List (List D)} (hg : gof F l0 gd = some g) (hall : allT g) (hT : ti? env T = some ⟨.slice e, s, by_, z⟩) (he : ti? env e = some te) (hz : Nat.beq te.zero.cells.size te.size = true)
    (hx : litD F te.size 0 parts.toList = some (css, ps)) (hp : allP ps) (hlen : Nat.beq parts.toList.length len = true) (hsm : Nat.ble (len * te.size) 16777216 = true) (hpos : Nat.blt 0 te.size = true) {b : Blk} (hb : litB te.size css = b) (hS : snocO S b = some (S', nm)) (hd : Nat.blt d n = true)
    (k : AO P env w0 n l0 K l ((d, [], .own nm) :: F) S') : AO P env w0 n l0 K (⟨some d, .buildSlice T len parts, ty, pos, after, gd⟩ :: l) F S := by
  subst hb
  exact ao_stepsT hg hall (fun hE => steps_lit (hE.get hT) (hE.get he) hz hx hp hlen hsm hpos hS hd) k
end
end Go.Wk

/- The data of the program, plainly, and how it reads. -/
namespace Go.Wk
set_option maxRecDepth 10000

structure Lk where
  a : Int
  b : Int
  c0 : Int
  c1 : Int
  cap : Int
  delay : Int
  grp : Int
  deriving Inhabited, DecidableEq

structure Topo where
  nodes : Int
  overload : List Bool
  links : List Lk
  deriving Inhabited

def lkD (l : Lk) : List D := [.int .i64 l.a, .int .i64 l.b, .int .i64 l.c0, .int .i64 l.c1, .int .i64 l.cap, .int .i64 l.delay, .int .i64 l.grp]
def linksD (ls : List Lk) : D := .arr 7 ls.length fun i => lkD (ls.getD i default)
def topoD (t : Topo) : D := .agg [.int .i64 t.nodes, boolsD t.overload, linksD t.links]
abbrev iD (n : Int) : D := .int .i64 n
abbrev bD (b : Bool) : D := .bool b

theorem getD_mem {α : Type} {l : List α} {i : Nat} {d : α} (h : i < l.length) : l.getD i d ∈ l := by
  simp [List.getD_eq_getElem?_getD, h]
theorem all_false_of {α : Type} {l : List α} {p : α → Bool} {i : Nat} {d : α} (h : i < l.length) (hp : p (l.getD i d) = false) : l.all p = false := by
  rw [List.all_eq_false]
  exact ⟨l.getD i d, getD_mem h, by rw [hp]; simp⟩
theorem all_true_of {α : Type} {l : List α} {p : α → Bool} {d : α} (h : ∀ i, i < l.length → p (l.getD i d) = true) : l.all p = true := by
  rw [List.all_eq_true]
  intro x hx
  obtain ⟨k, hk, rfl⟩ := List.mem_iff_getElem.1 hx
  have := h k hk
  simpa [List.getD_eq_getElem?_getD, hk] using this

end Go.Wk

/- Layer 9: the small functions. -/
namespace Go.Proofs.Ytcnfggpcploehaa
set_option maxRecDepth 10000
open Go.Wk

def insideB (n lo hi : Int) : Bool := decide (lo ≤ n) && decide (n ≤ hi)

theorem c_inside (n lo hi : Int) : Ctr Try.prog 82 [iD n, iD lo, iD hi] [] (.d (bD (insideB n lo hi))) := by
  refine spec_of envOK (enters_of Try.func82 (by kernel_rfl) (by kernel_rfl)) Try.func82 rfl rfl _ rfl (Nat.le_of_ble_eq_true rfl) rfl fun w0 => ?_
  repeat' (first
  
    | refine aw_seq ?_
    | refine aw_region ?_
    | refine aw_region_q (by kernel_rfl) (by kernel_rfl) ?_
    | refine aw_block ?_
    | refine ao_nil ?_
    | refine ao_op rfl trivial ?_
    | refine aq_nil ?_
    | refine aq_op rfl trivial ?_
    | refine at_nil ?_
    | refine at_op rfl trivial ?_
    | refine am_nil ?_
    | refine am_op rfl trivial rfl ?_
    | refine aw_skip ?_
    | refine aw_condT rfl trivial ?_
    | refine aw_condF rfl trivial ?_
    | refine aw_condD rfl trivial (fun hc => ?_) (fun hc => ?_)
    | refine aw_condN rfl trivial (fun hc => ?_) (fun hc => ?_)
    | refine aw_condNB rfl trivial (fun hc => ?_) (fun hc => ?_)
    | refine aw_cond rfl trivial (fun hc => ?_) (fun hc => ?_)
    | refine aw_ret ?_
    | refine aw_exit ?_
    | refine ao_op rfl ?_ ?_
    | refine aq_op rfl ?_ ?_
    | refine at_op rfl ?_ ?_
    | refine am_op rfl ?_ rfl ?_
    | refine ao_box rfl trivial rfl rfl rfl ?_
    | refine ao_alloc rfl rfl rfl rfl ?_
    | refine ao_store rfl rfl trivial rfl trivial rfl rfl rfl rfl rfl ?_
  
    | (show allP _; first | trivial | exact ob1 (fun h => h) | exact ob2 (fun h => h) (fun h => h) | exact ob1 (fun h => ⟨h.1, trivial⟩) | (simp only [allP, obg, grd, allT, InR, decide_eq_true_eq, Bool.and_eq_true, Bool.not_eq_true', decide_eq_false_iff_not, List.nil_append, List.cons_append, List.append_nil, and_true, true_and]; first | omega | (intros; omega) | (simp only [Blk.len, List.length_set, List.length_append, List.length_cons, List.length_nil]; first | omega | (intros; omega)) | (refine ⟨?_, ?_⟩ <;> intros <;> first | (with_reducible assumption) | omega) | ((repeat' refine And.intro ?_ ?_) <;> (intros; first | (with_reducible assumption) | omega | (simp only [Blk.len, List.length_set, List.length_append, List.length_cons, List.length_nil]; omega))) | ((try simp only [Bool.or_eq_true, Bool.or_eq_false_iff, Bool.and_eq_true, Bool.and_eq_false_iff, decide_eq_true_eq, decide_eq_false_iff_not, Bool.not_eq_true', Bool.not_eq_false'] at *); (try simp only [Blk.len] at *); first | omega | (intros; omega)) | (simp_all; done))))
  (refine fin_ret ?_; exact ret1 (by rfl) (by rfl) (by rfl))

def properB (l : Lk) (nodes : Int) : Bool :=
  insideB l.a 0 (nodes - 1) && insideB l.b 0 (nodes - 1) && !decide (l.a = l.b) && insideB l.c0 1 65535 && insideB l.c1 1 65535 && insideB l.cap 0 1048576 && insideB l.delay 1 65536 && insideB l.grp 0 64

theorem c_proper (l : Lk) (nodes : Int) (h0 : 1 ≤ nodes) (h1 : nodes ≤ 9223372036854775807) : Ctr Try.prog 101 [.agg (lkD l), iD nodes] [] (.d (bD (properB l nodes))) := by
  refine spec_of envOK (enters_of Try.func101 (by kernel_rfl) (by kernel_rfl)) Try.func101 rfl rfl _ rfl (Nat.le_of_ble_eq_true rfl) rfl fun w0 => ?_
  repeat' (first
  
    | refine aw_seq ?_
    | refine aw_region ?_
    | refine aw_region_q (by kernel_rfl) (by kernel_rfl) ?_
    | refine aw_block ?_
    | refine ao_nil ?_
    | refine ao_op rfl trivial ?_
    | refine aq_nil ?_
    | refine aq_op rfl trivial ?_
    | refine at_nil ?_
    | refine at_op rfl trivial ?_
    | refine am_nil ?_
    | refine am_op rfl trivial rfl ?_
    | refine aw_skip ?_
    | refine aw_condT rfl trivial ?_
    | refine aw_condF rfl trivial ?_
    | refine aw_condD rfl trivial (fun hc => ?_) (fun hc => ?_)
    | refine aw_condN rfl trivial (fun hc => ?_) (fun hc => ?_)
    | refine aw_condNB rfl trivial (fun hc => ?_) (fun hc => ?_)
    | refine aw_cond rfl trivial (fun hc => ?_) (fun hc => ?_)
    | refine aw_ret ?_
    | refine aw_exit ?_
    | refine ao_op rfl ?_ ?_
    | refine aq_op rfl ?_ ?_
    | refine at_op rfl ?_ ?_
    | refine am_op rfl ?_ rfl ?_
    | refine ao_box rfl trivial rfl rfl rfl ?_
    | refine ao_alloc rfl rfl rfl rfl ?_
    | refine ao_store rfl rfl trivial rfl trivial rfl rfl rfl rfl rfl ?_
    | refine ao_call rfl (c_inside _ _ _) rfl ?_ ?_
    | (show allP _; first | trivial | exact ob1 (fun h => h) | exact ob2 (fun h => h) (fun h => h) | exact ob1 (fun h => ⟨h.1, trivial⟩) | (simp only [allP, obg, grd, allT, InR, decide_eq_true_eq, Bool.and_eq_true, Bool.not_eq_true', decide_eq_false_iff_not, List.nil_append, List.cons_append, List.append_nil, and_true, true_and]; first | omega | (intros; omega) | (simp only [Blk.len, List.length_set, List.length_append, List.length_cons, List.length_nil]; first | omega | (intros; omega)) | (refine ⟨?_, ?_⟩ <;> intros <;> first | (with_reducible assumption) | omega) | ((repeat' refine And.intro ?_ ?_) <;> (intros; first | (with_reducible assumption) | omega | (simp only [Blk.len, List.length_set, List.length_append, List.length_cons, List.length_nil]; omega))) | ((try simp only [Bool.or_eq_true, Bool.or_eq_false_iff, Bool.and_eq_true, Bool.and_eq_false_iff, decide_eq_true_eq, decide_eq_false_iff_not, Bool.not_eq_true', Bool.not_eq_false'] at *); (try simp only [Blk.len] at *); first | omega | (intros; omega)) | (simp_all; done))))

  (refine fin_ret ?_; exact ret1 (by rfl) (by rfl) (by rfl))

def badHead (t : Topo) : Bool := !insideB t.nodes 1 64 || (!decide ((t.overload.length : Int) = 0) && !decide ((t.overload.length : Int) = t.nodes)) || decide (256 < (t.links.length : Int))
def validB (t : Topo) : Bool := !badHead t && t.links.all fun l => properB l t.nodes

theorem badHead_f {t : Topo} (h : badHead t = false) : 1 ≤ t.nodes ∧ t.nodes ≤ 64 ∧ t.links.length ≤ 256 ∧ (t.overload.length = 0 ∨ (t.overload.length : Int) = t.nodes) := by
  simp only [badHead, insideB, Bool.or_eq_false_iff, Bool.not_eq_false', Bool.and_eq_true, decide_eq_true_eq, Bool.and_eq_false_iff, decide_eq_false_iff_not] at h
  omega

theorem c_Valid (t : Topo) : Ctr Try.prog 81 [topoD t] [] (.d (bD (validB t))) := by
  refine spec_of envOK (enters_of Try.func81 (by kernel_rfl) (by kernel_rfl)) Try.func81 rfl rfl _ rfl (Nat.le_of_ble_eq_true rfl) rfl fun w0 => ?_
  repeat' (first
  
    | refine aw_seq ?_
    | refine aw_region ?_
    | refine aw_region_q (by kernel_rfl) (by kernel_rfl) ?_
    | refine aw_block ?_
    | refine ao_nil ?_
    | refine ao_op rfl trivial ?_
    | refine aq_nil ?_
    | refine aq_op rfl trivial ?_
    | refine at_nil ?_
    | refine at_op rfl trivial ?_
    | refine am_nil ?_
    | refine am_op rfl trivial rfl ?_
    | refine aw_skip ?_
    | refine aw_condT rfl trivial ?_
    | refine aw_condF rfl trivial ?_
    | refine aw_condD rfl trivial (fun hc => ?_) (fun hc => ?_)
    | refine aw_condN rfl trivial (fun hc => ?_) (fun hc => ?_)
    | refine aw_condNB rfl trivial (fun hc => ?_) (fun hc => ?_)
    | refine aw_cond rfl trivial (fun hc => ?_) (fun hc => ?_)
    | refine aw_ret ?_
    | refine aw_exit ?_
    | refine ao_op rfl ?_ ?_
    | refine aq_op rfl ?_ ?_
    | refine at_op rfl ?_ ?_
    | refine am_op rfl ?_ rfl ?_
    | refine ao_box rfl trivial rfl rfl rfl ?_
    | refine ao_alloc rfl rfl rfl rfl ?_
    | refine ao_store rfl rfl trivial rfl trivial rfl rfl rfl rfl rfl ?_
    | refine ao_call rfl (c_inside _ _ _) rfl ?_ ?_
    | (show allP _; first | trivial | exact ob1 (fun h => h) | exact ob2 (fun h => h) (fun h => h) | exact ob1 (fun h => ⟨h.1, trivial⟩) | (simp only [allP, obg, grd, allT, InR, decide_eq_true_eq, Bool.and_eq_true, Bool.not_eq_true', decide_eq_false_iff_not, List.nil_append, List.cons_append, List.append_nil, and_true, true_and]; first | omega | (intros; omega) | (simp only [Blk.len, List.length_set, List.length_append, List.length_cons, List.length_nil]; first | omega | (intros; omega)) | (refine ⟨?_, ?_⟩ <;> intros <;> first | (with_reducible assumption) | omega) | ((repeat' refine And.intro ?_ ?_) <;> (intros; first | (with_reducible assumption) | omega | (simp only [Blk.len, List.length_set, List.length_append, List.length_cons, List.length_nil]; omega))) | ((try simp only [Bool.or_eq_true, Bool.or_eq_false_iff, Bool.and_eq_true, Bool.and_eq_false_iff, decide_eq_true_eq, decide_eq_false_iff_not, Bool.not_eq_true', Bool.not_eq_false'] at *); (try simp only [Blk.len] at *); first | omega | (intros; omega)) | (simp_all; done))))
  · have hb : badHead t = true := hc
    (refine fin_ret ?_; exact ret1 (by rfl) (by (unfold validB; rw [hb]; rfl)) (by rfl))
  have hb : badHead t = false := hc
  obtain ⟨n1, n2, n3, _⟩ := badHead_f hb
  refine aw_loop (ι := Nat) (fun i => [(32, [], .d (iD i)), (30, [], .d (linksD t.links)), (31, [], .d (iD t.links.length)), (1, [], .ptr 0 0)]) (fun _ => [.cells [.d (iD t.nodes), .d (boolsD t.overload), .d (linksD t.links)]])
    (fun i => i ≤ t.links.length ∧ ∀ j, j < i → properB (t.links.getD j default) t.nodes = true) (fun i => t.links.length - i) 0 ⟨by omega, fun j hj => by omega⟩ (fun _ => Nat.le_of_ble_eq_true rfl) (by refine weak_to ?_ ?_ rfl rfl
                                                                                                                                                                                                           · repeat (first | exact subF_nil | refine subF_cons (by first | rfl | (simp [look]; done)) ?_)
                                                                                                                                                                                                           · repeat (first | exact subS_nil | refine subS_cons (by first | rfl | (simp; done)) ?_)) fun i hi => ?_
  obtain ⟨hi1, hi2⟩ := hi
  repeat' (first
  
    | refine aw_seq ?_
    | refine aw_region ?_
    | refine aw_region_q (by kernel_rfl) (by kernel_rfl) ?_
    | refine aw_block ?_
    | refine ao_nil ?_
    | refine ao_op rfl trivial ?_
    | refine aq_nil ?_
    | refine aq_op rfl trivial ?_
    | refine at_nil ?_
    | refine at_op rfl trivial ?_
    | refine am_nil ?_
    | refine am_op rfl trivial rfl ?_
    | refine aw_skip ?_
    | refine aw_condT rfl trivial ?_
    | refine aw_condF rfl trivial ?_
    | refine aw_condD rfl trivial (fun hc => ?_) (fun hc => ?_)
    | refine aw_condN rfl trivial (fun hc => ?_) (fun hc => ?_)
    | refine aw_condNB rfl trivial (fun hc => ?_) (fun hc => ?_)
    | refine aw_cond rfl trivial (fun hc => ?_) (fun hc => ?_)
    | refine aw_ret ?_
    | refine aw_exit ?_
    | refine ao_op rfl ?_ ?_
    | refine aq_op rfl ?_ ?_
    | refine at_op rfl ?_ ?_
    | refine am_op rfl ?_ rfl ?_
    | refine ao_box rfl trivial rfl rfl rfl ?_
    | refine ao_alloc rfl rfl rfl rfl ?_
    | refine ao_store rfl rfl trivial rfl trivial rfl rfl rfl rfl rfl ?_
    | refine ao_call rfl (c_proper _ _ (by omega) (by omega)) rfl ?_ ?_
    | (show allP _; first | trivial | exact ob1 (fun h => h) | exact ob2 (fun h => h) (fun h => h) | exact ob1 (fun h => ⟨h.1, trivial⟩) | (simp only [allP, obg, grd, allT, InR, decide_eq_true_eq, Bool.and_eq_true, Bool.not_eq_true', decide_eq_false_iff_not, List.nil_append, List.cons_append, List.append_nil, and_true, true_and]; first | omega | (intros; omega) | (simp only [Blk.len, List.length_set, List.length_append, List.length_cons, List.length_nil]; first | omega | (intros; omega)) | (refine ⟨?_, ?_⟩ <;> intros <;> first | (with_reducible assumption) | omega) | ((repeat' refine And.intro ?_ ?_) <;> (intros; first | (with_reducible assumption) | omega | (simp only [Blk.len, List.length_set, List.length_append, List.length_cons, List.length_nil]; omega))) | ((try simp only [Bool.or_eq_true, Bool.or_eq_false_iff, Bool.and_eq_true, Bool.and_eq_false_iff, decide_eq_true_eq, decide_eq_false_iff_not, Bool.not_eq_true', Bool.not_eq_false'] at *); (try simp only [Blk.len] at *); first | omega | (intros; omega)) | (simp_all; done))))
  · rw [Int.toNat_natCast] at hc
    (refine fin_ret ?_; exact ret1 (by rfl) (by (simp [validB, all_false_of (p := fun l => properB l t.nodes) (by omega : i < t.links.length) hc])) (by rfl))
  · refine ⟨i + 1, ⟨by omega, fun j hj => ?_⟩, by omega, ?_⟩
    · rw [Int.toNat_natCast] at hc
      rcases Nat.lt_succ_iff_lt_or_eq.1 hj with h | rfl
      · exact hi2 j h
      · exact hc
    · refine weak_to ?_ ?_ rfl rfl
      · repeat (first | exact subF_nil | refine subF_cons (by first | rfl | (simp [look]; done)) ?_)
      · repeat (first | exact subS_nil | refine subS_cons (by first | rfl | (simp; done)) ?_)
  · (refine fin_ret ?_; exact ret1 (by rfl) (by (simp [validB, hb, all_true_of (p := fun l => properB l t.nodes) (d := default) fun k hk => hi2 k (by omega)])) (by rfl))

def arcsT (t : Topo) : Int := bif validB t then 2 * t.links.length else 0
theorem validB_head {t : Topo} (h : validB t = true) : 1 ≤ t.nodes ∧ t.nodes ≤ 64 ∧ t.links.length ≤ 256 ∧ (t.overload.length = 0 ∨ (t.overload.length : Int) = t.nodes) := by
  simp only [validB, Bool.and_eq_true, Bool.not_eq_true'] at h
  exact badHead_f h.1
theorem arcsT_le (t : Topo) : 0 ≤ arcsT t ∧ arcsT t ≤ 512 := by
  unfold arcsT
  cases h : validB t with
  | false => simp
  | true => have := validB_head h; simp; omega

theorem c_Arcs (t : Topo) : Ctr Try.prog 102 [topoD t] [] (.d (iD (arcsT t))) := by
  refine spec_of envOK (enters_of Try.func102 (by kernel_rfl) (by kernel_rfl)) Try.func102 rfl rfl _ rfl (Nat.le_of_ble_eq_true rfl) rfl fun w0 => ?_
  repeat' (first
  
    | refine aw_seq ?_
    | refine aw_region ?_
    | refine aw_region_q (by kernel_rfl) (by kernel_rfl) ?_
    | refine aw_block ?_
    | refine ao_nil ?_
    | refine ao_op rfl trivial ?_
    | refine aq_nil ?_
    | refine aq_op rfl trivial ?_
    | refine at_nil ?_
    | refine at_op rfl trivial ?_
    | refine am_nil ?_
    | refine am_op rfl trivial rfl ?_
    | refine aw_skip ?_
    | refine aw_condT rfl trivial ?_
    | refine aw_condF rfl trivial ?_
    | refine aw_condD rfl trivial (fun hc => ?_) (fun hc => ?_)
    | refine aw_condN rfl trivial (fun hc => ?_) (fun hc => ?_)
    | refine aw_condNB rfl trivial (fun hc => ?_) (fun hc => ?_)
    | refine aw_cond rfl trivial (fun hc => ?_) (fun hc => ?_)
    | refine aw_ret ?_
    | refine aw_exit ?_
    | refine ao_op rfl ?_ ?_
    | refine aq_op rfl ?_ ?_
    | refine at_op rfl ?_ ?_
    | refine am_op rfl ?_ rfl ?_
    | refine ao_box rfl trivial rfl rfl rfl ?_
    | refine ao_alloc rfl rfl rfl rfl ?_
    | refine ao_store rfl rfl trivial rfl trivial rfl rfl rfl rfl rfl ?_
    | refine ao_call rfl (c_Valid _) rfl ?_ ?_
    | (show allP _; first | trivial | exact ob1 (fun h => h) | exact ob2 (fun h => h) (fun h => h) | exact ob1 (fun h => ⟨h.1, trivial⟩) | (simp only [allP, obg, grd, allT, InR, decide_eq_true_eq, Bool.and_eq_true, Bool.not_eq_true', decide_eq_false_iff_not, List.nil_append, List.cons_append, List.append_nil, and_true, true_and]; first | omega | (intros; omega) | (simp only [Blk.len, List.length_set, List.length_append, List.length_cons, List.length_nil]; first | omega | (intros; omega)) | (refine ⟨?_, ?_⟩ <;> intros <;> first | (with_reducible assumption) | omega) | ((repeat' refine And.intro ?_ ?_) <;> (intros; first | (with_reducible assumption) | omega | (simp only [Blk.len, List.length_set, List.length_append, List.length_cons, List.length_nil]; omega))) | ((try simp only [Bool.or_eq_true, Bool.or_eq_false_iff, Bool.and_eq_true, Bool.and_eq_false_iff, decide_eq_true_eq, decide_eq_false_iff_not, Bool.not_eq_true', Bool.not_eq_false'] at *); (try simp only [Blk.len] at *); first | omega | (intros; omega)) | (simp_all; done))))
  · (refine fin_ret ?_; exact ret1 (by rfl) (by (simp [arcsT, (by simpa using hc : validB t = false)])) (by rfl))
  · have := validB_head (by simpa using hc : validB t = true)
    first | trivial | exact ob1 (fun h => h) | exact ob2 (fun h => h) (fun h => h) | exact ob1 (fun h => ⟨h.1, trivial⟩) | (simp only [allP, obg, grd, allT, InR, decide_eq_true_eq, Bool.and_eq_true, Bool.not_eq_true', decide_eq_false_iff_not, List.nil_append, List.cons_append, List.append_nil, and_true, true_and]; first | omega | (intros; omega) | (simp only [Blk.len, List.length_set, List.length_append, List.length_cons, List.length_nil]; first | omega | (intros; omega)) | (refine ⟨?_, ?_⟩ <;> intros <;> first | (with_reducible assumption) | omega) | ((repeat' refine And.intro ?_ ?_) <;> (intros; first | (with_reducible assumption) | omega | (simp only [Blk.len, List.length_set, List.length_append, List.length_cons, List.length_nil]; omega))) | ((try simp only [Bool.or_eq_true, Bool.or_eq_false_iff, Bool.and_eq_true, Bool.and_eq_false_iff, decide_eq_true_eq, decide_eq_false_iff_not, Bool.not_eq_true', Bool.not_eq_false'] at *); (try simp only [Blk.len] at *); first | omega | (intros; omega)) | (simp_all; done))
  · have hv : validB t = true := by simpa using hc
    (refine fin_ret ?_; exact ret1 (by rfl) (by (simp [arcsT, hv])) (by rfl))

def overT (t : Topo) (n : Int) : Bool := decide (0 ≤ n) && decide (n < t.overload.length) && t.overload.getD n.toNat false && validB t
theorem c_Overloaded (t : Topo) (n : Int) : Ctr Try.prog 84 [topoD t, iD n] [] (.d (bD (overT t n))) := by
  refine spec_of envOK (enters_of Try.func84 (by kernel_rfl) (by kernel_rfl)) Try.func84 rfl rfl _ rfl (Nat.le_of_ble_eq_true rfl) rfl fun w0 => ?_
  repeat' (first
  
    | refine aw_seq ?_
    | refine aw_region ?_
    | refine aw_region_q (by kernel_rfl) (by kernel_rfl) ?_
    | refine aw_block ?_
    | refine ao_nil ?_
    | refine ao_op rfl trivial ?_
    | refine aq_nil ?_
    | refine aq_op rfl trivial ?_
    | refine at_nil ?_
    | refine at_op rfl trivial ?_
    | refine am_nil ?_
    | refine am_op rfl trivial rfl ?_
    | refine aw_skip ?_
    | refine aw_condT rfl trivial ?_
    | refine aw_condF rfl trivial ?_
    | refine aw_condD rfl trivial (fun hc => ?_) (fun hc => ?_)
    | refine aw_condN rfl trivial (fun hc => ?_) (fun hc => ?_)
    | refine aw_condNB rfl trivial (fun hc => ?_) (fun hc => ?_)
    | refine aw_cond rfl trivial (fun hc => ?_) (fun hc => ?_)
    | refine aw_ret ?_
    | refine aw_exit ?_
    | refine ao_op rfl ?_ ?_
    | refine aq_op rfl ?_ ?_
    | refine at_op rfl ?_ ?_
    | refine am_op rfl ?_ rfl ?_
    | refine ao_box rfl trivial rfl rfl rfl ?_
    | refine ao_alloc rfl rfl rfl rfl ?_
    | refine ao_store rfl rfl trivial rfl trivial rfl rfl rfl rfl rfl ?_
    | refine ao_call rfl (c_Valid _) rfl ?_ ?_
    | refine aq_call rfl (c_Valid _) rfl ?_ ?_
    | (show allP _; first | trivial | exact ob1 (fun h => h) | exact ob2 (fun h => h) (fun h => h) | exact ob1 (fun h => ⟨h.1, trivial⟩) | (simp only [allP, obg, grd, allT, InR, decide_eq_true_eq, Bool.and_eq_true, Bool.not_eq_true', decide_eq_false_iff_not, List.nil_append, List.cons_append, List.append_nil, and_true, true_and]; first | omega | (intros; omega) | (simp only [Blk.len, List.length_set, List.length_append, List.length_cons, List.length_nil]; first | omega | (intros; omega)) | (refine ⟨?_, ?_⟩ <;> intros <;> first | (with_reducible assumption) | omega) | ((repeat' refine And.intro ?_ ?_) <;> (intros; first | (with_reducible assumption) | omega | (simp only [Blk.len, List.length_set, List.length_append, List.length_cons, List.length_nil]; omega))) | ((try simp only [Bool.or_eq_true, Bool.or_eq_false_iff, Bool.and_eq_true, Bool.and_eq_false_iff, decide_eq_true_eq, decide_eq_false_iff_not, Bool.not_eq_true', Bool.not_eq_false'] at *); (try simp only [Blk.len] at *); first | omega | (intros; omega)) | (simp_all; done))))
  (refine fin_ret ?_; exact ret1 (by rfl) (by (rfl)) (by rfl))

def lkAt (t : Topo) (a : Int) : Lk := t.links.getD (a / 2).toNat default
def arcIn (t : Topo) (a : Int) : Bool := decide (0 ≤ a) && decide (a < arcsT t)
def tailT (t : Topo) (a : Int) : Int := bif arcIn t a then (bif decide (a % 2 = 0) then (lkAt t a).a else (lkAt t a).b) else -1
def headT (t : Topo) (a : Int) : Int := bif arcIn t a then (bif decide (a % 2 = 0) then (lkAt t a).b else (lkAt t a).a) else -1
def costT (t : Topo) (a : Int) : Int := bif arcIn t a then (bif decide (a % 2 = 0) then (lkAt t a).c0 else (lkAt t a).c1) else -1

theorem arcs_half (t : Topo) (a : Int) : 0 ≤ a ∧ a < arcsT t → a < 512 ∧ a / 2 < t.links.length := by
  intro ⟨h, h1⟩
  unfold arcsT at h1
  cases hv : validB t with
  | false => simp [hv] at h1; omega
  | true => have := validB_head hv; simp [hv] at h1; omega

theorem c_ends (t : Topo) (a : Int) : Ctr Try.prog 83 [topoD t, iD a] [] (.tup [.d (iD (tailT t a)), .d (iD (headT t a)), .d (iD (costT t a))]) := by
  refine spec_of envOK (enters_of Try.func83 (by kernel_rfl) (by kernel_rfl)) Try.func83 rfl rfl _ rfl (Nat.le_of_ble_eq_true rfl) rfl fun w0 => ?_
  have hA := arcs_half t a
  repeat' (first
  
    | refine aw_seq ?_
    | refine aw_region ?_
    | refine aw_region_q (by kernel_rfl) (by kernel_rfl) ?_
    | refine aw_block ?_
    | refine ao_nil ?_
    | refine ao_op rfl trivial ?_
    | refine aq_nil ?_
    | refine aq_op rfl trivial ?_
    | refine at_nil ?_
    | refine at_op rfl trivial ?_
    | refine am_nil ?_
    | refine am_op rfl trivial rfl ?_
    | refine aw_skip ?_
    | refine aw_condT rfl trivial ?_
    | refine aw_condF rfl trivial ?_
    | refine aw_condD rfl trivial (fun hc => ?_) (fun hc => ?_)
    | refine aw_condN rfl trivial (fun hc => ?_) (fun hc => ?_)
    | refine aw_condNB rfl trivial (fun hc => ?_) (fun hc => ?_)
    | refine aw_cond rfl trivial (fun hc => ?_) (fun hc => ?_)
    | refine aw_ret ?_
    | refine aw_exit ?_
    | refine ao_op rfl ?_ ?_
    | refine aq_op rfl ?_ ?_
    | refine at_op rfl ?_ ?_
    | refine am_op rfl ?_ rfl ?_
    | refine ao_box rfl trivial rfl rfl rfl ?_
    | refine ao_alloc rfl rfl rfl rfl ?_
    | refine ao_store rfl rfl trivial rfl trivial rfl rfl rfl rfl rfl ?_
    | refine ao_call rfl (c_Arcs _) rfl ?_ ?_
    | refine aq_call rfl (c_Arcs _) rfl ?_ ?_
    | (show allP _; first | trivial | exact ob1 (fun h => h) | exact ob2 (fun h => h) (fun h => h) | exact ob1 (fun h => ⟨h.1, trivial⟩) | (simp only [allP, obg, grd, allT, InR, decide_eq_true_eq, Bool.and_eq_true, Bool.not_eq_true', decide_eq_false_iff_not, List.nil_append, List.cons_append, List.append_nil, and_true, true_and]; first | omega | (intros; omega) | (simp only [Blk.len, List.length_set, List.length_append, List.length_cons, List.length_nil]; first | omega | (intros; omega)) | (refine ⟨?_, ?_⟩ <;> intros <;> first | (with_reducible assumption) | omega) | ((repeat' refine And.intro ?_ ?_) <;> (intros; first | (with_reducible assumption) | omega | (simp only [Blk.len, List.length_set, List.length_append, List.length_cons, List.length_nil]; omega))) | ((try simp only [Bool.or_eq_true, Bool.or_eq_false_iff, Bool.and_eq_true, Bool.and_eq_false_iff, decide_eq_true_eq, decide_eq_false_iff_not, Bool.not_eq_true', Bool.not_eq_false'] at *); (try simp only [Blk.len] at *); first | omega | (intros; omega)) | (simp_all; done))))
  · have hi : arcIn t a = false := by simp only [arcIn]; simp only [Bool.or_eq_true, decide_eq_true_eq] at hc; simp; omega
    (refine fin_ret ?_; exact ret3 (by rfl) (by simp [tailT, hi]) (by simp [headT, hi]) (by simp [costT, hi]) (by rfl) (by rfl) (by rfl))
  · rename_i h
    have hi : arcIn t a = true := by simp only [arcIn]; simp only [Bool.or_eq_false_iff, decide_eq_false_iff_not] at h; simp; omega
    (refine fin_ret ?_; exact ret3 (by rfl) (by simp [tailT, hi, hc, lkAt]) (by simp [headT, hi, hc, lkAt]) (by simp [costT, hi, hc, lkAt]) (by rfl) (by rfl) (by rfl))
  · rename_i h
    have hi : arcIn t a = true := by simp only [arcIn]; simp only [Bool.or_eq_false_iff, decide_eq_false_iff_not] at h; simp; omega
    (refine fin_ret ?_; exact ret3 (by rfl) (by simp [tailT, hi, hc, lkAt]) (by simp [headT, hi, hc, lkAt]) (by simp [costT, hi, hc, lkAt]) (by rfl) (by rfl) (by rfl))

theorem c_Tail (t : Topo) (a : Int) : Ctr Try.prog 72 [topoD t, iD a] [] (.d (iD (tailT t a))) := by
  refine spec_of envOK (enters_of Try.func72 (by kernel_rfl) (by kernel_rfl)) Try.func72 rfl rfl _ rfl (Nat.le_of_ble_eq_true rfl) rfl fun w0 => ?_
  repeat' (first
  
    | refine aw_seq ?_
    | refine aw_region ?_
    | refine aw_region_q (by kernel_rfl) (by kernel_rfl) ?_
    | refine aw_block ?_
    | refine ao_nil ?_
    | refine ao_op rfl trivial ?_
    | refine aq_nil ?_
    | refine aq_op rfl trivial ?_
    | refine at_nil ?_
    | refine at_op rfl trivial ?_
    | refine am_nil ?_
    | refine am_op rfl trivial rfl ?_
    | refine aw_skip ?_
    | refine aw_condT rfl trivial ?_
    | refine aw_condF rfl trivial ?_
    | refine aw_condD rfl trivial (fun hc => ?_) (fun hc => ?_)
    | refine aw_condN rfl trivial (fun hc => ?_) (fun hc => ?_)
    | refine aw_condNB rfl trivial (fun hc => ?_) (fun hc => ?_)
    | refine aw_cond rfl trivial (fun hc => ?_) (fun hc => ?_)
    | refine aw_ret ?_
    | refine aw_exit ?_
    | refine ao_op rfl ?_ ?_
    | refine aq_op rfl ?_ ?_
    | refine at_op rfl ?_ ?_
    | refine am_op rfl ?_ rfl ?_
    | refine ao_box rfl trivial rfl rfl rfl ?_
    | refine ao_alloc rfl rfl rfl rfl ?_
    | refine ao_store rfl rfl trivial rfl trivial rfl rfl rfl rfl rfl ?_
    | refine ao_callR rfl (c_ends _ _) trivial rfl rfl ?_
    | (show allP _; first | trivial | exact ob1 (fun h => h) | exact ob2 (fun h => h) (fun h => h) | exact ob1 (fun h => ⟨h.1, trivial⟩) | (simp only [allP, obg, grd, allT, InR, decide_eq_true_eq, Bool.and_eq_true, Bool.not_eq_true', decide_eq_false_iff_not, List.nil_append, List.cons_append, List.append_nil, and_true, true_and]; first | omega | (intros; omega) | (simp only [Blk.len, List.length_set, List.length_append, List.length_cons, List.length_nil]; first | omega | (intros; omega)) | (refine ⟨?_, ?_⟩ <;> intros <;> first | (with_reducible assumption) | omega) | ((repeat' refine And.intro ?_ ?_) <;> (intros; first | (with_reducible assumption) | omega | (simp only [Blk.len, List.length_set, List.length_append, List.length_cons, List.length_nil]; omega))) | ((try simp only [Bool.or_eq_true, Bool.or_eq_false_iff, Bool.and_eq_true, Bool.and_eq_false_iff, decide_eq_true_eq, decide_eq_false_iff_not, Bool.not_eq_true', Bool.not_eq_false'] at *); (try simp only [Blk.len] at *); first | omega | (intros; omega)) | (simp_all; done))))
  (refine fin_ret ?_; exact ret1 (by rfl) (by rfl) (by rfl))
theorem c_Head (t : Topo) (a : Int) : Ctr Try.prog 91 [topoD t, iD a] [] (.d (iD (headT t a))) := by
  refine spec_of envOK (enters_of Try.func91 (by kernel_rfl) (by kernel_rfl)) Try.func91 rfl rfl _ rfl (Nat.le_of_ble_eq_true rfl) rfl fun w0 => ?_
  repeat' (first
  
    | refine aw_seq ?_
    | refine aw_region ?_
    | refine aw_region_q (by kernel_rfl) (by kernel_rfl) ?_
    | refine aw_block ?_
    | refine ao_nil ?_
    | refine ao_op rfl trivial ?_
    | refine aq_nil ?_
    | refine aq_op rfl trivial ?_
    | refine at_nil ?_
    | refine at_op rfl trivial ?_
    | refine am_nil ?_
    | refine am_op rfl trivial rfl ?_
    | refine aw_skip ?_
    | refine aw_condT rfl trivial ?_
    | refine aw_condF rfl trivial ?_
    | refine aw_condD rfl trivial (fun hc => ?_) (fun hc => ?_)
    | refine aw_condN rfl trivial (fun hc => ?_) (fun hc => ?_)
    | refine aw_condNB rfl trivial (fun hc => ?_) (fun hc => ?_)
    | refine aw_cond rfl trivial (fun hc => ?_) (fun hc => ?_)
    | refine aw_ret ?_
    | refine aw_exit ?_
    | refine ao_op rfl ?_ ?_
    | refine aq_op rfl ?_ ?_
    | refine at_op rfl ?_ ?_
    | refine am_op rfl ?_ rfl ?_
    | refine ao_box rfl trivial rfl rfl rfl ?_
    | refine ao_alloc rfl rfl rfl rfl ?_
    | refine ao_store rfl rfl trivial rfl trivial rfl rfl rfl rfl rfl ?_
    | refine ao_callR rfl (c_ends _ _) trivial rfl rfl ?_
    | (show allP _; first | trivial | exact ob1 (fun h => h) | exact ob2 (fun h => h) (fun h => h) | exact ob1 (fun h => ⟨h.1, trivial⟩) | (simp only [allP, obg, grd, allT, InR, decide_eq_true_eq, Bool.and_eq_true, Bool.not_eq_true', decide_eq_false_iff_not, List.nil_append, List.cons_append, List.append_nil, and_true, true_and]; first | omega | (intros; omega) | (simp only [Blk.len, List.length_set, List.length_append, List.length_cons, List.length_nil]; first | omega | (intros; omega)) | (refine ⟨?_, ?_⟩ <;> intros <;> first | (with_reducible assumption) | omega) | ((repeat' refine And.intro ?_ ?_) <;> (intros; first | (with_reducible assumption) | omega | (simp only [Blk.len, List.length_set, List.length_append, List.length_cons, List.length_nil]; omega))) | ((try simp only [Bool.or_eq_true, Bool.or_eq_false_iff, Bool.and_eq_true, Bool.and_eq_false_iff, decide_eq_true_eq, decide_eq_false_iff_not, Bool.not_eq_true', Bool.not_eq_false'] at *); (try simp only [Blk.len] at *); first | omega | (intros; omega)) | (simp_all; done))))
  (refine fin_ret ?_; exact ret1 (by rfl) (by rfl) (by rfl))
theorem c_Cost (t : Topo) (a : Int) : Ctr Try.prog 93 [topoD t, iD a] [] (.d (iD (costT t a))) := by
  refine spec_of envOK (enters_of Try.func93 (by kernel_rfl) (by kernel_rfl)) Try.func93 rfl rfl _ rfl (Nat.le_of_ble_eq_true rfl) rfl fun w0 => ?_
  repeat' (first
  
    | refine aw_seq ?_
    | refine aw_region ?_
    | refine aw_region_q (by kernel_rfl) (by kernel_rfl) ?_
    | refine aw_block ?_
    | refine ao_nil ?_
    | refine ao_op rfl trivial ?_
    | refine aq_nil ?_
    | refine aq_op rfl trivial ?_
    | refine at_nil ?_
    | refine at_op rfl trivial ?_
    | refine am_nil ?_
    | refine am_op rfl trivial rfl ?_
    | refine aw_skip ?_
    | refine aw_condT rfl trivial ?_
    | refine aw_condF rfl trivial ?_
    | refine aw_condD rfl trivial (fun hc => ?_) (fun hc => ?_)
    | refine aw_condN rfl trivial (fun hc => ?_) (fun hc => ?_)
    | refine aw_condNB rfl trivial (fun hc => ?_) (fun hc => ?_)
    | refine aw_cond rfl trivial (fun hc => ?_) (fun hc => ?_)
    | refine aw_ret ?_
    | refine aw_exit ?_
    | refine ao_op rfl ?_ ?_
    | refine aq_op rfl ?_ ?_
    | refine at_op rfl ?_ ?_
    | refine am_op rfl ?_ rfl ?_
    | refine ao_box rfl trivial rfl rfl rfl ?_
    | refine ao_alloc rfl rfl rfl rfl ?_
    | refine ao_store rfl rfl trivial rfl trivial rfl rfl rfl rfl rfl ?_
    | refine ao_callR rfl (c_ends _ _) trivial rfl rfl ?_
    | (show allP _; first | trivial | exact ob1 (fun h => h) | exact ob2 (fun h => h) (fun h => h) | exact ob1 (fun h => ⟨h.1, trivial⟩) | (simp only [allP, obg, grd, allT, InR, decide_eq_true_eq, Bool.and_eq_true, Bool.not_eq_true', decide_eq_false_iff_not, List.nil_append, List.cons_append, List.append_nil, and_true, true_and]; first | omega | (intros; omega) | (simp only [Blk.len, List.length_set, List.length_append, List.length_cons, List.length_nil]; first | omega | (intros; omega)) | (refine ⟨?_, ?_⟩ <;> intros <;> first | (with_reducible assumption) | omega) | ((repeat' refine And.intro ?_ ?_) <;> (intros; first | (with_reducible assumption) | omega | (simp only [Blk.len, List.length_set, List.length_append, List.length_cons, List.length_nil]; omega))) | ((try simp only [Bool.or_eq_true, Bool.or_eq_false_iff, Bool.and_eq_true, Bool.and_eq_false_iff, decide_eq_true_eq, decide_eq_false_iff_not, Bool.not_eq_true', Bool.not_eq_false'] at *); (try simp only [Blk.len] at *); first | omega | (intros; omega)) | (simp_all; done))))
  (refine fin_ret ?_; exact ret1 (by rfl) (by rfl) (by rfl))

end Go.Proofs.Ytcnfggpcploehaa

/- Layer 9: the lists of arcs. -/
namespace Go.Proofs.Ytcnfggpcploehaa
set_option maxRecDepth 10000
open Go.Wk

/-- The arc over a link, at a node. -/
def arcOf (l : Lk) (i : Nat) (n : Int) (out : Bool) : List Int :=
  bif (decide (l.a = n) == out) && (decide (l.a = n) || decide (l.b = n)) then [2 * i] else bif decide (l.a = n) || decide (l.b = n) then [2 * i + 1] else []
def arcsUpto (t : Topo) (n : Int) (out : Bool) : Nat → List Int
  | 0 => []
  | i + 1 => arcsUpto t n out i ++ arcOf (t.links.getD i default) i n out
def arcsL (t : Topo) (n : Int) (out : Bool) : List Int := bif validB t then arcsUpto t n out t.links.length else []

theorem arcsUpto_len (t : Topo) (n : Int) (out : Bool) (i : Nat) : (arcsUpto t n out i).length ≤ i := by
  induction i with
  | zero => simp [arcsUpto]
  | succ i ih =>
    simp only [arcsUpto, List.length_append]
    have : (arcOf (t.links.getD i default) i n out).length ≤ 1 := by
      unfold arcOf
      cases (decide ((t.links.getD i default).a = n) == out) && (decide ((t.links.getD i default).a = n) || decide ((t.links.getD i default).b = n)) <;> cases decide ((t.links.getD i default).a = n) || decide ((t.links.getD i default).b = n) <;> simp
    omega

theorem c_arcs (t : Topo) (n : Int) (out : Bool) : Ctr Try.prog 90 [topoD t, iD n, bD out] [.ints .i64 (arcsL t n out)] (.own 0) := by
  refine spec_of envOK (enters_of Try.func90 (by kernel_rfl) (by kernel_rfl)) Try.func90 rfl rfl _ rfl (Nat.le_of_ble_eq_true rfl) rfl fun w0 => ?_
  repeat' (first
  
    | refine aw_seq ?_
    | refine aw_region ?_
    | refine aw_region_q (by kernel_rfl) (by kernel_rfl) ?_
    | refine aw_block ?_
    | refine ao_nil ?_
    | refine ao_op rfl trivial ?_
    | refine aq_nil ?_
    | refine aq_op rfl trivial ?_
    | refine at_nil ?_
    | refine at_op rfl trivial ?_
    | refine am_nil ?_
    | refine am_op rfl trivial rfl ?_
    | refine aw_skip ?_
    | refine aw_condT rfl trivial ?_
    | refine aw_condF rfl trivial ?_
    | refine aw_condD rfl trivial (fun hc => ?_) (fun hc => ?_)
    | refine aw_condN rfl trivial (fun hc => ?_) (fun hc => ?_)
    | refine aw_condNB rfl trivial (fun hc => ?_) (fun hc => ?_)
    | refine aw_cond rfl trivial (fun hc => ?_) (fun hc => ?_)
    | refine aw_ret ?_
    | refine aw_exit ?_
    | refine ao_op rfl ?_ ?_
    | refine aq_op rfl ?_ ?_
    | refine at_op rfl ?_ ?_
    | refine am_op rfl ?_ rfl ?_
    | refine ao_box rfl trivial rfl rfl rfl ?_
    | refine ao_alloc rfl rfl rfl rfl ?_
    | refine ao_store rfl rfl trivial rfl trivial rfl rfl rfl rfl rfl ?_
    | refine ao_call rfl (c_Valid _) rfl ?_ ?_
    | (show allP _; first | trivial | exact ob1 (fun h => h) | exact ob2 (fun h => h) (fun h => h) | exact ob1 (fun h => ⟨h.1, trivial⟩) | (simp only [allP, obg, grd, allT, InR, decide_eq_true_eq, Bool.and_eq_true, Bool.not_eq_true', decide_eq_false_iff_not, List.nil_append, List.cons_append, List.append_nil, and_true, true_and]; first | omega | (intros; omega) | (simp only [Blk.len, List.length_set, List.length_append, List.length_cons, List.length_nil]; first | omega | (intros; omega)) | (refine ⟨?_, ?_⟩ <;> intros <;> first | (with_reducible assumption) | omega) | ((repeat' refine And.intro ?_ ?_) <;> (intros; first | (with_reducible assumption) | omega | (simp only [Blk.len, List.length_set, List.length_append, List.length_cons, List.length_nil]; omega))) | ((try simp only [Bool.or_eq_true, Bool.or_eq_false_iff, Bool.and_eq_true, Bool.and_eq_false_iff, decide_eq_true_eq, decide_eq_false_iff_not, Bool.not_eq_true', Bool.not_eq_false'] at *); (try simp only [Blk.len] at *); first | omega | (intros; omega)) | (simp_all; done))))
  · refine fin_ret ?_; exact retNil (by rfl) (by simp [arcsL, hc, Blk.len]) (by trivial)
  refine aw_weak (weak_nil (t := 7) (.ints .i64 []) rfl rfl rfl rfl rfl) (Nat.le_of_ble_eq_true rfl) ?_
  have hb := validB_head hc
  refine aw_loop (ι := Nat) (fun i => [(7, [], .own 1), (16, [], .d (iD i)), (14, [], .d (linksD t.links)), (15, [], .d (iD t.links.length)), (1, [], .d (iD n)), (2, [], .d (bD out))])
    (fun i => [.cells [.d (iD t.nodes), .d (boolsD t.overload), .d (linksD t.links)], .ints .i64 (arcsUpto t n out i)])
    (fun i => i ≤ t.links.length) (fun i => t.links.length - i) 0 (by omega) (fun _ => Nat.le_of_ble_eq_true rfl) (by refine weak_to ?_ ?_ rfl rfl
                                                                                                                      · repeat (first | exact subF_nil | refine subF_cons (by first | rfl | (simp [look]; done)) ?_)
                                                                                                                      · repeat (first | exact subS_nil | refine subS_cons (by first | rfl | (simp; done)) ?_)) fun i hi => ?_
  have hl := arcsUpto_len t n out i
  repeat' (first
  
    | refine aw_seq ?_
    | refine aw_region ?_
    | refine aw_region_q (by kernel_rfl) (by kernel_rfl) ?_
    | refine aw_block ?_
    | refine ao_nil ?_
    | refine ao_op rfl trivial ?_
    | refine aq_nil ?_
    | refine aq_op rfl trivial ?_
    | refine at_nil ?_
    | refine at_op rfl trivial ?_
    | refine am_nil ?_
    | refine am_op rfl trivial rfl ?_
    | refine aw_skip ?_
    | refine aw_condT rfl trivial ?_
    | refine aw_condF rfl trivial ?_
    | refine aw_condD rfl trivial (fun hc => ?_) (fun hc => ?_)
    | refine aw_condN rfl trivial (fun hc => ?_) (fun hc => ?_)
    | refine aw_condNB rfl trivial (fun hc => ?_) (fun hc => ?_)
    | refine aw_cond rfl trivial (fun hc => ?_) (fun hc => ?_)
    | refine aw_ret ?_
    | refine aw_exit ?_
    | refine ao_op rfl ?_ ?_
    | refine aq_op rfl ?_ ?_
    | refine at_op rfl ?_ ?_
    | refine am_op rfl ?_ rfl ?_
    | refine ao_box rfl trivial rfl rfl rfl ?_
    | refine ao_alloc rfl rfl rfl rfl ?_
    | refine ao_store rfl rfl trivial rfl trivial rfl rfl rfl rfl rfl ?_
    | refine ao_lit rfl rfl rfl rfl trivial rfl rfl rfl rfl rfl rfl ?_
    | refine ao_app rfl rfl rfl rfl trivial rfl trivial rfl rfl trivial rfl rfl rfl rfl rfl (by simp [Blk.len]; omega) rfl rfl rfl ?_
    | (show allP _; first | trivial | exact ob1 (fun h => h) | exact ob2 (fun h => h) (fun h => h) | exact ob1 (fun h => ⟨h.1, trivial⟩) | (simp only [allP, obg, grd, allT, InR, decide_eq_true_eq, Bool.and_eq_true, Bool.not_eq_true', decide_eq_false_iff_not, List.nil_append, List.cons_append, List.append_nil, and_true, true_and]; first | omega | (intros; omega) | (simp only [Blk.len, List.length_set, List.length_append, List.length_cons, List.length_nil]; first | omega | (intros; omega)) | (refine ⟨?_, ?_⟩ <;> intros <;> first | (with_reducible assumption) | omega) | ((repeat' refine And.intro ?_ ?_) <;> (intros; first | (with_reducible assumption) | omega | (simp only [Blk.len, List.length_set, List.length_append, List.length_cons, List.length_nil]; omega))) | ((try simp only [Bool.or_eq_true, Bool.or_eq_false_iff, Bool.and_eq_true, Bool.and_eq_false_iff, decide_eq_true_eq, decide_eq_false_iff_not, Bool.not_eq_true', Bool.not_eq_false'] at *); (try simp only [Blk.len] at *); first | omega | (intros; omega)) | (simp_all; done))))
  · rw [Int.toNat_natCast] at hc
    refine ⟨i + 1, by omega, by omega, ?_⟩
    refine weak_to ?_ ?_ rfl rfl
    · repeat (first | exact subF_nil | refine subF_cons (by first | rfl | (simp [look]; done)) ?_)
    · repeat (first | exact subS_nil | refine subS_cons (by first | rfl | (simp only [arcsUpto, arcOf]; rw [hc]; rfl)) ?_)
  · rename_i h1
    rw [Int.toNat_natCast] at hc h1
    refine ⟨i + 1, by omega, by omega, ?_⟩
    refine weak_to ?_ ?_ rfl rfl
    · repeat (first | exact subF_nil | refine subF_cons (by first | rfl | (simp [look]; done)) ?_)
    · repeat (first | exact subS_nil | refine subS_cons (by first | rfl | (simp only [arcsUpto, arcOf]; rw [h1, hc]; rfl)) ?_)
  · rename_i h1
    rw [Int.toNat_natCast] at hc h1
    refine ⟨i + 1, by omega, by omega, ?_⟩
    refine weak_to ?_ ?_ rfl rfl
    · repeat (first | exact subF_nil | refine subF_cons (by first | rfl | (simp [look]; done)) ?_)
    · repeat (first | exact subS_nil | refine subS_cons (by first | rfl | (simp only [arcsUpto, arcOf]; rw [h1, hc]; simp only [cond_false, List.append_nil])) ?_)
  · refine fin_ret ?_
    exact retOwn (by rfl) (by rfl) (by simp [arcsL, (by assumption : validB t = true), (by omega : i = t.links.length)]) (by trivial)

theorem c_Out (t : Topo) (n : Int) : Ctr Try.prog 73 [topoD t, iD n] [.ints .i64 (arcsL t n true)] (.own 0) := by
  refine spec_of envOK (enters_of Try.func73 (by kernel_rfl) (by kernel_rfl)) Try.func73 rfl rfl _ rfl (Nat.le_of_ble_eq_true rfl) rfl fun w0 => ?_
  repeat' (first
  
    | refine aw_seq ?_
    | refine aw_region ?_
    | refine aw_region_q (by kernel_rfl) (by kernel_rfl) ?_
    | refine aw_block ?_
    | refine ao_nil ?_
    | refine ao_op rfl trivial ?_
    | refine aq_nil ?_
    | refine aq_op rfl trivial ?_
    | refine at_nil ?_
    | refine at_op rfl trivial ?_
    | refine am_nil ?_
    | refine am_op rfl trivial rfl ?_
    | refine aw_skip ?_
    | refine aw_condT rfl trivial ?_
    | refine aw_condF rfl trivial ?_
    | refine aw_condD rfl trivial (fun hc => ?_) (fun hc => ?_)
    | refine aw_condN rfl trivial (fun hc => ?_) (fun hc => ?_)
    | refine aw_condNB rfl trivial (fun hc => ?_) (fun hc => ?_)
    | refine aw_cond rfl trivial (fun hc => ?_) (fun hc => ?_)
    | refine aw_ret ?_
    | refine aw_exit ?_
    | refine ao_op rfl ?_ ?_
    | refine aq_op rfl ?_ ?_
    | refine at_op rfl ?_ ?_
    | refine am_op rfl ?_ rfl ?_
    | refine ao_box rfl trivial rfl rfl rfl ?_
    | refine ao_alloc rfl rfl rfl rfl ?_
    | refine ao_store rfl rfl trivial rfl trivial rfl rfl rfl rfl rfl ?_
    | refine ao_callR rfl (c_arcs _ _ _) trivial rfl rfl ?_
    | (show allP _; first | trivial | exact ob1 (fun h => h) | exact ob2 (fun h => h) (fun h => h) | exact ob1 (fun h => ⟨h.1, trivial⟩) | (simp only [allP, obg, grd, allT, InR, decide_eq_true_eq, Bool.and_eq_true, Bool.not_eq_true', decide_eq_false_iff_not, List.nil_append, List.cons_append, List.append_nil, and_true, true_and]; first | omega | (intros; omega) | (simp only [Blk.len, List.length_set, List.length_append, List.length_cons, List.length_nil]; first | omega | (intros; omega)) | (refine ⟨?_, ?_⟩ <;> intros <;> first | (with_reducible assumption) | omega) | ((repeat' refine And.intro ?_ ?_) <;> (intros; first | (with_reducible assumption) | omega | (simp only [Blk.len, List.length_set, List.length_append, List.length_cons, List.length_nil]; omega))) | ((try simp only [Bool.or_eq_true, Bool.or_eq_false_iff, Bool.and_eq_true, Bool.and_eq_false_iff, decide_eq_true_eq, decide_eq_false_iff_not, Bool.not_eq_true', Bool.not_eq_false'] at *); (try simp only [Blk.len] at *); first | omega | (intros; omega)) | (simp_all; done))))
  refine fin_ret ?_
  exact retOwn (by rfl) (by rfl) (by rfl) (by trivial)
theorem c_In (t : Topo) (n : Int) : Ctr Try.prog 78 [topoD t, iD n] [.ints .i64 (arcsL t n false)] (.own 0) := by
  refine spec_of envOK (enters_of Try.func78 (by kernel_rfl) (by kernel_rfl)) Try.func78 rfl rfl _ rfl (Nat.le_of_ble_eq_true rfl) rfl fun w0 => ?_
  repeat' (first
  
    | refine aw_seq ?_
    | refine aw_region ?_
    | refine aw_region_q (by kernel_rfl) (by kernel_rfl) ?_
    | refine aw_block ?_
    | refine ao_nil ?_
    | refine ao_op rfl trivial ?_
    | refine aq_nil ?_
    | refine aq_op rfl trivial ?_
    | refine at_nil ?_
    | refine at_op rfl trivial ?_
    | refine am_nil ?_
    | refine am_op rfl trivial rfl ?_
    | refine aw_skip ?_
    | refine aw_condT rfl trivial ?_
    | refine aw_condF rfl trivial ?_
    | refine aw_condD rfl trivial (fun hc => ?_) (fun hc => ?_)
    | refine aw_condN rfl trivial (fun hc => ?_) (fun hc => ?_)
    | refine aw_condNB rfl trivial (fun hc => ?_) (fun hc => ?_)
    | refine aw_cond rfl trivial (fun hc => ?_) (fun hc => ?_)
    | refine aw_ret ?_
    | refine aw_exit ?_
    | refine ao_op rfl ?_ ?_
    | refine aq_op rfl ?_ ?_
    | refine at_op rfl ?_ ?_
    | refine am_op rfl ?_ rfl ?_
    | refine ao_box rfl trivial rfl rfl rfl ?_
    | refine ao_alloc rfl rfl rfl rfl ?_
    | refine ao_store rfl rfl trivial rfl trivial rfl rfl rfl rfl rfl ?_
    | refine ao_callR rfl (c_arcs _ _ _) trivial rfl rfl ?_
    | (show allP _; first | trivial | exact ob1 (fun h => h) | exact ob2 (fun h => h) (fun h => h) | exact ob1 (fun h => ⟨h.1, trivial⟩) | (simp only [allP, obg, grd, allT, InR, decide_eq_true_eq, Bool.and_eq_true, Bool.not_eq_true', decide_eq_false_iff_not, List.nil_append, List.cons_append, List.append_nil, and_true, true_and]; first | omega | (intros; omega) | (simp only [Blk.len, List.length_set, List.length_append, List.length_cons, List.length_nil]; first | omega | (intros; omega)) | (refine ⟨?_, ?_⟩ <;> intros <;> first | (with_reducible assumption) | omega) | ((repeat' refine And.intro ?_ ?_) <;> (intros; first | (with_reducible assumption) | omega | (simp only [Blk.len, List.length_set, List.length_append, List.length_cons, List.length_nil]; omega))) | ((try simp only [Bool.or_eq_true, Bool.or_eq_false_iff, Bool.and_eq_true, Bool.and_eq_false_iff, decide_eq_true_eq, decide_eq_false_iff_not, Bool.not_eq_true', Bool.not_eq_false'] at *); (try simp only [Blk.len] at *); first | omega | (intros; omega)) | (simp_all; done))))
  refine fin_ret ?_
  exact retOwn (by rfl) (by rfl) (by rfl) (by trivial)

end Go.Proofs.Ytcnfggpcploehaa

/- The reference of layer 9: the small functions. -/
namespace Go.Proofs.Ytcnfggpcploehaa
set_option maxRecDepth 10000
open Go.Wk

theorem r_within (n lo hi : Int) : Ctr Try.prog 85 [iD n, iD lo, iD hi] [] (.d (bD (insideB n lo hi))) := by
  refine spec_of envOK (enters_of Try.func85 (by kernel_rfl) (by kernel_rfl)) Try.func85 rfl rfl _ rfl (Nat.le_of_ble_eq_true rfl) rfl fun w0 => ?_
  repeat' (first
  
    | refine aw_seq ?_
    | refine aw_region ?_
    | refine aw_region_q (by kernel_rfl) (by kernel_rfl) ?_
    | refine aw_block ?_
    | refine ao_nil ?_
    | refine ao_op rfl trivial ?_
    | refine aq_nil ?_
    | refine aq_op rfl trivial ?_
    | refine at_nil ?_
    | refine at_op rfl trivial ?_
    | refine am_nil ?_
    | refine am_op rfl trivial rfl ?_
    | refine aw_skip ?_
    | refine aw_condT rfl trivial ?_
    | refine aw_condF rfl trivial ?_
    | refine aw_condD rfl trivial (fun hc => ?_) (fun hc => ?_)
    | refine aw_condN rfl trivial (fun hc => ?_) (fun hc => ?_)
    | refine aw_condNB rfl trivial (fun hc => ?_) (fun hc => ?_)
    | refine aw_cond rfl trivial (fun hc => ?_) (fun hc => ?_)
    | refine aw_ret ?_
    | refine aw_exit ?_
    | refine ao_op rfl ?_ ?_
    | refine aq_op rfl ?_ ?_
    | refine at_op rfl ?_ ?_
    | refine am_op rfl ?_ rfl ?_
    | refine ao_box rfl trivial rfl rfl rfl ?_
    | refine ao_alloc rfl rfl rfl rfl ?_
    | refine ao_store rfl rfl trivial rfl trivial rfl rfl rfl rfl rfl ?_
  
    | (show allP _; first | trivial | exact ob1 (fun h => h) | exact ob2 (fun h => h) (fun h => h) | exact ob1 (fun h => ⟨h.1, trivial⟩) | (simp only [allP, obg, grd, allT, InR, decide_eq_true_eq, Bool.and_eq_true, Bool.not_eq_true', decide_eq_false_iff_not, List.nil_append, List.cons_append, List.append_nil, and_true, true_and]; first | omega | (intros; omega) | (simp only [Blk.len, List.length_set, List.length_append, List.length_cons, List.length_nil]; first | omega | (intros; omega)) | (refine ⟨?_, ?_⟩ <;> intros <;> first | (with_reducible assumption) | omega) | ((repeat' refine And.intro ?_ ?_) <;> (intros; first | (with_reducible assumption) | omega | (simp only [Blk.len, List.length_set, List.length_append, List.length_cons, List.length_nil]; omega))) | ((try simp only [Bool.or_eq_true, Bool.or_eq_false_iff, Bool.and_eq_true, Bool.and_eq_false_iff, decide_eq_true_eq, decide_eq_false_iff_not, Bool.not_eq_true', Bool.not_eq_false'] at *); (try simp only [Blk.len] at *); first | omega | (intros; omega)) | (simp_all; done))))
  (refine fin_ret ?_; exact ret1 (by rfl) (by rfl) (by rfl))

theorem r_Valid (t : Topo) : Ctr Try.prog 61 [topoD t] [] (.d (bD (validB t))) := by
  refine spec_of envOK (enters_of Try.func61 (by kernel_rfl) (by kernel_rfl)) Try.func61 rfl rfl _ rfl (Nat.le_of_ble_eq_true rfl) rfl fun w0 => ?_
  repeat' (first
  
    | refine aw_seq ?_
    | refine aw_region ?_
    | refine aw_region_q (by kernel_rfl) (by kernel_rfl) ?_
    | refine aw_block ?_
    | refine ao_nil ?_
    | refine ao_op rfl trivial ?_
    | refine aq_nil ?_
    | refine aq_op rfl trivial ?_
    | refine at_nil ?_
    | refine at_op rfl trivial ?_
    | refine am_nil ?_
    | refine am_op rfl trivial rfl ?_
    | refine aw_skip ?_
    | refine aw_condT rfl trivial ?_
    | refine aw_condF rfl trivial ?_
    | refine aw_condD rfl trivial (fun hc => ?_) (fun hc => ?_)
    | refine aw_condN rfl trivial (fun hc => ?_) (fun hc => ?_)
    | refine aw_condNB rfl trivial (fun hc => ?_) (fun hc => ?_)
    | refine aw_cond rfl trivial (fun hc => ?_) (fun hc => ?_)
    | refine aw_ret ?_
    | refine aw_exit ?_
    | refine ao_op rfl ?_ ?_
    | refine aq_op rfl ?_ ?_
    | refine at_op rfl ?_ ?_
    | refine am_op rfl ?_ rfl ?_
    | refine ao_box rfl trivial rfl rfl rfl ?_
    | refine ao_alloc rfl rfl rfl rfl ?_
    | refine ao_store rfl rfl trivial rfl trivial rfl rfl rfl rfl rfl ?_
    | refine ao_call rfl (r_within _ _ _) rfl ?_ ?_
    | (show allP _; first | trivial | exact ob1 (fun h => h) | exact ob2 (fun h => h) (fun h => h) | exact ob1 (fun h => ⟨h.1, trivial⟩) | (simp only [allP, obg, grd, allT, InR, decide_eq_true_eq, Bool.and_eq_true, Bool.not_eq_true', decide_eq_false_iff_not, List.nil_append, List.cons_append, List.append_nil, and_true, true_and]; first | omega | (intros; omega) | (simp only [Blk.len, List.length_set, List.length_append, List.length_cons, List.length_nil]; first | omega | (intros; omega)) | (refine ⟨?_, ?_⟩ <;> intros <;> first | (with_reducible assumption) | omega) | ((repeat' refine And.intro ?_ ?_) <;> (intros; first | (with_reducible assumption) | omega | (simp only [Blk.len, List.length_set, List.length_append, List.length_cons, List.length_nil]; omega))) | ((try simp only [Bool.or_eq_true, Bool.or_eq_false_iff, Bool.and_eq_true, Bool.and_eq_false_iff, decide_eq_true_eq, decide_eq_false_iff_not, Bool.not_eq_true', Bool.not_eq_false'] at *); (try simp only [Blk.len] at *); first | omega | (intros; omega)) | (simp_all; done))))
  · have hb : badHead t = true := hc
    (refine fin_ret ?_; exact ret1 (by rfl) (by (unfold validB; rw [hb]; rfl)) (by rfl))
  have hb : badHead t = false := hc
  obtain ⟨n1, n2, n3, _⟩ := badHead_f hb
  refine aw_loop (ι := Nat) (fun i => [(3, [], .d (iD i)), (1, [], .ptr 0 0)]) (fun _ => [.cells [.d (iD t.nodes), .d (boolsD t.overload), .d (linksD t.links)]])
    (fun i => i ≤ t.links.length ∧ ∀ j, j < i → properB (t.links.getD j default) t.nodes = true) (fun i => t.links.length - i) 0 ⟨by omega, fun j hj => by omega⟩ (fun _ => Nat.le_of_ble_eq_true rfl) (by refine weak_to ?_ ?_ rfl rfl
                                                                                                                                                                                                           · repeat (first | exact subF_nil | refine subF_cons (by first | rfl | (simp [look]; done)) ?_)
                                                                                                                                                                                                           · repeat (first | exact subS_nil | refine subS_cons (by first | rfl | (simp; done)) ?_)) fun i hi => ?_
  obtain ⟨hi1, hi2⟩ := hi
  repeat' (first
  
    | refine aw_seq ?_
    | refine aw_region ?_
    | refine aw_region_q (by kernel_rfl) (by kernel_rfl) ?_
    | refine aw_block ?_
    | refine ao_nil ?_
    | refine ao_op rfl trivial ?_
    | refine aq_nil ?_
    | refine aq_op rfl trivial ?_
    | refine at_nil ?_
    | refine at_op rfl trivial ?_
    | refine am_nil ?_
    | refine am_op rfl trivial rfl ?_
    | refine aw_skip ?_
    | refine aw_condT rfl trivial ?_
    | refine aw_condF rfl trivial ?_
    | refine aw_condD rfl trivial (fun hc => ?_) (fun hc => ?_)
    | refine aw_condN rfl trivial (fun hc => ?_) (fun hc => ?_)
    | refine aw_condNB rfl trivial (fun hc => ?_) (fun hc => ?_)
    | refine aw_cond rfl trivial (fun hc => ?_) (fun hc => ?_)
    | refine aw_ret ?_
    | refine aw_exit ?_
    | refine ao_op rfl ?_ ?_
    | refine aq_op rfl ?_ ?_
    | refine at_op rfl ?_ ?_
    | refine am_op rfl ?_ rfl ?_
    | refine ao_box rfl trivial rfl rfl rfl ?_
    | refine ao_alloc rfl rfl rfl rfl ?_
    | refine ao_store rfl rfl trivial rfl trivial rfl rfl rfl rfl rfl ?_
    | refine ao_call rfl (r_within _ _ _) rfl ?_ ?_
    | (show allP _; first | trivial | exact ob1 (fun h => h) | exact ob2 (fun h => h) (fun h => h) | exact ob1 (fun h => ⟨h.1, trivial⟩) | (simp only [allP, obg, grd, allT, InR, decide_eq_true_eq, Bool.and_eq_true, Bool.not_eq_true', decide_eq_false_iff_not, List.nil_append, List.cons_append, List.append_nil, and_true, true_and]; first | omega | (intros; omega) | (simp only [Blk.len, List.length_set, List.length_append, List.length_cons, List.length_nil]; first | omega | (intros; omega)) | (refine ⟨?_, ?_⟩ <;> intros <;> first | (with_reducible assumption) | omega) | ((repeat' refine And.intro ?_ ?_) <;> (intros; first | (with_reducible assumption) | omega | (simp only [Blk.len, List.length_set, List.length_append, List.length_cons, List.length_nil]; omega))) | ((try simp only [Bool.or_eq_true, Bool.or_eq_false_iff, Bool.and_eq_true, Bool.and_eq_false_iff, decide_eq_true_eq, decide_eq_false_iff_not, Bool.not_eq_true', Bool.not_eq_false'] at *); (try simp only [Blk.len] at *); first | omega | (intros; omega)) | (simp_all; done))))
  · rw [Int.toNat_natCast] at hc
    have : properB (t.links.getD i default) t.nodes = false := by
      simp only [Bool.or_eq_true, Bool.not_eq_true'] at hc
      simp only [properB]
      grind
    (refine fin_ret ?_; exact ret1 (by rfl) (by (simp [validB, all_false_of (p := fun l => properB l t.nodes) (by omega : i < t.links.length) this])) (by rfl))
  · rename_i h1
    rw [Int.toNat_natCast] at hc h1
    have : properB (t.links.getD i default) t.nodes = false := by
      simp only [Bool.or_eq_true, Bool.not_eq_true'] at hc
      simp only [properB]
      grind
    (refine fin_ret ?_; exact ret1 (by rfl) (by (simp [validB, all_false_of (p := fun l => properB l t.nodes) (by omega : i < t.links.length) this])) (by rfl))
  · rename_i h1
    rw [Int.toNat_natCast] at hc h1
    refine ⟨i + 1, ⟨by omega, fun j hj => ?_⟩, by omega, ?_⟩
    · rcases Nat.lt_succ_iff_lt_or_eq.1 hj with h | rfl
      · exact hi2 j h
      · simp only [Bool.or_eq_false_iff, Bool.not_eq_false'] at hc h1
        simp only [properB]
        grind
    · refine weak_to ?_ ?_ rfl rfl
      · repeat (first | exact subF_nil | refine subF_cons (by first | rfl | (simp [look]; done)) ?_)
      · repeat (first | exact subS_nil | refine subS_cons (by first | rfl | (simp; done)) ?_)
  · (refine fin_ret ?_; exact ret1 (by rfl) (by (simp [validB, hb, all_true_of (p := fun l => properB l t.nodes) (d := default) fun k hk => hi2 k (by omega)])) (by rfl))

theorem r_Overloaded (t : Topo) (n : Int) : Ctr Try.prog 87 [topoD t, iD n] [] (.d (bD (overT t n))) := by
  refine spec_of envOK (enters_of Try.func87 (by kernel_rfl) (by kernel_rfl)) Try.func87 rfl rfl _ rfl (Nat.le_of_ble_eq_true rfl) rfl fun w0 => ?_
  repeat' (first
  
    | refine aw_seq ?_
    | refine aw_region ?_
    | refine aw_region_q (by kernel_rfl) (by kernel_rfl) ?_
    | refine aw_block ?_
    | refine ao_nil ?_
    | refine ao_op rfl trivial ?_
    | refine aq_nil ?_
    | refine aq_op rfl trivial ?_
    | refine at_nil ?_
    | refine at_op rfl trivial ?_
    | refine am_nil ?_
    | refine am_op rfl trivial rfl ?_
    | refine aw_skip ?_
    | refine aw_condT rfl trivial ?_
    | refine aw_condF rfl trivial ?_
    | refine aw_condD rfl trivial (fun hc => ?_) (fun hc => ?_)
    | refine aw_condN rfl trivial (fun hc => ?_) (fun hc => ?_)
    | refine aw_condNB rfl trivial (fun hc => ?_) (fun hc => ?_)
    | refine aw_cond rfl trivial (fun hc => ?_) (fun hc => ?_)
    | refine aw_ret ?_
    | refine aw_exit ?_
    | refine ao_op rfl ?_ ?_
    | refine aq_op rfl ?_ ?_
    | refine at_op rfl ?_ ?_
    | refine am_op rfl ?_ rfl ?_
    | refine ao_box rfl trivial rfl rfl rfl ?_
    | refine ao_alloc rfl rfl rfl rfl ?_
    | refine ao_store rfl rfl trivial rfl trivial rfl rfl rfl rfl rfl ?_
    | refine ao_call rfl (r_Valid _) rfl ?_ ?_
    | refine aq_call rfl (r_Valid _) rfl ?_ ?_
    | (show allP _; first | trivial | exact ob1 (fun h => h) | exact ob2 (fun h => h) (fun h => h) | exact ob1 (fun h => ⟨h.1, trivial⟩) | (simp only [allP, obg, grd, allT, InR, decide_eq_true_eq, Bool.and_eq_true, Bool.not_eq_true', decide_eq_false_iff_not, List.nil_append, List.cons_append, List.append_nil, and_true, true_and]; first | omega | (intros; omega) | (simp only [Blk.len, List.length_set, List.length_append, List.length_cons, List.length_nil]; first | omega | (intros; omega)) | (refine ⟨?_, ?_⟩ <;> intros <;> first | (with_reducible assumption) | omega) | ((repeat' refine And.intro ?_ ?_) <;> (intros; first | (with_reducible assumption) | omega | (simp only [Blk.len, List.length_set, List.length_append, List.length_cons, List.length_nil]; omega))) | ((try simp only [Bool.or_eq_true, Bool.or_eq_false_iff, Bool.and_eq_true, Bool.and_eq_false_iff, decide_eq_true_eq, decide_eq_false_iff_not, Bool.not_eq_true', Bool.not_eq_false'] at *); (try simp only [Blk.len] at *); first | omega | (intros; omega)) | (simp_all; done))))
  (refine fin_ret ?_; exact ret1 (by rfl) (by (simp only [overT]; cases validB t <;> cases decide (0 ≤ n) <;> cases decide (n < t.overload.length) <;> cases t.overload.getD n.toNat false <;> rfl)) (by rfl))

theorem r_Arcs (t : Topo) : Ctr Try.prog 65 [topoD t] [] (.d (iD (arcsT t))) := by
  refine spec_of envOK (enters_of Try.func65 (by kernel_rfl) (by kernel_rfl)) Try.func65 rfl rfl _ rfl (Nat.le_of_ble_eq_true rfl) rfl fun w0 => ?_
  repeat' (first
  
    | refine aw_seq ?_
    | refine aw_region ?_
    | refine aw_region_q (by kernel_rfl) (by kernel_rfl) ?_
    | refine aw_block ?_
    | refine ao_nil ?_
    | refine ao_op rfl trivial ?_
    | refine aq_nil ?_
    | refine aq_op rfl trivial ?_
    | refine at_nil ?_
    | refine at_op rfl trivial ?_
    | refine am_nil ?_
    | refine am_op rfl trivial rfl ?_
    | refine aw_skip ?_
    | refine aw_condT rfl trivial ?_
    | refine aw_condF rfl trivial ?_
    | refine aw_condD rfl trivial (fun hc => ?_) (fun hc => ?_)
    | refine aw_condN rfl trivial (fun hc => ?_) (fun hc => ?_)
    | refine aw_condNB rfl trivial (fun hc => ?_) (fun hc => ?_)
    | refine aw_cond rfl trivial (fun hc => ?_) (fun hc => ?_)
    | refine aw_ret ?_
    | refine aw_exit ?_
    | refine ao_op rfl ?_ ?_
    | refine aq_op rfl ?_ ?_
    | refine at_op rfl ?_ ?_
    | refine am_op rfl ?_ rfl ?_
    | refine ao_box rfl trivial rfl rfl rfl ?_
    | refine ao_alloc rfl rfl rfl rfl ?_
    | refine ao_store rfl rfl trivial rfl trivial rfl rfl rfl rfl rfl ?_
    | refine ao_call rfl (r_Valid _) rfl ?_ ?_
    | (show allP _; first | trivial | exact ob1 (fun h => h) | exact ob2 (fun h => h) (fun h => h) | exact ob1 (fun h => ⟨h.1, trivial⟩) | (simp only [allP, obg, grd, allT, InR, decide_eq_true_eq, Bool.and_eq_true, Bool.not_eq_true', decide_eq_false_iff_not, List.nil_append, List.cons_append, List.append_nil, and_true, true_and]; first | omega | (intros; omega) | (simp only [Blk.len, List.length_set, List.length_append, List.length_cons, List.length_nil]; first | omega | (intros; omega)) | (refine ⟨?_, ?_⟩ <;> intros <;> first | (with_reducible assumption) | omega) | ((repeat' refine And.intro ?_ ?_) <;> (intros; first | (with_reducible assumption) | omega | (simp only [Blk.len, List.length_set, List.length_append, List.length_cons, List.length_nil]; omega))) | ((try simp only [Bool.or_eq_true, Bool.or_eq_false_iff, Bool.and_eq_true, Bool.and_eq_false_iff, decide_eq_true_eq, decide_eq_false_iff_not, Bool.not_eq_true', Bool.not_eq_false'] at *); (try simp only [Blk.len] at *); first | omega | (intros; omega)) | (simp_all; done))))
  · (refine fin_ret ?_; exact ret1 (by rfl) (by (simp [arcsT, (by simpa using hc : validB t = false)])) (by rfl))
  · have := validB_head (by simpa using hc : validB t = true)
    first | trivial | exact ob1 (fun h => h) | exact ob2 (fun h => h) (fun h => h) | exact ob1 (fun h => ⟨h.1, trivial⟩) | (simp only [allP, obg, grd, allT, InR, decide_eq_true_eq, Bool.and_eq_true, Bool.not_eq_true', decide_eq_false_iff_not, List.nil_append, List.cons_append, List.append_nil, and_true, true_and]; first | omega | (intros; omega) | (simp only [Blk.len, List.length_set, List.length_append, List.length_cons, List.length_nil]; first | omega | (intros; omega)) | (refine ⟨?_, ?_⟩ <;> intros <;> first | (with_reducible assumption) | omega) | ((repeat' refine And.intro ?_ ?_) <;> (intros; first | (with_reducible assumption) | omega | (simp only [Blk.len, List.length_set, List.length_append, List.length_cons, List.length_nil]; omega))) | ((try simp only [Bool.or_eq_true, Bool.or_eq_false_iff, Bool.and_eq_true, Bool.and_eq_false_iff, decide_eq_true_eq, decide_eq_false_iff_not, Bool.not_eq_true', Bool.not_eq_false'] at *); (try simp only [Blk.len] at *); first | omega | (intros; omega)) | (simp_all; done))
  · have hv : validB t = true := by simpa using hc
    (refine fin_ret ?_; exact ret1 (by rfl) (by (simp [arcsT, hv])) (by rfl))

theorem r_Tail (t : Topo) (a : Int) : Ctr Try.prog 27 [topoD t, iD a] [] (.d (iD (tailT t a))) := by
  refine spec_of envOK (enters_of Try.func27 (by kernel_rfl) (by kernel_rfl)) Try.func27 rfl rfl _ rfl (Nat.le_of_ble_eq_true rfl) rfl fun w0 => ?_
  have hA := arcs_half t a
  repeat' (first
  
    | refine aw_seq ?_
    | refine aw_region ?_
    | refine aw_region_q (by kernel_rfl) (by kernel_rfl) ?_
    | refine aw_block ?_
    | refine ao_nil ?_
    | refine ao_op rfl trivial ?_
    | refine aq_nil ?_
    | refine aq_op rfl trivial ?_
    | refine at_nil ?_
    | refine at_op rfl trivial ?_
    | refine am_nil ?_
    | refine am_op rfl trivial rfl ?_
    | refine aw_skip ?_
    | refine aw_condT rfl trivial ?_
    | refine aw_condF rfl trivial ?_
    | refine aw_condD rfl trivial (fun hc => ?_) (fun hc => ?_)
    | refine aw_condN rfl trivial (fun hc => ?_) (fun hc => ?_)
    | refine aw_condNB rfl trivial (fun hc => ?_) (fun hc => ?_)
    | refine aw_cond rfl trivial (fun hc => ?_) (fun hc => ?_)
    | refine aw_ret ?_
    | refine aw_exit ?_
    | refine ao_op rfl ?_ ?_
    | refine aq_op rfl ?_ ?_
    | refine at_op rfl ?_ ?_
    | refine am_op rfl ?_ rfl ?_
    | refine ao_box rfl trivial rfl rfl rfl ?_
    | refine ao_alloc rfl rfl rfl rfl ?_
    | refine ao_store rfl rfl trivial rfl trivial rfl rfl rfl rfl rfl ?_
    | refine ao_call rfl (r_Arcs _) rfl ?_ ?_
    | refine aq_call rfl (r_Arcs _) rfl ?_ ?_
    | (show allP _; first | trivial | exact ob1 (fun h => h) | exact ob2 (fun h => h) (fun h => h) | exact ob1 (fun h => ⟨h.1, trivial⟩) | (simp only [allP, obg, grd, allT, InR, decide_eq_true_eq, Bool.and_eq_true, Bool.not_eq_true', decide_eq_false_iff_not, List.nil_append, List.cons_append, List.append_nil, and_true, true_and]; first | omega | (intros; omega) | (simp only [Blk.len, List.length_set, List.length_append, List.length_cons, List.length_nil]; first | omega | (intros; omega)) | (refine ⟨?_, ?_⟩ <;> intros <;> first | (with_reducible assumption) | omega) | ((repeat' refine And.intro ?_ ?_) <;> (intros; first | (with_reducible assumption) | omega | (simp only [Blk.len, List.length_set, List.length_append, List.length_cons, List.length_nil]; omega))) | ((try simp only [Bool.or_eq_true, Bool.or_eq_false_iff, Bool.and_eq_true, Bool.and_eq_false_iff, decide_eq_true_eq, decide_eq_false_iff_not, Bool.not_eq_true', Bool.not_eq_false'] at *); (try simp only [Blk.len] at *); first | omega | (intros; omega)) | (simp_all; done))))
  · have hi : arcIn t a = false := by simp only [arcIn]; simp only [Bool.or_eq_true, decide_eq_true_eq] at hc; simp; omega
    (refine fin_ret ?_; exact ret1 (by rfl) (by simp [tailT, hi]) (by rfl))
  · rename_i h
    have hi : arcIn t a = true := by simp only [arcIn]; simp only [Bool.or_eq_false_iff, decide_eq_false_iff_not] at h; simp; omega
    (refine fin_ret ?_; exact ret1 (by rfl) (by simp [tailT, hi, hc, lkAt]) (by rfl))
  · rename_i h
    have hi : arcIn t a = true := by simp only [arcIn]; simp only [Bool.or_eq_false_iff, decide_eq_false_iff_not] at h; simp; omega
    (refine fin_ret ?_; exact ret1 (by rfl) (by simp [tailT, hi, hc, lkAt]) (by rfl))

theorem arcIn_iff {t : Topo} {a : Int} : arcIn t a = true ↔ 0 ≤ a ∧ a < arcsT t := by simp [arcIn]
theorem arcsT_even (t : Topo) : arcsT t % 2 = 0 := by
  unfold arcsT
  cases validB t <;> simp
theorem tail_flip {t : Topo} {a : Int} (h : arcIn t a = true) : tailT t (a / 2 * 2 + 1 - a % 2) = headT t a := by
  have h2 := arcIn_iff.1 h
  have h3 := arcsT_even t
  have h1 : arcIn t (a / 2 * 2 + 1 - a % 2) = true := arcIn_iff.2 (by omega)
  have hd : (a / 2 * 2 + 1 - a % 2) / 2 = a / 2 := by omega
  simp only [tailT, headT, h, h1, cond_true, lkAt, hd]
  by_cases hz : a % 2 = 0
  · have : (a / 2 * 2 + 1 - a % 2) % 2 ≠ 0 := by omega
    rw [decide_eq_false this, decide_eq_true hz]; rfl
  · have : (a / 2 * 2 + 1 - a % 2) % 2 = 0 := by omega
    rw [decide_eq_true this, decide_eq_false hz]; rfl

theorem r_Head (t : Topo) (a : Int) : Ctr Try.prog 67 [topoD t, iD a] [] (.d (iD (headT t a))) := by
  refine spec_of envOK (enters_of Try.func67 (by kernel_rfl) (by kernel_rfl)) Try.func67 rfl rfl _ rfl (Nat.le_of_ble_eq_true rfl) rfl fun w0 => ?_
  have hA := arcs_half t a
  repeat' (first
  
    | refine aw_seq ?_
    | refine aw_region ?_
    | refine aw_region_q (by kernel_rfl) (by kernel_rfl) ?_
    | refine aw_block ?_
    | refine ao_nil ?_
    | refine ao_op rfl trivial ?_
    | refine aq_nil ?_
    | refine aq_op rfl trivial ?_
    | refine at_nil ?_
    | refine at_op rfl trivial ?_
    | refine am_nil ?_
    | refine am_op rfl trivial rfl ?_
    | refine aw_skip ?_
    | refine aw_condT rfl trivial ?_
    | refine aw_condF rfl trivial ?_
    | refine aw_condD rfl trivial (fun hc => ?_) (fun hc => ?_)
    | refine aw_condN rfl trivial (fun hc => ?_) (fun hc => ?_)
    | refine aw_condNB rfl trivial (fun hc => ?_) (fun hc => ?_)
    | refine aw_cond rfl trivial (fun hc => ?_) (fun hc => ?_)
    | refine aw_ret ?_
    | refine aw_exit ?_
    | refine ao_op rfl ?_ ?_
    | refine aq_op rfl ?_ ?_
    | refine at_op rfl ?_ ?_
    | refine am_op rfl ?_ rfl ?_
    | refine ao_box rfl trivial rfl rfl rfl ?_
    | refine ao_alloc rfl rfl rfl rfl ?_
    | refine ao_store rfl rfl trivial rfl trivial rfl rfl rfl rfl rfl ?_
    | refine ao_call rfl (r_Arcs _) rfl ?_ ?_
    | refine aq_call rfl (r_Arcs _) rfl ?_ ?_
    | refine ao_call rfl (r_Tail _ _) rfl ?_ ?_
    | (show allP _; first | trivial | exact ob1 (fun h => h) | exact ob2 (fun h => h) (fun h => h) | exact ob1 (fun h => ⟨h.1, trivial⟩) | (simp only [allP, obg, grd, allT, InR, decide_eq_true_eq, Bool.and_eq_true, Bool.not_eq_true', decide_eq_false_iff_not, List.nil_append, List.cons_append, List.append_nil, and_true, true_and]; first | omega | (intros; omega) | (simp only [Blk.len, List.length_set, List.length_append, List.length_cons, List.length_nil]; first | omega | (intros; omega)) | (refine ⟨?_, ?_⟩ <;> intros <;> first | (with_reducible assumption) | omega) | ((repeat' refine And.intro ?_ ?_) <;> (intros; first | (with_reducible assumption) | omega | (simp only [Blk.len, List.length_set, List.length_append, List.length_cons, List.length_nil]; omega))) | ((try simp only [Bool.or_eq_true, Bool.or_eq_false_iff, Bool.and_eq_true, Bool.and_eq_false_iff, decide_eq_true_eq, decide_eq_false_iff_not, Bool.not_eq_true', Bool.not_eq_false'] at *); (try simp only [Blk.len] at *); first | omega | (intros; omega)) | (simp_all; done))))
  · have hi : arcIn t a = false := by simp only [arcIn]; simp only [Bool.or_eq_true, decide_eq_true_eq] at hc; simp; omega
    (refine fin_ret ?_; exact ret1 (by rfl) (by simp [headT, hi]) (by rfl))
  · have hi : arcIn t a = true := by simp only [arcIn]; simp only [Bool.or_eq_false_iff, decide_eq_false_iff_not] at hc; simp; omega
    (refine fin_ret ?_; exact ret1 (by rfl) (by (rw [tail_flip hi])) (by rfl))

theorem r_Cost (t : Topo) (a : Int) : Ctr Try.prog 37 [topoD t, iD a] [] (.d (iD (costT t a))) := by
  refine spec_of envOK (enters_of Try.func37 (by kernel_rfl) (by kernel_rfl)) Try.func37 rfl rfl _ rfl (Nat.le_of_ble_eq_true rfl) rfl fun w0 => ?_
  have hA := arcs_half t a
  repeat' (first
  
    | refine aw_seq ?_
    | refine aw_region ?_
    | refine aw_region_q (by kernel_rfl) (by kernel_rfl) ?_
    | refine aw_block ?_
    | refine ao_nil ?_
    | refine ao_op rfl trivial ?_
    | refine aq_nil ?_
    | refine aq_op rfl trivial ?_
    | refine at_nil ?_
    | refine at_op rfl trivial ?_
    | refine am_nil ?_
    | refine am_op rfl trivial rfl ?_
    | refine aw_skip ?_
    | refine aw_condT rfl trivial ?_
    | refine aw_condF rfl trivial ?_
    | refine aw_condD rfl trivial (fun hc => ?_) (fun hc => ?_)
    | refine aw_condN rfl trivial (fun hc => ?_) (fun hc => ?_)
    | refine aw_condNB rfl trivial (fun hc => ?_) (fun hc => ?_)
    | refine aw_cond rfl trivial (fun hc => ?_) (fun hc => ?_)
    | refine aw_ret ?_
    | refine aw_exit ?_
    | refine ao_op rfl ?_ ?_
    | refine aq_op rfl ?_ ?_
    | refine at_op rfl ?_ ?_
    | refine am_op rfl ?_ rfl ?_
    | refine ao_box rfl trivial rfl rfl rfl ?_
    | refine ao_alloc rfl rfl rfl rfl ?_
    | refine ao_store rfl rfl trivial rfl trivial rfl rfl rfl rfl rfl ?_
    | refine ao_call rfl (r_Arcs _) rfl ?_ ?_
    | refine aq_call rfl (r_Arcs _) rfl ?_ ?_
    | (show allP _; first | trivial | exact ob1 (fun h => h) | exact ob2 (fun h => h) (fun h => h) | exact ob1 (fun h => ⟨h.1, trivial⟩) | (simp only [allP, obg, grd, allT, InR, decide_eq_true_eq, Bool.and_eq_true, Bool.not_eq_true', decide_eq_false_iff_not, List.nil_append, List.cons_append, List.append_nil, and_true, true_and]; first | omega | (intros; omega) | (simp only [Blk.len, List.length_set, List.length_append, List.length_cons, List.length_nil]; first | omega | (intros; omega)) | (refine ⟨?_, ?_⟩ <;> intros <;> first | (with_reducible assumption) | omega) | ((repeat' refine And.intro ?_ ?_) <;> (intros; first | (with_reducible assumption) | omega | (simp only [Blk.len, List.length_set, List.length_append, List.length_cons, List.length_nil]; omega))) | ((try simp only [Bool.or_eq_true, Bool.or_eq_false_iff, Bool.and_eq_true, Bool.and_eq_false_iff, decide_eq_true_eq, decide_eq_false_iff_not, Bool.not_eq_true', Bool.not_eq_false'] at *); (try simp only [Blk.len] at *); first | omega | (intros; omega)) | (simp_all; done))))
  · have hi : arcIn t a = false := by simp only [arcIn]; simp only [Bool.or_eq_true, decide_eq_true_eq] at hc; simp; omega
    (refine fin_ret ?_; exact ret1 (by rfl) (by simp [costT, hi]) (by rfl))
  · have hi : arcIn t a = true := by simp only [arcIn]; simp only [Bool.or_eq_false_iff, decide_eq_false_iff_not] at hc; simp; omega
    rcases (by omega : a % 2 = 0 ∨ a % 2 = 1) with h | h
    · rw [h]
      repeat' (first
      
        | refine aw_seq ?_
        | refine aw_region ?_
        | refine aw_region_q (by kernel_rfl) (by kernel_rfl) ?_
        | refine aw_block ?_
        | refine ao_nil ?_
        | refine ao_op rfl trivial ?_
        | refine aq_nil ?_
        | refine aq_op rfl trivial ?_
        | refine at_nil ?_
        | refine at_op rfl trivial ?_
        | refine am_nil ?_
        | refine am_op rfl trivial rfl ?_
        | refine aw_skip ?_
        | refine aw_condT rfl trivial ?_
        | refine aw_condF rfl trivial ?_
        | refine aw_condD rfl trivial (fun hc => ?_) (fun hc => ?_)
        | refine aw_condN rfl trivial (fun hc => ?_) (fun hc => ?_)
        | refine aw_condNB rfl trivial (fun hc => ?_) (fun hc => ?_)
        | refine aw_cond rfl trivial (fun hc => ?_) (fun hc => ?_)
        | refine aw_ret ?_
        | refine aw_exit ?_
        | refine ao_op rfl ?_ ?_
        | refine aq_op rfl ?_ ?_
        | refine at_op rfl ?_ ?_
        | refine am_op rfl ?_ rfl ?_
        | refine ao_box rfl trivial rfl rfl rfl ?_
        | refine ao_alloc rfl rfl rfl rfl ?_
        | refine ao_store rfl rfl trivial rfl trivial rfl rfl rfl rfl rfl ?_
      
        | (show allP _; first | trivial | exact ob1 (fun h => h) | exact ob2 (fun h => h) (fun h => h) | exact ob1 (fun h => ⟨h.1, trivial⟩) | (simp only [allP, obg, grd, allT, InR, decide_eq_true_eq, Bool.and_eq_true, Bool.not_eq_true', decide_eq_false_iff_not, List.nil_append, List.cons_append, List.append_nil, and_true, true_and]; first | omega | (intros; omega) | (simp only [Blk.len, List.length_set, List.length_append, List.length_cons, List.length_nil]; first | omega | (intros; omega)) | (refine ⟨?_, ?_⟩ <;> intros <;> first | (with_reducible assumption) | omega) | ((repeat' refine And.intro ?_ ?_) <;> (intros; first | (with_reducible assumption) | omega | (simp only [Blk.len, List.length_set, List.length_append, List.length_cons, List.length_nil]; omega))) | ((try simp only [Bool.or_eq_true, Bool.or_eq_false_iff, Bool.and_eq_true, Bool.and_eq_false_iff, decide_eq_true_eq, decide_eq_false_iff_not, Bool.not_eq_true', Bool.not_eq_false'] at *); (try simp only [Blk.len] at *); first | omega | (intros; omega)) | (simp_all; done))))
      (refine fin_ret ?_; exact ret1 (by rfl) (by simp [costT, hi, h, lkAt]) (by rfl))
    · rw [h]
      repeat' (first
      
        | refine aw_seq ?_
        | refine aw_region ?_
        | refine aw_region_q (by kernel_rfl) (by kernel_rfl) ?_
        | refine aw_block ?_
        | refine ao_nil ?_
        | refine ao_op rfl trivial ?_
        | refine aq_nil ?_
        | refine aq_op rfl trivial ?_
        | refine at_nil ?_
        | refine at_op rfl trivial ?_
        | refine am_nil ?_
        | refine am_op rfl trivial rfl ?_
        | refine aw_skip ?_
        | refine aw_condT rfl trivial ?_
        | refine aw_condF rfl trivial ?_
        | refine aw_condD rfl trivial (fun hc => ?_) (fun hc => ?_)
        | refine aw_condN rfl trivial (fun hc => ?_) (fun hc => ?_)
        | refine aw_condNB rfl trivial (fun hc => ?_) (fun hc => ?_)
        | refine aw_cond rfl trivial (fun hc => ?_) (fun hc => ?_)
        | refine aw_ret ?_
        | refine aw_exit ?_
        | refine ao_op rfl ?_ ?_
        | refine aq_op rfl ?_ ?_
        | refine at_op rfl ?_ ?_
        | refine am_op rfl ?_ rfl ?_
        | refine ao_box rfl trivial rfl rfl rfl ?_
        | refine ao_alloc rfl rfl rfl rfl ?_
        | refine ao_store rfl rfl trivial rfl trivial rfl rfl rfl rfl rfl ?_
      
        | (show allP _; first | trivial | exact ob1 (fun h => h) | exact ob2 (fun h => h) (fun h => h) | exact ob1 (fun h => ⟨h.1, trivial⟩) | (simp only [allP, obg, grd, allT, InR, decide_eq_true_eq, Bool.and_eq_true, Bool.not_eq_true', decide_eq_false_iff_not, List.nil_append, List.cons_append, List.append_nil, and_true, true_and]; first | omega | (intros; omega) | (simp only [Blk.len, List.length_set, List.length_append, List.length_cons, List.length_nil]; first | omega | (intros; omega)) | (refine ⟨?_, ?_⟩ <;> intros <;> first | (with_reducible assumption) | omega) | ((repeat' refine And.intro ?_ ?_) <;> (intros; first | (with_reducible assumption) | omega | (simp only [Blk.len, List.length_set, List.length_append, List.length_cons, List.length_nil]; omega))) | ((try simp only [Bool.or_eq_true, Bool.or_eq_false_iff, Bool.and_eq_true, Bool.and_eq_false_iff, decide_eq_true_eq, decide_eq_false_iff_not, Bool.not_eq_true', Bool.not_eq_false'] at *); (try simp only [Blk.len] at *); first | omega | (intros; omega)) | (simp_all; done))))
      (refine fin_ret ?_; exact ret1 (by rfl) (by simp [costT, hi, h, lkAt]) (by rfl))

theorem ext_getD {a b : List Int} (h : a.length = b.length) (h2 : ∀ j, j < a.length → a.getD j 0 = b.getD j 0) : a = b := by
  apply List.ext_getElem h
  intro i h1 h3
  have := h2 i h1
  simpa [List.getD_eq_getElem?_getD, h1, h3] using this

theorem r_SameInts (a b : List Int) (hb : a.length ≤ 4611686018427387904) : Ctr Try.prog 22 [intsD a, intsD b] [] (.d (bD (decide (a = b)))) := by
  refine spec_of envOK (enters_of Try.func22 (by kernel_rfl) (by kernel_rfl)) Try.func22 rfl rfl _ rfl (Nat.le_of_ble_eq_true rfl) rfl fun w0 => ?_
  repeat' (first
  
    | refine aw_seq ?_
    | refine aw_region ?_
    | refine aw_region_q (by kernel_rfl) (by kernel_rfl) ?_
    | refine aw_block ?_
    | refine ao_nil ?_
    | refine ao_op rfl trivial ?_
    | refine aq_nil ?_
    | refine aq_op rfl trivial ?_
    | refine at_nil ?_
    | refine at_op rfl trivial ?_
    | refine am_nil ?_
    | refine am_op rfl trivial rfl ?_
    | refine aw_skip ?_
    | refine aw_condT rfl trivial ?_
    | refine aw_condF rfl trivial ?_
    | refine aw_condD rfl trivial (fun hc => ?_) (fun hc => ?_)
    | refine aw_condN rfl trivial (fun hc => ?_) (fun hc => ?_)
    | refine aw_condNB rfl trivial (fun hc => ?_) (fun hc => ?_)
    | refine aw_cond rfl trivial (fun hc => ?_) (fun hc => ?_)
    | refine aw_ret ?_
    | refine aw_exit ?_
    | refine ao_op rfl ?_ ?_
    | refine aq_op rfl ?_ ?_
    | refine at_op rfl ?_ ?_
    | refine am_op rfl ?_ rfl ?_
    | refine ao_box rfl trivial rfl rfl rfl ?_
    | refine ao_alloc rfl rfl rfl rfl ?_
    | refine ao_store rfl rfl trivial rfl trivial rfl rfl rfl rfl rfl ?_
  
    | (show allP _; first | trivial | exact ob1 (fun h => h) | exact ob2 (fun h => h) (fun h => h) | exact ob1 (fun h => ⟨h.1, trivial⟩) | (simp only [allP, obg, grd, allT, InR, decide_eq_true_eq, Bool.and_eq_true, Bool.not_eq_true', decide_eq_false_iff_not, List.nil_append, List.cons_append, List.append_nil, and_true, true_and]; first | omega | (intros; omega) | (simp only [Blk.len, List.length_set, List.length_append, List.length_cons, List.length_nil]; first | omega | (intros; omega)) | (refine ⟨?_, ?_⟩ <;> intros <;> first | (with_reducible assumption) | omega) | ((repeat' refine And.intro ?_ ?_) <;> (intros; first | (with_reducible assumption) | omega | (simp only [Blk.len, List.length_set, List.length_append, List.length_cons, List.length_nil]; omega))) | ((try simp only [Bool.or_eq_true, Bool.or_eq_false_iff, Bool.and_eq_true, Bool.and_eq_false_iff, decide_eq_true_eq, decide_eq_false_iff_not, Bool.not_eq_true', Bool.not_eq_false'] at *); (try simp only [Blk.len] at *); first | omega | (intros; omega)) | (simp_all; done))))
  · (refine fin_ret ?_; exact ret1 (by rfl) (by (have : ¬ a = b := fun h => hc (by rw [h]); simp [this])) (by rfl))
  refine aw_loop (ι := Nat) (fun i => [(5, [], .d (iD i)), (0, [], .d (intsD a)), (1, [], .d (intsD b))]) (fun _ => [])
    (fun i => i ≤ a.length ∧ ∀ j, j < i → a.getD j 0 = b.getD j 0) (fun i => a.length - i) 0 ⟨by omega, fun j hj => by omega⟩ (fun _ => Nat.le_of_ble_eq_true rfl) (by refine weak_to ?_ ?_ rfl rfl
                                                                                                                                                                       · repeat (first | exact subF_nil | refine subF_cons (by first | rfl | (simp [look]; done)) ?_)
                                                                                                                                                                       · repeat (first | exact subS_nil | refine subS_cons (by first | rfl | (simp; done)) ?_)) fun i hi => ?_
  obtain ⟨hi1, hi2⟩ := hi
  repeat' (first
  
    | refine aw_seq ?_
    | refine aw_region ?_
    | refine aw_region_q (by kernel_rfl) (by kernel_rfl) ?_
    | refine aw_block ?_
    | refine ao_nil ?_
    | refine ao_op rfl trivial ?_
    | refine aq_nil ?_
    | refine aq_op rfl trivial ?_
    | refine at_nil ?_
    | refine at_op rfl trivial ?_
    | refine am_nil ?_
    | refine am_op rfl trivial rfl ?_
    | refine aw_skip ?_
    | refine aw_condT rfl trivial ?_
    | refine aw_condF rfl trivial ?_
    | refine aw_condD rfl trivial (fun hc => ?_) (fun hc => ?_)
    | refine aw_condN rfl trivial (fun hc => ?_) (fun hc => ?_)
    | refine aw_condNB rfl trivial (fun hc => ?_) (fun hc => ?_)
    | refine aw_cond rfl trivial (fun hc => ?_) (fun hc => ?_)
    | refine aw_ret ?_
    | refine aw_exit ?_
    | refine ao_op rfl ?_ ?_
    | refine aq_op rfl ?_ ?_
    | refine at_op rfl ?_ ?_
    | refine am_op rfl ?_ rfl ?_
    | refine ao_box rfl trivial rfl rfl rfl ?_
    | refine ao_alloc rfl rfl rfl rfl ?_
    | refine ao_store rfl rfl trivial rfl trivial rfl rfl rfl rfl rfl ?_
  
    | (show allP _; first | trivial | exact ob1 (fun h => h) | exact ob2 (fun h => h) (fun h => h) | exact ob1 (fun h => ⟨h.1, trivial⟩) | (simp only [allP, obg, grd, allT, InR, decide_eq_true_eq, Bool.and_eq_true, Bool.not_eq_true', decide_eq_false_iff_not, List.nil_append, List.cons_append, List.append_nil, and_true, true_and]; first | omega | (intros; omega) | (simp only [Blk.len, List.length_set, List.length_append, List.length_cons, List.length_nil]; first | omega | (intros; omega)) | (refine ⟨?_, ?_⟩ <;> intros <;> first | (with_reducible assumption) | omega) | ((repeat' refine And.intro ?_ ?_) <;> (intros; first | (with_reducible assumption) | omega | (simp only [Blk.len, List.length_set, List.length_append, List.length_cons, List.length_nil]; omega))) | ((try simp only [Bool.or_eq_true, Bool.or_eq_false_iff, Bool.and_eq_true, Bool.and_eq_false_iff, decide_eq_true_eq, decide_eq_false_iff_not, Bool.not_eq_true', Bool.not_eq_false'] at *); (try simp only [Blk.len] at *); first | omega | (intros; omega)) | (simp_all; done))))
  · rw [Int.toNat_natCast] at hc
    (refine fin_ret ?_; exact ret1 (by rfl) (by (have : ¬ a = b := (fun h => hc (by rw [h])); simp [this])) (by rfl))
  · rw [Int.toNat_natCast] at hc
    refine ⟨i + 1, ⟨by omega, fun j hj => ?_⟩, by omega, ?_⟩
    · rcases Nat.lt_succ_iff_lt_or_eq.1 hj with h | rfl
      · exact hi2 j h
      · exact hc
    · refine weak_to ?_ ?_ rfl rfl
      · repeat (first | exact subF_nil | refine subF_cons (by first | rfl | (simp [look]; done)) ?_)
      · repeat (first | exact subS_nil | refine subS_cons (by first | rfl | (simp; done)) ?_)
  · (refine fin_ret ?_; exact ret1 (by rfl) (by (have : a = b := (ext_getD (by omega) fun j hj => hi2 j (by omega)); simp [this])) (by rfl))

end Go.Proofs.Ytcnfggpcploehaa
