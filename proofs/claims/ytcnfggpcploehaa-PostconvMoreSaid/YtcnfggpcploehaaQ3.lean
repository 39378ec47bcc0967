/- Laid together: Mh, Mi, Ms, Mdj, Mp, WkW, L11, C03, C03a, C03b, C03c, C03d, C03e. -/
import Derived.Test.YtcnfggpcploehaaQ2

set_option linter.all false

/- The heap, plainly. -/
namespace Go.Wk
set_option maxRecDepth 10000

abbrev gI (l : List Int) (i : Int) : Int := l.getD i.toNat 0
def beforeB (keys : List Int) (i k : Int) : Bool := decide (gI keys i < gI keys k) || (decide (gI keys i = gI keys k) && decide (i < k))

def upF (keys : List Int) (i : Int) (items places : List Int) (at_ : Nat) : List Int × List Int :=
  if 0 < at_ ∧ beforeB keys i (items.getD ((at_ - 1) / 2) 0) = true then
    upF keys i (items.set at_ (items.getD ((at_ - 1) / 2) 0)) (places.set (items.getD ((at_ - 1) / 2) 0).toNat at_) ((at_ - 1) / 2)
  else (items.set at_ i, places.set i.toNat at_)
termination_by at_
decreasing_by omega

/-- The items are numbers below the size. -/
def okH (keys items places : List Int) : Prop := places.length = keys.length ∧ items.length ≤ 65536 ∧ ∀ k, k < items.length → 0 ≤ items.getD k 0 ∧ items.getD k 0 < keys.length

theorem getD_set {l : List Int} {m k : Nat} {v : Int} : (l.set m v).getD k 0 = if m = k ∧ k < l.length then v else l.getD k 0 := by
  simp only [List.getD_eq_getElem?_getD, List.getElem?_set]
  by_cases h : m = k
  · subst h
    by_cases h2 : m < l.length <;> simp [h2]
  · simp [h]
theorem okH_set {keys items places : List Int} (h : okH keys items places) {m p : Nat} {v q : Int} (hv : 0 ≤ v ∧ v < keys.length) : okH keys (items.set m v) (places.set p q) := by
  refine ⟨by simp [h.1], by simp [h.2.1], fun k hk => ?_⟩
  rw [getD_set]
  split
  · exact hv
  · exact h.2.2 k (by simpa using hk)

/-- The lesser child of a place. -/
def kidF (keys items : List Int) (at_ : Nat) : Nat :=
  if 2 * at_ + 2 < items.length ∧ beforeB keys (items.getD (2 * at_ + 2) 0) (items.getD (2 * at_ + 1) 0) = true then 2 * at_ + 2 else 2 * at_ + 1
theorem kidF_gt (keys items : List Int) (at_ : Nat) : at_ < kidF keys items at_ := by unfold kidF; split <;> omega

def downF (keys : List Int) (i : Int) (items places : List Int) (at_ : Nat) : List Int × List Int :=
  if kidF keys items at_ < items.length ∧ beforeB keys (items.getD (kidF keys items at_) 0) i = true then
    downF keys i (items.set at_ (items.getD (kidF keys items at_) 0)) (places.set (items.getD (kidF keys items at_) 0).toNat at_) (kidF keys items at_)
  else (items.set at_ i, places.set i.toNat at_)
termination_by items.length - at_
decreasing_by have := kidF_gt keys items at_; simp; omega


/-! ### Places -/

/-- Places and items tell of one another. -/
structure InvP (keys items places : List Int) : Prop where
  ok : okH keys items places
  at_ : ∀ k, k < items.length → places.getD (items.getD k 0).toNat 0 = k
  of : ∀ x, x < keys.length → places.getD x 0 < 0 ∨ ∃ k, k < items.length ∧ places.getD x 0 = (k : Int) ∧ items.getD k 0 = x

theorem InvP.inj {keys items places : List Int} (h : InvP keys items places) {j k : Nat} (hj : j < items.length) (hk : k < items.length) (he : items.getD j 0 = items.getD k 0) : j = k := by
  have h1 := h.at_ j hj
  have h2 := h.at_ k hk
  rw [he, h2] at h1
  omega

/-- One step upward or downward: the item at p moves to a, the item i (at a) to p. -/
theorem InvP.swap {keys items places : List Int} {i : Int} {a p : Nat} (ha : a < items.length) (hp : p < items.length) (hne : a ≠ p) (hi : 0 ≤ i ∧ i < keys.length)
    (h : InvP keys (items.set a i) (places.set i.toNat a)) :
    InvP keys ((items.set a (items.getD p 0)).set p i) ((places.set (items.getD p 0).toNat a).set i.toNat p) := by
  have hlp : places.length = keys.length := by simpa using h.ok.1
  have gp : (items.set a i).getD p 0 = items.getD p 0 := by rw [getD_set, if_neg (by omega)]
  have hq := h.ok.2.2 p (by simpa using hp)
  rw [gp] at hq
  have hqi : items.getD p 0 ≠ i := fun he => by
    have := h.inj (j := p) (k := a) (by simpa using hp) (by simpa using ha) (by rw [gp, getD_set, if_pos ⟨rfl, ha⟩]; exact he)
    omega
  have hql : (items.getD p 0).toNat < places.length := by omega
  have hil : i.toNat < places.length := by omega
  have hqn : (items.getD p 0).toNat ≠ i.toNat := by omega
  have getI : ∀ k, k < items.length → ((items.set a (items.getD p 0)).set p i).getD k 0 = if k = p then i else if k = a then items.getD p 0 else items.getD k 0 := by
    intro k hk
    rw [getD_set, getD_set]
    simp only [List.length_set]
    by_cases h1 : k = p
    · rw [if_pos ⟨h1.symm, hk⟩, if_pos h1]
    · rw [if_neg (by omega), if_neg h1]
      by_cases h2 : k = a
      · rw [if_pos ⟨h2.symm, hk⟩, if_pos h2]
      · rw [if_neg (by omega), if_neg h2]
  have getP : ∀ x, ((places.set (items.getD p 0).toNat a).set i.toNat p).getD x 0 = if x = i.toNat then (p : Int) else if x = (items.getD p 0).toNat then (a : Int) else places.getD x 0 := by
    intro x
    rw [getD_set, getD_set]
    simp only [List.length_set]
    by_cases h1 : x = i.toNat
    · rw [if_pos ⟨h1.symm, by omega⟩, if_pos h1]
    · rw [if_neg (by omega), if_neg h1]
      by_cases h2 : x = (items.getD p 0).toNat
      · rw [if_pos ⟨h2.symm, by omega⟩, if_pos h2]
      · rw [if_neg (by omega), if_neg h2]
  have ek : ∀ k, k ≠ a → (items.set a i).getD k 0 = items.getD k 0 := fun k hk => by rw [getD_set, if_neg (by omega)]
  refine ⟨⟨by simp [hlp], by simpa using h.ok.2.1, fun k hk => ?_⟩, fun k hk => ?_, fun x hx => ?_⟩
  · have hk' : k < items.length := by simpa using hk
    rw [getI k hk']
    split
    · exact hi
    · split
      · exact hq
      · rename_i h1 h2
        have := h.ok.2.2 k (by simpa using hk')
        rwa [ek k h2] at this
  · have hk' : k < items.length := by simpa using hk
    rw [getI k hk', getP]
    by_cases h1 : k = p
    · rw [if_pos h1, if_pos rfl, h1]
    · rw [if_neg h1]
      by_cases h2 : k = a
      · rw [if_pos h2, if_neg hqn, if_pos rfl, h2]
      · rw [if_neg h2]
        have e := h.at_ k (by simpa using hk')
        rw [ek k h2] at e
        have n1 : (items.getD k 0).toNat ≠ i.toNat := fun he => by
          rw [he, getD_set, if_pos ⟨rfl, by omega⟩] at e; omega
        have n2 : (items.getD k 0).toNat ≠ (items.getD p 0).toNat := fun he => by
          have e2 := h.at_ p (by simpa using hp)
          rw [gp] at e2
          rw [he, e2] at e; omega
        rw [if_neg n1, if_neg n2]
        rwa [getD_set, if_neg (by omega)] at e
  · rw [getP]
    by_cases h1 : x = i.toNat
    · rw [if_pos h1]
      exact .inr ⟨p, by simpa using hp, rfl, by rw [getI p hp, if_pos rfl]; omega⟩
    · rw [if_neg h1]
      by_cases h2 : x = (items.getD p 0).toNat
      · rw [if_pos h2]
        exact .inr ⟨a, by simpa using ha, rfl, by rw [getI a ha, if_neg hne, if_pos rfl]; omega⟩
      · rw [if_neg h2]
        have := h.of x hx
        rw [getD_set, if_neg (by omega)] at this
        rcases this with h3 | ⟨k, hk, e1, e2⟩
        · exact .inl h3
        · have hk' : k < items.length := by simpa using hk
          have hka : k ≠ a := fun he => by subst he; rw [getD_set, if_pos ⟨rfl, ha⟩] at e2; omega
          rw [getD_set, if_neg (by omega)] at e2
          have hkp : k ≠ p := fun he => by subst he; omega
          exact .inr ⟨k, by simpa using hk', e1, by rw [getI k hk', if_neg hkp, if_neg hka]; exact e2⟩

theorem InvP.sign {keys items places : List Int} {i : Int} {a p : Nat} (ha : a < items.length) (hp : p < items.length) (hne : a ≠ p) (hi : 0 ≤ i ∧ i < keys.length)
    (h : InvP keys (items.set a i) (places.set i.toNat a)) (x : Nat) :
    ((places.set (items.getD p 0).toNat a).set i.toNat p).getD x 0 < 0 ↔ (places.set i.toNat a).getD x 0 < 0 := by
  have hlp : places.length = keys.length := by simpa using h.ok.1
  have gp : (items.set a i).getD p 0 = items.getD p 0 := by rw [getD_set, if_neg (by omega)]
  have hq := h.ok.2.2 p (by simpa using hp)
  have e := h.at_ p (by simpa using hp)
  have hqi : items.getD p 0 ≠ i := fun he => by
    have := h.inj (j := p) (k := a) (by simpa using hp) (by simpa using ha) (by rw [gp, getD_set, if_pos ⟨rfl, ha⟩]; exact he)
    omega
  rw [gp] at hq e
  have hqn : i.toNat ≠ (items.getD p 0).toNat := by omega
  rw [getD_set, if_neg (by omega)] at e
  rw [getD_set, getD_set, getD_set]
  simp only [List.length_set]
  by_cases h1 : i.toNat = x
  · have hx : x < places.length := by omega
    simp only [h1, true_and, if_pos hx]; omega
  · simp only [h1, false_and, if_false]
    by_cases h2 : (items.getD p 0).toNat = x
    · have hx : x < places.length := by omega
      rw [if_pos ⟨h2, hx⟩, ← h2, e]; omega
    · rw [if_neg (by omega)]

theorem upF_inv {keys items places : List Int} {i : Int} {a : Nat} (ha : a < items.length) (hi : 0 ≤ i ∧ i < keys.length) (h : InvP keys (items.set a i) (places.set i.toNat a)) :
    InvP keys (upF keys i items places a).1 (upF keys i items places a).2 ∧ (upF keys i items places a).1.length = items.length ∧
      ∀ x, (upF keys i items places a).2.getD x 0 < 0 ↔ (places.set i.toNat a).getD x 0 < 0 := by
  induction a using Nat.strongRecOn generalizing items places with
  | _ a ih =>
    rw [upF]
    split
    · rename_i hc
      have hne : a ≠ (a - 1) / 2 := by omega
      have hs := h.swap ha (p := (a - 1) / 2) (by omega) hne hi
      obtain ⟨h1, h2, h3⟩ := ih ((a - 1) / 2) (by omega) (items := items.set a (items.getD ((a - 1) / 2) 0)) (places := places.set (items.getD ((a - 1) / 2) 0).toNat a) (by simp; omega) hs
      exact ⟨h1, by rw [h2]; simp, fun x => by rw [h3]; exact h.sign ha (by omega) hne hi x⟩
    · exact ⟨h, by simp, fun x => Iff.rfl⟩

theorem kidF_le {keys items : List Int} {a : Nat} : kidF keys items a = 2 * a + 1 ∨ kidF keys items a = 2 * a + 2 := by
  unfold kidF; split <;> omega

theorem downF_inv {keys items places : List Int} {i : Int} {a : Nat} (ha : a < items.length) (hi : 0 ≤ i ∧ i < keys.length) (h : InvP keys (items.set a i) (places.set i.toNat a)) :
    InvP keys (downF keys i items places a).1 (downF keys i items places a).2 ∧ (downF keys i items places a).1.length = items.length ∧
      ∀ x, (downF keys i items places a).2.getD x 0 < 0 ↔ (places.set i.toNat a).getD x 0 < 0 := by
  induction hm : items.length - a using Nat.strongRecOn generalizing items places a with
  | _ m ih =>
    rw [downF]
    split
    · rename_i hc
      have hgt := kidF_gt keys items a
      generalize kidF keys items a = c at hc hgt
      have hs := h.swap ha (p := c) hc.1 (by omega) hi
      obtain ⟨h1, h2, h3⟩ := ih (items.length - c) (by omega) (items := items.set a (items.getD c 0)) (places := places.set (items.getD c 0).toNat a) (a := c) (by simpa using hc.1) hs (by simp)
      exact ⟨h1, by rw [h2]; simp, fun x => by rw [h3]; exact h.sign ha hc.1 (by omega) hi x⟩
    · exact ⟨h, by simp, fun x => Iff.rfl⟩

/-! ### Order -/

theorem beforeB_iff {keys : List Int} {i k : Int} : beforeB keys i k = true ↔ gI keys i < gI keys k ∨ gI keys i = gI keys k ∧ i < k := by
  simp [beforeB]
theorem beforeB_not {keys : List Int} {i k : Int} : beforeB keys i k = false ↔ gI keys k < gI keys i ∨ gI keys i = gI keys k ∧ k ≤ i := by
  rw [← Bool.not_eq_true, beforeB_iff]; omega
theorem before_asymm {keys : List Int} {i k : Int} (h : beforeB keys i k = true) : beforeB keys k i = false := by
  rw [beforeB_iff] at h; rw [beforeB_not]; omega
theorem before_nt {keys : List Int} {i k l : Int} (h : beforeB keys k i = false) (h2 : beforeB keys l k = false) : beforeB keys l i = false := by
  rw [beforeB_not] at *; omega

/-- No item comes before its parent. -/
def Ord (keys items : List Int) : Prop := ∀ k, 0 < k → k < items.length → beforeB keys (items.getD k 0) (items.getD ((k - 1) / 2) 0) = false
/-- The same but for the item at a, which may come before its parent. -/
def OrdU (keys items : List Int) (a : Nat) : Prop :=
  (∀ k, 0 < k → k < items.length → k ≠ a → beforeB keys (items.getD k 0) (items.getD ((k - 1) / 2) 0) = false) ∧
  ∀ c, 0 < a → 0 < c → c < items.length → (c - 1) / 2 = a → beforeB keys (items.getD c 0) (items.getD ((a - 1) / 2) 0) = false
/-- The same but for the item at a, which may come behind its children. -/
def OrdD (keys items : List Int) (a : Nat) : Prop :=
  (∀ k, 0 < k → k < items.length → (k - 1) / 2 ≠ a → beforeB keys (items.getD k 0) (items.getD ((k - 1) / 2) 0) = false) ∧
  ∀ c, 0 < a → 0 < c → c < items.length → (c - 1) / 2 = a → beforeB keys (items.getD c 0) (items.getD ((a - 1) / 2) 0) = false

theorem swap_get {items : List Int} {i : Int} {a p : Nat} (ha : a < items.length) (hp : p < items.length) (hne : a ≠ p) (k : Nat) :
    ((items.set a (items.getD p 0)).set p i).getD k 0 = if k = p then (items.set a i).getD a 0 else if k = a then (items.set a i).getD p 0 else (items.set a i).getD k 0 := by
  rw [getD_set, getD_set, getD_set, getD_set, getD_set]
  simp only [List.length_set]
  by_cases h1 : k = p
  · subst h1; simp [hp, ha]
  · by_cases h2 : k = a
    · subst h2; simp [ha, h1, hne]; intro h; omega
    · simp [h1, h2, Ne.symm h1, Ne.symm h2]

theorem upF_ord {keys items places : List Int} {i : Int} {a : Nat} (ha : a < items.length) (h : OrdU keys (items.set a i) a) : Ord keys (upF keys i items places a).1 := by
  induction a using Nat.strongRecOn generalizing items places with
  | _ a ih =>
    rw [upF]
    have gi : (items.set a i).getD a 0 = i := by rw [getD_set, if_pos ⟨rfl, ha⟩]
    have go : ∀ k, k ≠ a → (items.set a i).getD k 0 = items.getD k 0 := fun k hk => by rw [getD_set, if_neg (by omega)]
    split
    · rename_i hc
      obtain ⟨h0, hb⟩ := hc
      refine ih ((a - 1) / 2) (by omega) (items := items.set a (items.getD ((a - 1) / 2) 0)) (by simp; omega) ?_
      have hp : (a - 1) / 2 < items.length := by omega
      have hne : a ≠ (a - 1) / 2 := by omega
      generalize hpd : (a - 1) / 2 = p at *
      have G := swap_get (i := i) ha hp hne
      obtain ⟨u1, u2⟩ := h
      have hpa := before_asymm hb
      refine ⟨fun k k0 kl kp => ?_, fun c p0 c0 cl cp => ?_⟩
      · have kl' : k < items.length := by simpa using kl
        rw [G, G, if_neg kp, gi]
        by_cases hka : k = a
        · subst hka
          rw [if_pos rfl, hpd, if_pos rfl, go p (Ne.symm hne)]
          exact hpa
        · rw [if_neg hka]
          by_cases q1 : (k - 1) / 2 = p
          · rw [if_pos q1]
            have := u1 k k0 (by simpa using kl') hka
            rw [q1, go p (Ne.symm hne)] at this
            exact before_nt hpa this
          · rw [if_neg q1]
            by_cases q2 : (k - 1) / 2 = a
            · rw [if_pos q2]
              have := u2 k h0 k0 (by simpa using kl') q2
              rwa [hpd] at this
            · rw [if_neg q2]
              exact u1 k k0 (by simpa using kl') hka
      · have cl' : c < items.length := by simpa using cl
        rw [G, G, gi]
        have e1 : (p - 1) / 2 ≠ p := by omega
        have e2 : (p - 1) / 2 ≠ a := by omega
        have hpp := u1 p p0 (by simpa using hp) (Ne.symm hne)
        rw [if_neg e1, if_neg e2]
        by_cases q1 : c = p
        · omega
        · rw [if_neg q1]
          by_cases q2 : c = a
          · rw [if_pos q2]; exact hpp
          · rw [if_neg q2]
            have := u1 c c0 (by simpa using cl') q2
            rw [cp] at this
            exact before_nt hpp this
    · rename_i hc
      intro k k0 kl
      have kl' : k < items.length := by simpa using kl
      by_cases hka : k = a
      · subst hka
        rw [gi, go _ (by omega)]
        cases hb : beforeB keys i (items.getD ((k - 1) / 2) 0) with
        | false => rfl
        | true => exact absurd ⟨k0, hb⟩ hc
      · exact h.1 k k0 (by simpa using kl') hka

theorem kidF_least {keys items : List Int} {a k : Nat} (hk : 0 < k) (hkl : k < items.length) (hp : (k - 1) / 2 = a) : beforeB keys (items.getD k 0) (items.getD (kidF keys items a) 0) = false := by
  have self : ∀ x : Int, beforeB keys x x = false := fun x => by rw [beforeB_not]; omega
  have h12 : k = 2 * a + 1 ∨ k = 2 * a + 2 := by omega
  unfold kidF
  split
  · rename_i h
    rcases h12 with h1 | h1
    · rw [h1]; exact before_asymm h.2
    · rw [h1]; exact self _
  · rename_i h
    rcases h12 with h1 | h1
    · rw [h1]; exact self _
    · rw [h1]
      cases hb : beforeB keys (items.getD (2 * a + 2) 0) (items.getD (2 * a + 1) 0) with
      | false => rfl
      | true => exact absurd ⟨by omega, hb⟩ h

theorem downF_ord {keys items places : List Int} {i : Int} {a : Nat} (ha : a < items.length) (h : OrdD keys (items.set a i) a) : Ord keys (downF keys i items places a).1 := by
  induction hm : items.length - a using Nat.strongRecOn generalizing items places a with
  | _ m ih =>
    rw [downF]
    have gi : (items.set a i).getD a 0 = i := by rw [getD_set, if_pos ⟨rfl, ha⟩]
    have go : ∀ k, k ≠ a → (items.set a i).getD k 0 = items.getD k 0 := fun k hk => by rw [getD_set, if_neg (by omega)]
    obtain ⟨u1, u2⟩ := h
    have least : ∀ k, 0 < k → k < items.length → (k - 1) / 2 = a → beforeB keys (items.getD k 0) (items.getD (kidF keys items a) 0) = false := fun k => kidF_least
    have hkp : (kidF keys items a - 1) / 2 = a := by rcases kidF_le (keys := keys) (items := items) (a := a) with h | h <;> omega
    have hgt := kidF_gt keys items a
    split
    · rename_i hc
      generalize kidF keys items a = c at hc hgt least hkp
      obtain ⟨hcl, hb⟩ := hc
      have hne : a ≠ c := by omega
      have G := swap_get (i := i) ha hcl hne
      have hpa := before_asymm hb
      refine ih (items.length - c) (by omega) (items := items.set a (items.getD c 0)) (a := c) (by simpa using hcl) ⟨fun k k0 kl kp => ?_, fun e c0 e0 el ep => ?_⟩ (by simp)
      · have kl' : k < items.length := by simpa using kl
        rw [G, G, gi, if_neg kp]
        by_cases q1 : k = c
        · subst q1
          rw [if_pos rfl, if_pos hkp, go k (by omega)]
          exact hpa
        · rw [if_neg q1]
          by_cases q2 : k = a
          · subst q2
            rw [if_pos rfl, if_neg (by omega)]
            exact u2 c k0 (by omega) (by simpa using hcl) hkp
          · rw [if_neg q2]
            by_cases q3 : (k - 1) / 2 = a
            · rw [if_pos q3, go k q2, go c (by omega)]
              exact least k k0 kl' q3
            · rw [if_neg q3]
              exact u1 k k0 (by simpa using kl') q3
      · have el' : e < items.length := by simpa using el
        rw [G, G, hkp]
        rw [if_neg (by omega), if_neg (by omega), if_neg hne, if_pos rfl]
        have := u1 e e0 (by simpa using el') (by omega)
        rwa [ep] at this
    · rename_i hc
      intro k k0 kl
      have kl' : k < items.length := by simpa using kl
      by_cases q : (k - 1) / 2 = a
      · rw [q, gi, go k (by omega)]
        have h1 := least k k0 kl' q
        have h2 : kidF keys items a < items.length := by
          rcases kidF_le (keys := keys) (items := items) (a := a) with h | h
          · omega
          · have : k = 2 * a + 1 ∨ k = 2 * a + 2 := by omega
            unfold kidF at h ⊢
            split at h
            · rename_i h3; rw [if_pos h3]; omega
            · omega
        cases hb : beforeB keys (items.getD (kidF keys items a) 0) i with
        | true => exact absurd ⟨h2, hb⟩ hc
        | false => exact before_nt hb h1
      · exact u1 k k0 (by simpa using kl') q

/-! ### Set -/

structure Hp where
  items : List Int
  keys : List Int
  places : List Int

def bumpF (h : Hp) (i : Nat) : Hp :=
  let a := (h.places.getD i 0).toNat
  let u := upF h.keys (h.items.getD a 0) h.items h.places a
  let b := (u.2.getD i 0).toNat
  let d := downF h.keys (u.1.getD b 0) u.1 u.2 b
  ⟨d.1, h.keys, d.2⟩
def setF (h : Hp) (i : Nat) (k : Int) : Hp :=
  if h.places.getD i 0 < 0 then bumpF ⟨h.items ++ [(i : Int)], h.keys.set i k, h.places.set i h.items.length⟩ i else bumpF ⟨h.items, h.keys.set i k, h.places⟩ i

theorem pigeon : ∀ (n : Nat) (l : List Nat), (∀ x ∈ l, x < n) → l.Nodup → l.length ≤ n
  | 0, l, h, _ => by cases l with
    | nil => simp
    | cons x r => exact absurd (h x (by simp)) (Nat.not_lt_zero x)
  | n + 1, l, h, hd => by
    by_cases hn : n ∈ l
    · have := pigeon n (l.erase n) (fun x hx => by
        have h1 := h x (List.mem_of_mem_erase hx)
        have h2 : x ≠ n := fun he => by subst he; exact (hd.not_mem_erase) hx
        omega) (hd.erase n)
      rw [List.length_erase_of_mem hn] at this
      omega
    · have := pigeon n l (fun x hx => by
        have h1 := h x hx
        have h2 : x ≠ n := fun he => by subst he; exact hn hx
        omega) hd
      omega

theorem InvP.len {keys items places : List Int} (h : InvP keys items places) : items.length ≤ keys.length := by
  have := pigeon keys.length (items.map Int.toNat) (fun x hx => by
    obtain ⟨y, hy, rfl⟩ := List.mem_map.1 hx
    obtain ⟨k, hk, rfl⟩ := List.mem_iff_getElem.1 hy
    have := h.ok.2.2 k hk
    simp only [List.getD_eq_getElem?_getD, List.getElem?_eq_getElem hk, Option.getD_some] at this
    omega) (by
    rw [List.Nodup, List.pairwise_iff_getElem]
    intro i j hi hj hij
    have hi' : i < items.length := by simpa using hi
    have hj' : j < items.length := by simpa using hj
    simp only [List.getElem_map]
    intro he
    have hi1 := h.ok.2.2 i hi'
    have hj1 := h.ok.2.2 j hj'
    simp only [List.getD_eq_getElem?_getD, List.getElem?_eq_getElem hi', List.getElem?_eq_getElem hj', Option.getD_some] at hi1 hj1
    have := h.inj (j := i) (k := j) hi' hj' (by
      simp only [List.getD_eq_getElem?_getD, List.getElem?_eq_getElem hi', List.getElem?_eq_getElem hj', Option.getD_some]
      omega)
    omega)
  simpa using this

theorem InvP.keys {keys keys' items places : List Int} (h : InvP keys items places) (hl : keys'.length = keys.length) : InvP keys' items places :=
  ⟨⟨by rw [hl]; exact h.ok.1, h.ok.2.1, fun k hk => by rw [hl]; exact h.ok.2.2 k hk⟩, h.at_, fun x hx => h.of x (by rw [← hl]; exact hx)⟩

theorem InvP.push {keys items places : List Int} {i : Nat} (h : InvP keys items places) (hn : keys.length ≤ 65536) (hi : i < keys.length) (hno : places.getD i 0 < 0) : InvP keys (items ++ [(i : Int)]) (places.set i items.length) := by
  have hlp := h.ok.1
  have gI' : ∀ k, k < items.length → (items ++ [(i : Int)]).getD k 0 = items.getD k 0 := fun k hk => by simp [List.getD_eq_getElem?_getD, List.getElem?_append_left hk]
  have gL : (items ++ [(i : Int)]).getD items.length 0 = i := by simp [List.getD_eq_getElem?_getD]
  have hne : ∀ k, k < items.length → (items.getD k 0).toNat ≠ i := fun k hk he => by
    have := h.at_ k hk
    rw [he] at this; omega
  have hlen : items.length < keys.length := by
    have hl := pigeon keys.length ((items.map Int.toNat) ++ [i]) (fun x hx => by
      rcases List.mem_append.1 hx with hx | hx
      · obtain ⟨y, hy, rfl⟩ := List.mem_map.1 hx
        obtain ⟨k, hk, rfl⟩ := List.mem_iff_getElem.1 hy
        have := h.ok.2.2 k hk
        simp only [List.getD_eq_getElem?_getD, List.getElem?_eq_getElem hk, Option.getD_some] at this
        omega
      · simp at hx; omega) (by
      rw [List.nodup_append]
      refine ⟨?_, by simp, ?_⟩
      · rw [List.Nodup, List.pairwise_iff_getElem]
        intro i j hi hj hij
        have hi' : i < items.length := by simpa using hi
        have hj' : j < items.length := by simpa using hj
        simp only [List.getElem_map]
        intro he
        have hi1 := h.ok.2.2 i hi'
        have hj1 := h.ok.2.2 j hj'
        simp only [List.getD_eq_getElem?_getD, List.getElem?_eq_getElem hi', List.getElem?_eq_getElem hj', Option.getD_some] at hi1 hj1
        have := h.inj (j := i) (k := j) hi' hj' (by
          simp only [List.getD_eq_getElem?_getD, List.getElem?_eq_getElem hi', List.getElem?_eq_getElem hj', Option.getD_some]
          omega)
        omega
      · intro x hx y hy he
        simp at hy; subst hy; subst he
        obtain ⟨z, hz, hze⟩ := List.mem_map.1 hx
        obtain ⟨p, hp', rfl⟩ := List.mem_iff_getElem.1 hz
        have := hne p hp'
        simp only [List.getD_eq_getElem?_getD, List.getElem?_eq_getElem hp', Option.getD_some] at this
        exact this hze)
    simp at hl; omega
  refine ⟨⟨by simp [hlp], by simp; omega, fun k hk => ?_⟩, fun k hk => ?_, fun x hx => ?_⟩
  · by_cases hkl : k < items.length
    · rw [gI' k hkl]; exact h.ok.2.2 k hkl
    · have : k = items.length := by simp at hk; omega
      subst this; rw [gL]; omega
  · by_cases hkl : k < items.length
    · rw [gI' k hkl, getD_set, if_neg (by have := hne k hkl; omega)]; exact h.at_ k hkl
    · have : k = items.length := by simp at hk; omega
      subst this
      rw [gL, getD_set, if_pos (by omega)]
  · rw [getD_set]
    by_cases hxi : i = x
    · rw [if_pos ⟨hxi, by omega⟩]
      exact .inr ⟨items.length, by simp, rfl, by rw [gL, hxi]⟩
    · rw [if_neg (by omega)]
      rcases h.of x hx with h1 | ⟨k, hk, h1, h2⟩
      · exact .inl h1
      · exact .inr ⟨k, by simp; omega, h1, by rw [gI' k hk]; exact h2⟩

theorem set_same {l : List Int} {k : Nat} {v : Int} (h : l.getD k 0 = v) : l.set k v = l := by
  apply List.ext_getElem (by simp)
  intro j h1 h2
  rw [List.getElem_set]
  split
  · rename_i hj; subst hj
    have : k < l.length := by simpa using h1
    simpa [List.getD_eq_getElem?_getD, this] using h.symm
  · rfl
theorem InvP.held {keys items places : List Int} (h : InvP keys items places) {x : Nat} (hx : x < keys.length) (h0 : 0 ≤ places.getD x 0) : (places.getD x 0).toNat < items.length ∧ items.getD (places.getD x 0).toNat 0 = x ∧ places.getD x 0 < items.length := by
  rcases h.of x hx with h1 | ⟨k, hk, h1, h2⟩
  · omega
  · rw [h1]; exact ⟨by simpa using hk, by simpa using h2, by omega⟩
theorem InvP.self {keys items places : List Int} (h : InvP keys items places) {a : Nat} (ha : a < items.length) : InvP keys (items.set a (items.getD a 0)) (places.set (items.getD a 0).toNat a) := by
  rw [set_same rfl, set_same (h.at_ a ha)]; exact h

theorem bump_up {keys items places : List Int} (h : InvP keys items places) {x : Nat} (hx : x < keys.length) (h0 : 0 ≤ places.getD x 0) :
    InvP keys (upF keys (items.getD (places.getD x 0).toNat 0) items places (places.getD x 0).toNat).1 (upF keys (items.getD (places.getD x 0).toNat 0) items places (places.getD x 0).toNat).2 ∧
      0 ≤ (upF keys (items.getD (places.getD x 0).toNat 0) items places (places.getD x 0).toNat).2.getD x 0 := by
  obtain ⟨h1, h2, h3⟩ := h.held hx h0
  have := upF_inv (keys := keys) (items := items) (places := places) (i := items.getD (places.getD x 0).toNat 0) h1 (h.ok.2.2 _ h1) (h.self h1)
  refine ⟨this.1, ?_⟩
  have h4 := this.2.2 x
  rw [set_same (h.at_ _ h1)] at h4
  omega

/-! ### Pop -/

def popF (h : Hp) : Hp :=
  let i := h.items.getD 0 0
  let last := h.items.getD (h.items.length - 1) 0
  let its := h.items.take (h.items.length - 1)
  let pls := h.places.set i.toNat (-1)
  if i = last then ⟨its, h.keys, pls⟩ else
  let d := downF h.keys last (its.set 0 last) (pls.set last.toNat 0) 0
  ⟨d.1, h.keys, d.2⟩

theorem upF_zero (keys items places : List Int) (i : Int) : upF keys i items places 0 = (items.set 0 i, places.set i.toNat 0) := by
  rw [upF, if_neg (by omega)]; rfl

end Go.Wk

/- What a heap holds, plainly. -/
namespace Go.Wk
set_option maxRecDepth 10000

structure HI (h : Hp) : Prop where
  inv : InvP h.keys h.items h.places
  ord : Ord h.keys h.items

theorem Ord.down_same {keys items places : List Int} (hO : Ord keys items) (hI : InvP keys items places) {a : Nat} (ha : a < items.length) : downF keys (items.getD a 0) items places a = (items, places) := by
  rw [downF, if_neg, set_same rfl, set_same (hI.at_ a ha)]
  rintro ⟨h1, h2⟩
  have hg := kidF_gt keys items a
  have hk : (kidF keys items a - 1) / 2 = a := by rcases kidF_le (keys := keys) (items := items) (a := a) with h | h <;> omega
  have := hO (kidF keys items a) (by omega) h1
  rw [hk] at this
  rw [this] at h2; cases h2

theorem bump_HI {h : Hp} (hI : InvP h.keys h.items h.places) {x : Nat} (hx : x < h.keys.length) (h0 : 0 ≤ h.places.getD x 0) (hU : OrdU h.keys h.items (h.places.getD x 0).toNat) :
    HI (bumpF h x) ∧ (bumpF h x).keys = h.keys ∧ (bumpF h x).items.length = h.items.length ∧ ∀ y, (bumpF h x).places.getD y 0 < 0 ↔ h.places.getD y 0 < 0 := by
  obtain ⟨h1, h2, h3⟩ := hI.held hx h0
  have e1 := upF_inv (keys := h.keys) (items := h.items) (places := h.places) (i := h.items.getD (h.places.getD x 0).toNat 0) h1 (hI.ok.2.2 _ h1) (hI.self h1)
  have e2 := upF_ord (keys := h.keys) (items := h.items) (places := h.places) (i := h.items.getD (h.places.getD x 0).toNat 0) h1 (by rw [set_same rfl]; exact hU)
  rw [set_same (hI.at_ _ h1)] at e1
  unfold bumpF
  simp only
  generalize upF h.keys (h.items.getD (h.places.getD x 0).toNat 0) h.items h.places (h.places.getD x 0).toNat = u at *
  obtain ⟨i1, i2, i3⟩ := e1
  have h0' : 0 ≤ u.2.getD x 0 := by have := i3 x; omega
  obtain ⟨k1, k2, k3⟩ := i1.held hx h0'
  rw [e2.down_same i1 k1]
  exact ⟨⟨i1, e2⟩, trivial, i2, i3⟩

theorem gI_set_ne {keys : List Int} {x : Nat} {v i : Int} (h : i.toNat ≠ x) : gI (keys.set x v) i = gI keys i := by
  unfold gI; rw [getD_set, if_neg (by omega)]
theorem gI_set_eq {keys : List Int} {x : Nat} {v : Int} (h : x < keys.length) : gI (keys.set x v) (x : Int) = v := by
  unfold gI; rw [getD_set, if_pos ⟨by simp, by simpa using h⟩]
theorem beforeB_set_ne {keys : List Int} {x : Nat} {v i k : Int} (hi : i.toNat ≠ x) (hk : k.toNat ≠ x) : beforeB (keys.set x v) i k = beforeB keys i k := by
  unfold beforeB; rw [gI_set_ne hi, gI_set_ne hk]

theorem set_HI {h : Hp} (hH : HI h) (hn : h.keys.length ≤ 65536) {x : Nat} (hx : x < h.keys.length) {v : Int} (hv : h.places.getD x 0 < 0 ∨ v ≤ h.keys.getD x 0) :
    HI (setF h x v) ∧ (setF h x v).keys = h.keys.set x v ∧ ∀ y, y < h.keys.length → ((setF h x v).places.getD y 0 < 0 ↔ h.places.getD y 0 < 0 ∧ y ≠ x) := by
  have hI := hH.inv
  have hlp := hI.ok.1
  unfold setF
  split
  · rename_i hno
    have hP := (hI.push hn hx hno).keys (keys' := h.keys.set x v) (by simp)
    have hne : ∀ k, k < h.items.length → (h.items.getD k 0).toNat ≠ x := fun k hk he => by
      have := hI.at_ k hk
      rw [he] at this; omega
    have gI' : ∀ k, k < h.items.length → (h.items ++ [(x : Int)]).getD k 0 = h.items.getD k 0 := fun k hk => by simp [List.getD_eq_getElem?_getD, List.getElem?_append_left hk]
    have gp : (h.places.set x (h.items.length : Int)).getD x 0 = h.items.length := by rw [getD_set, if_pos ⟨rfl, by omega⟩]
    obtain ⟨b1, b2, b3, b4⟩ := bump_HI (h := ⟨h.items ++ [(x : Int)], h.keys.set x v, h.places.set x h.items.length⟩) hP (x := x) (by simpa using hx) (by simp only [gp]; omega) (by
      simp only [gp]
      refine ⟨fun k k0 kl kp => ?_, fun c p0 c0 cl cp => ?_⟩
      · have kl' : k < h.items.length := by simp at kl kp; omega
        rw [gI' k kl', gI' _ (by omega), beforeB_set_ne (hne k kl') (hne _ (by omega))]
        exact hH.ord k k0 kl'
      · simp at cl cp p0; omega)
    refine ⟨b1, b2, fun y hy => ?_⟩
    rw [b4]
    simp only
    rw [getD_set]
    by_cases hxy : x = y
    · rw [if_pos ⟨hxy, by omega⟩]; omega
    · rw [if_neg (by omega)]; constructor
      · intro h; exact ⟨h, by omega⟩
      · exact fun h => h.1
  · rename_i hno
    have hle : v ≤ h.keys.getD x 0 := by omega
    have hP := hI.keys (keys' := h.keys.set x v) (by simp)
    obtain ⟨q1, q2, q3⟩ := hI.held hx (by omega)
    generalize hp : (h.places.getD x 0).toNat = p at q1 q2
    have hne : ∀ k, k < h.items.length → k ≠ p → (h.items.getD k 0).toNat ≠ x := fun k hk hkp he => by
      have := hI.at_ k hk
      rw [he] at this; omega
    have hx' : gI h.keys (x : Int) = h.keys.getD x 0 := by simp [gI]
    obtain ⟨b1, b2, b3, b4⟩ := bump_HI (h := ⟨h.items, h.keys.set x v, h.places⟩) hP (x := x) (by simpa using hx) (by simp only; omega) (by
      simp only [hp]
      refine ⟨fun k k0 kl kp => ?_, fun c p0 c0 cl cp => ?_⟩
      · have ho := hH.ord k k0 kl
        by_cases hpp : (k - 1) / 2 = p
        · rw [hpp, q2] at ho ⊢
          rw [beforeB_not] at ho ⊢
          rw [gI_set_eq hx, gI_set_ne (hne k kl kp)]
          omega
        · rw [beforeB_set_ne (hne k kl kp) (hne _ (by omega) hpp)]
          exact ho
      · have ho := hH.ord c c0 cl
        have hop := hH.ord p p0 q1
        rw [cp] at ho
        rw [beforeB_set_ne (hne c cl (by omega)) (hne _ (by omega) (by omega))]
        exact before_nt hop ho)
    refine ⟨b1, b2, fun y hy => ?_⟩
    rw [b4]
    simp only
    constructor
    · intro h
      exact ⟨h, fun he => by subst he; exact hno h⟩
    · exact fun h => h.1

theorem Ord.least {keys items : List Int} (hO : Ord keys items) (k : Nat) (hk : k < items.length) : beforeB keys (items.getD k 0) (items.getD 0 0) = false := by
  induction k using Nat.strongRecOn with
  | _ k ih =>
    by_cases h0 : k = 0
    · subst h0; rw [beforeB_not]; omega
    · exact before_nt (ih ((k - 1) / 2) (by omega) (by omega)) (hO k (by omega) hk)

theorem HI.least {h : Hp} (hH : HI h) {x : Nat} (hx : x < h.keys.length) (h0 : 0 ≤ h.places.getD x 0) : gI h.keys (h.items.getD 0 0) ≤ h.keys.getD x 0 := by
  obtain ⟨q1, q2, q3⟩ := hH.inv.held hx h0
  have := hH.ord.least _ q1
  rw [q2, beforeB_not] at this
  simp only [gI, Int.toNat_natCast] at this ⊢
  omega
theorem HI.top {h : Hp} (hH : HI h) (h0 : 0 < h.items.length) : ∃ y : Nat, h.items.getD 0 0 = (y : Int) ∧ y < h.keys.length ∧ 0 ≤ h.places.getD y 0 := by
  have h1 := hH.inv.ok.2.2 0 h0
  have h2 := hH.inv.at_ 0 h0
  exact ⟨(h.items.getD 0 0).toNat, by omega, by omega, by omega⟩
theorem HI.none {h : Hp} (hH : HI h) (h0 : h.items.length = 0) {x : Nat} (hx : x < h.keys.length) : h.places.getD x 0 < 0 := by
  rcases hH.inv.of x hx with h1 | ⟨k, hk, _⟩
  · exact h1
  · omega

theorem take_getD {l : List Int} {n k : Nat} (h : k < n) : (l.take n).getD k 0 = l.getD k 0 := by
  rw [List.getD_eq_getElem?_getD, List.getElem?_take, if_pos h, ← List.getD_eq_getElem?_getD]

theorem pop_HI {h : Hp} (hH : HI h) (h0 : 0 < h.items.length) : HI (popF h) ∧ (popF h).keys = h.keys ∧
    ∀ x, x < h.keys.length → ((popF h).places.getD x 0 < 0 ↔ h.places.getD x 0 < 0 ∨ (x : Int) = h.items.getD 0 0) := by
  have hI := hH.inv
  have hlp := hI.ok.1
  have h1 := hI.ok.2.2 0 h0
  have a0 := hI.at_ 0 h0
  unfold popF
  simp only
  split
  · rename_i he
    have hl : h.items.length = 1 := by
      have := hI.inj h0 (k := h.items.length - 1) (by omega) he
      omega
    have hnil : h.items.take (h.items.length - 1) = [] := by rw [hl]; rfl
    have sg : ∀ x, x < h.keys.length → ((h.places.set (h.items.getD 0 0).toNat (-1)).getD x 0 < 0 ↔ h.places.getD x 0 < 0 ∨ (x : Int) = h.items.getD 0 0) := fun x hx => by
      rw [getD_set]
      by_cases hxi : (h.items.getD 0 0).toNat = x
      · rw [if_pos ⟨hxi, by omega⟩]; omega
      · rw [if_neg (by omega)]; omega
    refine ⟨⟨⟨⟨by simpa using hlp, by simp [hnil], fun k hk => by simp [hnil] at hk⟩, fun k hk => by simp [hnil] at hk, fun x hx => ?_⟩, fun k k0 hk => by simp [hnil] at hk⟩, rfl, sg⟩
    refine .inl ((sg x hx).2 ?_)
    rcases hI.of x hx with h2 | ⟨k, hk, h2, h3⟩
    · exact .inl h2
    · exact .inr (by rw [← h3, show k = 0 by omega])
  · rename_i hne
    have h2 : 1 < h.items.length := by
      rcases Nat.lt_or_ge 1 h.items.length with h | h'
      · exact h
      · exfalso; apply hne; rw [show h.items.length - 1 = 0 by omega]
    generalize hn : h.items.length - 1 = n at *
    have hL := hI.ok.2.2 n (by omega)
    have aL := hI.at_ n (by omega)
    generalize hla : h.items.getD n 0 = last at *
    have gi : ∀ k, k < n → ((h.items.take n).set 0 last).getD k 0 = if k = 0 then last else h.items.getD k 0 := fun k hk => by
      rw [getD_set, take_getD hk]
      by_cases hk0 : k = 0
      · rw [if_pos ⟨hk0.symm, by simp; omega⟩, if_pos hk0]
      · rw [if_neg (by omega), if_neg hk0]
    have gp : ∀ x, x < h.keys.length → ((h.places.set (h.items.getD 0 0).toNat (-1)).set last.toNat 0).getD x 0 = if x = last.toNat then 0 else if x = (h.items.getD 0 0).toNat then -1 else h.places.getD x 0 := fun x hx => by
      rw [getD_set, getD_set]
      simp only [List.length_set]
      by_cases hx1 : x = last.toNat
      · rw [if_pos ⟨hx1.symm, by omega⟩, if_pos hx1]
      · rw [if_neg (by omega), if_neg hx1]
        by_cases hx2 : x = (h.items.getD 0 0).toNat
        · rw [if_pos ⟨hx2.symm, by omega⟩, if_pos hx2]
        · rw [if_neg (by omega), if_neg hx2]
    have hlen : ((h.items.take n).set 0 last).length = n := by simp; omega
    have hP : InvP h.keys ((h.items.take n).set 0 last) ((h.places.set (h.items.getD 0 0).toNat (-1)).set last.toNat 0) := by
      refine ⟨⟨by simpa using hlp, by rw [hlen]; have := hI.ok.2.1; omega, fun k hk => ?_⟩, fun k hk => ?_, fun x hx => ?_⟩
      · rw [hlen] at hk
        rw [gi k hk]
        split
        · exact hL
        · exact hI.ok.2.2 k (by omega)
      · rw [hlen] at hk
        rw [gi k hk]
        by_cases hk0 : k = 0
        · rw [if_pos hk0, gp _ (by omega), if_pos rfl, hk0]; rfl
        · rw [if_neg hk0]
          have ak := hI.at_ k (by omega)
          have ok := hI.ok.2.2 k (by omega)
          rw [gp _ (by omega), if_neg, if_neg]
          · exact ak
          · intro he; rw [he] at ak; omega
          · intro he; rw [he] at ak; omega
      · rw [gp x hx]
        by_cases hx1 : x = last.toNat
        · rw [if_pos hx1]
          exact .inr ⟨0, by rw [hlen]; omega, rfl, by rw [gi 0 (by omega), if_pos rfl]; omega⟩
        · rw [if_neg hx1]
          by_cases hx2 : x = (h.items.getD 0 0).toNat
          · rw [if_pos hx2]; exact .inl (by omega)
          · rw [if_neg hx2]
            rcases hI.of x hx with h3 | ⟨k, hk, h3, h4⟩
            · exact .inl h3
            · have hk0 : k ≠ 0 := fun he => by rw [he] at h4; omega
              have hkn : k ≠ n := fun he => by rw [he, hla] at h4; omega
              exact .inr ⟨k, by rw [hlen]; omega, h3, by rw [gi k (by omega), if_neg hk0]; exact h4⟩
    have hq : ((h.items.take n).set 0 last).set 0 last = (h.items.take n).set 0 last := by simp
    have hq2 : ((h.places.set (h.items.getD 0 0).toNat (-1)).set last.toNat 0).set last.toNat ((0 : Nat) : Int) = (h.places.set (h.items.getD 0 0).toNat (-1)).set last.toNat 0 := by simp
    have dI := downF_inv (keys := h.keys) (items := (h.items.take n).set 0 last) (places := (h.places.set (h.items.getD 0 0).toNat (-1)).set last.toNat 0) (i := last) (a := 0) (by rw [hlen]; omega) hL (by rw [hq, hq2]; exact hP)
    have dO := downF_ord (keys := h.keys) (items := (h.items.take n).set 0 last) (places := (h.places.set (h.items.getD 0 0).toNat (-1)).set last.toNat 0) (i := last) (a := 0) (by rw [hlen]; omega) (by
      rw [hq]
      refine ⟨fun k k0 kl kp => ?_, fun c p0 => by omega⟩
      rw [hlen] at kl
      rw [gi k kl, if_neg (by omega), gi _ (by omega), if_neg kp]
      exact hH.ord k k0 (by omega))
    rw [hq2] at dI
    refine ⟨⟨dI.1, dO⟩, rfl, fun x hx => ?_⟩
    rw [dI.2.2, gp x hx]
    by_cases hx1 : x = last.toNat
    · rw [if_pos hx1]
      have : h.places.getD x 0 = n := by rw [hx1]; exact aL
      omega
    · rw [if_neg hx1]
      by_cases hx2 : x = (h.items.getD 0 0).toNat
      · rw [if_pos hx2]; omega
      · rw [if_neg hx2]; omega

end Go.Wk

/- Shortest paths, plainly: what distances are, and that they are determined; the arcs of a node. -/
namespace Go.Proofs.Ytcnfggpcploehaa
set_option maxRecDepth 10000
open Go.Wk

def fitsB (t : Topo) (down : List Bool) : Bool := validB t && (decide (down.length = 0) || decide ((down.length : Int) = 2 * t.links.length))
def upB (down : List Bool) (a : Int) : Bool := decide (down.length = 0) || !down.getD a.toNat false
def nearT (t : Topo) (fr : Bool) (a : Int) : Int := bif fr then tailT t a else headT t a
def farT (t : Topo) (fr : Bool) (a : Int) : Int := bif fr then headT t a else tailT t a

theorem fitsB_v {t : Topo} {down : List Bool} (h : fitsB t down = true) : validB t = true := by
  simp only [fitsB, Bool.and_eq_true] at h; exact h.1

theorem arc_in {t : Topo} (hv : validB t = true) {a : Int} (h0 : 0 ≤ a) (h1 : a < 2 * t.links.length) : arcIn t a = true := by
  simp [arcIn, arcsT, hv, h0, h1]
theorem link_ok {t : Topo} (hv : validB t = true) {k : Nat} (hk : k < t.links.length) : properB (t.links.getD k default) t.nodes = true := by
  simp only [validB, Bool.and_eq_true, List.all_eq_true] at hv
  exact hv.2 _ (getD_mem hk)
theorem proper_out {l : Lk} {n : Int} (h : properB l n = true) : 0 ≤ l.a ∧ l.a < n ∧ 0 ≤ l.b ∧ l.b < n ∧ l.a ≠ l.b ∧ 1 ≤ l.c0 ∧ l.c0 ≤ 65535 ∧ 1 ≤ l.c1 ∧ l.c1 ≤ 65535 := by
  simp only [properB, insideB, Bool.and_eq_true, decide_eq_true_eq, Bool.not_eq_true', decide_eq_false_iff_not] at h
  omega
theorem arc_ok {t : Topo} (hv : validB t = true) {a : Int} (h0 : 0 ≤ a) (h1 : a < 2 * t.links.length) :
    0 ≤ tailT t a ∧ tailT t a < t.nodes ∧ 0 ≤ headT t a ∧ headT t a < t.nodes ∧ tailT t a ≠ headT t a ∧ 1 ≤ costT t a ∧ costT t a ≤ 65535 := by
  have hp := proper_out (link_ok hv (k := (a / 2).toNat) (by omega))
  simp only [tailT, headT, costT, arc_in hv h0 h1, cond_true, lkAt]
  by_cases h : a % 2 = 0
  · simp only [h, decide_true, cond_true]; omega
  · simp only [h, decide_false, cond_false]; omega
theorem arc_nf {t : Topo} (hv : validB t = true) (fr : Bool) {a : Int} (h0 : 0 ≤ a) (h1 : a < 2 * t.links.length) :
    0 ≤ nearT t fr a ∧ nearT t fr a < t.nodes ∧ 0 ≤ farT t fr a ∧ farT t fr a < t.nodes ∧ nearT t fr a ≠ farT t fr a ∧ 1 ≤ costT t a ∧ costT t a ≤ 65535 := by
  have := arc_ok hv h0 h1
  cases fr <;> simp only [nearT, farT, cond_true, cond_false] <;> omega

def arcsR (m : Nat) : List Int := (List.range m).map fun (k : Nat) => (k : Int)
theorem arcsUpto_eq {t : Topo} (hv : validB t = true) (n : Int) (fr : Bool) (i : Nat) (hi : i ≤ t.links.length) : arcsUpto t n fr i = (arcsR (2 * i)).filter fun a => decide (nearT t fr a = n) := by
  induction i with
  | zero => simp [arcsUpto, arcsR]
  | succ i ih =>
    have e : arcsR (2 * (i + 1)) = arcsR (2 * i) ++ [(2 * i : Int), (2 * i + 1 : Int)] := by
      simp [arcsR, show 2 * (i + 1) = 2 * i + 1 + 1 by omega, List.range_succ]
    rw [arcsUpto, ih (by omega), e, List.filter_append]
    congr 1
    have hp := proper_out (link_ok hv (k := i) (by omega))
    have a0 : arcIn t (2 * i : Int) = true := arc_in hv (by omega) (by omega)
    have a1 : arcIn t (2 * i + 1 : Int) = true := arc_in hv (by omega) (by omega)
    have l0 : lkAt t (2 * i : Int) = t.links.getD i default := by unfold lkAt; congr 1; omega
    have l1 : lkAt t (2 * i + 1 : Int) = t.links.getD i default := by unfold lkAt; congr 1; omega
    have m0 : ((2 * i : Int) % 2 = 0) = True := by simp
    have m1 : ((2 * i + 1 : Int) % 2 = 0) = False := by simp
    generalize t.links.getD i default = l at *
    cases fr
    · simp only [arcOf, nearT, headT, a0, a1, l0, l1, cond_false, cond_true, m0, m1, decide_true, decide_false, List.filter]
      by_cases h1 : l.a = n
      · have h2 : ¬ l.b = n := by omega
        simp [h1, h2]
      · by_cases h2 : l.b = n <;> simp [h1, h2]
    · simp only [arcOf, nearT, tailT, a0, a1, l0, l1, cond_false, cond_true, m0, m1, decide_true, decide_false, List.filter]
      by_cases h1 : l.a = n
      · have h2 : ¬ l.b = n := by omega
        simp [h1, h2]
      · by_cases h2 : l.b = n <;> simp [h1, h2]
theorem arcsL_eq {t : Topo} (hv : validB t = true) (n : Int) (fr : Bool) : arcsL t n fr = (arcsR (2 * t.links.length)).filter fun a => decide (nearT t fr a = n) := by
  simp only [arcsL, hv, cond_true]
  exact arcsUpto_eq hv n fr _ (Nat.le_refl _)
theorem mem_arcsR {m : Nat} {a : Int} : a ∈ arcsR m ↔ 0 ≤ a ∧ a < m := by
  simp only [arcsR, List.mem_map, List.mem_range]
  constructor
  · rintro ⟨k, hk, rfl⟩; omega
  · intro h; exact ⟨a.toNat, by omega, by omega⟩
theorem mem_arcsL {t : Topo} (hv : validB t = true) {n : Int} {fr : Bool} {a : Int} : a ∈ arcsL t n fr ↔ 0 ≤ a ∧ a < 2 * t.links.length ∧ nearT t fr a = n := by
  rw [arcsL_eq hv, List.mem_filter, mem_arcsR, decide_eq_true_eq]
  omega

/-- An arc that a search from (or to) n may take. -/
def okA (t : Topo) (down : List Bool) (n : Int) (fr : Bool) (a : Int) : Prop := upB down a = true ∧ (nearT t fr a = n ∨ overT t (nearT t fr a) = false)

structure IsDist (t : Topo) (down : List Bool) (n : Int) (fr : Bool) (l : List Int) : Prop where
  len : (l.length : Int) = t.nodes
  self : gI l n = 0
  sign : ∀ i : Int, 0 ≤ i → i < t.nodes → gI l i = -1 ∨ 0 ≤ gI l i
  close : ∀ a : Int, 0 ≤ a → a < 2 * t.links.length → okA t down n fr a → 0 ≤ gI l (nearT t fr a) → 0 ≤ gI l (farT t fr a) ∧ gI l (farT t fr a) ≤ gI l (nearT t fr a) + costT t a
  ground : ∀ i : Int, 0 ≤ i → i < t.nodes → i ≠ n → 0 ≤ gI l i → ∃ a : Int, 0 ≤ a ∧ a < 2 * t.links.length ∧ okA t down n fr a ∧ farT t fr a = i ∧ 0 ≤ gI l (nearT t fr a) ∧ gI l i = gI l (nearT t fr a) + costT t a

theorem IsDist.le {t : Topo} {down : List Bool} {n : Int} {fr : Bool} (hv : validB t = true) {l m : List Int} (hl : IsDist t down n fr l) (hm : IsDist t down n fr m) :
    ∀ (k : Nat) (i : Int), 0 ≤ i → i < t.nodes → 0 ≤ gI l i → gI l i ≤ k → 0 ≤ gI m i ∧ gI m i ≤ gI l i := by
  intro k
  induction k with
  | zero =>
    intro i h0 h1 h2 h3
    by_cases hn : i = n
    · rw [hn, hm.self, hl.self]; omega
    · obtain ⟨a, a0, a1, a2, a3, a4, a5⟩ := hl.ground i h0 h1 hn h2
      have := arc_nf hv fr a0 a1
      omega
  | succ k ih =>
    intro i h0 h1 h2 h3
    by_cases hn : i = n
    · rw [hn, hm.self, hl.self]; omega
    · obtain ⟨a, a0, a1, a2, a3, a4, a5⟩ := hl.ground i h0 h1 hn h2
      have hb := arc_nf hv fr a0 a1
      have h := ih (nearT t fr a) hb.1 hb.2.1 a4 (by omega)
      have := hm.close a a0 a1 a2 h.1
      rw [a3] at this
      omega

theorem gI_ext {a b : List Int} (h : a.length = b.length) (h2 : ∀ i : Int, 0 ≤ i → i < a.length → gI a i = gI b i) : a = b := by
  apply List.ext_getElem h
  intro i h1 h3
  have := h2 i (by omega) (by omega)
  simpa [gI, List.getD_eq_getElem?_getD, h1, h3] using this

theorem IsDist.unique {t : Topo} {down : List Bool} {n : Int} {fr : Bool} (hv : validB t = true) {l m : List Int} (hl : IsDist t down n fr l) (hm : IsDist t down n fr m) : l = m := by
  have e1 := hl.len
  have e2 := hm.len
  refine gI_ext (by omega) fun i h0 h1 => ?_
  have s1 := hl.sign i h0 (by omega)
  have s2 := hm.sign i h0 (by omega)
  by_cases hp : 0 ≤ gI l i
  · have a := hl.le hv hm (gI l i).toNat i h0 (by omega) hp (by omega)
    have b := hm.le hv hl (gI m i).toNat i h0 (by omega) a.1 (by omega)
    omega
  · by_cases hq : 0 ≤ gI m i
    · have b := hm.le hv hl (gI m i).toNat i h0 (by omega) hq (by omega)
      omega
    · omega

open Classical in
/-- The distances. -/
noncomputable def distF (t : Topo) (down : List Bool) (n : Int) (fr : Bool) : List Int := if h : ∃ l, IsDist t down n fr l then h.choose else []
theorem IsDist.eq {t : Topo} {down : List Bool} {n : Int} {fr : Bool} (hv : validB t = true) {l : List Int} (hl : IsDist t down n fr l) : distF t down n fr = l := by
  unfold distF
  have h : ∃ l, IsDist t down n fr l := ⟨l, hl⟩
  rw [dif_pos h]
  exact h.choose_spec.unique hv hl

/-- The result code of a search. -/
def errS (t : Topo) (down : List Bool) (n : Int) : Int := bif fitsB t down then (bif decide (n < 0) || decide (t.nodes ≤ n) then 2 else 0) else 1
noncomputable def distL (t : Topo) (down : List Bool) (n : Int) (fr : Bool) : List Int := if errS t down n = 0 then distF t down n fr else []
theorem errS_0 {t : Topo} {down : List Bool} {n : Int} (h : errS t down n = 0) : fitsB t down = true ∧ 0 ≤ n ∧ n < t.nodes := by
  unfold errS at h
  cases hf : fitsB t down with
  | false => rw [hf] at h; cases h
  | true =>
    rw [hf] at h
    simp only [cond_true] at h
    cases hn : (decide (n < 0) || decide (t.nodes ≤ n)) with
    | true => rw [hn] at h; cases h
    | false => simp only [Bool.or_eq_false_iff, decide_eq_false_iff_not] at hn; exact ⟨rfl, by omega⟩

theorem up_ok {t : Topo} {down : List Bool} {a : Int} (hf : fitsB t down = true) (h0 : 0 ≤ a) (h1 : a < 2 * t.links.length) : down.length = 0 ∨ 0 ≤ a ∧ a < down.length := by
  simp only [fitsB, Bool.and_eq_true, Bool.or_eq_true, decide_eq_true_eq] at hf
  omega
theorem errS_ok {t : Topo} {down : List Bool} {n : Int} (hf : fitsB t down = true) (h0 : 0 ≤ n) (h1 : n < t.nodes) : errS t down n = 0 := by
  unfold errS
  rw [hf, decide_eq_false (by omega : ¬ n < 0), decide_eq_false (by omega : ¬ t.nodes ≤ n)]; rfl

end Go.Proofs.Ytcnfggpcploehaa

/- The search with a heap, plainly. -/
namespace Go.Proofs.Ytcnfggpcploehaa
set_option maxRecDepth 10000
open Go.Wk

/-- How many nodes have been taken. -/
def cntD (l : List Int) : Nat := l.countP fun x => decide (0 ≤ x)

theorem cntD_set {l : List Int} {i : Nat} {v : Int} (hi : i < l.length) (h0 : l.getD i 0 < 0) (hv : 0 ≤ v) : cntD (l.set i v) = cntD l + 1 := by
  induction l generalizing i with
  | nil => simp at hi
  | cons x r ih =>
    cases i with
    | zero =>
      simp only [List.getD_cons_zero] at h0
      simp only [List.set_cons_zero, cntD, List.countP_cons, decide_eq_true hv, decide_eq_false (show ¬ 0 ≤ x by omega)]
      simp
    | succ i =>
      have := ih (i := i) (by simpa using hi) (by simpa using h0)
      simp only [List.set_cons_succ, cntD, List.countP_cons] at this ⊢
      omega
theorem cntD_lt {l : List Int} {i : Nat} (hi : i < l.length) (h0 : l.getD i 0 < 0) : cntD l < l.length := by
  have h := cntD_set (v := 0) hi h0 (by omega)
  have : cntD (l.set i 0) ≤ (l.set i 0).length := List.countP_le_length
  rw [List.length_set] at this
  omega

/-- Where the search stands: the distances of the nodes that have been taken, the heap, the greatest distance so far, and which arcs are still to be looked at. -/
structure DJ (t : Topo) (down : List Bool) (n : Int) (fr : Bool) (cur : Int) (dist : List Int) (h : Hp) (pend : Int → Prop) : Prop where
  len : (dist.length : Int) = t.nodes
  klen : h.keys.length = dist.length
  hi : HI h
  sign : ∀ i : Int, 0 ≤ i → i < t.nodes → gI dist i = -1 ∨ 0 ≤ gI dist i
  excl : ∀ i : Int, 0 ≤ i → i < t.nodes → 0 ≤ gI h.places i → gI dist i = -1
  cur0 : 0 ≤ cur
  done : ∀ i : Int, 0 ≤ i → i < t.nodes → 0 ≤ gI dist i → gI dist i ≤ cur ∧ gI dist i + 65535 ≤ 65535 * (cntD dist : Int)
  held : ∀ i : Int, 0 ≤ i → i < t.nodes → 0 ≤ gI h.places i → cur ≤ gI h.keys i ∧ gI h.keys i ≤ 65535 * (cntD dist : Int)
  start : gI dist n = 0 ∨ (0 ≤ gI h.places n ∧ gI h.keys n = 0 ∧ ∀ i : Int, 0 ≤ i → i < t.nodes → gI dist i = -1 ∧ (0 ≤ gI h.places i → i = n))
  close : ∀ a : Int, 0 ≤ a → a < 2 * t.links.length → ¬ pend a → okA t down n fr a → 0 ≤ gI dist (nearT t fr a) →
    (0 ≤ gI dist (farT t fr a) ∧ gI dist (farT t fr a) ≤ gI dist (nearT t fr a) + costT t a) ∨ (0 ≤ gI h.places (farT t fr a) ∧ gI h.keys (farT t fr a) ≤ gI dist (nearT t fr a) + costT t a)
  groundD : ∀ i : Int, 0 ≤ i → i < t.nodes → i ≠ n → 0 ≤ gI dist i → ∃ a : Int, 0 ≤ a ∧ a < 2 * t.links.length ∧ okA t down n fr a ∧ farT t fr a = i ∧ 0 ≤ gI dist (nearT t fr a) ∧ gI dist i = gI dist (nearT t fr a) + costT t a
  groundH : ∀ i : Int, 0 ≤ i → i < t.nodes → i ≠ n → 0 ≤ gI h.places i → ∃ a : Int, 0 ≤ a ∧ a < 2 * t.links.length ∧ okA t down n fr a ∧ farT t fr a = i ∧ 0 ≤ gI dist (nearT t fr a) ∧ gI h.keys i = gI dist (nearT t fr a) + costT t a

section
variable {t : Topo} {down : List Bool} {n : Int} {fr : Bool} {cur : Int} {dist : List Int} {h : Hp} {pend : Int → Prop}

theorem gI_set {l : List Int} {y : Int} {v i : Int} (hy : 0 ≤ y) (hy2 : y < l.length) (hi : 0 ≤ i) : gI (l.set y.toNat v) i = if i = y then v else gI l i := by
  unfold gI
  rw [getD_set]
  by_cases he : i = y
  · subst he; rw [if_pos ⟨rfl, by omega⟩, if_pos rfl]
  · rw [if_neg (by omega), if_neg he]
theorem gI_rep {m : Nat} {v i : Int} (h0 : 0 ≤ i) (h1 : i < m) : gI (List.replicate m v) i = v := by
  unfold gI
  rw [List.getD_eq_getElem?_getD, List.getElem?_replicate, if_pos (by omega)]; rfl

/-- Nothing is taken: the heap holds the start alone. -/
theorem DJ.init (hv : validB t = true) (h0 : 0 ≤ n) (h1 : n < t.nodes) :
    DJ t down n fr 0 (List.replicate t.nodes.toNat (-1)) (setF ⟨[], List.replicate t.nodes.toNat 0, List.replicate t.nodes.toNat (-1)⟩ n.toNat 0) (fun _ => False) := by
  have hn := validB_head hv
  have hH0 : HI ⟨[], List.replicate t.nodes.toNat 0, List.replicate t.nodes.toNat (-1)⟩ := ⟨⟨⟨by simp, by simp, fun k hk => by simp at hk⟩, fun k hk => by simp at hk, fun x hx => .inl (by
    have hx' : x < t.nodes.toNat := by simpa using hx
    rw [List.getD_eq_getElem?_getD, List.getElem?_replicate, if_pos hx']; decide)⟩, fun k k0 hk => by simp at hk⟩
  have hneg : ∀ x : Nat, x < t.nodes.toNat → (List.replicate t.nodes.toNat (-1 : Int)).getD x 0 = -1 := fun x hx => by rw [List.getD_eq_getElem?_getD, List.getElem?_replicate, if_pos hx]; rfl
  obtain ⟨s1, s2, s3⟩ := set_HI (h := ⟨[], List.replicate t.nodes.toNat 0, List.replicate t.nodes.toNat (-1)⟩) hH0 (x := n.toNat) (v := 0) (by simp; omega) (by simp; omega) (.inl (by rw [hneg _ (by omega)]; decide))
  have hz : (List.replicate t.nodes.toNat (0 : Int)).set n.toNat 0 = List.replicate t.nodes.toNat 0 := set_same (by rw [List.getD_eq_getElem?_getD, List.getElem?_replicate]; split <;> rfl)
  rw [hz] at s2
  generalize setF ⟨[], List.replicate t.nodes.toNat 0, List.replicate t.nodes.toNat (-1)⟩ n.toNat 0 = h at *
  have hheld : ∀ i : Int, 0 ≤ i → i < t.nodes → (0 ≤ gI h.places i ↔ i = n) := fun i i0 i1 => by
    have := s3 i.toNat (by simp; omega)
    rw [hneg _ (by omega)] at this
    simp only [gI]
    constructor
    · intro hh
      by_cases he : i = n
      · exact he
      · have := this.2 ⟨by omega, by omega⟩; omega
    · rintro rfl
      by_cases hl : h.places.getD i.toNat 0 < 0
      · exact absurd rfl (this.1 hl).2
      · omega
  have hc : cntD (List.replicate t.nodes.toNat (-1)) = 0 := by simp [cntD, List.countP_replicate]
  have hm : ∀ i : Int, 0 ≤ i → i < t.nodes → gI (List.replicate t.nodes.toNat (-1)) i = -1 := fun i i0 i1 => gI_rep i0 (by omega)
  have hk : ∀ i : Int, 0 ≤ i → i < t.nodes → gI h.keys i = 0 := fun i i0 i1 => by rw [s2]; exact gI_rep i0 (by omega)
  refine ⟨by simp; omega, by rw [s2]; simp, s1, fun i i0 i1 => .inl (hm i i0 i1), fun i i0 i1 _ => hm i i0 i1, by omega, fun i i0 i1 hh => ?_, fun i i0 i1 hh => ?_, .inr ⟨(hheld n h0 h1).2 rfl, hk n h0 h1, fun i i0 i1 => ⟨hm i i0 i1, (hheld i i0 i1).1⟩⟩, fun a a0 a1 _ _ hh => ?_, fun i i0 i1 hin hh => ?_, fun i i0 i1 hin hh => ?_⟩
  · rw [hm i i0 i1] at hh; omega
  · rw [hk i i0 i1, hc]; omega
  · have := arc_nf hv fr a0 a1
    rw [hm _ this.1 this.2.1] at hh; omega
  · rw [hm i i0 i1] at hh; omega
  · exact absurd ((hheld i i0 i1).1 hh) hin

/-- The heap is empty: these are the distances. -/
theorem DJ.fin (hv : validB t = true) (h0 : 0 ≤ n) (h1 : n < t.nodes) (H : DJ t down n fr cur dist h (fun _ => False)) (he : h.items.length = 0) : IsDist t down n fr dist := by
  have hl := H.len
  have hno : ∀ i : Int, 0 ≤ i → i < t.nodes → gI h.places i < 0 := fun i i0 i1 => H.hi.none he (by rw [H.klen]; omega)
  refine ⟨H.len, ?_, H.sign, fun a a0 a1 hok hn => ?_, H.groundD⟩
  · rcases H.start with h | ⟨h, _⟩
    · exact h
    · have := hno n h0 h1; omega
  · rcases H.close a a0 a1 (fun h => h) hok hn with h | ⟨h, _⟩
    · exact h
    · have hb := arc_nf hv fr a0 a1
      have := hno _ hb.2.2.1 hb.2.2.2.1; omega

/-- The first item is taken. -/
theorem DJ.pop (hv : validB t = true) (hn0 : 0 ≤ n) (H : DJ t down n fr cur dist h (fun _ => False)) (he : 0 < h.items.length) :
    ∃ y : Int, h.items.getD 0 0 = y ∧ 0 ≤ y ∧ y < t.nodes ∧ gI dist y = -1 ∧ 0 ≤ gI h.keys y ∧ gI h.keys y ≤ 65535 * 64 ∧
      DJ t down n fr (gI h.keys y) (dist.set y.toNat (gI h.keys y)) (popF h) (fun a => nearT t fr a = y) ∧ cntD dist < dist.length ∧ cntD (dist.set y.toNat (gI h.keys y)) = cntD dist + 1 := by
  have hl := H.len
  have hkl := H.klen
  have hnn := validB_head hv
  obtain ⟨y, y1, y2, y3⟩ := H.hi.top he
  obtain ⟨p1, p2, p3⟩ := pop_HI H.hi he
  refine ⟨y, y1, by omega, by omega, ?_⟩
  rw [y1] at p3
  have hy0 : (0 : Int) ≤ y := by omega
  have hyn : (y : Int) < t.nodes := by omega
  have hd := H.excl y hy0 hyn (by simpa [gI] using y3)
  have hk := H.held y hy0 hyn (by simpa [gI] using y3)
  have hc0 := H.cur0
  have hcs : cntD (dist.set y (gI h.keys y)) = cntD dist + 1 := cntD_set (by omega) (by simpa [gI] using (by omega : gI dist y < 0)) (by omega)
  have hlt : cntD dist < dist.length := cntD_lt (i := y) (by omega) (by simpa [gI] using (by omega : gI dist y < 0))
  have tn : (y : Int).toNat = y := rfl
  have hset : ∀ i : Int, 0 ≤ i → gI (dist.set y (gI h.keys y)) i = if i = y then gI h.keys y else gI dist i := fun i i0 => by
    have := gI_set (l := dist) (y := (y : Int)) (v := gI h.keys y) (i := i) hy0 (by omega) i0
    rwa [tn] at this
  have hheld : ∀ i : Int, 0 ≤ i → i < t.nodes → (0 ≤ gI (popF h).places i ↔ 0 ≤ gI h.places i ∧ i ≠ y) := fun i i0 i1 => by
    have := p3 i.toNat (by omega)
    simp only [gI]
    have e : ((i.toNat : Nat) : Int) = i := by omega
    rw [e] at this
    constructor
    · intro hh
      refine ⟨?_, fun hq => ?_⟩
      · by_cases hl : h.places.getD i.toNat 0 < 0
        · have := this.2 (.inl hl); omega
        · omega
      · have := this.2 (.inr hq); omega
    · rintro ⟨q1, q2⟩
      by_cases hl : (popF h).places.getD i.toNat 0 < 0
      · rcases this.1 hl with h | h
        · omega
        · exact absurd h q2
      · omega
  have hle : ∀ i : Int, 0 ≤ i → i < t.nodes → 0 ≤ gI h.places i → gI h.keys y ≤ gI h.keys i := fun i i0 i1 hh => by
    have := H.hi.least (x := i.toNat) (by omega) hh
    rw [y1] at this; exact this
  refine ⟨hd, by omega, ?_, ?_, hlt, hcs⟩
  · have := hk.2; omega
  rw [tn]
  refine ⟨by simpa using hl, by rw [p2]; simpa using hkl, p1, fun i i0 i1 => ?_, fun i i0 i1 hh => ?_, by omega, fun i i0 i1 hh => ?_, fun i i0 i1 hh => ?_, ?_, fun a a0 a1 hp hok hh => ?_, fun i i0 i1 hin hh => ?_, fun i i0 i1 hin hh => ?_⟩
  · rw [hset i i0]
    split
    · right; omega
    · exact H.sign i i0 i1
  · rw [hheld i i0 i1] at hh
    rw [hset i i0, if_neg hh.2]
    exact H.excl i i0 i1 hh.1
  · rw [hset i i0] at hh ⊢
    rw [hcs]
    split
    · have := hk.2; omega
    · rename_i hne
      rw [if_neg hne] at hh
      have := H.done i i0 i1 hh
      omega
  · rw [hheld i i0 i1] at hh
    rw [p2, hcs]
    have h1 := hle i i0 i1 hh.1
    have h2 := H.held i i0 i1 hh.1
    omega
  · left
    rcases H.start with hs | ⟨hs1, hs2, hs3⟩
    · by_cases hny : n = y
      · rw [hny] at hs; omega
      · rw [hset n hn0, if_neg hny]; exact hs
    · have := (hs3 y hy0 hyn).2 (by simpa [gI] using y3)
      subst this
      rw [hset _ hy0, if_pos rfl]; exact hs2
  · have hb := arc_nf hv fr a0 a1
    rw [hset _ hb.1, if_neg hp] at hh ⊢
    rw [hset _ hb.2.2.1, hheld _ hb.2.2.1 hb.2.2.2.1, p2]
    by_cases hf : farT t fr a = y
    · rw [if_pos hf]
      left
      rcases H.close a a0 a1 (fun h => h) hok hh with hq | hq
      · rw [hf] at hq; omega
      · rw [hf] at hq; omega
    · rw [if_neg hf]
      rcases H.close a a0 a1 (fun h => h) hok hh with hq | hq
      · exact .inl hq
      · exact .inr ⟨⟨hq.1, hf⟩, hq.2⟩
  · rw [hset i i0] at hh ⊢
    have key : ∀ a : Int, 0 ≤ a ∧ a < 2 * t.links.length → 0 ≤ gI dist (nearT t fr a) → gI (dist.set y (gI h.keys y)) (nearT t fr a) = gI dist (nearT t fr a) := fun a ha hq => by
      have hb := arc_nf hv fr ha.1 ha.2
      rw [hset _ hb.1, if_neg (fun e => by rw [e] at hq; omega)]
    by_cases hi : i = y
    · rw [if_pos hi]
      subst hi
      obtain ⟨a, a0, a1, a2, a3, a4, a5⟩ := H.groundH _ i0 i1 hin (by simpa [gI] using y3)
      exact ⟨a, a0, a1, a2, a3, by rw [key a ⟨a0, a1⟩ a4]; exact a4, by rw [key a ⟨a0, a1⟩ a4]; exact a5⟩
    · rw [if_neg hi] at hh ⊢
      obtain ⟨a, a0, a1, a2, a3, a4, a5⟩ := H.groundD _ i0 i1 hin hh
      exact ⟨a, a0, a1, a2, a3, by rw [key a ⟨a0, a1⟩ a4]; exact a4, by rw [key a ⟨a0, a1⟩ a4]; exact a5⟩
  · rw [hheld i i0 i1] at hh
    rw [p2]
    obtain ⟨a, a0, a1, a2, a3, a4, a5⟩ := H.groundH _ i0 i1 hin hh.1
    have hb := arc_nf hv fr a0 a1
    have key : gI (dist.set y (gI h.keys y)) (nearT t fr a) = gI dist (nearT t fr a) := by rw [hset _ hb.1, if_neg (fun e => by rw [e] at a4; omega)]
    exact ⟨a, a0, a1, a2, a3, by rw [key]; exact a4, by rw [key]; exact a5⟩

/-- What is still to be looked at may be told otherwise. -/
theorem DJ.pend_mono {pend' : Int → Prop} (H : DJ t down n fr cur dist h pend) (hp : ∀ a : Int, 0 ≤ a → a < 2 * t.links.length → okA t down n fr a → pend a → 0 ≤ gI dist (nearT t fr a) →
    pend' a ∨ (0 ≤ gI dist (farT t fr a) ∧ gI dist (farT t fr a) ≤ gI dist (nearT t fr a) + costT t a) ∨ (0 ≤ gI h.places (farT t fr a) ∧ gI h.keys (farT t fr a) ≤ gI dist (nearT t fr a) + costT t a)) :
    DJ t down n fr cur dist h pend' := by
  refine ⟨H.len, H.klen, H.hi, H.sign, H.excl, H.cur0, H.done, H.held, H.start, fun a a0 a1 hp' hok hn => ?_, H.groundD, H.groundH⟩
  by_cases hpa : pend a
  · exact (hp a a0 a1 hok hpa hn).resolve_left hp'
  · exact H.close a a0 a1 hpa hok hn

/-- A node gets a key, or a lesser one. -/
theorem DJ.set (hv : validB t = true) (H : DJ t down n fr cur dist h pend) {a : Int} (a0 : 0 ≤ a) (a1 : a < 2 * t.links.length) (hok : okA t down n fr a) (hcur : gI dist (nearT t fr a) = cur) (hnew : gI dist (farT t fr a) < 0) (hn0 : gI dist n = 0)
    (hkey : gI h.places (farT t fr a) < 0 ∨ cur + costT t a < gI h.keys (farT t fr a)) :
    DJ t down n fr cur dist (setF h (farT t fr a).toNat (cur + costT t a)) pend ∧ 0 ≤ gI (setF h (farT t fr a).toNat (cur + costT t a)).places (farT t fr a) ∧ gI (setF h (farT t fr a).toNat (cur + costT t a)).keys (farT t fr a) = cur + costT t a := by
  have hl := H.len
  have hkl := H.klen
  have hnn := validB_head hv
  have hb := arc_nf hv fr a0 a1
  have hc0 := H.cur0
  obtain ⟨b1, b2, b3, b4, b5, b6, b7⟩ := hb
  have hdn := H.done _ b1 b2 (by rw [hcur]; exact hc0)
  generalize hx : farT t fr a = x at *
  have hkx : gI h.keys x = h.keys.getD x.toNat 0 := rfl
  have hpx : gI h.places x = h.places.getD x.toNat 0 := rfl
  obtain ⟨s1, s2, s3⟩ := set_HI (h := h) H.hi (x := x.toNat) (v := cur + costT t a) (by omega) (by omega) (by omega)
  have hheld : ∀ i : Int, 0 ≤ i → i < t.nodes → (0 ≤ gI (setF h x.toNat (cur + costT t a)).places i ↔ 0 ≤ gI h.places i ∨ i = x) := fun i i0 i1 => by
    have := s3 i.toNat (by omega)
    simp only [gI]
    constructor
    · intro hh
      by_cases hq : h.places.getD i.toNat 0 < 0
      · right
        by_cases he : i = x
        · exact he
        · have := this.2 ⟨hq, by omega⟩; omega
      · left; omega
    · intro hq
      by_cases hl : (setF h x.toNat (cur + costT t a)).places.getD i.toNat 0 < 0
      · have := this.1 hl; omega
      · omega
  have hkeys : ∀ i : Int, 0 ≤ i → gI (setF h x.toNat (cur + costT t a)).keys i = if i = x then cur + costT t a else gI h.keys i := fun i i0 => by
    rw [s2]; exact gI_set b3 (by omega) i0
  refine ⟨⟨hl, by rw [s2]; simpa using hkl, s1, H.sign, fun i i0 i1 hh => ?_, hc0, H.done, fun i i0 i1 hh => ?_, .inl hn0, fun c c0 c1 hp hok' hh => ?_, H.groundD, fun i i0 i1 hin hh => ?_⟩, (hheld x b3 b4).2 (.inr rfl), by rw [hkeys x b3, if_pos rfl]⟩
  · rcases (hheld i i0 i1).1 hh with hq | hq
    · exact H.excl i i0 i1 hq
    · subst hq
      have := H.sign i i0 i1; omega
  · rw [hkeys i i0]
    split
    · rw [hcur] at hdn; omega
    · rename_i hne
      exact H.held i i0 i1 (((hheld i i0 i1).1 hh).resolve_right hne)
  · have hb' := arc_nf hv fr c0 c1
    rw [hheld _ hb'.2.2.1 hb'.2.2.2.1, hkeys _ hb'.2.2.1]
    rcases H.close c c0 c1 hp hok' hh with hq | hq
    · exact .inl hq
    · right
      refine ⟨.inl hq.1, ?_⟩
      split
      · rename_i he
        rw [he] at hq
        omega
      · exact hq.2
  · rw [hkeys i i0]
    by_cases he : i = x
    · subst he
      rw [if_pos rfl]
      exact ⟨a, a0, a1, hok, hx, by rw [hcur]; exact hc0, by rw [hcur]⟩
    · rw [if_neg he]
      exact H.groundH i i0 i1 hin (((hheld i i0 i1).1 hh).resolve_right he)

theorem drop_cons {L : List Int} {j : Nat} (hj : j < L.length) {a : Int} : a ∈ L.drop j ↔ a = L.getD j 0 ∨ a ∈ L.drop (j + 1) := by
  rw [List.drop_eq_getElem_cons hj, List.mem_cons, List.getD_eq_getElem?_getD, List.getElem?_eq_getElem hj]; rfl

theorem DJ.arcs {y : Int} (hv : validB t = true) (H : DJ t down n fr cur dist h (fun a => nearT t fr a = y)) : DJ t down n fr cur dist h (fun a => a ∈ (arcsL t y fr).drop 0) :=
  H.pend_mono fun a a0 a1 _ hp _ => .inl (by rw [List.drop_zero, mem_arcsL hv]; exact ⟨a0, a1, hp⟩)
theorem DJ.over {y : Int} (H : DJ t down n fr cur dist h (fun a => nearT t fr a = y)) (hyn : y ≠ n) (ho : overT t y = true) : DJ t down n fr cur dist h (fun _ => False) :=
  H.pend_mono fun a a0 a1 hok hp _ => by
    rcases hok.2 with h | h
    · exact absurd (hp.symm.trans h) hyn
    · rw [hp, ho] at h; cases h
theorem DJ.done_arcs {L : List Int} {j : Nat} (H : DJ t down n fr cur dist h (fun a => a ∈ L.drop j)) (hj : L.length ≤ j) : DJ t down n fr cur dist h (fun _ => False) :=
  H.pend_mono fun a a0 a1 _ hp _ => by rw [List.drop_eq_nil_of_le hj] at hp; simp at hp
theorem DJ.next {L : List Int} {j : Nat} (hv : validB t = true) (H : DJ t down n fr cur dist h (fun a => a ∈ L.drop j)) (hj : j < L.length) (hcur : gI dist (nearT t fr (L.getD j 0)) = cur)
    (hh : upB down (L.getD j 0) = false ∨ 0 ≤ gI dist (farT t fr (L.getD j 0)) ∨ (0 ≤ gI h.places (farT t fr (L.getD j 0)) ∧ gI h.keys (farT t fr (L.getD j 0)) ≤ cur + costT t (L.getD j 0))) :
    DJ t down n fr cur dist h (fun a => a ∈ L.drop (j + 1)) :=
  H.pend_mono fun a a0 a1 hok hp hn => by
    rcases (drop_cons hj).1 hp with he | he
    · right
      have hb := arc_nf hv fr a0 a1
      rw [← he] at hh hcur
      rcases hh with h | h | h
      · rw [hok.1] at h; cases h
      · left; refine ⟨h, ?_⟩
        have := H.done _ hb.2.2.1 hb.2.2.2.1 h
        rw [hcur]; omega
      · right; rw [hcur]; exact h
    · exact .inl he
theorem DJ.put {L : List Int} {j : Nat} (hv : validB t = true) (H : DJ t down n fr cur dist h (fun a => a ∈ L.drop j)) (hj : j < L.length) (hcur : gI dist (nearT t fr (L.getD j 0)) = cur) (a0 : 0 ≤ L.getD j 0) (a1 : L.getD j 0 < 2 * t.links.length)
    (hup : upB down (L.getD j 0) = true) (htr : nearT t fr (L.getD j 0) = n ∨ overT t (nearT t fr (L.getD j 0)) = false) (hnew : gI dist (farT t fr (L.getD j 0)) < 0) (hn0 : gI dist n = 0)
    (hkey : gI h.places (farT t fr (L.getD j 0)) < 0 ∨ cur + costT t (L.getD j 0) < gI h.keys (farT t fr (L.getD j 0))) :
    DJ t down n fr cur dist (setF h (farT t fr (L.getD j 0)).toNat (cur + costT t (L.getD j 0))) (fun a => a ∈ L.drop (j + 1)) := by
  obtain ⟨H1, H2, H3⟩ := H.set hv a0 a1 ⟨hup, htr⟩ hcur hnew hn0 hkey
  exact H1.next hv hj hcur (.inr (.inr ⟨H2, by omega⟩))
/-- The start is done as soon as anything is. -/
theorem DJ.n0 {y : Int} (H : DJ t down n fr cur dist h pend) (y0 : 0 ≤ y) (y1 : y < t.nodes) (hy : 0 ≤ gI dist y) : gI dist n = 0 := by
  rcases H.start with h | ⟨_, _, h⟩
  · exact h
  · have := (h y y0 y1).1; omega

theorem DJ.all_arcs {L : List Int} {y : Int} (hv : validB t = true) (hL : ∀ a, a ∈ L → 0 ≤ a ∧ a < 2 * t.links.length ∧ nearT t fr a = y) (hcur : gI dist y = cur) (hn0 : gI dist n = 0) (htr : y = n ∨ overT t y = false) :
    ∀ (m j : Nat) (h : Hp), L.length - j = m → DJ t down n fr cur dist h (fun a => a ∈ L.drop j) → ∃ h', DJ t down n fr cur dist h' (fun _ => False) := by
  intro m
  induction m with
  | zero => intro j h hm H; exact ⟨h, H.done_arcs (by omega)⟩
  | succ m ih =>
    intro j h hm H
    have hj : j < L.length := by omega
    obtain ⟨a0, a1, a2⟩ := hL _ (getD_mem (d := 0) hj)
    have hc : gI dist (nearT t fr (L.getD j 0)) = cur := by rw [a2]; exact hcur
    cases hup : upB down (L.getD j 0) with
    | false => exact ih (j + 1) h (by omega) (H.next hv hj hc (.inl hup))
    | true =>
      by_cases hd : 0 ≤ gI dist (farT t fr (L.getD j 0))
      · exact ih (j + 1) h (by omega) (H.next hv hj hc (.inr (.inl hd)))
      · by_cases hk : 0 ≤ gI h.places (farT t fr (L.getD j 0)) ∧ gI h.keys (farT t fr (L.getD j 0)) ≤ cur + costT t (L.getD j 0)
        · exact ih (j + 1) h (by omega) (H.next hv hj hc (.inr (.inr hk)))
        · exact ih (j + 1) _ (by omega) (H.put hv hj hc a0 a1 hup (by rw [a2]; exact htr) (by omega) hn0 (by omega))

theorem DJ.goes (hv : validB t = true) (h0 : 0 ≤ n) (h1 : n < t.nodes) : ∀ (m : Nat) (cur : Int) (dist : List Int) (h : Hp), dist.length - cntD dist = m → DJ t down n fr cur dist h (fun _ => False) → ∃ l, IsDist t down n fr l ∧ ∀ i : Int, 0 ≤ i → i < t.nodes → gI l i ≤ 65535 * 64 := by
  intro m
  induction m using Nat.strongRecOn with
  | _ m ih =>
    intro cur dist h hm H
    by_cases he : h.items.length = 0
    · refine ⟨dist, H.fin hv h0 h1 he, fun i i0 i1 => ?_⟩
      have hc : cntD dist ≤ dist.length := List.countP_le_length
      have hl := H.len
      have hnn := validB_head hv
      by_cases hi : 0 ≤ gI dist i
      · have := (H.done i i0 i1 hi).2; omega
      · omega
    · obtain ⟨y, y1, y0, yn, yd, yk, yk2, H2, hc1, hc2⟩ := H.pop hv h0 (by omega)
      have hl2 := H2.len
      have hset : gI (dist.set y.toNat (gI h.keys y)) y = gI h.keys y := by rw [gI_set y0 (by have := H.len; omega) y0, if_pos rfl]
      have hdn0 := H2.n0 y0 yn (by rw [hset]; exact yk)
      have hmm : (dist.set y.toNat (gI h.keys y)).length - cntD (dist.set y.toNat (gI h.keys y)) < m := by simp only [List.length_set]; omega
      by_cases htr : y = n ∨ overT t y = false
      · obtain ⟨h', H3⟩ := DJ.all_arcs hv (L := arcsL t y fr) (y := y) (fun a ha => (mem_arcsL hv).1 ha) hset hdn0 htr _ 0 (popF h) rfl (H2.arcs hv)
        exact ih _ hmm _ _ _ rfl H3
      · have hyn : y ≠ n := fun e => htr (.inl e)
        have ho : overT t y = true := by
          cases hq : overT t y with
          | true => rfl
          | false => exact absurd (.inr hq) htr
        exact ih _ hmm _ _ _ rfl (H2.over hyn ho)

end

theorem distF_is' {t : Topo} {down : List Bool} {n : Int} {fr : Bool} (hv : validB t = true) (h0 : 0 ≤ n) (h1 : n < t.nodes) : IsDist t down n fr (distF t down n fr) ∧ ∀ i : Int, 0 ≤ i → i < t.nodes → gI (distF t down n fr) i ≤ 65535 * 64 := by
  obtain ⟨l, hl⟩ := DJ.goes hv h0 h1 _ _ _ _ rfl (DJ.init (down := down) (fr := fr) hv h0 h1)
  rw [hl.1.eq hv]; exact hl
theorem distF_is {t : Topo} {down : List Bool} {n : Int} {fr : Bool} (hv : validB t = true) (h0 : 0 ≤ n) (h1 : n < t.nodes) : IsDist t down n fr (distF t down n fr) := (distF_is' hv h0 h1).1
theorem distL_bnd {t : Topo} {down : List Bool} {n : Int} {fr : Bool} (h : errS t down n = 0) : ∀ i : Int, 0 ≤ i → i < t.nodes → gI (distL t down n fr) i ≤ 65535 * 64 := by
  obtain ⟨hf, h0, h1⟩ := errS_0 h
  unfold distL
  rw [if_pos h]
  exact (distF_is' (fitsB_v hf) h0 h1).2
theorem distL_is {t : Topo} {down : List Bool} {n : Int} {fr : Bool} (h : errS t down n = 0) : IsDist t down n fr (distL t down n fr) := by
  obtain ⟨hf, h0, h1⟩ := errS_0 h
  unfold distL
  rw [if_pos h]
  exact distF_is (fitsB_v hf) h0 h1

end Go.Proofs.Ytcnfggpcploehaa

/- The first shortest path, plainly. -/
namespace Go.Proofs.Ytcnfggpcploehaa
set_option maxRecDepth 10000
open Go.Wk

/-- May a shortest path to d go over the arc, where l are the distances to d? -/
def onP (t : Topo) (down : List Bool) (d : Int) (l : List Int) (n a : Int) : Bool :=
  upB down a && decide (0 ≤ gI l (headT t a)) && (decide (headT t a = d) || !overT t (headT t a)) && decide (gI l n = gI l (headT t a) + costT t a)
def nextP (t : Topo) (down : List Bool) (d : Int) (l : List Int) (n : Int) : Option Int := (arcsL t n true).find? (onP t down d l n)
def pathG (t : Topo) (down : List Bool) (d : Int) (l : List Int) : Nat → Int → List Int
  | 0, _ => []
  | k + 1, n => if n = d then [] else match nextP t down d l n with
    | some a => a :: pathG t down d l k (headT t a)
    | none => []
def pathF (t : Topo) (down : List Bool) (d : Int) (l : List Int) (n : Int) : List Int := pathG t down d l ((gI l n).toNat + 1) n

section
variable {t : Topo} {down : List Bool} {d n : Int} {l : List Int}

theorem onP_iff {a : Int} : onP t down d l n a = true ↔ upB down a = true ∧ 0 ≤ gI l (headT t a) ∧ (headT t a = d ∨ overT t (headT t a) = false) ∧ gI l n = gI l (headT t a) + costT t a := by
  simp only [onP, Bool.and_eq_true, decide_eq_true_eq, Bool.or_eq_true, Bool.not_eq_true', and_assoc]

theorem nextP_some (hv : validB t = true) (hl : IsDist t down d false l) (h0 : 0 ≤ n) (h1 : n < t.nodes) (hn : 0 ≤ gI l n) (hnd : n ≠ d) :
    ∃ a, nextP t down d l n = some a ∧ 0 ≤ a ∧ a < 2 * t.links.length ∧ tailT t a = n ∧ onP t down d l n a = true ∧ 0 ≤ gI l (headT t a) ∧ gI l (headT t a) < gI l n ∧ 0 ≤ headT t a ∧ headT t a < t.nodes := by
  obtain ⟨a, a0, a1, a2, a3, a4, a5⟩ := hl.ground n h0 h1 hnd hn
  have hm : a ∈ arcsL t n true := (mem_arcsL hv).2 ⟨a0, a1, a3⟩
  have hon : onP t down d l n a = true := onP_iff.2 ⟨a2.1, a4, a2.2, a5⟩
  cases hf : nextP t down d l n with
  | none => exact absurd hon (List.find?_eq_none.1 hf a hm)
  | some b =>
    have hb := List.find?_some hf
    obtain ⟨b0, b1, b2⟩ := (mem_arcsL hv).1 (List.mem_of_find?_eq_some hf)
    have hok := arc_ok hv b0 b1
    obtain ⟨o1, o2, o3, o4⟩ := onP_iff.1 hb
    exact ⟨b, rfl, b0, b1, b2, hb, o2, by omega, hok.2.2.1, hok.2.2.2.1⟩

theorem pathG_fuel (hv : validB t = true) (hl : IsDist t down d false l) : ∀ (k k' : Nat) (n : Int), 0 ≤ n → n < t.nodes → 0 ≤ gI l n → gI l n < k → gI l n < k' → pathG t down d l k n = pathG t down d l k' n := by
  intro k
  induction k with
  | zero => intro k' n h0 h1 hn hk; omega
  | succ k ih =>
    intro k' n h0 h1 hn hk hk'
    cases k' with
    | zero => omega
    | succ k' =>
      simp only [pathG]
      by_cases hnd : n = d
      · rw [if_pos hnd, if_pos hnd]
      · rw [if_neg hnd, if_neg hnd]
        obtain ⟨a, e, _, _, _, _, a4, a5, a6, a7⟩ := nextP_some hv hl h0 h1 hn hnd
        rw [e]
        simp only
        rw [ih k' _ a6 a7 a4 (by omega) (by omega)]

theorem pathF_end : pathF t down d l d = [] := by
  unfold pathF pathG
  rw [if_pos rfl]
theorem pathF_step (hv : validB t = true) (hl : IsDist t down d false l) (h0 : 0 ≤ n) (h1 : n < t.nodes) (hn : 0 ≤ gI l n) (hnd : n ≠ d) {a : Int} (ha : nextP t down d l n = some a) : pathF t down d l n = a :: pathF t down d l (headT t a) := by
  obtain ⟨b, e, _, _, _, _, b4, b5, b6, b7⟩ := nextP_some hv hl h0 h1 hn hnd
  rw [ha] at e; cases e
  unfold pathF
  conv => lhs; rw [pathG]
  rw [if_neg hnd, ha]
  simp only
  rw [pathG_fuel hv hl _ ((gI l (headT t a)).toNat + 1) _ b6 b7 b4 (by omega) (by omega)]

theorem find_at {L : List Int} {p : Int → Bool} {j : Nat} (hj : j < L.length) (h1 : ∀ i, i < j → p (L.getD i 0) = false) (h2 : p (L.getD j 0) = true) : L.find? p = some (L.getD j 0) := by
  induction L generalizing j with
  | nil => simp at hj
  | cons x r ih =>
    cases j with
    | zero => simp only [List.getD_cons_zero] at h2; simp [List.find?_cons, h2]
    | succ j =>
      have := h1 0 (by omega)
      simp only [List.getD_cons_zero] at this
      rw [List.find?_cons, this]
      simp only [List.getD_cons_succ] at h2 ⊢
      exact ih (by simpa using hj) (fun i hi => by have := h1 (i + 1) (by omega); simpa using this) h2
theorem nextP_at {j : Nat} (hj : j < (arcsL t n true).length) (h1 : ∀ i, i < j → onP t down d l n ((arcsL t n true).getD i 0) = false) (h2 : onP t down d l n ((arcsL t n true).getD j 0) = true) : nextP t down d l n = some ((arcsL t n true).getD j 0) := find_at hj h1 h2
theorem nextP_no (h1 : ∀ i, i < (arcsL t n true).length → onP t down d l n ((arcsL t n true).getD i 0) = false) : nextP t down d l n = none := by
  refine List.find?_eq_none.2 fun x hx => ?_
  obtain ⟨k, hk, rfl⟩ := List.mem_iff_getElem.1 hx
  have := h1 k hk
  simpa [List.getD_eq_getElem?_getD, hk] using this

theorem arcsR_getD {m k : Nat} (h : k < m) : (arcsR m).getD k 0 = k := by
  simp [arcsR, List.getD_eq_getElem?_getD, h]
/-- The first of all arcs. -/
theorem nextP_all (hv : validB t = true) {a : Nat} (ha : a < 2 * t.links.length) (ht : tailT t a = n) (h1 : ∀ i : Nat, i < a → tailT t i = n → onP t down d l n i = false) (h2 : onP t down d l n a = true) : nextP t down d l n = some (a : Int) := by
  unfold nextP
  rw [arcsL_eq hv, List.find?_filter]
  have := find_at (L := arcsR (2 * t.links.length)) (p := fun x => decide (nearT t true x = n) && onP t down d l n x) (j := a) (by simp [arcsR]; omega) (fun i hi => by
    rw [arcsR_getD (by omega)]
    by_cases hq : tailT t i = n
    · rw [h1 i hi hq, Bool.and_false]
    · simp [nearT, hq]) (by rw [arcsR_getD ha]; simp [nearT, ht, h2])
  rw [arcsR_getD ha] at this
  simpa using this

theorem onP_len (hv : validB t = true) (hl : IsDist t down d false l) : ∀ (k : Nat) (n : Int), 0 ≤ n → n < t.nodes → 0 ≤ gI l n → gI l n ≤ k → (pathF t down d l n).length ≤ k := by
  intro k
  induction k using Nat.strongRecOn with
  | _ k ih =>
    intro n h0 h1 hn hk
    by_cases hnd : n = d
    · rw [hnd, pathF_end]; simp
    · obtain ⟨a, e, _, _, _, _, a4, a5, a6, a7⟩ := nextP_some hv hl h0 h1 hn hnd
      rw [pathF_step hv hl h0 h1 hn hnd e]
      have := ih (k - 1) (by omega) (headT t a) a6 a7 a4 (by omega)
      simp; omega

end

/-- The result code of Path. -/
noncomputable def errP (t : Topo) (down : List Bool) (s d : Int) : Int :=
  if errS t down d = 0 then (bif decide (s < 0) || decide (t.nodes ≤ s) then 2 else (if gI (distL t down d false) s < 0 then 11 else 0)) else errS t down d
noncomputable def pathL (t : Topo) (down : List Bool) (s d : Int) : List Int := if errP t down s d = 0 then pathF t down d (distL t down d false) s else []
theorem errP_0 {t : Topo} {down : List Bool} {s d : Int} (h : errP t down s d = 0) : errS t down d = 0 ∧ 0 ≤ s ∧ s < t.nodes ∧ 0 ≤ gI (distL t down d false) s := by
  unfold errP at h
  by_cases h1 : errS t down d = 0
  · rw [if_pos h1] at h
    cases hn : (decide (s < 0) || decide (t.nodes ≤ s)) with
    | true => rw [hn] at h; cases h
    | false =>
      rw [hn] at h
      simp only [cond_false] at h
      simp only [Bool.or_eq_false_iff, decide_eq_false_iff_not] at hn
      by_cases h2 : gI (distL t down d false) s < 0
      · rw [if_pos h2] at h; cases h
      · exact ⟨h1, by omega, by omega, by omega⟩
  · rw [if_neg h1] at h; exact absurd h h1

theorem pathL_len (t : Topo) (down : List Bool) (s d : Int) : (pathL t down s d).length ≤ 65535 * 64 := by
  by_cases h : errP t down s d = 0
  · obtain ⟨h1, s0, s1, sn⟩ := errP_0 h
    have hl := distL_is (fr := false) h1
    have hb := distL_bnd (fr := false) h1 s s0 s1
    unfold pathL
    rw [if_pos h]
    have := onP_len (fitsB_v (errS_0 h1).1) hl (gI (distL t down d false) s).toNat s s0 s1 sn (by omega)
    omega
  · unfold pathL; rw [if_neg h]; simp

end Go.Proofs.Ytcnfggpcploehaa

/- Rows of literals. -/
namespace Go.Wk
set_option maxRecDepth 10000
open Go.RowKit

theorem litB_ones {size : Nat} {css : List (List D)} (h : css.all (fun c => c.all D.one) = true) : (litB size css).ones := by
  have row : (Blk.row size css.length fun i => css.getD i []).ones := by
    intro i hi x hx
    simp only at hx
    rw [List.getD_eq_getElem?_getD, List.getElem?_eq_getElem hi] at hx
    simp only [Option.getD_some] at hx
    rw [List.all_eq_true] at h
    have := h _ (List.getElem_mem hi)
    rw [List.all_eq_true] at this
    exact this x hx
  unfold litB
  split
  · cases Nat.beq size 1 with
    | false => exact row
    | true => trivial
  · split
    · cases Nat.beq size 1 with
      | false => exact row
      | true => trivial
    · exact row
end Go.Wk

/- Laws of layer 11: the example's topology. -/
namespace Go.Proofs.Ytcnfggpcploehaa
set_option maxRecDepth 10000
open Go.Wk

def sqL (k : Nat) : Lk := ⟨k, ((k : Int) + 1) % 4, 1, 1, 0, 1, 0⟩
def sqT : Topo := ⟨4, [], [sqL 0, sqL 1, sqL 2, sqL 3]⟩

def sqD (ov : D) : D := .agg [iD 4, ov, .arr 7 4 fun k => lkD (sqL k)]
theorem sqD_le {ov : D} {bs : List Bool} (h : DLe ov (boolsD bs)) : DLe (sqD ov) (topoD ⟨4, bs, [sqL 0, sqL 1, sqL 2, sqL 3]⟩) := by
  refine DLe.agg ⟨DLe.refl _, h, DLe.arr fun i hi => ?_, trivial⟩
  match i, hi with
  | 0, _ => rfl
  | 1, _ => rfl
  | 2, _ => rfl
  | 3, _ => rfl

end Go.Proofs.Ytcnfggpcploehaa

/- Layer 3: the heap. -/
namespace Go.Proofs.Ytcnfggpcploehaa
set_option maxRecDepth 10000
open Go.Wk

/-- A heap as the caller's blocks: itself, its items, its keys, its places. -/
abbrev hpS (items keys places : List Int) : List Blk := [.cells [.own 1, .own 2, .own 3], .ints .i64 items, .ints .i64 keys, .ints .i64 places]
abbrev iV (n : Int) : V := .d (iD n)

theorem h_before (items keys places : List Int) (i k : Int) (hi : 0 ≤ i ∧ i < keys.length) (hk : 0 ≤ k ∧ k < keys.length) :
    CtrO Try.prog 111 [.ptr 0 0, iV i, iV k] (hpS items keys places) (hpS items keys places) (.d (bD (beforeB keys i k))) := by
  refine spec_obj envOK (enters_of Try.func111 (by kernel_rfl) (by kernel_rfl)) Try.func111 rfl rfl _ rfl (Nat.le_of_ble_eq_true rfl) rfl (by simp [kinds, Blk.isRow]) fun w0 ρ0 => ?_
  repeat' (first
  
    | refine aw_seq ?_
    | refine aw_region ?_
    | refine aw_region_q (by kernel_rfl) (by kernel_rfl) ?_
    | refine aw_block ?_
    | refine ao_nil ?_
    | refine ao_op rfl trivial ?_
    | refine aq_nil ?_
    | refine aq_op rfl trivial ?_
    | refine at_nil ?_
    | refine at_op rfl trivial ?_
    | refine am_nil ?_
    | refine am_op rfl trivial rfl ?_
    | refine aw_skip ?_
    | refine aw_condT rfl trivial ?_
    | refine aw_condF rfl trivial ?_
    | refine aw_condD rfl trivial (fun hc => ?_) (fun hc => ?_)
    | refine aw_condN rfl trivial (fun hc => ?_) (fun hc => ?_)
    | refine aw_condNB rfl trivial (fun hc => ?_) (fun hc => ?_)
    | refine aw_cond rfl trivial (fun hc => ?_) (fun hc => ?_)
    | refine aw_ret ?_
    | refine aw_exit ?_
    | refine ao_op rfl ?_ ?_
    | refine aq_op rfl ?_ ?_
    | refine at_op rfl ?_ ?_
    | refine am_op rfl ?_ rfl ?_
    | refine ao_box rfl trivial rfl rfl rfl ?_
    | refine ao_alloc rfl rfl rfl rfl ?_
    | refine ao_store rfl rfl trivial rfl trivial rfl rfl rfl rfl rfl ?_
  
    | (show allP _; first | trivial | exact ob1 (fun h => h) | exact ob2 (fun h => h) (fun h => h) | exact ob1 (fun h => ⟨h.1, trivial⟩) | (simp only [allP, obg, grd, allT, InR, decide_eq_true_eq, Bool.and_eq_true, Bool.not_eq_true', decide_eq_false_iff_not, List.nil_append, List.cons_append, List.append_nil, and_true, true_and]; first | omega | (intros; omega) | (simp only [Blk.len, List.length_set, List.length_append, List.length_cons, List.length_nil]; first | omega | (intros; omega)) | (refine ⟨?_, ?_⟩ <;> intros <;> first | (with_reducible assumption) | omega) | ((repeat' refine And.intro ?_ ?_) <;> (intros; first | (with_reducible assumption) | omega | (simp only [Blk.len, List.length_set, List.length_append, List.length_cons, List.length_nil]; omega))) | ((try simp only [Bool.or_eq_true, Bool.or_eq_false_iff, Bool.and_eq_true, Bool.and_eq_false_iff, decide_eq_true_eq, decide_eq_false_iff_not, Bool.not_eq_true', Bool.not_eq_false'] at *); (try simp only [Blk.len] at *); first | omega | (intros; omega)) | (simp_all; done))))
  refine retO1 rfl (by (repeat (first | exact subS_nil | refine subS_cons (by first | rfl | rfl) ?_))) rfl rfl ?_
  rfl

theorem h_put (items keys places : List Int) (i at_ : Int) (hi : 0 ≤ i ∧ i < places.length) (ha : 0 ≤ at_ ∧ at_ < items.length) :
    CtrO Try.prog 112 [.ptr 0 0, iV i, iV at_] (hpS items keys places) (hpS (items.set at_.toNat i) keys (places.set i.toNat at_)) (.tup []) := by
  refine spec_obj envOK (enters_of Try.func112 (by kernel_rfl) (by kernel_rfl)) Try.func112 rfl rfl _ rfl (Nat.le_of_ble_eq_true rfl) rfl (by simp [kinds, Blk.isRow]) fun w0 ρ0 => ?_
  repeat' (first
    | refine aw_region_m [1, 3] [false, false, false, false, false, false, false, false, false, false, false, false, false, true, false, true] (by kernel_rfl) (by kernel_rfl) (by kernel_rfl) rfl (by simp) ?_
    | refine aw_seq ?_
    | refine aw_region ?_
    | refine aw_region_q (by kernel_rfl) (by kernel_rfl) ?_
    | refine aw_block ?_
    | refine ao_nil ?_
    | refine ao_op rfl trivial ?_
    | refine aq_nil ?_
    | refine aq_op rfl trivial ?_
    | refine at_nil ?_
    | refine at_op rfl trivial ?_
    | refine am_nil ?_
    | refine am_op rfl trivial rfl ?_
    | refine aw_skip ?_
    | refine aw_condT rfl trivial ?_
    | refine aw_condF rfl trivial ?_
    | refine aw_condD rfl trivial (fun hc => ?_) (fun hc => ?_)
    | refine aw_condN rfl trivial (fun hc => ?_) (fun hc => ?_)
    | refine aw_condNB rfl trivial (fun hc => ?_) (fun hc => ?_)
    | refine aw_cond rfl trivial (fun hc => ?_) (fun hc => ?_)
    | refine aw_ret ?_
    | refine aw_exit ?_
    | refine ao_op rfl ?_ ?_
    | refine aq_op rfl ?_ ?_
    | refine at_op rfl ?_ ?_
    | refine am_op rfl ?_ rfl ?_
    | refine ao_box rfl trivial rfl rfl rfl ?_
    | refine ao_alloc rfl rfl rfl rfl ?_
    | refine ao_store rfl rfl trivial rfl trivial rfl rfl rfl rfl rfl ?_
    | refine am_store_ep rfl rfl trivial rfl trivial rfl rfl rfl rfl rfl rfl rfl ?_
    | (show allP _; first | trivial | exact ob1 (fun h => h) | exact ob2 (fun h => h) (fun h => h) | exact ob1 (fun h => ⟨h.1, trivial⟩) | (simp only [allP, obg, grd, allT, InR, decide_eq_true_eq, Bool.and_eq_true, Bool.not_eq_true', decide_eq_false_iff_not, List.nil_append, List.cons_append, List.append_nil, and_true, true_and]; first | omega | (intros; omega) | (simp only [Blk.len, List.length_set, List.length_append, List.length_cons, List.length_nil]; first | omega | (intros; omega)) | (refine ⟨?_, ?_⟩ <;> intros <;> first | (with_reducible assumption) | omega) | ((repeat' refine And.intro ?_ ?_) <;> (intros; first | (with_reducible assumption) | omega | (simp only [Blk.len, List.length_set, List.length_append, List.length_cons, List.length_nil]; omega))) | ((try simp only [Bool.or_eq_true, Bool.or_eq_false_iff, Bool.and_eq_true, Bool.and_eq_false_iff, decide_eq_true_eq, decide_eq_false_iff_not, Bool.not_eq_true', Bool.not_eq_false'] at *); (try simp only [Blk.len] at *); first | omega | (intros; omega)) | (simp_all; done))))
  (first | refine retON rfl (by (repeat (first | exact subS_nil | refine subS_cons (by first | rfl | rfl) ?_))) rfl | refine retON' rfl (by (repeat (first | exact subS_nil | refine subS_cons (by first | rfl | rfl) ?_))) rfl)

theorem h_up (items keys places : List Int) (at_ : Nat) (ha : at_ < items.length) (hok : okH keys items places) :
    CtrO Try.prog 106 [.ptr 0 0, iV at_] (hpS items keys places) (hpS (upF keys (items.getD at_ 0) items places at_).1 keys (upF keys (items.getD at_ 0) items places at_).2) (.tup []) := by
  refine spec_obj envOK (enters_of Try.func106 (by kernel_rfl) (by kernel_rfl)) Try.func106 rfl rfl _ rfl (Nat.le_of_ble_eq_true rfl) rfl (by simp [kinds, Blk.isRow]) fun w0 ρ0 => ?_
  have hl := hok.2.1
  have hi := hok.2.2 at_ ha
  repeat' (first
  
    | refine aw_seq ?_
    | refine aw_region ?_
    | refine aw_region_q (by kernel_rfl) (by kernel_rfl) ?_
    | refine aw_block ?_
    | refine ao_nil ?_
    | refine ao_op rfl trivial ?_
    | refine aq_nil ?_
    | refine aq_op rfl trivial ?_
    | refine at_nil ?_
    | refine at_op rfl trivial ?_
    | refine am_nil ?_
    | refine am_op rfl trivial rfl ?_
    | refine aw_skip ?_
    | refine aw_condT rfl trivial ?_
    | refine aw_condF rfl trivial ?_
    | refine aw_condD rfl trivial (fun hc => ?_) (fun hc => ?_)
    | refine aw_condN rfl trivial (fun hc => ?_) (fun hc => ?_)
    | refine aw_condNB rfl trivial (fun hc => ?_) (fun hc => ?_)
    | refine aw_cond rfl trivial (fun hc => ?_) (fun hc => ?_)
    | refine aw_ret ?_
    | refine aw_exit ?_
    | refine ao_op rfl ?_ ?_
    | refine aq_op rfl ?_ ?_
    | refine at_op rfl ?_ ?_
    | refine am_op rfl ?_ rfl ?_
    | refine ao_box rfl trivial rfl rfl rfl ?_
    | refine ao_alloc rfl rfl rfl rfl ?_
    | refine ao_store rfl rfl trivial rfl trivial rfl rfl rfl rfl rfl ?_
  
    | (show allP _; first | trivial | exact ob1 (fun h => h) | exact ob2 (fun h => h) (fun h => h) | exact ob1 (fun h => ⟨h.1, trivial⟩) | (simp only [allP, obg, grd, allT, InR, decide_eq_true_eq, Bool.and_eq_true, Bool.not_eq_true', decide_eq_false_iff_not, List.nil_append, List.cons_append, List.append_nil, and_true, true_and]; first | omega | (intros; omega) | (simp only [Blk.len, List.length_set, List.length_append, List.length_cons, List.length_nil]; first | omega | (intros; omega)) | (refine ⟨?_, ?_⟩ <;> intros <;> first | (with_reducible assumption) | omega) | ((repeat' refine And.intro ?_ ?_) <;> (intros; first | (with_reducible assumption) | omega | (simp only [Blk.len, List.length_set, List.length_append, List.length_cons, List.length_nil]; omega))) | ((try simp only [Bool.or_eq_true, Bool.or_eq_false_iff, Bool.and_eq_true, Bool.and_eq_false_iff, decide_eq_true_eq, decide_eq_false_iff_not, Bool.not_eq_true', Bool.not_eq_false'] at *); (try simp only [Blk.len] at *); first | omega | (intros; omega)) | (simp_all; done))))
  refine aw_loop (ι := List Int × List Int × Nat) (fun s => [(4, [], iV (items.getD at_ 0)), (0, [], .ptr 0 0), (1, [], iV s.2.2)]) (fun s => hpS s.1 keys s.2.1)
    (fun s => upF keys (items.getD at_ 0) s.1 s.2.1 s.2.2 = upF keys (items.getD at_ 0) items places at_ ∧ s.2.2 < s.1.length ∧ okH keys s.1 s.2.1) (fun s => s.2.2) (items, places, at_) ⟨rfl, ha, hok⟩ (fun _ => Nat.le_of_ble_eq_true rfl) (by refine weak_to ?_ ?_ rfl rfl
                                                                                                                                                                                                                                                  · repeat (first | exact subF_nil | refine subF_cons (by first | rfl | (simp [look]; done)) ?_)
                                                                                                                                                                                                                                                  · repeat (first | exact subS_nil | refine subS_cons (by first | rfl | (simp; done)) ?_)) fun s hJ => ?_
  obtain ⟨its, pls, at1⟩ := s
  obtain ⟨hJ, ha1, hok1⟩ := hJ
  simp only at hJ ha1 hok1 ⊢
  have hl1 := hok1.2.1
  have e : 0 < at1 → (((at1 : Int) - 1) / 2).toNat = (at1 - 1) / 2 := by omega
  have hp := hok1.2.2 ((at1 - 1) / 2) (by omega)
  have hp' : 0 < (at1 : Int) → 0 ≤ its.getD (((at1 : Int) - 1) / 2).toNat 0 ∧ its.getD (((at1 : Int) - 1) / 2).toNat 0 < keys.length := fun h => by rw [e (by omega)]; exact hp
  repeat' (first
  
    | refine aw_seq ?_
    | refine aw_region ?_
    | refine aw_region_q (by kernel_rfl) (by kernel_rfl) ?_
    | refine aw_block ?_
    | refine ao_nil ?_
    | refine ao_op rfl trivial ?_
    | refine aq_nil ?_
    | refine aq_op rfl trivial ?_
    | refine at_nil ?_
    | refine at_op rfl trivial ?_
    | refine am_nil ?_
    | refine am_op rfl trivial rfl ?_
    | refine aw_skip ?_
    | refine aw_condT rfl trivial ?_
    | refine aw_condF rfl trivial ?_
    | refine aw_condD rfl trivial (fun hc => ?_) (fun hc => ?_)
    | refine aw_condN rfl trivial (fun hc => ?_) (fun hc => ?_)
    | refine aw_condNB rfl trivial (fun hc => ?_) (fun hc => ?_)
    | refine aw_cond rfl trivial (fun hc => ?_) (fun hc => ?_)
    | refine aw_ret ?_
    | refine aw_exit ?_
    | refine ao_op rfl ?_ ?_
    | refine aq_op rfl ?_ ?_
    | refine at_op rfl ?_ ?_
    | refine am_op rfl ?_ rfl ?_
    | refine ao_box rfl trivial rfl rfl rfl ?_
    | refine ao_alloc rfl rfl rfl rfl ?_
    | refine ao_store rfl rfl trivial rfl trivial rfl rfl rfl rfl rfl ?_
    | refine ao_callG rfl (fun hg => h_before its keys pls (items.getD at_ 0) (its.getD (((at1 : Int) - 1) / 2).toNat 0) hi (hp' (of_decide_eq_true hg.1))) [0, 1, 2, 3] ?_ rfl rfl rfl rfl rfl rfl (by simp [kinds, Blk.isRow]) (by simp [bflats, bflat, vflats, vflat, D.flat, D.scal, Blk.flat]) rfl rfl rfl rfl rfl ?_
    | (show allP _; first | trivial | exact ob1 (fun h => h) | exact ob2 (fun h => h) (fun h => h) | exact ob1 (fun h => ⟨h.1, trivial⟩) | (simp only [allP, obg, grd, allT, InR, decide_eq_true_eq, Bool.and_eq_true, Bool.not_eq_true', decide_eq_false_iff_not, List.nil_append, List.cons_append, List.append_nil, and_true, true_and]; first | omega | (intros; omega) | (simp only [Blk.len, List.length_set, List.length_append, List.length_cons, List.length_nil]; first | omega | (intros; omega)) | (refine ⟨?_, ?_⟩ <;> intros <;> first | (with_reducible assumption) | omega) | ((repeat' refine And.intro ?_ ?_) <;> (intros; first | (with_reducible assumption) | omega | (simp only [Blk.len, List.length_set, List.length_append, List.length_cons, List.length_nil]; omega))) | ((try simp only [Bool.or_eq_true, Bool.or_eq_false_iff, Bool.and_eq_true, Bool.and_eq_false_iff, decide_eq_true_eq, decide_eq_false_iff_not, Bool.not_eq_true', Bool.not_eq_false'] at *); (try simp only [Blk.len] at *); first | omega | (intros; omega)) | (simp_all; done))))
  · simp only [Bool.and_eq_true, decide_eq_true_eq] at hc
    have h0 : 0 < at1 := by omega
    have e1 := e h0
    repeat' (first
    
      | refine aw_seq ?_
      | refine aw_region ?_
      | refine aw_region_q (by kernel_rfl) (by kernel_rfl) ?_
      | refine aw_block ?_
      | refine ao_nil ?_
      | refine ao_op rfl trivial ?_
      | refine aq_nil ?_
      | refine aq_op rfl trivial ?_
      | refine at_nil ?_
      | refine at_op rfl trivial ?_
      | refine am_nil ?_
      | refine am_op rfl trivial rfl ?_
      | refine aw_skip ?_
      | refine aw_condT rfl trivial ?_
      | refine aw_condF rfl trivial ?_
      | refine aw_condD rfl trivial (fun hc => ?_) (fun hc => ?_)
      | refine aw_condN rfl trivial (fun hc => ?_) (fun hc => ?_)
      | refine aw_condNB rfl trivial (fun hc => ?_) (fun hc => ?_)
      | refine aw_cond rfl trivial (fun hc => ?_) (fun hc => ?_)
      | refine aw_ret ?_
      | refine aw_exit ?_
      | refine ao_op rfl ?_ ?_
      | refine aq_op rfl ?_ ?_
      | refine at_op rfl ?_ ?_
      | refine am_op rfl ?_ rfl ?_
      | refine ao_box rfl trivial rfl rfl rfl ?_
      | refine ao_alloc rfl rfl rfl rfl ?_
      | refine ao_store rfl rfl trivial rfl trivial rfl rfl rfl rfl rfl ?_
      | refine ao_callO rfl (h_put its keys pls (its.getD (((at1 : Int) - 1) / 2).toNat 0) at1 (by rw [hok1.1]; exact hp' hc.1) (by omega)) [0, 1, 2, 3] trivial rfl rfl rfl rfl rfl rfl (by simp [kinds, Blk.isRow]) (by simp [bflats, bflat, vflats, vflat, D.flat, D.scal, Blk.flat]) rfl rfl rfl rfl rfl rfl ?_
      | (show allP _; first | trivial | exact ob1 (fun h => h) | exact ob2 (fun h => h) (fun h => h) | exact ob1 (fun h => ⟨h.1, trivial⟩) | (simp only [allP, obg, grd, allT, InR, decide_eq_true_eq, Bool.and_eq_true, Bool.not_eq_true', decide_eq_false_iff_not, List.nil_append, List.cons_append, List.append_nil, and_true, true_and]; first | omega | (intros; omega) | (simp only [Blk.len, List.length_set, List.length_append, List.length_cons, List.length_nil]; first | omega | (intros; omega)) | (refine ⟨?_, ?_⟩ <;> intros <;> first | (with_reducible assumption) | omega) | ((repeat' refine And.intro ?_ ?_) <;> (intros; first | (with_reducible assumption) | omega | (simp only [Blk.len, List.length_set, List.length_append, List.length_cons, List.length_nil]; omega))) | ((try simp only [Bool.or_eq_true, Bool.or_eq_false_iff, Bool.and_eq_true, Bool.and_eq_false_iff, decide_eq_true_eq, decide_eq_false_iff_not, Bool.not_eq_true', Bool.not_eq_false'] at *); (try simp only [Blk.len] at *); first | omega | (intros; omega)) | (simp_all; done))))
    refine ⟨(its.set at1 (its.getD ((at1 - 1) / 2) 0), pls.set (its.getD ((at1 - 1) / 2) 0).toNat at1, (at1 - 1) / 2), ⟨?_, by simp; omega, okH_set hok1 hp⟩, by simp; omega, ?_⟩
    · rw [← hJ]
      conv => rhs; rw [upF]
      rw [if_pos ⟨h0, by rw [← e1]; exact hc.2⟩]
    · refine weak_to ?_ ?_ rfl rfl
      · have e2 : ((at1 : Int) - 1) / 2 = ((at1 - 1) / 2 : Nat) := by omega
        repeat (first | exact subF_nil | refine subF_cons (by first | rfl | (rw [← e2]; rfl)) ?_)
      · repeat (first | exact subS_nil | refine subS_cons (by first | rfl | (rw [e1]; done) | (rw [e1]; rfl) | (simp only [e1]; done)) ?_)
  · have hno : ¬ (0 < at1 ∧ beforeB keys (items.getD at_ 0) (its.getD ((at1 - 1) / 2) 0) = true) := by
      rintro ⟨h0, h1⟩
      rw [e h0, h1, decide_eq_true (by omega)] at hc
      cases hc
    repeat' (first
    
      | refine aw_seq ?_
      | refine aw_region ?_
      | refine aw_region_q (by kernel_rfl) (by kernel_rfl) ?_
      | refine aw_block ?_
      | refine ao_nil ?_
      | refine ao_op rfl trivial ?_
      | refine aq_nil ?_
      | refine aq_op rfl trivial ?_
      | refine at_nil ?_
      | refine at_op rfl trivial ?_
      | refine am_nil ?_
      | refine am_op rfl trivial rfl ?_
      | refine aw_skip ?_
      | refine aw_condT rfl trivial ?_
      | refine aw_condF rfl trivial ?_
      | refine aw_condD rfl trivial (fun hc => ?_) (fun hc => ?_)
      | refine aw_condN rfl trivial (fun hc => ?_) (fun hc => ?_)
      | refine aw_condNB rfl trivial (fun hc => ?_) (fun hc => ?_)
      | refine aw_cond rfl trivial (fun hc => ?_) (fun hc => ?_)
      | refine aw_ret ?_
      | refine aw_exit ?_
      | refine ao_op rfl ?_ ?_
      | refine aq_op rfl ?_ ?_
      | refine at_op rfl ?_ ?_
      | refine am_op rfl ?_ rfl ?_
      | refine ao_box rfl trivial rfl rfl rfl ?_
      | refine ao_alloc rfl rfl rfl rfl ?_
      | refine ao_store rfl rfl trivial rfl trivial rfl rfl rfl rfl rfl ?_
      | refine ao_callO rfl (h_put its keys pls (items.getD at_ 0) at1 (by rw [hok1.1]; exact hi) (by omega)) [0, 1, 2, 3] trivial rfl rfl rfl rfl rfl rfl (by simp [kinds, Blk.isRow]) (by simp [bflats, bflat, vflats, vflat, D.flat, D.scal, Blk.flat]) rfl rfl rfl rfl rfl rfl ?_
      | (show allP _; first | trivial | exact ob1 (fun h => h) | exact ob2 (fun h => h) (fun h => h) | exact ob1 (fun h => ⟨h.1, trivial⟩) | (simp only [allP, obg, grd, allT, InR, decide_eq_true_eq, Bool.and_eq_true, Bool.not_eq_true', decide_eq_false_iff_not, List.nil_append, List.cons_append, List.append_nil, and_true, true_and]; first | omega | (intros; omega) | (simp only [Blk.len, List.length_set, List.length_append, List.length_cons, List.length_nil]; first | omega | (intros; omega)) | (refine ⟨?_, ?_⟩ <;> intros <;> first | (with_reducible assumption) | omega) | ((repeat' refine And.intro ?_ ?_) <;> (intros; first | (with_reducible assumption) | omega | (simp only [Blk.len, List.length_set, List.length_append, List.length_cons, List.length_nil]; omega))) | ((try simp only [Bool.or_eq_true, Bool.or_eq_false_iff, Bool.and_eq_true, Bool.and_eq_false_iff, decide_eq_true_eq, decide_eq_false_iff_not, Bool.not_eq_true', Bool.not_eq_false'] at *); (try simp only [Blk.len] at *); first | omega | (intros; omega)) | (simp_all; done))))
    rw [← hJ, upF, if_neg hno]
    (first | refine retON rfl (by (repeat (first | exact subS_nil | refine subS_cons (by first | rfl | rfl) ?_))) rfl | refine retON' rfl (by (repeat (first | exact subS_nil | refine subS_cons (by first | rfl | rfl) ?_))) rfl)

end Go.Proofs.Ytcnfggpcploehaa

/- Layer 3: the heap: down. -/
namespace Go.Proofs.Ytcnfggpcploehaa
set_option maxRecDepth 10000
open Go.Wk

set_option maxHeartbeats 2000000 in
theorem h_down (items keys places : List Int) (at_ : Nat) (ha : at_ < items.length) (hok : okH keys items places) :
    CtrO Try.prog 107 [.ptr 0 0, iV at_] (hpS items keys places) (hpS (downF keys (items.getD at_ 0) items places at_).1 keys (downF keys (items.getD at_ 0) items places at_).2) (.tup []) := by
  refine spec_obj envOK (enters_of Try.func107 (by kernel_rfl) (by kernel_rfl)) Try.func107 rfl rfl _ rfl (Nat.le_of_ble_eq_true rfl) rfl (by simp [kinds, Blk.isRow]) fun w0 ρ0 => ?_
  have hl := hok.2.1
  have hi := hok.2.2 at_ ha
  repeat' (first
  
    | refine aw_seq ?_
    | refine aw_region ?_
    | refine aw_region_q (by kernel_rfl) (by kernel_rfl) ?_
    | refine aw_block ?_
    | refine ao_nil ?_
    | refine ao_op rfl trivial ?_
    | refine aq_nil ?_
    | refine aq_op rfl trivial ?_
    | refine at_nil ?_
    | refine at_op rfl trivial ?_
    | refine am_nil ?_
    | refine am_op rfl trivial rfl ?_
    | refine aw_skip ?_
    | refine aw_condT rfl trivial ?_
    | refine aw_condF rfl trivial ?_
    | refine aw_condD rfl trivial (fun hc => ?_) (fun hc => ?_)
    | refine aw_condN rfl trivial (fun hc => ?_) (fun hc => ?_)
    | refine aw_condNB rfl trivial (fun hc => ?_) (fun hc => ?_)
    | refine aw_cond rfl trivial (fun hc => ?_) (fun hc => ?_)
    | refine aw_ret ?_
    | refine aw_exit ?_
    | refine ao_op rfl ?_ ?_
    | refine aq_op rfl ?_ ?_
    | refine at_op rfl ?_ ?_
    | refine am_op rfl ?_ rfl ?_
    | refine ao_box rfl trivial rfl rfl rfl ?_
    | refine ao_alloc rfl rfl rfl rfl ?_
    | refine ao_store rfl rfl trivial rfl trivial rfl rfl rfl rfl rfl ?_
  
    | (show allP _; first | trivial | exact ob1 (fun h => h) | exact ob2 (fun h => h) (fun h => h) | exact ob1 (fun h => ⟨h.1, trivial⟩) | (simp only [allP, obg, grd, allT, InR, decide_eq_true_eq, Bool.and_eq_true, Bool.not_eq_true', decide_eq_false_iff_not, List.nil_append, List.cons_append, List.append_nil, and_true, true_and]; first | omega | (intros; omega) | (simp only [Blk.len, List.length_set, List.length_append, List.length_cons, List.length_nil]; first | omega | (intros; omega)) | (refine ⟨?_, ?_⟩ <;> intros <;> first | (with_reducible assumption) | omega) | ((repeat' refine And.intro ?_ ?_) <;> (intros; first | (with_reducible assumption) | omega | (simp only [Blk.len, List.length_set, List.length_append, List.length_cons, List.length_nil]; omega))) | ((try simp only [Bool.or_eq_true, Bool.or_eq_false_iff, Bool.and_eq_true, Bool.and_eq_false_iff, decide_eq_true_eq, decide_eq_false_iff_not, Bool.not_eq_true', Bool.not_eq_false'] at *); (try simp only [Blk.len] at *); first | omega | (intros; omega)) | (simp_all; done))))
  refine aw_loop (ι := List Int × List Int × Nat) (fun s => [(4, [], iV (items.getD at_ 0)), (0, [], .ptr 0 0), (1, [], iV s.2.2)]) (fun s => hpS s.1 keys s.2.1)
    (fun s => downF keys (items.getD at_ 0) s.1 s.2.1 s.2.2 = downF keys (items.getD at_ 0) items places at_ ∧ s.2.2 < s.1.length ∧ okH keys s.1 s.2.1) (fun s => s.1.length - s.2.2) (items, places, at_) ⟨rfl, ha, hok⟩ (fun _ => Nat.le_of_ble_eq_true rfl) (by refine weak_to ?_ ?_ rfl rfl
                                                                                                                                                                                                                                                                   · repeat (first | exact subF_nil | refine subF_cons (by first | rfl | (simp [look]; done)) ?_)
                                                                                                                                                                                                                                                                   · repeat (first | exact subS_nil | refine subS_cons (by first | rfl | (simp; done)) ?_)) fun s hJ => ?_
  obtain ⟨its, pls, at1⟩ := s
  obtain ⟨hJ, ha1, hok1⟩ := hJ
  simp only at hJ ha1 hok1 ⊢
  have hl1 := hok1.2.1
  have h1 : (2 * (at1 : Int) + 1).toNat = 2 * at1 + 1 := by omega
  have h2 : (2 * (at1 : Int) + 1 + 1).toNat = 2 * at1 + 2 := by omega
  have k1 : 2 * (at1 : Int) + 1 < its.length → 0 ≤ its.getD (2 * (at1 : Int) + 1).toNat 0 ∧ its.getD (2 * (at1 : Int) + 1).toNat 0 < keys.length := fun h => hok1.2.2 _ (by omega)
  have k2 : 2 * (at1 : Int) + 1 + 1 < its.length → 0 ≤ its.getD (2 * (at1 : Int) + 1 + 1).toNat 0 ∧ its.getD (2 * (at1 : Int) + 1 + 1).toNat 0 < keys.length := fun h => hok1.2.2 _ (by omega)
  repeat' (first
    | refine aw_region_t 25 (by kernel_rfl) (by kernel_rfl) rfl ?_
    | refine aw_seq ?_
    | refine aw_region ?_
    | refine aw_region_q (by kernel_rfl) (by kernel_rfl) ?_
    | refine aw_block ?_
    | refine ao_nil ?_
    | refine ao_op rfl trivial ?_
    | refine aq_nil ?_
    | refine aq_op rfl trivial ?_
    | refine at_nil ?_
    | refine at_op rfl trivial ?_
    | refine am_nil ?_
    | refine am_op rfl trivial rfl ?_
    | refine aw_skip ?_
    | refine aw_condT rfl trivial ?_
    | refine aw_condF rfl trivial ?_
    | refine aw_condD rfl trivial (fun hc => ?_) (fun hc => ?_)
    | refine aw_condN rfl trivial (fun hc => ?_) (fun hc => ?_)
    | refine aw_condNB rfl trivial (fun hc => ?_) (fun hc => ?_)
    | refine aw_cond rfl trivial (fun hc => ?_) (fun hc => ?_)
    | refine aw_ret ?_
    | refine aw_exit ?_
    | refine ao_op rfl ?_ ?_
    | refine aq_op rfl ?_ ?_
    | refine at_op rfl ?_ ?_
    | refine am_op rfl ?_ rfl ?_
    | refine ao_box rfl trivial rfl rfl rfl ?_
    | refine ao_alloc rfl rfl rfl rfl ?_
    | refine ao_store rfl rfl trivial rfl trivial rfl rfl rfl rfl rfl ?_
    | refine ao_callG rfl (fun hg => h_before its keys pls (its.getD (2 * (at1 : Int) + 1 + 1).toNat 0) (its.getD (2 * (at1 : Int) + 1).toNat 0) (k2 (of_decide_eq_true hg.1)) (k1 (by have := of_decide_eq_true hg.1; simp only [Blk.len] at this; omega))) [0, 1, 2, 3] ?_ rfl rfl rfl rfl rfl rfl (by simp [kinds, Blk.isRow]) (by simp [bflats, bflat, vflats, vflat, D.flat, D.scal, Blk.flat]) rfl rfl rfl rfl rfl ?_
    | refine ao_callG rfl (fun hg => h_before its keys pls (its.getD (2 * (at1 : Int) + 1).toNat 0) (items.getD at_ 0) (k1 (by have := hg.1; simp only [Bool.not_eq_true', decide_eq_false_iff_not] at this; simp only [Blk.len] at this; omega)) hi) [0, 1, 2, 3] ?_ rfl rfl rfl rfl rfl rfl (by simp [kinds, Blk.isRow]) (by simp [bflats, bflat, vflats, vflat, D.flat, D.scal, Blk.flat]) rfl rfl rfl rfl rfl ?_
    | refine ao_callG rfl (fun hg => h_before its keys pls (its.getD (2 * (at1 : Int) + 1 + 1).toNat 0) (items.getD at_ 0) (k2 (by have := hg.1; simp only [Bool.not_eq_true', decide_eq_false_iff_not] at this; simp only [Blk.len] at this; omega)) hi) [0, 1, 2, 3] ?_ rfl rfl rfl rfl rfl rfl (by simp [kinds, Blk.isRow]) (by simp [bflats, bflat, vflats, vflat, D.flat, D.scal, Blk.flat]) rfl rfl rfl rfl rfl ?_
    | (show allP _; first | trivial | exact ob1 (fun h => h) | exact ob2 (fun h => h) (fun h => h) | exact ob1 (fun h => ⟨h.1, trivial⟩) | (simp only [allP, obg, grd, allT, InR, decide_eq_true_eq, Bool.and_eq_true, Bool.not_eq_true', decide_eq_false_iff_not, List.nil_append, List.cons_append, List.append_nil, and_true, true_and]; first | omega | (intros; omega) | (simp only [Blk.len, List.length_set, List.length_append, List.length_cons, List.length_nil]; first | omega | (intros; omega)) | (refine ⟨?_, ?_⟩ <;> intros <;> first | (with_reducible assumption) | omega) | ((repeat' refine And.intro ?_ ?_) <;> (intros; first | (with_reducible assumption) | omega | (simp only [Blk.len, List.length_set, List.length_append, List.length_cons, List.length_nil]; omega))) | ((try simp only [Bool.or_eq_true, Bool.or_eq_false_iff, Bool.and_eq_true, Bool.and_eq_false_iff, decide_eq_true_eq, decide_eq_false_iff_not, Bool.not_eq_true', Bool.not_eq_false'] at *); (try simp only [Blk.len] at *); first | omega | (intros; omega)) | (simp_all; done))))
  · rename_i h
    have hk : kidF keys its at1 = 2 * at1 + 2 := by
      rw [h1, h2] at h
      simp only [Bool.and_eq_true, decide_eq_true_eq] at h
      unfold kidF
      rw [if_pos ⟨by have := h.1; simp only [Blk.len] at this; omega, h.2⟩]
    have hno : ¬ (kidF keys its at1 < its.length ∧ beforeB keys (its.getD (kidF keys its at1) 0) (items.getD at_ 0) = true) := by
      rw [hk]
      rintro ⟨q1, q2⟩
      rw [h2] at hc
      rw [q2] at hc
      simp only [Bool.or_eq_true, decide_eq_true_eq, Bool.not_true] at hc
      simp only [Blk.len] at hc
      simp at hc; omega
    repeat' (first
    
      | refine aw_seq ?_
      | refine aw_region ?_
      | refine aw_region_q (by kernel_rfl) (by kernel_rfl) ?_
      | refine aw_block ?_
      | refine ao_nil ?_
      | refine ao_op rfl trivial ?_
      | refine aq_nil ?_
      | refine aq_op rfl trivial ?_
      | refine at_nil ?_
      | refine at_op rfl trivial ?_
      | refine am_nil ?_
      | refine am_op rfl trivial rfl ?_
      | refine aw_skip ?_
      | refine aw_condT rfl trivial ?_
      | refine aw_condF rfl trivial ?_
      | refine aw_condD rfl trivial (fun hc => ?_) (fun hc => ?_)
      | refine aw_condN rfl trivial (fun hc => ?_) (fun hc => ?_)
      | refine aw_condNB rfl trivial (fun hc => ?_) (fun hc => ?_)
      | refine aw_cond rfl trivial (fun hc => ?_) (fun hc => ?_)
      | refine aw_ret ?_
      | refine aw_exit ?_
      | refine ao_op rfl ?_ ?_
      | refine aq_op rfl ?_ ?_
      | refine at_op rfl ?_ ?_
      | refine am_op rfl ?_ rfl ?_
      | refine ao_box rfl trivial rfl rfl rfl ?_
      | refine ao_alloc rfl rfl rfl rfl ?_
      | refine ao_store rfl rfl trivial rfl trivial rfl rfl rfl rfl rfl ?_
      | refine ao_callO rfl (h_put its keys pls (items.getD at_ 0) at1 (by rw [hok1.1]; exact hi) (by omega)) [0, 1, 2, 3] trivial rfl rfl rfl rfl rfl rfl (by simp [kinds, Blk.isRow]) (by simp [bflats, bflat, vflats, vflat, D.flat, D.scal, Blk.flat]) rfl rfl rfl rfl rfl rfl ?_
      | (show allP _; first | trivial | exact ob1 (fun h => h) | exact ob2 (fun h => h) (fun h => h) | exact ob1 (fun h => ⟨h.1, trivial⟩) | (simp only [allP, obg, grd, allT, InR, decide_eq_true_eq, Bool.and_eq_true, Bool.not_eq_true', decide_eq_false_iff_not, List.nil_append, List.cons_append, List.append_nil, and_true, true_and]; first | omega | (intros; omega) | (simp only [Blk.len, List.length_set, List.length_append, List.length_cons, List.length_nil]; first | omega | (intros; omega)) | (refine ⟨?_, ?_⟩ <;> intros <;> first | (with_reducible assumption) | omega) | ((repeat' refine And.intro ?_ ?_) <;> (intros; first | (with_reducible assumption) | omega | (simp only [Blk.len, List.length_set, List.length_append, List.length_cons, List.length_nil]; omega))) | ((try simp only [Bool.or_eq_true, Bool.or_eq_false_iff, Bool.and_eq_true, Bool.and_eq_false_iff, decide_eq_true_eq, decide_eq_false_iff_not, Bool.not_eq_true', Bool.not_eq_false'] at *); (try simp only [Blk.len] at *); first | omega | (intros; omega)) | (simp_all; done))))
    rw [← hJ, downF, if_neg hno]
    (first | refine retON rfl (by (repeat (first | exact subS_nil | refine subS_cons (by first | rfl | rfl) ?_))) rfl | refine retON' rfl (by (repeat (first | exact subS_nil | refine subS_cons (by first | rfl | rfl) ?_))) rfl)
  · rename_i h
    have hk : kidF keys its at1 = 2 * at1 + 2 := by
      rw [h1, h2] at h
      simp only [Bool.and_eq_true, decide_eq_true_eq] at h
      unfold kidF
      rw [if_pos ⟨by have := h.1; simp only [Blk.len] at this; omega, h.2⟩]
    simp only [Bool.or_eq_false_iff, decide_eq_false_iff_not, Bool.not_eq_false'] at hc
    obtain ⟨q1, q2⟩ := hc
    simp only [Blk.len] at q1
    rw [h2] at q2
    have hkl : kidF keys its at1 < its.length := by omega
    have hp := hok1.2.2 _ hkl
    repeat' (first
    
      | refine aw_seq ?_
      | refine aw_region ?_
      | refine aw_region_q (by kernel_rfl) (by kernel_rfl) ?_
      | refine aw_block ?_
      | refine ao_nil ?_
      | refine ao_op rfl trivial ?_
      | refine aq_nil ?_
      | refine aq_op rfl trivial ?_
      | refine at_nil ?_
      | refine at_op rfl trivial ?_
      | refine am_nil ?_
      | refine am_op rfl trivial rfl ?_
      | refine aw_skip ?_
      | refine aw_condT rfl trivial ?_
      | refine aw_condF rfl trivial ?_
      | refine aw_condD rfl trivial (fun hc => ?_) (fun hc => ?_)
      | refine aw_condN rfl trivial (fun hc => ?_) (fun hc => ?_)
      | refine aw_condNB rfl trivial (fun hc => ?_) (fun hc => ?_)
      | refine aw_cond rfl trivial (fun hc => ?_) (fun hc => ?_)
      | refine aw_ret ?_
      | refine aw_exit ?_
      | refine ao_op rfl ?_ ?_
      | refine aq_op rfl ?_ ?_
      | refine at_op rfl ?_ ?_
      | refine am_op rfl ?_ rfl ?_
      | refine ao_box rfl trivial rfl rfl rfl ?_
      | refine ao_alloc rfl rfl rfl rfl ?_
      | refine ao_store rfl rfl trivial rfl trivial rfl rfl rfl rfl rfl ?_
      | refine ao_callO rfl (h_put its keys pls (its.getD (2 * (at1 : Int) + 1 + 1).toNat 0) at1 (by rw [hok1.1, h2, ← hk]; exact hp) (by omega)) [0, 1, 2, 3] trivial rfl rfl rfl rfl rfl rfl (by simp [kinds, Blk.isRow]) (by simp [bflats, bflat, vflats, vflat, D.flat, D.scal, Blk.flat]) rfl rfl rfl rfl rfl rfl ?_
      | (show allP _; first | trivial | exact ob1 (fun h => h) | exact ob2 (fun h => h) (fun h => h) | exact ob1 (fun h => ⟨h.1, trivial⟩) | (simp only [allP, obg, grd, allT, InR, decide_eq_true_eq, Bool.and_eq_true, Bool.not_eq_true', decide_eq_false_iff_not, List.nil_append, List.cons_append, List.append_nil, and_true, true_and]; first | omega | (intros; omega) | (simp only [Blk.len, List.length_set, List.length_append, List.length_cons, List.length_nil]; first | omega | (intros; omega)) | (refine ⟨?_, ?_⟩ <;> intros <;> first | (with_reducible assumption) | omega) | ((repeat' refine And.intro ?_ ?_) <;> (intros; first | (with_reducible assumption) | omega | (simp only [Blk.len, List.length_set, List.length_append, List.length_cons, List.length_nil]; omega))) | ((try simp only [Bool.or_eq_true, Bool.or_eq_false_iff, Bool.and_eq_true, Bool.and_eq_false_iff, decide_eq_true_eq, decide_eq_false_iff_not, Bool.not_eq_true', Bool.not_eq_false'] at *); (try simp only [Blk.len] at *); first | omega | (intros; omega)) | (simp_all; done))))
    refine ⟨(its.set at1 (its.getD (kidF keys its at1) 0), pls.set (its.getD (kidF keys its at1) 0).toNat at1, kidF keys its at1), ⟨?_, by simpa using hkl, okH_set hok1 hp⟩, by simp; omega, ?_⟩
    · rw [← hJ]
      conv => rhs; rw [downF]
      rw [if_pos ⟨hkl, by rw [hk]; exact q2⟩]
    · rw [hk]
      refine weak_to ?_ ?_ rfl rfl
      · repeat (first | exact subF_nil | refine subF_cons (by first | rfl | (simp [look]; omega)) ?_)
      · repeat (first | exact subS_nil | refine subS_cons (by first | rfl | (rw [h2]; done) | (rw [h2]; rfl) | (simp only [h2]; done)) ?_)
  · rename_i h
    have hk : kidF keys its at1 = 2 * at1 + 1 := by
      rw [h1, h2] at h
      unfold kidF
      rw [if_neg]
      rintro ⟨q1, q2⟩
      rw [q2, Bool.and_true] at h
      have := of_decide_eq_false h
      simp only [Blk.len] at this; omega
    have hno : ¬ (kidF keys its at1 < its.length ∧ beforeB keys (its.getD (kidF keys its at1) 0) (items.getD at_ 0) = true) := by
      rw [hk]
      rintro ⟨q1, q2⟩
      rw [h1] at hc
      rw [q2] at hc
      simp only [Bool.or_eq_true, decide_eq_true_eq, Bool.not_true] at hc
      simp only [Blk.len] at hc
      simp at hc; omega
    repeat' (first
    
      | refine aw_seq ?_
      | refine aw_region ?_
      | refine aw_region_q (by kernel_rfl) (by kernel_rfl) ?_
      | refine aw_block ?_
      | refine ao_nil ?_
      | refine ao_op rfl trivial ?_
      | refine aq_nil ?_
      | refine aq_op rfl trivial ?_
      | refine at_nil ?_
      | refine at_op rfl trivial ?_
      | refine am_nil ?_
      | refine am_op rfl trivial rfl ?_
      | refine aw_skip ?_
      | refine aw_condT rfl trivial ?_
      | refine aw_condF rfl trivial ?_
      | refine aw_condD rfl trivial (fun hc => ?_) (fun hc => ?_)
      | refine aw_condN rfl trivial (fun hc => ?_) (fun hc => ?_)
      | refine aw_condNB rfl trivial (fun hc => ?_) (fun hc => ?_)
      | refine aw_cond rfl trivial (fun hc => ?_) (fun hc => ?_)
      | refine aw_ret ?_
      | refine aw_exit ?_
      | refine ao_op rfl ?_ ?_
      | refine aq_op rfl ?_ ?_
      | refine at_op rfl ?_ ?_
      | refine am_op rfl ?_ rfl ?_
      | refine ao_box rfl trivial rfl rfl rfl ?_
      | refine ao_alloc rfl rfl rfl rfl ?_
      | refine ao_store rfl rfl trivial rfl trivial rfl rfl rfl rfl rfl ?_
      | refine ao_callO rfl (h_put its keys pls (items.getD at_ 0) at1 (by rw [hok1.1]; exact hi) (by omega)) [0, 1, 2, 3] trivial rfl rfl rfl rfl rfl rfl (by simp [kinds, Blk.isRow]) (by simp [bflats, bflat, vflats, vflat, D.flat, D.scal, Blk.flat]) rfl rfl rfl rfl rfl rfl ?_
      | (show allP _; first | trivial | exact ob1 (fun h => h) | exact ob2 (fun h => h) (fun h => h) | exact ob1 (fun h => ⟨h.1, trivial⟩) | (simp only [allP, obg, grd, allT, InR, decide_eq_true_eq, Bool.and_eq_true, Bool.not_eq_true', decide_eq_false_iff_not, List.nil_append, List.cons_append, List.append_nil, and_true, true_and]; first | omega | (intros; omega) | (simp only [Blk.len, List.length_set, List.length_append, List.length_cons, List.length_nil]; first | omega | (intros; omega)) | (refine ⟨?_, ?_⟩ <;> intros <;> first | (with_reducible assumption) | omega) | ((repeat' refine And.intro ?_ ?_) <;> (intros; first | (with_reducible assumption) | omega | (simp only [Blk.len, List.length_set, List.length_append, List.length_cons, List.length_nil]; omega))) | ((try simp only [Bool.or_eq_true, Bool.or_eq_false_iff, Bool.and_eq_true, Bool.and_eq_false_iff, decide_eq_true_eq, decide_eq_false_iff_not, Bool.not_eq_true', Bool.not_eq_false'] at *); (try simp only [Blk.len] at *); first | omega | (intros; omega)) | (simp_all; done))))
    rw [← hJ, downF, if_neg hno]
    (first | refine retON rfl (by (repeat (first | exact subS_nil | refine subS_cons (by first | rfl | rfl) ?_))) rfl | refine retON' rfl (by (repeat (first | exact subS_nil | refine subS_cons (by first | rfl | rfl) ?_))) rfl)
  · rename_i h
    have hk : kidF keys its at1 = 2 * at1 + 1 := by
      rw [h1, h2] at h
      unfold kidF
      rw [if_neg]
      rintro ⟨q1, q2⟩
      rw [q2, Bool.and_true] at h
      have := of_decide_eq_false h
      simp only [Blk.len] at this; omega
    simp only [Bool.or_eq_false_iff, decide_eq_false_iff_not, Bool.not_eq_false'] at hc
    obtain ⟨q1, q2⟩ := hc
    simp only [Blk.len] at q1
    rw [h1] at q2
    have hkl : kidF keys its at1 < its.length := by omega
    have hp := hok1.2.2 _ hkl
    repeat' (first
    
      | refine aw_seq ?_
      | refine aw_region ?_
      | refine aw_region_q (by kernel_rfl) (by kernel_rfl) ?_
      | refine aw_block ?_
      | refine ao_nil ?_
      | refine ao_op rfl trivial ?_
      | refine aq_nil ?_
      | refine aq_op rfl trivial ?_
      | refine at_nil ?_
      | refine at_op rfl trivial ?_
      | refine am_nil ?_
      | refine am_op rfl trivial rfl ?_
      | refine aw_skip ?_
      | refine aw_condT rfl trivial ?_
      | refine aw_condF rfl trivial ?_
      | refine aw_condD rfl trivial (fun hc => ?_) (fun hc => ?_)
      | refine aw_condN rfl trivial (fun hc => ?_) (fun hc => ?_)
      | refine aw_condNB rfl trivial (fun hc => ?_) (fun hc => ?_)
      | refine aw_cond rfl trivial (fun hc => ?_) (fun hc => ?_)
      | refine aw_ret ?_
      | refine aw_exit ?_
      | refine ao_op rfl ?_ ?_
      | refine aq_op rfl ?_ ?_
      | refine at_op rfl ?_ ?_
      | refine am_op rfl ?_ rfl ?_
      | refine ao_box rfl trivial rfl rfl rfl ?_
      | refine ao_alloc rfl rfl rfl rfl ?_
      | refine ao_store rfl rfl trivial rfl trivial rfl rfl rfl rfl rfl ?_
      | refine ao_callO rfl (h_put its keys pls (its.getD (2 * (at1 : Int) + 1).toNat 0) at1 (by rw [hok1.1, h1, ← hk]; exact hp) (by omega)) [0, 1, 2, 3] trivial rfl rfl rfl rfl rfl rfl (by simp [kinds, Blk.isRow]) (by simp [bflats, bflat, vflats, vflat, D.flat, D.scal, Blk.flat]) rfl rfl rfl rfl rfl rfl ?_
      | (show allP _; first | trivial | exact ob1 (fun h => h) | exact ob2 (fun h => h) (fun h => h) | exact ob1 (fun h => ⟨h.1, trivial⟩) | (simp only [allP, obg, grd, allT, InR, decide_eq_true_eq, Bool.and_eq_true, Bool.not_eq_true', decide_eq_false_iff_not, List.nil_append, List.cons_append, List.append_nil, and_true, true_and]; first | omega | (intros; omega) | (simp only [Blk.len, List.length_set, List.length_append, List.length_cons, List.length_nil]; first | omega | (intros; omega)) | (refine ⟨?_, ?_⟩ <;> intros <;> first | (with_reducible assumption) | omega) | ((repeat' refine And.intro ?_ ?_) <;> (intros; first | (with_reducible assumption) | omega | (simp only [Blk.len, List.length_set, List.length_append, List.length_cons, List.length_nil]; omega))) | ((try simp only [Bool.or_eq_true, Bool.or_eq_false_iff, Bool.and_eq_true, Bool.and_eq_false_iff, decide_eq_true_eq, decide_eq_false_iff_not, Bool.not_eq_true', Bool.not_eq_false'] at *); (try simp only [Blk.len] at *); first | omega | (intros; omega)) | (simp_all; done))))
    refine ⟨(its.set at1 (its.getD (kidF keys its at1) 0), pls.set (its.getD (kidF keys its at1) 0).toNat at1, kidF keys its at1), ⟨?_, by simpa using hkl, okH_set hok1 hp⟩, by simp; omega, ?_⟩
    · rw [← hJ]
      conv => rhs; rw [downF]
      rw [if_pos ⟨hkl, by rw [hk]; exact q2⟩]
    · rw [hk]
      refine weak_to ?_ ?_ rfl rfl
      · repeat (first | exact subF_nil | refine subF_cons (by first | rfl | (simp [look]; omega)) ?_)
      · repeat (first | exact subS_nil | refine subS_cons (by first | rfl | (rw [h1]; done) | (rw [h1]; rfl) | (simp only [h1]; done)) ?_)

end Go.Proofs.Ytcnfggpcploehaa

/- Layer 3: the heap: has, Key. -/
namespace Go.Proofs.Ytcnfggpcploehaa
set_option maxRecDepth 10000
open Go.Wk

theorem h_has (items keys places : List Int) (i : Int) :
    CtrO Try.prog 105 [.ptr 0 0, iV i] (hpS items keys places) (hpS items keys places) (.d (bD (decide (0 ≤ i) && decide (i < places.length)))) := by
  refine spec_obj envOK (enters_of Try.func105 (by kernel_rfl) (by kernel_rfl)) Try.func105 rfl rfl _ rfl (Nat.le_of_ble_eq_true rfl) rfl (by simp [kinds, Blk.isRow]) fun w0 ρ0 => ?_
  repeat' (first
  
    | refine aw_seq ?_
    | refine aw_region ?_
    | refine aw_region_q (by kernel_rfl) (by kernel_rfl) ?_
    | refine aw_block ?_
    | refine ao_nil ?_
    | refine ao_op rfl trivial ?_
    | refine aq_nil ?_
    | refine aq_op rfl trivial ?_
    | refine at_nil ?_
    | refine at_op rfl trivial ?_
    | refine am_nil ?_
    | refine am_op rfl trivial rfl ?_
    | refine aw_skip ?_
    | refine aw_condT rfl trivial ?_
    | refine aw_condF rfl trivial ?_
    | refine aw_condD rfl trivial (fun hc => ?_) (fun hc => ?_)
    | refine aw_condN rfl trivial (fun hc => ?_) (fun hc => ?_)
    | refine aw_condNB rfl trivial (fun hc => ?_) (fun hc => ?_)
    | refine aw_cond rfl trivial (fun hc => ?_) (fun hc => ?_)
    | refine aw_ret ?_
    | refine aw_exit ?_
    | refine ao_op rfl ?_ ?_
    | refine aq_op rfl ?_ ?_
    | refine at_op rfl ?_ ?_
    | refine am_op rfl ?_ rfl ?_
    | refine ao_box rfl trivial rfl rfl rfl ?_
    | refine ao_alloc rfl rfl rfl rfl ?_
    | refine ao_store rfl rfl trivial rfl trivial rfl rfl rfl rfl rfl ?_
  
    | (show allP _; first | trivial | exact ob1 (fun h => h) | exact ob2 (fun h => h) (fun h => h) | exact ob1 (fun h => ⟨h.1, trivial⟩) | (simp only [allP, obg, grd, allT, InR, decide_eq_true_eq, Bool.and_eq_true, Bool.not_eq_true', decide_eq_false_iff_not, List.nil_append, List.cons_append, List.append_nil, and_true, true_and]; first | omega | (intros; omega) | (simp only [Blk.len, List.length_set, List.length_append, List.length_cons, List.length_nil]; first | omega | (intros; omega)) | (refine ⟨?_, ?_⟩ <;> intros <;> first | (with_reducible assumption) | omega) | ((repeat' refine And.intro ?_ ?_) <;> (intros; first | (with_reducible assumption) | omega | (simp only [Blk.len, List.length_set, List.length_append, List.length_cons, List.length_nil]; omega))) | ((try simp only [Bool.or_eq_true, Bool.or_eq_false_iff, Bool.and_eq_true, Bool.and_eq_false_iff, decide_eq_true_eq, decide_eq_false_iff_not, Bool.not_eq_true', Bool.not_eq_false'] at *); (try simp only [Blk.len] at *); first | omega | (intros; omega)) | (simp_all; done))))
  refine retO1 rfl (by (repeat (first | exact subS_nil | refine subS_cons (by first | rfl | rfl) ?_))) rfl rfl ?_
  rfl

theorem h_Key (items keys places : List Int) (i : Int) (hi : 0 ≤ i ∧ i < keys.length) (hok : places.length = keys.length) :
    CtrO Try.prog 100 [.ptr 0 0, iV i] (hpS items keys places) (hpS items keys places) (.tup [iV (bif decide (gI places i < 0) then 0 else gI keys i), .d (bD (!decide (gI places i < 0)))]) := by
  refine spec_obj envOK (enters_of Try.func100 (by kernel_rfl) (by kernel_rfl)) Try.func100 rfl rfl _ rfl (Nat.le_of_ble_eq_true rfl) rfl (by simp [kinds, Blk.isRow]) fun w0 ρ0 => ?_
  have h1 : (decide (0 ≤ i) && decide (i < (places.length : Int))) = true := by simp; omega
  repeat' (first
  
    | refine aw_seq ?_
    | refine aw_region ?_
    | refine aw_region_q (by kernel_rfl) (by kernel_rfl) ?_
    | refine aw_block ?_
    | refine ao_nil ?_
    | refine ao_op rfl trivial ?_
    | refine aq_nil ?_
    | refine aq_op rfl trivial ?_
    | refine at_nil ?_
    | refine at_op rfl trivial ?_
    | refine am_nil ?_
    | refine am_op rfl trivial rfl ?_
    | refine aw_skip ?_
    | refine aw_condT rfl trivial ?_
    | refine aw_condF rfl trivial ?_
    | refine aw_condD rfl trivial (fun hc => ?_) (fun hc => ?_)
    | refine aw_condN rfl trivial (fun hc => ?_) (fun hc => ?_)
    | refine aw_condNB rfl trivial (fun hc => ?_) (fun hc => ?_)
    | refine aw_cond rfl trivial (fun hc => ?_) (fun hc => ?_)
    | refine aw_ret ?_
    | refine aw_exit ?_
    | refine ao_op rfl ?_ ?_
    | refine aq_op rfl ?_ ?_
    | refine at_op rfl ?_ ?_
    | refine am_op rfl ?_ rfl ?_
    | refine ao_box rfl trivial rfl rfl rfl ?_
    | refine ao_alloc rfl rfl rfl rfl ?_
    | refine ao_store rfl rfl trivial rfl trivial rfl rfl rfl rfl rfl ?_
    | refine ao_callO rfl (h_has items keys places i) [0, 1, 2, 3] trivial rfl rfl rfl rfl rfl rfl (by simp [kinds, Blk.isRow]) (by simp [bflats, bflat, vflats, vflat, D.flat, D.scal, Blk.flat]) rfl rfl rfl rfl rfl rfl ?_
    | (show allP _; first | trivial | exact ob1 (fun h => h) | exact ob2 (fun h => h) (fun h => h) | exact ob1 (fun h => ⟨h.1, trivial⟩) | (simp only [allP, obg, grd, allT, InR, decide_eq_true_eq, Bool.and_eq_true, Bool.not_eq_true', decide_eq_false_iff_not, List.nil_append, List.cons_append, List.append_nil, and_true, true_and]; first | omega | (intros; omega) | (simp only [Blk.len, List.length_set, List.length_append, List.length_cons, List.length_nil]; first | omega | (intros; omega)) | (refine ⟨?_, ?_⟩ <;> intros <;> first | (with_reducible assumption) | omega) | ((repeat' refine And.intro ?_ ?_) <;> (intros; first | (with_reducible assumption) | omega | (simp only [Blk.len, List.length_set, List.length_append, List.length_cons, List.length_nil]; omega))) | ((try simp only [Bool.or_eq_true, Bool.or_eq_false_iff, Bool.and_eq_true, Bool.and_eq_false_iff, decide_eq_true_eq, decide_eq_false_iff_not, Bool.not_eq_true', Bool.not_eq_false'] at *); (try simp only [Blk.len] at *); first | omega | (intros; omega)) | (simp_all; done))))
  · rw [h1] at hc
    have hd : decide (gI places i < 0) = true := by simpa using hc
    refine retO2 rfl (by (repeat (first | exact subS_nil | refine subS_cons (by first | rfl | rfl) ?_))) rfl rfl ?_ ?_
    · rw [hd]; rfl
    · rw [hd]; rfl
  · rw [h1] at hc
    have hd : decide (gI places i < 0) = false := by simpa using hc
    refine retO2 rfl (by (repeat (first | exact subS_nil | refine subS_cons (by first | rfl | rfl) ?_))) rfl rfl ?_ ?_
    · rw [hd]; rfl
    · rw [hd]; rfl

end Go.Proofs.Ytcnfggpcploehaa

/- Layer 3: the heap: Set. -/
namespace Go.Proofs.Ytcnfggpcploehaa
set_option maxRecDepth 10000
open Go.Wk

theorem h_upI (items keys places : List Int) (at_ : Int) (h0 : 0 ≤ at_) (ha : at_ < items.length) (hok : okH keys items places) :
    CtrO Try.prog 106 [.ptr 0 0, iV at_] (hpS items keys places) (hpS (upF keys (items.getD at_.toNat 0) items places at_.toNat).1 keys (upF keys (items.getD at_.toNat 0) items places at_.toNat).2) (.tup []) := by
  have := h_up items keys places at_.toNat (by omega) hok
  rwa [show ((at_.toNat : Nat) : Int) = at_ by omega] at this
theorem h_downI (items keys places : List Int) (at_ : Int) (h0 : 0 ≤ at_) (ha : at_ < items.length) (hok : okH keys items places) :
    CtrO Try.prog 107 [.ptr 0 0, iV at_] (hpS items keys places) (hpS (downF keys (items.getD at_.toNat 0) items places at_.toNat).1 keys (downF keys (items.getD at_.toNat 0) items places at_.toNat).2) (.tup []) := by
  have := h_down items keys places at_.toNat (by omega) hok
  rwa [show ((at_.toNat : Nat) : Int) = at_ by omega] at this

set_option maxHeartbeats 2000000 in
theorem h_Set (items keys places : List Int) (i k : Int) (hi : 0 ≤ i ∧ i < keys.length) (hn : keys.length ≤ 65536) (h : InvP keys items places) :
    CtrO Try.prog 98 [.ptr 0 0, iV i, iV k] (hpS items keys places) (hpS (setF ⟨items, keys, places⟩ i.toNat k).items (setF ⟨items, keys, places⟩ i.toNat k).keys (setF ⟨items, keys, places⟩ i.toNat k).places) (.d (iD 0)) := by
  refine spec_obj envOK (enters_of Try.func98 (by kernel_rfl) (by kernel_rfl)) Try.func98 rfl rfl _ rfl (Nat.le_of_ble_eq_true rfl) rfl (by simp [kinds, Blk.isRow]) fun w0 ρ0 => ?_
  have hl := h.ok.2.1
  have hp := h.ok.1
  have hb : (decide (0 ≤ i) && decide (i < (places.length : Int))) = true := by simp; omega
  have hkl : (keys.set i.toNat k).length = keys.length := by simp
  repeat' (first
    | refine aw_region_t 11 (by kernel_rfl) (by kernel_rfl) rfl ?_
    | refine aw_seq ?_
    | refine aw_region ?_
    | refine aw_region_q (by kernel_rfl) (by kernel_rfl) ?_
    | refine aw_block ?_
    | refine ao_nil ?_
    | refine ao_op rfl trivial ?_
    | refine aq_nil ?_
    | refine aq_op rfl trivial ?_
    | refine at_nil ?_
    | refine at_op rfl trivial ?_
    | refine am_nil ?_
    | refine am_op rfl trivial rfl ?_
    | refine aw_skip ?_
    | refine aw_condT rfl trivial ?_
    | refine aw_condF rfl trivial ?_
    | refine aw_condD rfl trivial (fun hc => ?_) (fun hc => ?_)
    | refine aw_condN rfl trivial (fun hc => ?_) (fun hc => ?_)
    | refine aw_condNB rfl trivial (fun hc => ?_) (fun hc => ?_)
    | refine aw_cond rfl trivial (fun hc => ?_) (fun hc => ?_)
    | refine aw_ret ?_
    | refine aw_exit ?_
    | refine ao_op rfl ?_ ?_
    | refine aq_op rfl ?_ ?_
    | refine at_op rfl ?_ ?_
    | refine am_op rfl ?_ rfl ?_
    | refine ao_box rfl trivial rfl rfl rfl ?_
    | refine ao_alloc rfl rfl rfl rfl ?_
    | refine ao_store rfl rfl trivial rfl trivial rfl rfl rfl rfl rfl ?_
    | refine ao_store_ep rfl rfl trivial rfl trivial rfl rfl rfl rfl rfl rfl ?_
    | refine ao_callO rfl (h_has items keys places i) [0, 1, 2, 3] trivial rfl rfl rfl rfl rfl rfl (by simp [kinds, Blk.isRow]) (by simp [bflats, bflat, vflats, vflat, D.flat, D.scal, Blk.flat]) rfl rfl rfl rfl rfl rfl ?_
    | (show allP _; first | trivial | exact ob1 (fun h => h) | exact ob2 (fun h => h) (fun h => h) | exact ob1 (fun h => ⟨h.1, trivial⟩) | (simp only [allP, obg, grd, allT, InR, decide_eq_true_eq, Bool.and_eq_true, Bool.not_eq_true', decide_eq_false_iff_not, List.nil_append, List.cons_append, List.append_nil, and_true, true_and]; first | omega | (intros; omega) | (simp only [Blk.len, List.length_set, List.length_append, List.length_cons, List.length_nil]; first | omega | (intros; omega)) | (refine ⟨?_, ?_⟩ <;> intros <;> first | (with_reducible assumption) | omega) | ((repeat' refine And.intro ?_ ?_) <;> (intros; first | (with_reducible assumption) | omega | (simp only [Blk.len, List.length_set, List.length_append, List.length_cons, List.length_nil]; omega))) | ((try simp only [Bool.or_eq_true, Bool.or_eq_false_iff, Bool.and_eq_true, Bool.and_eq_false_iff, decide_eq_true_eq, decide_eq_false_iff_not, Bool.not_eq_true', Bool.not_eq_false'] at *); (try simp only [Blk.len] at *); first | omega | (intros; omega)) | (simp_all; done))))
  · rw [hb] at hc; cases hc
  · have hI := (h.push hn (i := i.toNat) (by omega) hc).keys hkl
    rw [show ((i.toNat : Nat) : Int) = i by omega] at hI
    have e : (((Blk.ints .i64 (items ++ [i])).len : Nat) : Int) - 1 = items.length := by simp [Blk.len]
    have h0 : 0 ≤ (places.set i.toNat (items.length : Int)).getD i.toNat 0 := by rw [getD_set, if_pos (by omega)]; omega
    have hset : setF ⟨items, keys, places⟩ i.toNat k = bumpF ⟨items ++ [i], keys.set i.toNat k, places.set i.toNat items.length⟩ i.toNat := by
      unfold setF
      rw [if_pos hc]
      simp only [show ((i.toNat : Nat) : Int) = i by omega]
    rw [hset]
    repeat' (first
      | refine aw_region_t 11 (by kernel_rfl) (by kernel_rfl) rfl ?_
      | refine aw_seq ?_
      | refine aw_region ?_
      | refine aw_region_q (by kernel_rfl) (by kernel_rfl) ?_
      | refine aw_block ?_
      | refine ao_nil ?_
      | refine ao_op rfl trivial ?_
      | refine aq_nil ?_
      | refine aq_op rfl trivial ?_
      | refine at_nil ?_
      | refine at_op rfl trivial ?_
      | refine am_nil ?_
      | refine am_op rfl trivial rfl ?_
      | refine aw_skip ?_
      | refine aw_condT rfl trivial ?_
      | refine aw_condF rfl trivial ?_
      | refine aw_condD rfl trivial (fun hc => ?_) (fun hc => ?_)
      | refine aw_condN rfl trivial (fun hc => ?_) (fun hc => ?_)
      | refine aw_condNB rfl trivial (fun hc => ?_) (fun hc => ?_)
      | refine aw_cond rfl trivial (fun hc => ?_) (fun hc => ?_)
      | refine aw_ret ?_
      | refine aw_exit ?_
      | refine ao_op rfl ?_ ?_
      | refine aq_op rfl ?_ ?_
      | refine at_op rfl ?_ ?_
      | refine am_op rfl ?_ rfl ?_
      | refine ao_box rfl trivial rfl rfl rfl ?_
      | refine ao_alloc rfl rfl rfl rfl ?_
      | refine ao_store rfl rfl trivial rfl trivial rfl rfl rfl rfl rfl ?_
      | refine ao_store_ep rfl rfl trivial rfl trivial rfl rfl rfl rfl rfl rfl ?_
      | refine ao_lit rfl rfl rfl rfl trivial rfl rfl rfl rfl rfl rfl ?_
      | refine ao_app rfl rfl rfl rfl trivial rfl trivial rfl rfl trivial rfl rfl rfl rfl rfl (by simp [Blk.len]; omega) rfl rfl rfl ?_
      | (show allP _; first | trivial | exact ob1 (fun h => h) | exact ob2 (fun h => h) (fun h => h) | exact ob1 (fun h => ⟨h.1, trivial⟩) | (simp only [allP, obg, grd, allT, InR, decide_eq_true_eq, Bool.and_eq_true, Bool.not_eq_true', decide_eq_false_iff_not, List.nil_append, List.cons_append, List.append_nil, and_true, true_and]; first | omega | (intros; omega) | (simp only [Blk.len, List.length_set, List.length_append, List.length_cons, List.length_nil]; first | omega | (intros; omega)) | (refine ⟨?_, ?_⟩ <;> intros <;> first | (with_reducible assumption) | omega) | ((repeat' refine And.intro ?_ ?_) <;> (intros; first | (with_reducible assumption) | omega | (simp only [Blk.len, List.length_set, List.length_append, List.length_cons, List.length_nil]; omega))) | ((try simp only [Bool.or_eq_true, Bool.or_eq_false_iff, Bool.and_eq_true, Bool.and_eq_false_iff, decide_eq_true_eq, decide_eq_false_iff_not, Bool.not_eq_true', Bool.not_eq_false'] at *); (try simp only [Blk.len] at *); first | omega | (intros; omega)) | (simp_all; done))))
    rw [e]
    generalize items ++ [i] = its1 at *
    generalize keys.set i.toNat k = keys1 at *
    generalize places.set i.toNat (items.length : Int) = pl1 at *
    have q0 := hI.ok.1
    have hb1 := bump_up hI (x := i.toNat) (by omega) h0
    have q1 := hI.held (x := i.toNat) (by omega) h0
    have hb2 := hb1.1.held (x := i.toNat) (by omega) hb1.2
    have q2 := hb1.1.ok.1
    repeat' (first
    
      | refine aw_seq ?_
      | refine aw_region ?_
      | refine aw_region_q (by kernel_rfl) (by kernel_rfl) ?_
      | refine aw_block ?_
      | refine ao_nil ?_
      | refine ao_op rfl trivial ?_
      | refine aq_nil ?_
      | refine aq_op rfl trivial ?_
      | refine at_nil ?_
      | refine at_op rfl trivial ?_
      | refine am_nil ?_
      | refine am_op rfl trivial rfl ?_
      | refine aw_skip ?_
      | refine aw_condT rfl trivial ?_
      | refine aw_condF rfl trivial ?_
      | refine aw_condD rfl trivial (fun hc => ?_) (fun hc => ?_)
      | refine aw_condN rfl trivial (fun hc => ?_) (fun hc => ?_)
      | refine aw_condNB rfl trivial (fun hc => ?_) (fun hc => ?_)
      | refine aw_cond rfl trivial (fun hc => ?_) (fun hc => ?_)
      | refine aw_ret ?_
      | refine aw_exit ?_
      | refine ao_op rfl ?_ ?_
      | refine aq_op rfl ?_ ?_
      | refine at_op rfl ?_ ?_
      | refine am_op rfl ?_ rfl ?_
      | refine ao_box rfl trivial rfl rfl rfl ?_
      | refine ao_alloc rfl rfl rfl rfl ?_
      | refine ao_store rfl rfl trivial rfl trivial rfl rfl rfl rfl rfl ?_
      | refine ao_callO rfl (h_upI its1 keys1 pl1 (pl1.getD i.toNat 0) h0 q1.2.2 hI.ok) [0, 1, 2, 3] trivial rfl rfl rfl rfl rfl rfl (by simp [kinds, Blk.isRow]) (by simp [bflats, bflat, vflats, vflat, D.flat, D.scal, Blk.flat]) rfl rfl rfl rfl rfl rfl ?_
      | (show allP _; first | trivial | exact ob1 (fun h => h) | exact ob2 (fun h => h) (fun h => h) | exact ob1 (fun h => ⟨h.1, trivial⟩) | (simp only [allP, obg, grd, allT, InR, decide_eq_true_eq, Bool.and_eq_true, Bool.not_eq_true', decide_eq_false_iff_not, List.nil_append, List.cons_append, List.append_nil, and_true, true_and]; first | omega | (intros; omega) | (simp only [Blk.len, List.length_set, List.length_append, List.length_cons, List.length_nil]; first | omega | (intros; omega)) | (refine ⟨?_, ?_⟩ <;> intros <;> first | (with_reducible assumption) | omega) | ((repeat' refine And.intro ?_ ?_) <;> (intros; first | (with_reducible assumption) | omega | (simp only [Blk.len, List.length_set, List.length_append, List.length_cons, List.length_nil]; omega))) | ((try simp only [Bool.or_eq_true, Bool.or_eq_false_iff, Bool.and_eq_true, Bool.and_eq_false_iff, decide_eq_true_eq, decide_eq_false_iff_not, Bool.not_eq_true', Bool.not_eq_false'] at *); (try simp only [Blk.len] at *); first | omega | (intros; omega)) | (simp_all; done))))
    generalize hu : upF keys1 (its1.getD (pl1.getD i.toNat 0).toNat 0) its1 pl1 (pl1.getD i.toNat 0).toNat = u at hb1 hb2 q2 ⊢
    repeat' (first
    
      | refine aw_seq ?_
      | refine aw_region ?_
      | refine aw_region_q (by kernel_rfl) (by kernel_rfl) ?_
      | refine aw_block ?_
      | refine ao_nil ?_
      | refine ao_op rfl trivial ?_
      | refine aq_nil ?_
      | refine aq_op rfl trivial ?_
      | refine at_nil ?_
      | refine at_op rfl trivial ?_
      | refine am_nil ?_
      | refine am_op rfl trivial rfl ?_
      | refine aw_skip ?_
      | refine aw_condT rfl trivial ?_
      | refine aw_condF rfl trivial ?_
      | refine aw_condD rfl trivial (fun hc => ?_) (fun hc => ?_)
      | refine aw_condN rfl trivial (fun hc => ?_) (fun hc => ?_)
      | refine aw_condNB rfl trivial (fun hc => ?_) (fun hc => ?_)
      | refine aw_cond rfl trivial (fun hc => ?_) (fun hc => ?_)
      | refine aw_ret ?_
      | refine aw_exit ?_
      | refine ao_op rfl ?_ ?_
      | refine aq_op rfl ?_ ?_
      | refine at_op rfl ?_ ?_
      | refine am_op rfl ?_ rfl ?_
      | refine ao_box rfl trivial rfl rfl rfl ?_
      | refine ao_alloc rfl rfl rfl rfl ?_
      | refine ao_store rfl rfl trivial rfl trivial rfl rfl rfl rfl rfl ?_
      | refine ao_callO rfl (h_downI u.1 keys1 u.2 (u.2.getD i.toNat 0) hb1.2 hb2.2.2 hb1.1.ok) [0, 1, 2, 3] trivial rfl rfl rfl rfl rfl rfl (by simp [kinds, Blk.isRow]) (by simp [bflats, bflat, vflats, vflat, D.flat, D.scal, Blk.flat]) rfl rfl rfl rfl rfl rfl ?_
      | (show allP _; first | trivial | exact ob1 (fun h => h) | exact ob2 (fun h => h) (fun h => h) | exact ob1 (fun h => ⟨h.1, trivial⟩) | (simp only [allP, obg, grd, allT, InR, decide_eq_true_eq, Bool.and_eq_true, Bool.not_eq_true', decide_eq_false_iff_not, List.nil_append, List.cons_append, List.append_nil, and_true, true_and]; first | omega | (intros; omega) | (simp only [Blk.len, List.length_set, List.length_append, List.length_cons, List.length_nil]; first | omega | (intros; omega)) | (refine ⟨?_, ?_⟩ <;> intros <;> first | (with_reducible assumption) | omega) | ((repeat' refine And.intro ?_ ?_) <;> (intros; first | (with_reducible assumption) | omega | (simp only [Blk.len, List.length_set, List.length_append, List.length_cons, List.length_nil]; omega))) | ((try simp only [Bool.or_eq_true, Bool.or_eq_false_iff, Bool.and_eq_true, Bool.and_eq_false_iff, decide_eq_true_eq, decide_eq_false_iff_not, Bool.not_eq_true', Bool.not_eq_false'] at *); (try simp only [Blk.len] at *); first | omega | (intros; omega)) | (simp_all; done))))
    refine retO1 rfl (by (repeat (first | exact subS_nil | refine subS_cons (by first | rfl | (simp only [bumpF, hu]; done)) ?_))) rfl rfl ?_
    rfl
  · have hI := h.keys hkl
    have h0 : 0 ≤ places.getD i.toNat 0 := by omega
    have hset : setF ⟨items, keys, places⟩ i.toNat k = bumpF ⟨items, keys.set i.toNat k, places⟩ i.toNat := by
      unfold setF
      rw [if_neg hc]
    rw [hset]
    generalize keys.set i.toNat k = keys1 at *
    generalize hits : items = its1 at *
    generalize hpls : places = pl1 at *
    have q0 := hI.ok.1
    have hb1 := bump_up hI (x := i.toNat) (by omega) h0
    have q1 := hI.held (x := i.toNat) (by omega) h0
    have hb2 := hb1.1.held (x := i.toNat) (by omega) hb1.2
    have q2 := hb1.1.ok.1
    repeat' (first
    
      | refine aw_seq ?_
      | refine aw_region ?_
      | refine aw_region_q (by kernel_rfl) (by kernel_rfl) ?_
      | refine aw_block ?_
      | refine ao_nil ?_
      | refine ao_op rfl trivial ?_
      | refine aq_nil ?_
      | refine aq_op rfl trivial ?_
      | refine at_nil ?_
      | refine at_op rfl trivial ?_
      | refine am_nil ?_
      | refine am_op rfl trivial rfl ?_
      | refine aw_skip ?_
      | refine aw_condT rfl trivial ?_
      | refine aw_condF rfl trivial ?_
      | refine aw_condD rfl trivial (fun hc => ?_) (fun hc => ?_)
      | refine aw_condN rfl trivial (fun hc => ?_) (fun hc => ?_)
      | refine aw_condNB rfl trivial (fun hc => ?_) (fun hc => ?_)
      | refine aw_cond rfl trivial (fun hc => ?_) (fun hc => ?_)
      | refine aw_ret ?_
      | refine aw_exit ?_
      | refine ao_op rfl ?_ ?_
      | refine aq_op rfl ?_ ?_
      | refine at_op rfl ?_ ?_
      | refine am_op rfl ?_ rfl ?_
      | refine ao_box rfl trivial rfl rfl rfl ?_
      | refine ao_alloc rfl rfl rfl rfl ?_
      | refine ao_store rfl rfl trivial rfl trivial rfl rfl rfl rfl rfl ?_
      | refine ao_callO rfl (h_upI its1 keys1 pl1 (pl1.getD i.toNat 0) h0 q1.2.2 hI.ok) [0, 1, 2, 3] trivial rfl rfl rfl rfl rfl rfl (by simp [kinds, Blk.isRow]) (by simp [bflats, bflat, vflats, vflat, D.flat, D.scal, Blk.flat]) rfl rfl rfl rfl rfl rfl ?_
      | (show allP _; first | trivial | exact ob1 (fun h => h) | exact ob2 (fun h => h) (fun h => h) | exact ob1 (fun h => ⟨h.1, trivial⟩) | (simp only [allP, obg, grd, allT, InR, decide_eq_true_eq, Bool.and_eq_true, Bool.not_eq_true', decide_eq_false_iff_not, List.nil_append, List.cons_append, List.append_nil, and_true, true_and]; first | omega | (intros; omega) | (simp only [Blk.len, List.length_set, List.length_append, List.length_cons, List.length_nil]; first | omega | (intros; omega)) | (refine ⟨?_, ?_⟩ <;> intros <;> first | (with_reducible assumption) | omega) | ((repeat' refine And.intro ?_ ?_) <;> (intros; first | (with_reducible assumption) | omega | (simp only [Blk.len, List.length_set, List.length_append, List.length_cons, List.length_nil]; omega))) | ((try simp only [Bool.or_eq_true, Bool.or_eq_false_iff, Bool.and_eq_true, Bool.and_eq_false_iff, decide_eq_true_eq, decide_eq_false_iff_not, Bool.not_eq_true', Bool.not_eq_false'] at *); (try simp only [Blk.len] at *); first | omega | (intros; omega)) | (simp_all; done))))
    generalize hu : upF keys1 (its1.getD (pl1.getD i.toNat 0).toNat 0) its1 pl1 (pl1.getD i.toNat 0).toNat = u at hb1 hb2 q2 ⊢
    repeat' (first
    
      | refine aw_seq ?_
      | refine aw_region ?_
      | refine aw_region_q (by kernel_rfl) (by kernel_rfl) ?_
      | refine aw_block ?_
      | refine ao_nil ?_
      | refine ao_op rfl trivial ?_
      | refine aq_nil ?_
      | refine aq_op rfl trivial ?_
      | refine at_nil ?_
      | refine at_op rfl trivial ?_
      | refine am_nil ?_
      | refine am_op rfl trivial rfl ?_
      | refine aw_skip ?_
      | refine aw_condT rfl trivial ?_
      | refine aw_condF rfl trivial ?_
      | refine aw_condD rfl trivial (fun hc => ?_) (fun hc => ?_)
      | refine aw_condN rfl trivial (fun hc => ?_) (fun hc => ?_)
      | refine aw_condNB rfl trivial (fun hc => ?_) (fun hc => ?_)
      | refine aw_cond rfl trivial (fun hc => ?_) (fun hc => ?_)
      | refine aw_ret ?_
      | refine aw_exit ?_
      | refine ao_op rfl ?_ ?_
      | refine aq_op rfl ?_ ?_
      | refine at_op rfl ?_ ?_
      | refine am_op rfl ?_ rfl ?_
      | refine ao_box rfl trivial rfl rfl rfl ?_
      | refine ao_alloc rfl rfl rfl rfl ?_
      | refine ao_store rfl rfl trivial rfl trivial rfl rfl rfl rfl rfl ?_
      | refine ao_callO rfl (h_downI u.1 keys1 u.2 (u.2.getD i.toNat 0) hb1.2 hb2.2.2 hb1.1.ok) [0, 1, 2, 3] trivial rfl rfl rfl rfl rfl rfl (by simp [kinds, Blk.isRow]) (by simp [bflats, bflat, vflats, vflat, D.flat, D.scal, Blk.flat]) rfl rfl rfl rfl rfl rfl ?_
      | (show allP _; first | trivial | exact ob1 (fun h => h) | exact ob2 (fun h => h) (fun h => h) | exact ob1 (fun h => ⟨h.1, trivial⟩) | (simp only [allP, obg, grd, allT, InR, decide_eq_true_eq, Bool.and_eq_true, Bool.not_eq_true', decide_eq_false_iff_not, List.nil_append, List.cons_append, List.append_nil, and_true, true_and]; first | omega | (intros; omega) | (simp only [Blk.len, List.length_set, List.length_append, List.length_cons, List.length_nil]; first | omega | (intros; omega)) | (refine ⟨?_, ?_⟩ <;> intros <;> first | (with_reducible assumption) | omega) | ((repeat' refine And.intro ?_ ?_) <;> (intros; first | (with_reducible assumption) | omega | (simp only [Blk.len, List.length_set, List.length_append, List.length_cons, List.length_nil]; omega))) | ((try simp only [Bool.or_eq_true, Bool.or_eq_false_iff, Bool.and_eq_true, Bool.and_eq_false_iff, decide_eq_true_eq, decide_eq_false_iff_not, Bool.not_eq_true', Bool.not_eq_false'] at *); (try simp only [Blk.len] at *); first | omega | (intros; omega)) | (simp_all; done))))
    refine retO1 rfl (by (repeat (first | exact subS_nil | refine subS_cons (by first | rfl | (simp only [bumpF, hu]; done)) ?_))) rfl rfl ?_
    rfl

end Go.Proofs.Ytcnfggpcploehaa

/- Layer 3: the heap: take, Pop. -/
namespace Go.Proofs.Ytcnfggpcploehaa
set_option maxRecDepth 10000
open Go.Wk

set_option maxHeartbeats 2000000 in
theorem h_take (items keys places : List Int) (h0 : 0 < items.length) (hok : okH keys items places) :
    CtrO Try.prog 108 [.ptr 0 0, iV 0] (hpS items keys places) (hpS (popF ⟨items, keys, places⟩).items keys (popF ⟨items, keys, places⟩).places) (.tup []) := by
  refine spec_obj envOK (enters_of Try.func108 (by kernel_rfl) (by kernel_rfl)) Try.func108 rfl rfl _ rfl (Nat.le_of_ble_eq_true rfl) rfl (by simp [kinds, Blk.isRow]) fun w0 ρ0 => ?_
  have hl := hok.2.1
  have hp := hok.1
  have hi := hok.2.2 0 h0
  have e1 : ((items.length : Int) - 1).toNat = items.length - 1 := by omega
  have hi' : 0 ≤ items.getD (Int.toNat 0) 0 ∧ items.getD (Int.toNat 0) 0 < places.length := by rw [hp]; exact hi
  repeat' (first
    | refine aw_region_t (l2 := [_, _, _]) 12 (by kernel_rfl) (by kernel_rfl) rfl ?_
    | refine aw_seq ?_
    | refine aw_region ?_
    | refine aw_region_q (by kernel_rfl) (by kernel_rfl) ?_
    | refine aw_block ?_
    | refine ao_nil ?_
    | refine ao_op rfl trivial ?_
    | refine aq_nil ?_
    | refine aq_op rfl trivial ?_
    | refine at_nil ?_
    | refine at_op rfl trivial ?_
    | refine am_nil ?_
    | refine am_op rfl trivial rfl ?_
    | refine aw_skip ?_
    | refine aw_condT rfl trivial ?_
    | refine aw_condF rfl trivial ?_
    | refine aw_condD rfl trivial (fun hc => ?_) (fun hc => ?_)
    | refine aw_condN rfl trivial (fun hc => ?_) (fun hc => ?_)
    | refine aw_condNB rfl trivial (fun hc => ?_) (fun hc => ?_)
    | refine aw_cond rfl trivial (fun hc => ?_) (fun hc => ?_)
    | refine aw_ret ?_
    | refine aw_exit ?_
    | refine ao_op rfl ?_ ?_
    | refine aq_op rfl ?_ ?_
    | refine at_op rfl ?_ ?_
    | refine am_op rfl ?_ rfl ?_
    | refine ao_box rfl trivial rfl rfl rfl ?_
    | refine ao_alloc rfl rfl rfl rfl ?_
    | refine ao_store rfl rfl trivial rfl trivial rfl rfl rfl rfl rfl ?_
  
    | (show allP _; first | trivial | exact ob1 (fun h => h) | exact ob2 (fun h => h) (fun h => h) | exact ob1 (fun h => ⟨h.1, trivial⟩) | (simp only [allP, obg, grd, allT, InR, decide_eq_true_eq, Bool.and_eq_true, Bool.not_eq_true', decide_eq_false_iff_not, List.nil_append, List.cons_append, List.append_nil, and_true, true_and]; first | omega | (intros; omega) | (simp only [Blk.len, List.length_set, List.length_append, List.length_cons, List.length_nil]; first | omega | (intros; omega)) | (refine ⟨?_, ?_⟩ <;> intros <;> first | (with_reducible assumption) | omega) | ((repeat' refine And.intro ?_ ?_) <;> (intros; first | (with_reducible assumption) | omega | (simp only [Blk.len, List.length_set, List.length_append, List.length_cons, List.length_nil]; omega))) | ((try simp only [Bool.or_eq_true, Bool.or_eq_false_iff, Bool.and_eq_true, Bool.and_eq_false_iff, decide_eq_true_eq, decide_eq_false_iff_not, Bool.not_eq_true', Bool.not_eq_false'] at *); (try simp only [Blk.len] at *); first | omega | (intros; omega)) | (simp_all; done))))
  have e2 : ((((Blk.ints .i64 items).len : Nat) : Int) - 1).toNat = items.length - 1 := e1
  have e3 : items.getD (Int.toNat 0) 0 = items.getD 0 0 := rfl
  rw [e2]
  refine ao_weak (weak_cut (nm := 1) (hn := 0) (j := 0) (m := items.length - 1) rfl rfl (by simp [Blk.len]) rfl rfl rfl rfl rfl rfl rfl) (Nat.le_of_ble_eq_true rfl) ?_
  repeat' (first
  
    | refine aw_seq ?_
    | refine aw_region ?_
    | refine aw_region_q (by kernel_rfl) (by kernel_rfl) ?_
    | refine aw_block ?_
    | refine ao_nil ?_
    | refine ao_op rfl trivial ?_
    | refine aq_nil ?_
    | refine aq_op rfl trivial ?_
    | refine at_nil ?_
    | refine at_op rfl trivial ?_
    | refine am_nil ?_
    | refine am_op rfl trivial rfl ?_
    | refine aw_skip ?_
    | refine aw_condT rfl trivial ?_
    | refine aw_condF rfl trivial ?_
    | refine aw_condD rfl trivial (fun hc => ?_) (fun hc => ?_)
    | refine aw_condN rfl trivial (fun hc => ?_) (fun hc => ?_)
    | refine aw_condNB rfl trivial (fun hc => ?_) (fun hc => ?_)
    | refine aw_cond rfl trivial (fun hc => ?_) (fun hc => ?_)
    | refine aw_ret ?_
    | refine aw_exit ?_
    | refine ao_op rfl ?_ ?_
    | refine aq_op rfl ?_ ?_
    | refine at_op rfl ?_ ?_
    | refine am_op rfl ?_ rfl ?_
    | refine ao_box rfl trivial rfl rfl rfl ?_
    | refine ao_alloc rfl rfl rfl rfl ?_
    | refine ao_store rfl rfl trivial rfl trivial rfl rfl rfl rfl rfl ?_
    | refine ao_store_ep rfl rfl trivial rfl trivial rfl rfl rfl rfl rfl rfl ?_
    | (show allP _; first | trivial | exact ob1 (fun h => h) | exact ob2 (fun h => h) (fun h => h) | exact ob1 (fun h => ⟨h.1, trivial⟩) | (simp only [allP, obg, grd, allT, InR, decide_eq_true_eq, Bool.and_eq_true, Bool.not_eq_true', decide_eq_false_iff_not, List.nil_append, List.cons_append, List.append_nil, and_true, true_and]; first | omega | (intros; omega) | (simp only [Blk.len, List.length_set, List.length_append, List.length_cons, List.length_nil]; first | omega | (intros; omega)) | (refine ⟨?_, ?_⟩ <;> intros <;> first | (with_reducible assumption) | omega) | ((repeat' refine And.intro ?_ ?_) <;> (intros; first | (with_reducible assumption) | omega | (simp only [Blk.len, List.length_set, List.length_append, List.length_cons, List.length_nil]; omega))) | ((try simp only [Bool.or_eq_true, Bool.or_eq_false_iff, Bool.and_eq_true, Bool.and_eq_false_iff, decide_eq_true_eq, decide_eq_false_iff_not, Bool.not_eq_true', Bool.not_eq_false'] at *); (try simp only [Blk.len] at *); first | omega | (intros; omega)) | (simp_all; done))))
  · have hset : popF ⟨items, keys, places⟩ = ⟨items.take (items.length - 1), keys, places.set (items.getD 0 0).toNat (-1)⟩ := by
      unfold popF
      exact if_pos hc
    rw [hset]
    (first | refine retON rfl (by (repeat (first | exact subS_nil | refine subS_cons (by first | rfl | rfl) ?_))) rfl | refine retON' rfl (by (repeat (first | exact subS_nil | refine subS_cons (by first | rfl | rfl) ?_))) rfl)
  · have hset : popF ⟨items, keys, places⟩ = ⟨(downF keys (items.getD (items.length - 1) 0) ((items.take (items.length - 1)).set 0 (items.getD (items.length - 1) 0)) ((places.set (items.getD 0 0).toNat (-1)).set (items.getD (items.length - 1) 0).toNat 0) 0).1, keys, (downF keys (items.getD (items.length - 1) 0) ((items.take (items.length - 1)).set 0 (items.getD (items.length - 1) 0)) ((places.set (items.getD 0 0).toNat (-1)).set (items.getD (items.length - 1) 0).toNat 0) 0).2⟩ := by
      unfold popF
      exact if_neg hc
    have hL := hok.2.2 (items.length - 1) (by omega)
    have h2 : 1 < items.length := by
      rcases Nat.lt_or_ge 1 items.length with h | h
      · exact h
      · exfalso; apply hc; rw [show items.length - 1 = 0 by omega]; rfl
    rw [hset]
    have hit : (items.take (items.length - 1)).length = items.length - 1 := by simp
    have hok1 : okH keys ((items.take (items.length - 1)).set 0 (items.getD (items.length - 1) 0)) ((places.set (items.getD 0 0).toNat (-1)).set (items.getD (items.length - 1) 0).toNat 0) := by
      refine okH_set ⟨by simpa using hp, by omega, fun k hk => ?_⟩ hL
      rw [hit] at hk
      have := hok.2.2 k (by omega)
      have e4 : (items.take (items.length - 1)).getD k 0 = items.getD k 0 := by rw [List.getD_eq_getElem?_getD, List.getElem?_take, if_pos hk, ← List.getD_eq_getElem?_getD]
      rw [e4]; exact this
    have hpl0 : (places.set (items.getD 0 0).toNat (-1)).length = keys.length := by simpa using hp
    change items.getD 0 0 = items.getD (items.length - 1) 0 → False at hc
    simp only [e3]
    generalize items.getD (items.length - 1) 0 = last at *
    generalize items.take (items.length - 1) = its at *
    generalize places.set (items.getD 0 0).toNat (-1) = pls at *
    repeat' (first
    
      | refine aw_seq ?_
      | refine aw_region ?_
      | refine aw_region_q (by kernel_rfl) (by kernel_rfl) ?_
      | refine aw_block ?_
      | refine ao_nil ?_
      | refine ao_op rfl trivial ?_
      | refine aq_nil ?_
      | refine aq_op rfl trivial ?_
      | refine at_nil ?_
      | refine at_op rfl trivial ?_
      | refine am_nil ?_
      | refine am_op rfl trivial rfl ?_
      | refine aw_skip ?_
      | refine aw_condT rfl trivial ?_
      | refine aw_condF rfl trivial ?_
      | refine aw_condD rfl trivial (fun hc => ?_) (fun hc => ?_)
      | refine aw_condN rfl trivial (fun hc => ?_) (fun hc => ?_)
      | refine aw_condNB rfl trivial (fun hc => ?_) (fun hc => ?_)
      | refine aw_cond rfl trivial (fun hc => ?_) (fun hc => ?_)
      | refine aw_ret ?_
      | refine aw_exit ?_
      | refine ao_op rfl ?_ ?_
      | refine aq_op rfl ?_ ?_
      | refine at_op rfl ?_ ?_
      | refine am_op rfl ?_ rfl ?_
      | refine ao_box rfl trivial rfl rfl rfl ?_
      | refine ao_alloc rfl rfl rfl rfl ?_
      | refine ao_store rfl rfl trivial rfl trivial rfl rfl rfl rfl rfl ?_
      | refine ao_callO rfl (h_put its keys pls last 0 (by omega) (by omega)) [0, 1, 2, 3] trivial rfl rfl rfl rfl rfl rfl (by simp [kinds, Blk.isRow]) (by simp [bflats, bflat, vflats, vflat, D.flat, D.scal, Blk.flat]) rfl rfl rfl rfl rfl rfl ?_
      | (show allP _; first | trivial | exact ob1 (fun h => h) | exact ob2 (fun h => h) (fun h => h) | exact ob1 (fun h => ⟨h.1, trivial⟩) | (simp only [allP, obg, grd, allT, InR, decide_eq_true_eq, Bool.and_eq_true, Bool.not_eq_true', decide_eq_false_iff_not, List.nil_append, List.cons_append, List.append_nil, and_true, true_and]; first | omega | (intros; omega) | (simp only [Blk.len, List.length_set, List.length_append, List.length_cons, List.length_nil]; first | omega | (intros; omega)) | (refine ⟨?_, ?_⟩ <;> intros <;> first | (with_reducible assumption) | omega) | ((repeat' refine And.intro ?_ ?_) <;> (intros; first | (with_reducible assumption) | omega | (simp only [Blk.len, List.length_set, List.length_append, List.length_cons, List.length_nil]; omega))) | ((try simp only [Bool.or_eq_true, Bool.or_eq_false_iff, Bool.and_eq_true, Bool.and_eq_false_iff, decide_eq_true_eq, decide_eq_false_iff_not, Bool.not_eq_true', Bool.not_eq_false'] at *); (try simp only [Blk.len] at *); first | omega | (intros; omega)) | (simp_all; done))))
    have gl : (its.set 0 last).getD 0 0 = last := by rw [getD_set, if_pos ⟨rfl, by omega⟩]
    have gp : (pls.set last.toNat 0).getD last.toNat 0 = 0 := by rw [getD_set, if_pos ⟨rfl, by omega⟩]
    have hu : upF keys ((its.set 0 last).getD (Int.toNat 0) 0) (its.set 0 last) (pls.set last.toNat 0) (Int.toNat 0) = (its.set 0 last, pls.set last.toNat 0) := by
      show upF keys ((its.set 0 last).getD 0 0) (its.set 0 last) (pls.set last.toNat 0) 0 = _
      rw [gl, upF_zero, set_same (l := its.set 0 last) gl, set_same (l := pls.set last.toNat 0) gp]
    have z1 : (its.set 0 last).length = its.length := by simp
    rw [show Int.toNat 0 = 0 from rfl]
    generalize its.set 0 last = its1 at *
    generalize pls.set last.toNat 0 = pls1 at *
    have q1 := hok1.1
    have hu1 := congrArg Prod.fst hu
    have hu2 := congrArg Prod.snd hu
    simp only at hu1 hu2
    have q4 := congrArg List.length hu2
    repeat' (first
    
      | refine aw_seq ?_
      | refine aw_region ?_
      | refine aw_region_q (by kernel_rfl) (by kernel_rfl) ?_
      | refine aw_block ?_
      | refine ao_nil ?_
      | refine ao_op rfl trivial ?_
      | refine aq_nil ?_
      | refine aq_op rfl trivial ?_
      | refine at_nil ?_
      | refine at_op rfl trivial ?_
      | refine am_nil ?_
      | refine am_op rfl trivial rfl ?_
      | refine aw_skip ?_
      | refine aw_condT rfl trivial ?_
      | refine aw_condF rfl trivial ?_
      | refine aw_condD rfl trivial (fun hc => ?_) (fun hc => ?_)
      | refine aw_condN rfl trivial (fun hc => ?_) (fun hc => ?_)
      | refine aw_condNB rfl trivial (fun hc => ?_) (fun hc => ?_)
      | refine aw_cond rfl trivial (fun hc => ?_) (fun hc => ?_)
      | refine aw_ret ?_
      | refine aw_exit ?_
      | refine ao_op rfl ?_ ?_
      | refine aq_op rfl ?_ ?_
      | refine at_op rfl ?_ ?_
      | refine am_op rfl ?_ rfl ?_
      | refine ao_box rfl trivial rfl rfl rfl ?_
      | refine ao_alloc rfl rfl rfl rfl ?_
      | refine ao_store rfl rfl trivial rfl trivial rfl rfl rfl rfl rfl ?_
      | refine ao_callO rfl (h_upI its1 keys pls1 0 (by omega) (by omega) hok1) [0, 1, 2, 3] trivial rfl rfl rfl rfl rfl rfl (by simp [kinds, Blk.isRow]) (by simp [bflats, bflat, vflats, vflat, D.flat, D.scal, Blk.flat]) rfl rfl rfl rfl rfl rfl ?_
      | (show allP _; first | trivial | exact ob1 (fun h => h) | exact ob2 (fun h => h) (fun h => h) | exact ob1 (fun h => ⟨h.1, trivial⟩) | (simp only [allP, obg, grd, allT, InR, decide_eq_true_eq, Bool.and_eq_true, Bool.not_eq_true', decide_eq_false_iff_not, List.nil_append, List.cons_append, List.append_nil, and_true, true_and]; first | omega | (intros; omega) | (simp only [Blk.len, List.length_set, List.length_append, List.length_cons, List.length_nil]; first | omega | (intros; omega)) | (refine ⟨?_, ?_⟩ <;> intros <;> first | (with_reducible assumption) | omega) | ((repeat' refine And.intro ?_ ?_) <;> (intros; first | (with_reducible assumption) | omega | (simp only [Blk.len, List.length_set, List.length_append, List.length_cons, List.length_nil]; omega))) | ((try simp only [Bool.or_eq_true, Bool.or_eq_false_iff, Bool.and_eq_true, Bool.and_eq_false_iff, decide_eq_true_eq, decide_eq_false_iff_not, Bool.not_eq_true', Bool.not_eq_false'] at *); (try simp only [Blk.len] at *); first | omega | (intros; omega)) | (simp_all; done))))
    rw [hu1, hu2]
    repeat' (first
    
      | refine aw_seq ?_
      | refine aw_region ?_
      | refine aw_region_q (by kernel_rfl) (by kernel_rfl) ?_
      | refine aw_block ?_
      | refine ao_nil ?_
      | refine ao_op rfl trivial ?_
      | refine aq_nil ?_
      | refine aq_op rfl trivial ?_
      | refine at_nil ?_
      | refine at_op rfl trivial ?_
      | refine am_nil ?_
      | refine am_op rfl trivial rfl ?_
      | refine aw_skip ?_
      | refine aw_condT rfl trivial ?_
      | refine aw_condF rfl trivial ?_
      | refine aw_condD rfl trivial (fun hc => ?_) (fun hc => ?_)
      | refine aw_condN rfl trivial (fun hc => ?_) (fun hc => ?_)
      | refine aw_condNB rfl trivial (fun hc => ?_) (fun hc => ?_)
      | refine aw_cond rfl trivial (fun hc => ?_) (fun hc => ?_)
      | refine aw_ret ?_
      | refine aw_exit ?_
      | refine ao_op rfl ?_ ?_
      | refine aq_op rfl ?_ ?_
      | refine at_op rfl ?_ ?_
      | refine am_op rfl ?_ rfl ?_
      | refine ao_box rfl trivial rfl rfl rfl ?_
      | refine ao_alloc rfl rfl rfl rfl ?_
      | refine ao_store rfl rfl trivial rfl trivial rfl rfl rfl rfl rfl ?_
      | refine ao_callO rfl (h_downI its1 keys pls1 (pls1.getD last.toNat 0) (by omega) (by omega) hok1) [0, 1, 2, 3] trivial rfl rfl rfl rfl rfl rfl (by simp [kinds, Blk.isRow]) (by simp [bflats, bflat, vflats, vflat, D.flat, D.scal, Blk.flat]) rfl rfl rfl rfl rfl rfl ?_
      | (show allP _; first | trivial | exact ob1 (fun h => h) | exact ob2 (fun h => h) (fun h => h) | exact ob1 (fun h => ⟨h.1, trivial⟩) | (simp only [allP, obg, grd, allT, InR, decide_eq_true_eq, Bool.and_eq_true, Bool.not_eq_true', decide_eq_false_iff_not, List.nil_append, List.cons_append, List.append_nil, and_true, true_and]; first | omega | (intros; omega) | (simp only [Blk.len, List.length_set, List.length_append, List.length_cons, List.length_nil]; first | omega | (intros; omega)) | (refine ⟨?_, ?_⟩ <;> intros <;> first | (with_reducible assumption) | omega) | ((repeat' refine And.intro ?_ ?_) <;> (intros; first | (with_reducible assumption) | omega | (simp only [Blk.len, List.length_set, List.length_append, List.length_cons, List.length_nil]; omega))) | ((try simp only [Bool.or_eq_true, Bool.or_eq_false_iff, Bool.and_eq_true, Bool.and_eq_false_iff, decide_eq_true_eq, decide_eq_false_iff_not, Bool.not_eq_true', Bool.not_eq_false'] at *); (try simp only [Blk.len] at *); first | omega | (intros; omega)) | (simp_all; done))))
    rw [gp]
    (first | refine retON rfl (by (repeat (first | exact subS_nil | refine subS_cons (by first | rfl | (rw [show Int.toNat 0 = 0 from rfl, gl]; done)) ?_))) rfl | refine retON' rfl (by (repeat (first | exact subS_nil | refine subS_cons (by first | rfl | (rw [show Int.toNat 0 = 0 from rfl, gl]; done)) ?_))) rfl)

end Go.Proofs.Ytcnfggpcploehaa

/- Layer 3: the heap: Pop. -/
namespace Go.Proofs.Ytcnfggpcploehaa
set_option maxRecDepth 10000
open Go.Wk

theorem h_Pop0 (keys places : List Int) :
    CtrO Try.prog 99 [.ptr 0 0] (hpS [] keys places) (hpS [] keys places) (.tup [iV 0, iV 0, .d (bD false)]) := by
  refine spec_obj envOK (enters_of Try.func99 (by kernel_rfl) (by kernel_rfl)) Try.func99 rfl rfl _ rfl (Nat.le_of_ble_eq_true rfl) rfl (by simp [kinds, Blk.isRow]) fun w0 ρ0 => ?_
  repeat' (first
    | refine aw_region_t 9 (by kernel_rfl) (by kernel_rfl) rfl ?_
    | refine aw_seq ?_
    | refine aw_region ?_
    | refine aw_region_q (by kernel_rfl) (by kernel_rfl) ?_
    | refine aw_block ?_
    | refine ao_nil ?_
    | refine ao_op rfl trivial ?_
    | refine aq_nil ?_
    | refine aq_op rfl trivial ?_
    | refine at_nil ?_
    | refine at_op rfl trivial ?_
    | refine am_nil ?_
    | refine am_op rfl trivial rfl ?_
    | refine aw_skip ?_
    | refine aw_condT rfl trivial ?_
    | refine aw_condF rfl trivial ?_
    | refine aw_condD rfl trivial (fun hc => ?_) (fun hc => ?_)
    | refine aw_condN rfl trivial (fun hc => ?_) (fun hc => ?_)
    | refine aw_condNB rfl trivial (fun hc => ?_) (fun hc => ?_)
    | refine aw_cond rfl trivial (fun hc => ?_) (fun hc => ?_)
    | refine aw_ret ?_
    | refine aw_exit ?_
    | refine ao_op rfl ?_ ?_
    | refine aq_op rfl ?_ ?_
    | refine at_op rfl ?_ ?_
    | refine am_op rfl ?_ rfl ?_
    | refine ao_box rfl trivial rfl rfl rfl ?_
    | refine ao_alloc rfl rfl rfl rfl ?_
    | refine ao_store rfl rfl trivial rfl trivial rfl rfl rfl rfl rfl ?_
  
    | (show allP _; first | trivial | exact ob1 (fun h => h) | exact ob2 (fun h => h) (fun h => h) | exact ob1 (fun h => ⟨h.1, trivial⟩) | (simp only [allP, obg, grd, allT, InR, decide_eq_true_eq, Bool.and_eq_true, Bool.not_eq_true', decide_eq_false_iff_not, List.nil_append, List.cons_append, List.append_nil, and_true, true_and]; first | omega | (intros; omega) | (simp only [Blk.len, List.length_set, List.length_append, List.length_cons, List.length_nil]; first | omega | (intros; omega)) | (refine ⟨?_, ?_⟩ <;> intros <;> first | (with_reducible assumption) | omega) | ((repeat' refine And.intro ?_ ?_) <;> (intros; first | (with_reducible assumption) | omega | (simp only [Blk.len, List.length_set, List.length_append, List.length_cons, List.length_nil]; omega))) | ((try simp only [Bool.or_eq_true, Bool.or_eq_false_iff, Bool.and_eq_true, Bool.and_eq_false_iff, decide_eq_true_eq, decide_eq_false_iff_not, Bool.not_eq_true', Bool.not_eq_false'] at *); (try simp only [Blk.len] at *); first | omega | (intros; omega)) | (simp_all; done))))
  refine retO3 rfl (by (repeat (first | exact subS_nil | refine subS_cons (by first | rfl | rfl) ?_))) rfl rfl ?_ ?_ ?_
  all_goals rfl

theorem h_Pop (items keys places : List Int) (h0 : 0 < items.length) (hok : okH keys items places) :
    CtrO Try.prog 99 [.ptr 0 0] (hpS items keys places) (hpS (popF ⟨items, keys, places⟩).items keys (popF ⟨items, keys, places⟩).places) (.tup [iV (items.getD 0 0), iV (gI keys (items.getD 0 0)), .d (bD true)]) := by
  refine spec_obj envOK (enters_of Try.func99 (by kernel_rfl) (by kernel_rfl)) Try.func99 rfl rfl _ rfl (Nat.le_of_ble_eq_true rfl) rfl (by simp [kinds, Blk.isRow]) fun w0 ρ0 => ?_
  have hi := hok.2.2 0 h0
  have hi' : 0 ≤ items.getD (Int.toNat 0) 0 ∧ items.getD (Int.toNat 0) 0 < keys.length := hi
  repeat' (first
    | refine aw_region_t 9 (by kernel_rfl) (by kernel_rfl) rfl ?_
    | refine aw_seq ?_
    | refine aw_region ?_
    | refine aw_region_q (by kernel_rfl) (by kernel_rfl) ?_
    | refine aw_block ?_
    | refine ao_nil ?_
    | refine ao_op rfl trivial ?_
    | refine aq_nil ?_
    | refine aq_op rfl trivial ?_
    | refine at_nil ?_
    | refine at_op rfl trivial ?_
    | refine am_nil ?_
    | refine am_op rfl trivial rfl ?_
    | refine aw_skip ?_
    | refine aw_condT rfl trivial ?_
    | refine aw_condF rfl trivial ?_
    | refine aw_condD rfl trivial (fun hc => ?_) (fun hc => ?_)
    | refine aw_condN rfl trivial (fun hc => ?_) (fun hc => ?_)
    | refine aw_condNB rfl trivial (fun hc => ?_) (fun hc => ?_)
    | refine aw_cond rfl trivial (fun hc => ?_) (fun hc => ?_)
    | refine aw_ret ?_
    | refine aw_exit ?_
    | refine ao_op rfl ?_ ?_
    | refine aq_op rfl ?_ ?_
    | refine at_op rfl ?_ ?_
    | refine am_op rfl ?_ rfl ?_
    | refine ao_box rfl trivial rfl rfl rfl ?_
    | refine ao_alloc rfl rfl rfl rfl ?_
    | refine ao_store rfl rfl trivial rfl trivial rfl rfl rfl rfl rfl ?_
    | refine ao_callO rfl (h_take items keys places h0 hok) [0, 1, 2, 3] trivial rfl rfl rfl rfl rfl rfl (by simp [kinds, Blk.isRow]) (by simp [bflats, bflat, vflats, vflat, D.flat, D.scal, Blk.flat]) rfl rfl rfl rfl rfl rfl ?_
    | (show allP _; first | trivial | exact ob1 (fun h => h) | exact ob2 (fun h => h) (fun h => h) | exact ob1 (fun h => ⟨h.1, trivial⟩) | (simp only [allP, obg, grd, allT, InR, decide_eq_true_eq, Bool.and_eq_true, Bool.not_eq_true', decide_eq_false_iff_not, List.nil_append, List.cons_append, List.append_nil, and_true, true_and]; first | omega | (intros; omega) | (simp only [Blk.len, List.length_set, List.length_append, List.length_cons, List.length_nil]; first | omega | (intros; omega)) | (refine ⟨?_, ?_⟩ <;> intros <;> first | (with_reducible assumption) | omega) | ((repeat' refine And.intro ?_ ?_) <;> (intros; first | (with_reducible assumption) | omega | (simp only [Blk.len, List.length_set, List.length_append, List.length_cons, List.length_nil]; omega))) | ((try simp only [Bool.or_eq_true, Bool.or_eq_false_iff, Bool.and_eq_true, Bool.and_eq_false_iff, decide_eq_true_eq, decide_eq_false_iff_not, Bool.not_eq_true', Bool.not_eq_false'] at *); (try simp only [Blk.len] at *); first | omega | (intros; omega)) | (simp_all; done))))
  · simp only [Blk.len] at hc; omega
  · refine retO3 rfl (by (repeat (first | exact subS_nil | refine subS_cons (by first | rfl | rfl) ?_))) rfl rfl ?_ ?_ ?_
    all_goals rfl

end Go.Proofs.Ytcnfggpcploehaa
