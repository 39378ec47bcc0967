/- Laid together: Mi, Ms, Mdj, Mp, WkW, L11, C03, C03a, C03b, C03c, C03d, C03e, C03f, C11, C11a, C11b, C11c, C11d, C11e, Mbf. -/
import Derived.Test.YtcnfggpcploehaaDoorQ2

set_option linter.all false

/- What a heap holds, plainly. -/
namespace Go.Wk
set_option maxRecDepth 10000

structure HI (h : Hp) : Prop where
  inv : InvP h.keys h.items h.places
  ord : Ord h.keys h.items

theorem Ord.down_same {keys items places : List Int} (hO : Ord keys items) (hI : InvP keys items places) {a : Nat} (ha : a < items.length) : downF keys (items.getD a 0) items places a = (items, places) := by
  rw [downF, if_neg, set_same rfl, set_same (hI.at_ a ha)]
  rintro ⟨h1, h2⟩
  have hg := kidF_gt keys items a
  have hk : (kidF keys items a - 1) / 2 = a := by rcases kidF_le (keys := keys) (items := items) (a := a) with h | h <;> omega
  have := hO (kidF keys items a) (by omega) h1
  rw [hk] at this
  rw [this] at h2; cases h2

theorem bump_HI {h : Hp} (hI : InvP h.keys h.items h.places) {x : Nat} (hx : x < h.keys.length) (h0 : 0 ≤ h.places.getD x 0) (hU : OrdU h.keys h.items (h.places.getD x 0).toNat) :
    HI (bumpF h x) ∧ (bumpF h x).keys = h.keys ∧ (bumpF h x).items.length = h.items.length ∧ ∀ y, (bumpF h x).places.getD y 0 < 0 ↔ h.places.getD y 0 < 0 := by
  obtain ⟨h1, h2, h3⟩ := hI.held hx h0
  have e1 := upF_inv (keys := h.keys) (items := h.items) (places := h.places) (i := h.items.getD (h.places.getD x 0).toNat 0) h1 (hI.ok.2.2 _ h1) (hI.self h1)
  have e2 := upF_ord (keys := h.keys) (items := h.items) (places := h.places) (i := h.items.getD (h.places.getD x 0).toNat 0) h1 (by rw [set_same rfl]; exact hU)
  rw [set_same (hI.at_ _ h1)] at e1
  unfold bumpF
  simp only
  generalize upF h.keys (h.items.getD (h.places.getD x 0).toNat 0) h.items h.places (h.places.getD x 0).toNat = u at *
  obtain ⟨i1, i2, i3⟩ := e1
  have h0' : 0 ≤ u.2.getD x 0 := by have := i3 x; omega
  obtain ⟨k1, k2, k3⟩ := i1.held hx h0'
  rw [e2.down_same i1 k1]
  exact ⟨⟨i1, e2⟩, trivial, i2, i3⟩

theorem gI_set_ne {keys : List Int} {x : Nat} {v i : Int} (h : i.toNat ≠ x) : gI (keys.set x v) i = gI keys i := by
  unfold gI; rw [getD_set, if_neg (by omega)]
theorem gI_set_eq {keys : List Int} {x : Nat} {v : Int} (h : x < keys.length) : gI (keys.set x v) (x : Int) = v := by
  unfold gI; rw [getD_set, if_pos ⟨by simp, by simpa using h⟩]
theorem beforeB_set_ne {keys : List Int} {x : Nat} {v i k : Int} (hi : i.toNat ≠ x) (hk : k.toNat ≠ x) : beforeB (keys.set x v) i k = beforeB keys i k := by
  unfold beforeB; rw [gI_set_ne hi, gI_set_ne hk]

theorem set_HI {h : Hp} (hH : HI h) (hn : h.keys.length ≤ 65536) {x : Nat} (hx : x < h.keys.length) {v : Int} (hv : h.places.getD x 0 < 0 ∨ v ≤ h.keys.getD x 0) :
    HI (setF h x v) ∧ (setF h x v).keys = h.keys.set x v ∧ ∀ y, y < h.keys.length → ((setF h x v).places.getD y 0 < 0 ↔ h.places.getD y 0 < 0 ∧ y ≠ x) := by
  have hI := hH.inv
  have hlp := hI.ok.1
  unfold setF
  split
  · rename_i hno
    have hP := (hI.push hn hx hno).keys (keys' := h.keys.set x v) (by simp)
    have hne : ∀ k, k < h.items.length → (h.items.getD k 0).toNat ≠ x := fun k hk he => by
      have := hI.at_ k hk
      rw [he] at this; omega
    have gI' : ∀ k, k < h.items.length → (h.items ++ [(x : Int)]).getD k 0 = h.items.getD k 0 := fun k hk => by simp [List.getD_eq_getElem?_getD, List.getElem?_append_left hk]
    have gp : (h.places.set x (h.items.length : Int)).getD x 0 = h.items.length := by rw [getD_set, if_pos ⟨rfl, by omega⟩]
    obtain ⟨b1, b2, b3, b4⟩ := bump_HI (h := ⟨h.items ++ [(x : Int)], h.keys.set x v, h.places.set x h.items.length⟩) hP (x := x) (by simpa using hx) (by simp only [gp]; omega) (by
      simp only [gp]
      refine ⟨fun k k0 kl kp => ?_, fun c p0 c0 cl cp => ?_⟩
      · have kl' : k < h.items.length := by simp at kl kp; omega
        rw [gI' k kl', gI' _ (by omega), beforeB_set_ne (hne k kl') (hne _ (by omega))]
        exact hH.ord k k0 kl'
      · simp at cl cp p0; omega)
    refine ⟨b1, b2, fun y hy => ?_⟩
    rw [b4]
    simp only
    rw [getD_set]
    by_cases hxy : x = y
    · rw [if_pos ⟨hxy, by omega⟩]; omega
    · rw [if_neg (by omega)]; constructor
      · intro h; exact ⟨h, by omega⟩
      · exact fun h => h.1
  · rename_i hno
    have hle : v ≤ h.keys.getD x 0 := by omega
    have hP := hI.keys (keys' := h.keys.set x v) (by simp)
    obtain ⟨q1, q2, q3⟩ := hI.held hx (by omega)
    generalize hp : (h.places.getD x 0).toNat = p at q1 q2
    have hne : ∀ k, k < h.items.length → k ≠ p → (h.items.getD k 0).toNat ≠ x := fun k hk hkp he => by
      have := hI.at_ k hk
      rw [he] at this; omega
    have hx' : gI h.keys (x : Int) = h.keys.getD x 0 := by simp [gI]
    obtain ⟨b1, b2, b3, b4⟩ := bump_HI (h := ⟨h.items, h.keys.set x v, h.places⟩) hP (x := x) (by simpa using hx) (by simp only; omega) (by
      simp only [hp]
      refine ⟨fun k k0 kl kp => ?_, fun c p0 c0 cl cp => ?_⟩
      · have ho := hH.ord k k0 kl
        by_cases hpp : (k - 1) / 2 = p
        · rw [hpp, q2] at ho ⊢
          rw [beforeB_not] at ho ⊢
          rw [gI_set_eq hx, gI_set_ne (hne k kl kp)]
          omega
        · rw [beforeB_set_ne (hne k kl kp) (hne _ (by omega) hpp)]
          exact ho
      · have ho := hH.ord c c0 cl
        have hop := hH.ord p p0 q1
        rw [cp] at ho
        rw [beforeB_set_ne (hne c cl (by omega)) (hne _ (by omega) (by omega))]
        exact before_nt hop ho)
    refine ⟨b1, b2, fun y hy => ?_⟩
    rw [b4]
    simp only
    constructor
    · intro h
      exact ⟨h, fun he => by subst he; exact hno h⟩
    · exact fun h => h.1

theorem Ord.least {keys items : List Int} (hO : Ord keys items) (k : Nat) (hk : k < items.length) : beforeB keys (items.getD k 0) (items.getD 0 0) = false := by
  induction k using Nat.strongRecOn with
  | _ k ih =>
    by_cases h0 : k = 0
    · subst h0; rw [beforeB_not]; omega
    · exact before_nt (ih ((k - 1) / 2) (by omega) (by omega)) (hO k (by omega) hk)

theorem HI.least {h : Hp} (hH : HI h) {x : Nat} (hx : x < h.keys.length) (h0 : 0 ≤ h.places.getD x 0) : gI h.keys (h.items.getD 0 0) ≤ h.keys.getD x 0 := by
  obtain ⟨q1, q2, q3⟩ := hH.inv.held hx h0
  have := hH.ord.least _ q1
  rw [q2, beforeB_not] at this
  simp only [gI, Int.toNat_natCast] at this ⊢
  omega
theorem HI.top {h : Hp} (hH : HI h) (h0 : 0 < h.items.length) : ∃ y : Nat, h.items.getD 0 0 = (y : Int) ∧ y < h.keys.length ∧ 0 ≤ h.places.getD y 0 := by
  have h1 := hH.inv.ok.2.2 0 h0
  have h2 := hH.inv.at_ 0 h0
  exact ⟨(h.items.getD 0 0).toNat, by omega, by omega, by omega⟩
theorem HI.none {h : Hp} (hH : HI h) (h0 : h.items.length = 0) {x : Nat} (hx : x < h.keys.length) : h.places.getD x 0 < 0 := by
  rcases hH.inv.of x hx with h1 | ⟨k, hk, _⟩
  · exact h1
  · omega

theorem take_getD {l : List Int} {n k : Nat} (h : k < n) : (l.take n).getD k 0 = l.getD k 0 := by
  rw [List.getD_eq_getElem?_getD, List.getElem?_take, if_pos h, ← List.getD_eq_getElem?_getD]

theorem pop_HI {h : Hp} (hH : HI h) (h0 : 0 < h.items.length) : HI (popF h) ∧ (popF h).keys = h.keys ∧
    ∀ x, x < h.keys.length → ((popF h).places.getD x 0 < 0 ↔ h.places.getD x 0 < 0 ∨ (x : Int) = h.items.getD 0 0) := by
  have hI := hH.inv
  have hlp := hI.ok.1
  have h1 := hI.ok.2.2 0 h0
  have a0 := hI.at_ 0 h0
  unfold popF
  simp only
  split
  · rename_i he
    have hl : h.items.length = 1 := by
      have := hI.inj h0 (k := h.items.length - 1) (by omega) he
      omega
    have hnil : h.items.take (h.items.length - 1) = [] := by rw [hl]; rfl
    have sg : ∀ x, x < h.keys.length → ((h.places.set (h.items.getD 0 0).toNat (-1)).getD x 0 < 0 ↔ h.places.getD x 0 < 0 ∨ (x : Int) = h.items.getD 0 0) := fun x hx => by
      rw [getD_set]
      by_cases hxi : (h.items.getD 0 0).toNat = x
      · rw [if_pos ⟨hxi, by omega⟩]; omega
      · rw [if_neg (by omega)]; omega
    refine ⟨⟨⟨⟨by simpa using hlp, by simp [hnil], fun k hk => by simp [hnil] at hk⟩, fun k hk => by simp [hnil] at hk, fun x hx => ?_⟩, fun k k0 hk => by simp [hnil] at hk⟩, rfl, sg⟩
    refine .inl ((sg x hx).2 ?_)
    rcases hI.of x hx with h2 | ⟨k, hk, h2, h3⟩
    · exact .inl h2
    · exact .inr (by rw [← h3, show k = 0 by omega])
  · rename_i hne
    have h2 : 1 < h.items.length := by
      rcases Nat.lt_or_ge 1 h.items.length with h | h'
      · exact h
      · exfalso; apply hne; rw [show h.items.length - 1 = 0 by omega]
    generalize hn : h.items.length - 1 = n at *
    have hL := hI.ok.2.2 n (by omega)
    have aL := hI.at_ n (by omega)
    generalize hla : h.items.getD n 0 = last at *
    have gi : ∀ k, k < n → ((h.items.take n).set 0 last).getD k 0 = if k = 0 then last else h.items.getD k 0 := fun k hk => by
      rw [getD_set, take_getD hk]
      by_cases hk0 : k = 0
      · rw [if_pos ⟨hk0.symm, by simp; omega⟩, if_pos hk0]
      · rw [if_neg (by omega), if_neg hk0]
    have gp : ∀ x, x < h.keys.length → ((h.places.set (h.items.getD 0 0).toNat (-1)).set last.toNat 0).getD x 0 = if x = last.toNat then 0 else if x = (h.items.getD 0 0).toNat then -1 else h.places.getD x 0 := fun x hx => by
      rw [getD_set, getD_set]
      simp only [List.length_set]
      by_cases hx1 : x = last.toNat
      · rw [if_pos ⟨hx1.symm, by omega⟩, if_pos hx1]
      · rw [if_neg (by omega), if_neg hx1]
        by_cases hx2 : x = (h.items.getD 0 0).toNat
        · rw [if_pos ⟨hx2.symm, by omega⟩, if_pos hx2]
        · rw [if_neg (by omega), if_neg hx2]
    have hlen : ((h.items.take n).set 0 last).length = n := by simp; omega
    have hP : InvP h.keys ((h.items.take n).set 0 last) ((h.places.set (h.items.getD 0 0).toNat (-1)).set last.toNat 0) := by
      refine ⟨⟨by simpa using hlp, by rw [hlen]; have := hI.ok.2.1; omega, fun k hk => ?_⟩, fun k hk => ?_, fun x hx => ?_⟩
      · rw [hlen] at hk
        rw [gi k hk]
        split
        · exact hL
        · exact hI.ok.2.2 k (by omega)
      · rw [hlen] at hk
        rw [gi k hk]
        by_cases hk0 : k = 0
        · rw [if_pos hk0, gp _ (by omega), if_pos rfl, hk0]; rfl
        · rw [if_neg hk0]
          have ak := hI.at_ k (by omega)
          have ok := hI.ok.2.2 k (by omega)
          rw [gp _ (by omega), if_neg, if_neg]
          · exact ak
          · intro he; rw [he] at ak; omega
          · intro he; rw [he] at ak; omega
      · rw [gp x hx]
        by_cases hx1 : x = last.toNat
        · rw [if_pos hx1]
          exact .inr ⟨0, by rw [hlen]; omega, rfl, by rw [gi 0 (by omega), if_pos rfl]; omega⟩
        · rw [if_neg hx1]
          by_cases hx2 : x = (h.items.getD 0 0).toNat
          · rw [if_pos hx2]; exact .inl (by omega)
          · rw [if_neg hx2]
            rcases hI.of x hx with h3 | ⟨k, hk, h3, h4⟩
            · exact .inl h3
            · have hk0 : k ≠ 0 := fun he => by rw [he] at h4; omega
              have hkn : k ≠ n := fun he => by rw [he, hla] at h4; omega
              exact .inr ⟨k, by rw [hlen]; omega, h3, by rw [gi k (by omega), if_neg hk0]; exact h4⟩
    have hq : ((h.items.take n).set 0 last).set 0 last = (h.items.take n).set 0 last := by simp
    have hq2 : ((h.places.set (h.items.getD 0 0).toNat (-1)).set last.toNat 0).set last.toNat ((0 : Nat) : Int) = (h.places.set (h.items.getD 0 0).toNat (-1)).set last.toNat 0 := by simp
    have dI := downF_inv (keys := h.keys) (items := (h.items.take n).set 0 last) (places := (h.places.set (h.items.getD 0 0).toNat (-1)).set last.toNat 0) (i := last) (a := 0) (by rw [hlen]; omega) hL (by rw [hq, hq2]; exact hP)
    have dO := downF_ord (keys := h.keys) (items := (h.items.take n).set 0 last) (places := (h.places.set (h.items.getD 0 0).toNat (-1)).set last.toNat 0) (i := last) (a := 0) (by rw [hlen]; omega) (by
      rw [hq]
      refine ⟨fun k k0 kl kp => ?_, fun c p0 => by omega⟩
      rw [hlen] at kl
      rw [gi k kl, if_neg (by omega), gi _ (by omega), if_neg kp]
      exact hH.ord k k0 (by omega))
    rw [hq2] at dI
    refine ⟨⟨dI.1, dO⟩, rfl, fun x hx => ?_⟩
    rw [dI.2.2, gp x hx]
    by_cases hx1 : x = last.toNat
    · rw [if_pos hx1]
      have : h.places.getD x 0 = n := by rw [hx1]; exact aL
      omega
    · rw [if_neg hx1]
      by_cases hx2 : x = (h.items.getD 0 0).toNat
      · rw [if_pos hx2]; omega
      · rw [if_neg hx2]; omega

end Go.Wk

/- Shortest paths, plainly: what distances are, and that they are determined; the arcs of a node. -/
namespace Go.Proofs.YtcnfggpcploehaaDoor
set_option maxRecDepth 10000
open Go.Wk

def fitsB (t : Topo) (down : List Bool) : Bool := validB t && (decide (down.length = 0) || decide ((down.length : Int) = 2 * t.links.length))
def upB (down : List Bool) (a : Int) : Bool := decide (down.length = 0) || !down.getD a.toNat false
def nearT (t : Topo) (fr : Bool) (a : Int) : Int := bif fr then tailT t a else headT t a
def farT (t : Topo) (fr : Bool) (a : Int) : Int := bif fr then headT t a else tailT t a

theorem fitsB_v {t : Topo} {down : List Bool} (h : fitsB t down = true) : validB t = true := by
  simp only [fitsB, Bool.and_eq_true] at h; exact h.1

theorem arc_in {t : Topo} (hv : validB t = true) {a : Int} (h0 : 0 ≤ a) (h1 : a < 2 * t.links.length) : arcIn t a = true := by
  simp [arcIn, arcsT, hv, h0, h1]
theorem link_ok {t : Topo} (hv : validB t = true) {k : Nat} (hk : k < t.links.length) : properB (t.links.getD k default) t.nodes = true := by
  simp only [validB, Bool.and_eq_true, List.all_eq_true] at hv
  exact hv.2 _ (getD_mem hk)
theorem proper_out {l : Lk} {n : Int} (h : properB l n = true) : 0 ≤ l.a ∧ l.a < n ∧ 0 ≤ l.b ∧ l.b < n ∧ l.a ≠ l.b ∧ 1 ≤ l.c0 ∧ l.c0 ≤ 65535 ∧ 1 ≤ l.c1 ∧ l.c1 ≤ 65535 := by
  simp only [properB, insideB, Bool.and_eq_true, decide_eq_true_eq, Bool.not_eq_true', decide_eq_false_iff_not] at h
  omega
theorem arc_ok {t : Topo} (hv : validB t = true) {a : Int} (h0 : 0 ≤ a) (h1 : a < 2 * t.links.length) :
    0 ≤ tailT t a ∧ tailT t a < t.nodes ∧ 0 ≤ headT t a ∧ headT t a < t.nodes ∧ tailT t a ≠ headT t a ∧ 1 ≤ costT t a ∧ costT t a ≤ 65535 := by
  have hp := proper_out (link_ok hv (k := (a / 2).toNat) (by omega))
  simp only [tailT, headT, costT, arc_in hv h0 h1, cond_true, lkAt]
  by_cases h : a % 2 = 0
  · simp only [h, decide_true, cond_true]; omega
  · simp only [h, decide_false, cond_false]; omega
theorem arc_nf {t : Topo} (hv : validB t = true) (fr : Bool) {a : Int} (h0 : 0 ≤ a) (h1 : a < 2 * t.links.length) :
    0 ≤ nearT t fr a ∧ nearT t fr a < t.nodes ∧ 0 ≤ farT t fr a ∧ farT t fr a < t.nodes ∧ nearT t fr a ≠ farT t fr a ∧ 1 ≤ costT t a ∧ costT t a ≤ 65535 := by
  have := arc_ok hv h0 h1
  cases fr <;> simp only [nearT, farT, cond_true, cond_false] <;> omega

def arcsR (m : Nat) : List Int := (List.range m).map fun (k : Nat) => (k : Int)
theorem arcsUpto_eq {t : Topo} (hv : validB t = true) (n : Int) (fr : Bool) (i : Nat) (hi : i ≤ t.links.length) : arcsUpto t n fr i = (arcsR (2 * i)).filter fun a => decide (nearT t fr a = n) := by
  induction i with
  | zero => simp [arcsUpto, arcsR]
  | succ i ih =>
    have e : arcsR (2 * (i + 1)) = arcsR (2 * i) ++ [(2 * i : Int), (2 * i + 1 : Int)] := by
      simp [arcsR, show 2 * (i + 1) = 2 * i + 1 + 1 by omega, List.range_succ]
    rw [arcsUpto, ih (by omega), e, List.filter_append]
    congr 1
    have hp := proper_out (link_ok hv (k := i) (by omega))
    have a0 : arcIn t (2 * i : Int) = true := arc_in hv (by omega) (by omega)
    have a1 : arcIn t (2 * i + 1 : Int) = true := arc_in hv (by omega) (by omega)
    have l0 : lkAt t (2 * i : Int) = t.links.getD i default := by unfold lkAt; congr 1; omega
    have l1 : lkAt t (2 * i + 1 : Int) = t.links.getD i default := by unfold lkAt; congr 1; omega
    have m0 : ((2 * i : Int) % 2 = 0) = True := by simp
    have m1 : ((2 * i + 1 : Int) % 2 = 0) = False := by simp
    generalize t.links.getD i default = l at *
    cases fr
    · simp only [arcOf, nearT, headT, a0, a1, l0, l1, cond_false, cond_true, m0, m1, decide_true, decide_false, List.filter]
      by_cases h1 : l.a = n
      · have h2 : ¬ l.b = n := by omega
        simp [h1, h2]
      · by_cases h2 : l.b = n <;> simp [h1, h2]
    · simp only [arcOf, nearT, tailT, a0, a1, l0, l1, cond_false, cond_true, m0, m1, decide_true, decide_false, List.filter]
      by_cases h1 : l.a = n
      · have h2 : ¬ l.b = n := by omega
        simp [h1, h2]
      · by_cases h2 : l.b = n <;> simp [h1, h2]
theorem arcsL_eq {t : Topo} (hv : validB t = true) (n : Int) (fr : Bool) : arcsL t n fr = (arcsR (2 * t.links.length)).filter fun a => decide (nearT t fr a = n) := by
  simp only [arcsL, hv, cond_true]
  exact arcsUpto_eq hv n fr _ (Nat.le_refl _)
theorem mem_arcsR {m : Nat} {a : Int} : a ∈ arcsR m ↔ 0 ≤ a ∧ a < m := by
  simp only [arcsR, List.mem_map, List.mem_range]
  constructor
  · rintro ⟨k, hk, rfl⟩; omega
  · intro h; exact ⟨a.toNat, by omega, by omega⟩
theorem mem_arcsL {t : Topo} (hv : validB t = true) {n : Int} {fr : Bool} {a : Int} : a ∈ arcsL t n fr ↔ 0 ≤ a ∧ a < 2 * t.links.length ∧ nearT t fr a = n := by
  rw [arcsL_eq hv, List.mem_filter, mem_arcsR, decide_eq_true_eq]
  omega

/-- An arc that a search from (or to) n may take. -/
def okA (t : Topo) (down : List Bool) (n : Int) (fr : Bool) (a : Int) : Prop := upB down a = true ∧ (nearT t fr a = n ∨ overT t (nearT t fr a) = false)

structure IsDist (t : Topo) (down : List Bool) (n : Int) (fr : Bool) (l : List Int) : Prop where
  len : (l.length : Int) = t.nodes
  self : gI l n = 0
  sign : ∀ i : Int, 0 ≤ i → i < t.nodes → gI l i = -1 ∨ 0 ≤ gI l i
  close : ∀ a : Int, 0 ≤ a → a < 2 * t.links.length → okA t down n fr a → 0 ≤ gI l (nearT t fr a) → 0 ≤ gI l (farT t fr a) ∧ gI l (farT t fr a) ≤ gI l (nearT t fr a) + costT t a
  ground : ∀ i : Int, 0 ≤ i → i < t.nodes → i ≠ n → 0 ≤ gI l i → ∃ a : Int, 0 ≤ a ∧ a < 2 * t.links.length ∧ okA t down n fr a ∧ farT t fr a = i ∧ 0 ≤ gI l (nearT t fr a) ∧ gI l i = gI l (nearT t fr a) + costT t a

theorem IsDist.le {t : Topo} {down : List Bool} {n : Int} {fr : Bool} (hv : validB t = true) {l m : List Int} (hl : IsDist t down n fr l) (hm : IsDist t down n fr m) :
    ∀ (k : Nat) (i : Int), 0 ≤ i → i < t.nodes → 0 ≤ gI l i → gI l i ≤ k → 0 ≤ gI m i ∧ gI m i ≤ gI l i := by
  intro k
  induction k with
  | zero =>
    intro i h0 h1 h2 h3
    by_cases hn : i = n
    · rw [hn, hm.self, hl.self]; omega
    · obtain ⟨a, a0, a1, a2, a3, a4, a5⟩ := hl.ground i h0 h1 hn h2
      have := arc_nf hv fr a0 a1
      omega
  | succ k ih =>
    intro i h0 h1 h2 h3
    by_cases hn : i = n
    · rw [hn, hm.self, hl.self]; omega
    · obtain ⟨a, a0, a1, a2, a3, a4, a5⟩ := hl.ground i h0 h1 hn h2
      have hb := arc_nf hv fr a0 a1
      have h := ih (nearT t fr a) hb.1 hb.2.1 a4 (by omega)
      have := hm.close a a0 a1 a2 h.1
      rw [a3] at this
      omega

theorem gI_ext {a b : List Int} (h : a.length = b.length) (h2 : ∀ i : Int, 0 ≤ i → i < a.length → gI a i = gI b i) : a = b := by
  apply List.ext_getElem h
  intro i h1 h3
  have := h2 i (by omega) (by omega)
  simpa [gI, List.getD_eq_getElem?_getD, h1, h3] using this

theorem IsDist.unique {t : Topo} {down : List Bool} {n : Int} {fr : Bool} (hv : validB t = true) {l m : List Int} (hl : IsDist t down n fr l) (hm : IsDist t down n fr m) : l = m := by
  have e1 := hl.len
  have e2 := hm.len
  refine gI_ext (by omega) fun i h0 h1 => ?_
  have s1 := hl.sign i h0 (by omega)
  have s2 := hm.sign i h0 (by omega)
  by_cases hp : 0 ≤ gI l i
  · have a := hl.le hv hm (gI l i).toNat i h0 (by omega) hp (by omega)
    have b := hm.le hv hl (gI m i).toNat i h0 (by omega) a.1 (by omega)
    omega
  · by_cases hq : 0 ≤ gI m i
    · have b := hm.le hv hl (gI m i).toNat i h0 (by omega) hq (by omega)
      omega
    · omega

open Classical in
/-- The distances. -/
noncomputable def distF (t : Topo) (down : List Bool) (n : Int) (fr : Bool) : List Int := if h : ∃ l, IsDist t down n fr l then h.choose else []
theorem IsDist.eq {t : Topo} {down : List Bool} {n : Int} {fr : Bool} (hv : validB t = true) {l : List Int} (hl : IsDist t down n fr l) : distF t down n fr = l := by
  unfold distF
  have h : ∃ l, IsDist t down n fr l := ⟨l, hl⟩
  rw [dif_pos h]
  exact h.choose_spec.unique hv hl

/-- The result code of a search. -/
def errS (t : Topo) (down : List Bool) (n : Int) : Int := bif fitsB t down then (bif decide (n < 0) || decide (t.nodes ≤ n) then 2 else 0) else 1
noncomputable def distL (t : Topo) (down : List Bool) (n : Int) (fr : Bool) : List Int := if errS t down n = 0 then distF t down n fr else []
theorem errS_0 {t : Topo} {down : List Bool} {n : Int} (h : errS t down n = 0) : fitsB t down = true ∧ 0 ≤ n ∧ n < t.nodes := by
  unfold errS at h
  cases hf : fitsB t down with
  | false => rw [hf] at h; cases h
  | true =>
    rw [hf] at h
    simp only [cond_true] at h
    cases hn : (decide (n < 0) || decide (t.nodes ≤ n)) with
    | true => rw [hn] at h; cases h
    | false => simp only [Bool.or_eq_false_iff, decide_eq_false_iff_not] at hn; exact ⟨rfl, by omega⟩

theorem up_ok {t : Topo} {down : List Bool} {a : Int} (hf : fitsB t down = true) (h0 : 0 ≤ a) (h1 : a < 2 * t.links.length) : down.length = 0 ∨ 0 ≤ a ∧ a < down.length := by
  simp only [fitsB, Bool.and_eq_true, Bool.or_eq_true, decide_eq_true_eq] at hf
  omega
theorem errS_ok {t : Topo} {down : List Bool} {n : Int} (hf : fitsB t down = true) (h0 : 0 ≤ n) (h1 : n < t.nodes) : errS t down n = 0 := by
  unfold errS
  rw [hf, decide_eq_false (by omega : ¬ n < 0), decide_eq_false (by omega : ¬ t.nodes ≤ n)]; rfl

end Go.Proofs.YtcnfggpcploehaaDoor

/- The search with a heap, plainly. -/
namespace Go.Proofs.YtcnfggpcploehaaDoor
set_option maxRecDepth 10000
open Go.Wk

/-- How many nodes have been taken. -/
def cntD (l : List Int) : Nat := l.countP fun x => decide (0 ≤ x)

theorem cntD_set {l : List Int} {i : Nat} {v : Int} (hi : i < l.length) (h0 : l.getD i 0 < 0) (hv : 0 ≤ v) : cntD (l.set i v) = cntD l + 1 := by
  induction l generalizing i with
  | nil => simp at hi
  | cons x r ih =>
    cases i with
    | zero =>
      simp only [List.getD_cons_zero] at h0
      simp only [List.set_cons_zero, cntD, List.countP_cons, decide_eq_true hv, decide_eq_false (show ¬ 0 ≤ x by omega)]
      simp
    | succ i =>
      have := ih (i := i) (by simpa using hi) (by simpa using h0)
      simp only [List.set_cons_succ, cntD, List.countP_cons] at this ⊢
      omega
theorem cntD_lt {l : List Int} {i : Nat} (hi : i < l.length) (h0 : l.getD i 0 < 0) : cntD l < l.length := by
  have h := cntD_set (v := 0) hi h0 (by omega)
  have : cntD (l.set i 0) ≤ (l.set i 0).length := List.countP_le_length
  rw [List.length_set] at this
  omega

/-- Where the search stands: the distances of the nodes that have been taken, the heap, the greatest distance so far, and which arcs are still to be looked at. -/
structure DJ (t : Topo) (down : List Bool) (n : Int) (fr : Bool) (cur : Int) (dist : List Int) (h : Hp) (pend : Int → Prop) : Prop where
  len : (dist.length : Int) = t.nodes
  klen : h.keys.length = dist.length
  hi : HI h
  sign : ∀ i : Int, 0 ≤ i → i < t.nodes → gI dist i = -1 ∨ 0 ≤ gI dist i
  excl : ∀ i : Int, 0 ≤ i → i < t.nodes → 0 ≤ gI h.places i → gI dist i = -1
  cur0 : 0 ≤ cur
  done : ∀ i : Int, 0 ≤ i → i < t.nodes → 0 ≤ gI dist i → gI dist i ≤ cur ∧ gI dist i + 65535 ≤ 65535 * (cntD dist : Int)
  held : ∀ i : Int, 0 ≤ i → i < t.nodes → 0 ≤ gI h.places i → cur ≤ gI h.keys i ∧ gI h.keys i ≤ 65535 * (cntD dist : Int)
  start : gI dist n = 0 ∨ (0 ≤ gI h.places n ∧ gI h.keys n = 0 ∧ ∀ i : Int, 0 ≤ i → i < t.nodes → gI dist i = -1 ∧ (0 ≤ gI h.places i → i = n))
  close : ∀ a : Int, 0 ≤ a → a < 2 * t.links.length → ¬ pend a → okA t down n fr a → 0 ≤ gI dist (nearT t fr a) →
    (0 ≤ gI dist (farT t fr a) ∧ gI dist (farT t fr a) ≤ gI dist (nearT t fr a) + costT t a) ∨ (0 ≤ gI h.places (farT t fr a) ∧ gI h.keys (farT t fr a) ≤ gI dist (nearT t fr a) + costT t a)
  groundD : ∀ i : Int, 0 ≤ i → i < t.nodes → i ≠ n → 0 ≤ gI dist i → ∃ a : Int, 0 ≤ a ∧ a < 2 * t.links.length ∧ okA t down n fr a ∧ farT t fr a = i ∧ 0 ≤ gI dist (nearT t fr a) ∧ gI dist i = gI dist (nearT t fr a) + costT t a
  groundH : ∀ i : Int, 0 ≤ i → i < t.nodes → i ≠ n → 0 ≤ gI h.places i → ∃ a : Int, 0 ≤ a ∧ a < 2 * t.links.length ∧ okA t down n fr a ∧ farT t fr a = i ∧ 0 ≤ gI dist (nearT t fr a) ∧ gI h.keys i = gI dist (nearT t fr a) + costT t a

section
variable {t : Topo} {down : List Bool} {n : Int} {fr : Bool} {cur : Int} {dist : List Int} {h : Hp} {pend : Int → Prop}

theorem gI_set {l : List Int} {y : Int} {v i : Int} (hy : 0 ≤ y) (hy2 : y < l.length) (hi : 0 ≤ i) : gI (l.set y.toNat v) i = if i = y then v else gI l i := by
  unfold gI
  rw [getD_set]
  by_cases he : i = y
  · subst he; rw [if_pos ⟨rfl, by omega⟩, if_pos rfl]
  · rw [if_neg (by omega), if_neg he]
theorem gI_rep {m : Nat} {v i : Int} (h0 : 0 ≤ i) (h1 : i < m) : gI (List.replicate m v) i = v := by
  unfold gI
  rw [List.getD_eq_getElem?_getD, List.getElem?_replicate, if_pos (by omega)]; rfl

/-- Nothing is taken: the heap holds the start alone. -/
theorem DJ.init (hv : validB t = true) (h0 : 0 ≤ n) (h1 : n < t.nodes) :
    DJ t down n fr 0 (List.replicate t.nodes.toNat (-1)) (setF ⟨[], List.replicate t.nodes.toNat 0, List.replicate t.nodes.toNat (-1)⟩ n.toNat 0) (fun _ => False) := by
  have hn := validB_head hv
  have hH0 : HI ⟨[], List.replicate t.nodes.toNat 0, List.replicate t.nodes.toNat (-1)⟩ := ⟨⟨⟨by simp, by simp, fun k hk => by simp at hk⟩, fun k hk => by simp at hk, fun x hx => .inl (by
    have hx' : x < t.nodes.toNat := by simpa using hx
    rw [List.getD_eq_getElem?_getD, List.getElem?_replicate, if_pos hx']; decide)⟩, fun k k0 hk => by simp at hk⟩
  have hneg : ∀ x : Nat, x < t.nodes.toNat → (List.replicate t.nodes.toNat (-1 : Int)).getD x 0 = -1 := fun x hx => by rw [List.getD_eq_getElem?_getD, List.getElem?_replicate, if_pos hx]; rfl
  obtain ⟨s1, s2, s3⟩ := set_HI (h := ⟨[], List.replicate t.nodes.toNat 0, List.replicate t.nodes.toNat (-1)⟩) hH0 (x := n.toNat) (v := 0) (by simp; omega) (by simp; omega) (.inl (by rw [hneg _ (by omega)]; decide))
  have hz : (List.replicate t.nodes.toNat (0 : Int)).set n.toNat 0 = List.replicate t.nodes.toNat 0 := set_same (by rw [List.getD_eq_getElem?_getD, List.getElem?_replicate]; split <;> rfl)
  rw [hz] at s2
  generalize setF ⟨[], List.replicate t.nodes.toNat 0, List.replicate t.nodes.toNat (-1)⟩ n.toNat 0 = h at *
  have hheld : ∀ i : Int, 0 ≤ i → i < t.nodes → (0 ≤ gI h.places i ↔ i = n) := fun i i0 i1 => by
    have := s3 i.toNat (by simp; omega)
    rw [hneg _ (by omega)] at this
    simp only [gI]
    constructor
    · intro hh
      by_cases he : i = n
      · exact he
      · have := this.2 ⟨by omega, by omega⟩; omega
    · rintro rfl
      by_cases hl : h.places.getD i.toNat 0 < 0
      · exact absurd rfl (this.1 hl).2
      · omega
  have hc : cntD (List.replicate t.nodes.toNat (-1)) = 0 := by simp [cntD, List.countP_replicate]
  have hm : ∀ i : Int, 0 ≤ i → i < t.nodes → gI (List.replicate t.nodes.toNat (-1)) i = -1 := fun i i0 i1 => gI_rep i0 (by omega)
  have hk : ∀ i : Int, 0 ≤ i → i < t.nodes → gI h.keys i = 0 := fun i i0 i1 => by rw [s2]; exact gI_rep i0 (by omega)
  refine ⟨by simp; omega, by rw [s2]; simp, s1, fun i i0 i1 => .inl (hm i i0 i1), fun i i0 i1 _ => hm i i0 i1, by omega, fun i i0 i1 hh => ?_, fun i i0 i1 hh => ?_, .inr ⟨(hheld n h0 h1).2 rfl, hk n h0 h1, fun i i0 i1 => ⟨hm i i0 i1, (hheld i i0 i1).1⟩⟩, fun a a0 a1 _ _ hh => ?_, fun i i0 i1 hin hh => ?_, fun i i0 i1 hin hh => ?_⟩
  · rw [hm i i0 i1] at hh; omega
  · rw [hk i i0 i1, hc]; omega
  · have := arc_nf hv fr a0 a1
    rw [hm _ this.1 this.2.1] at hh; omega
  · rw [hm i i0 i1] at hh; omega
  · exact absurd ((hheld i i0 i1).1 hh) hin

/-- The heap is empty: these are the distances. -/
theorem DJ.fin (hv : validB t = true) (h0 : 0 ≤ n) (h1 : n < t.nodes) (H : DJ t down n fr cur dist h (fun _ => False)) (he : h.items.length = 0) : IsDist t down n fr dist := by
  have hl := H.len
  have hno : ∀ i : Int, 0 ≤ i → i < t.nodes → gI h.places i < 0 := fun i i0 i1 => H.hi.none he (by rw [H.klen]; omega)
  refine ⟨H.len, ?_, H.sign, fun a a0 a1 hok hn => ?_, H.groundD⟩
  · rcases H.start with h | ⟨h, _⟩
    · exact h
    · have := hno n h0 h1; omega
  · rcases H.close a a0 a1 (fun h => h) hok hn with h | ⟨h, _⟩
    · exact h
    · have hb := arc_nf hv fr a0 a1
      have := hno _ hb.2.2.1 hb.2.2.2.1; omega

/-- The first item is taken. -/
theorem DJ.pop (hv : validB t = true) (hn0 : 0 ≤ n) (H : DJ t down n fr cur dist h (fun _ => False)) (he : 0 < h.items.length) :
    ∃ y : Int, h.items.getD 0 0 = y ∧ 0 ≤ y ∧ y < t.nodes ∧ gI dist y = -1 ∧ 0 ≤ gI h.keys y ∧ gI h.keys y ≤ 65535 * 64 ∧
      DJ t down n fr (gI h.keys y) (dist.set y.toNat (gI h.keys y)) (popF h) (fun a => nearT t fr a = y) ∧ cntD dist < dist.length ∧ cntD (dist.set y.toNat (gI h.keys y)) = cntD dist + 1 := by
  have hl := H.len
  have hkl := H.klen
  have hnn := validB_head hv
  obtain ⟨y, y1, y2, y3⟩ := H.hi.top he
  obtain ⟨p1, p2, p3⟩ := pop_HI H.hi he
  refine ⟨y, y1, by omega, by omega, ?_⟩
  rw [y1] at p3
  have hy0 : (0 : Int) ≤ y := by omega
  have hyn : (y : Int) < t.nodes := by omega
  have hd := H.excl y hy0 hyn (by simpa [gI] using y3)
  have hk := H.held y hy0 hyn (by simpa [gI] using y3)
  have hc0 := H.cur0
  have hcs : cntD (dist.set y (gI h.keys y)) = cntD dist + 1 := cntD_set (by omega) (by simpa [gI] using (by omega : gI dist y < 0)) (by omega)
  have hlt : cntD dist < dist.length := cntD_lt (i := y) (by omega) (by simpa [gI] using (by omega : gI dist y < 0))
  have tn : (y : Int).toNat = y := rfl
  have hset : ∀ i : Int, 0 ≤ i → gI (dist.set y (gI h.keys y)) i = if i = y then gI h.keys y else gI dist i := fun i i0 => by
    have := gI_set (l := dist) (y := (y : Int)) (v := gI h.keys y) (i := i) hy0 (by omega) i0
    rwa [tn] at this
  have hheld : ∀ i : Int, 0 ≤ i → i < t.nodes → (0 ≤ gI (popF h).places i ↔ 0 ≤ gI h.places i ∧ i ≠ y) := fun i i0 i1 => by
    have := p3 i.toNat (by omega)
    simp only [gI]
    have e : ((i.toNat : Nat) : Int) = i := by omega
    rw [e] at this
    constructor
    · intro hh
      refine ⟨?_, fun hq => ?_⟩
      · by_cases hl : h.places.getD i.toNat 0 < 0
        · have := this.2 (.inl hl); omega
        · omega
      · have := this.2 (.inr hq); omega
    · rintro ⟨q1, q2⟩
      by_cases hl : (popF h).places.getD i.toNat 0 < 0
      · rcases this.1 hl with h | h
        · omega
        · exact absurd h q2
      · omega
  have hle : ∀ i : Int, 0 ≤ i → i < t.nodes → 0 ≤ gI h.places i → gI h.keys y ≤ gI h.keys i := fun i i0 i1 hh => by
    have := H.hi.least (x := i.toNat) (by omega) hh
    rw [y1] at this; exact this
  refine ⟨hd, by omega, ?_, ?_, hlt, hcs⟩
  · have := hk.2; omega
  rw [tn]
  refine ⟨by simpa using hl, by rw [p2]; simpa using hkl, p1, fun i i0 i1 => ?_, fun i i0 i1 hh => ?_, by omega, fun i i0 i1 hh => ?_, fun i i0 i1 hh => ?_, ?_, fun a a0 a1 hp hok hh => ?_, fun i i0 i1 hin hh => ?_, fun i i0 i1 hin hh => ?_⟩
  · rw [hset i i0]
    split
    · right; omega
    · exact H.sign i i0 i1
  · rw [hheld i i0 i1] at hh
    rw [hset i i0, if_neg hh.2]
    exact H.excl i i0 i1 hh.1
  · rw [hset i i0] at hh ⊢
    rw [hcs]
    split
    · have := hk.2; omega
    · rename_i hne
      rw [if_neg hne] at hh
      have := H.done i i0 i1 hh
      omega
  · rw [hheld i i0 i1] at hh
    rw [p2, hcs]
    have h1 := hle i i0 i1 hh.1
    have h2 := H.held i i0 i1 hh.1
    omega
  · left
    rcases H.start with hs | ⟨hs1, hs2, hs3⟩
    · by_cases hny : n = y
      · rw [hny] at hs; omega
      · rw [hset n hn0, if_neg hny]; exact hs
    · have := (hs3 y hy0 hyn).2 (by simpa [gI] using y3)
      subst this
      rw [hset _ hy0, if_pos rfl]; exact hs2
  · have hb := arc_nf hv fr a0 a1
    rw [hset _ hb.1, if_neg hp] at hh ⊢
    rw [hset _ hb.2.2.1, hheld _ hb.2.2.1 hb.2.2.2.1, p2]
    by_cases hf : farT t fr a = y
    · rw [if_pos hf]
      left
      rcases H.close a a0 a1 (fun h => h) hok hh with hq | hq
      · rw [hf] at hq; omega
      · rw [hf] at hq; omega
    · rw [if_neg hf]
      rcases H.close a a0 a1 (fun h => h) hok hh with hq | hq
      · exact .inl hq
      · exact .inr ⟨⟨hq.1, hf⟩, hq.2⟩
  · rw [hset i i0] at hh ⊢
    have key : ∀ a : Int, 0 ≤ a ∧ a < 2 * t.links.length → 0 ≤ gI dist (nearT t fr a) → gI (dist.set y (gI h.keys y)) (nearT t fr a) = gI dist (nearT t fr a) := fun a ha hq => by
      have hb := arc_nf hv fr ha.1 ha.2
      rw [hset _ hb.1, if_neg (fun e => by rw [e] at hq; omega)]
    by_cases hi : i = y
    · rw [if_pos hi]
      subst hi
      obtain ⟨a, a0, a1, a2, a3, a4, a5⟩ := H.groundH _ i0 i1 hin (by simpa [gI] using y3)
      exact ⟨a, a0, a1, a2, a3, by rw [key a ⟨a0, a1⟩ a4]; exact a4, by rw [key a ⟨a0, a1⟩ a4]; exact a5⟩
    · rw [if_neg hi] at hh ⊢
      obtain ⟨a, a0, a1, a2, a3, a4, a5⟩ := H.groundD _ i0 i1 hin hh
      exact ⟨a, a0, a1, a2, a3, by rw [key a ⟨a0, a1⟩ a4]; exact a4, by rw [key a ⟨a0, a1⟩ a4]; exact a5⟩
  · rw [hheld i i0 i1] at hh
    rw [p2]
    obtain ⟨a, a0, a1, a2, a3, a4, a5⟩ := H.groundH _ i0 i1 hin hh.1
    have hb := arc_nf hv fr a0 a1
    have key : gI (dist.set y (gI h.keys y)) (nearT t fr a) = gI dist (nearT t fr a) := by rw [hset _ hb.1, if_neg (fun e => by rw [e] at a4; omega)]
    exact ⟨a, a0, a1, a2, a3, by rw [key]; exact a4, by rw [key]; exact a5⟩

/-- What is still to be looked at may be told otherwise. -/
theorem DJ.pend_mono {pend' : Int → Prop} (H : DJ t down n fr cur dist h pend) (hp : ∀ a : Int, 0 ≤ a → a < 2 * t.links.length → okA t down n fr a → pend a → 0 ≤ gI dist (nearT t fr a) →
    pend' a ∨ (0 ≤ gI dist (farT t fr a) ∧ gI dist (farT t fr a) ≤ gI dist (nearT t fr a) + costT t a) ∨ (0 ≤ gI h.places (farT t fr a) ∧ gI h.keys (farT t fr a) ≤ gI dist (nearT t fr a) + costT t a)) :
    DJ t down n fr cur dist h pend' := by
  refine ⟨H.len, H.klen, H.hi, H.sign, H.excl, H.cur0, H.done, H.held, H.start, fun a a0 a1 hp' hok hn => ?_, H.groundD, H.groundH⟩
  by_cases hpa : pend a
  · exact (hp a a0 a1 hok hpa hn).resolve_left hp'
  · exact H.close a a0 a1 hpa hok hn

/-- A node gets a key, or a lesser one. -/
theorem DJ.set (hv : validB t = true) (H : DJ t down n fr cur dist h pend) {a : Int} (a0 : 0 ≤ a) (a1 : a < 2 * t.links.length) (hok : okA t down n fr a) (hcur : gI dist (nearT t fr a) = cur) (hnew : gI dist (farT t fr a) < 0) (hn0 : gI dist n = 0)
    (hkey : gI h.places (farT t fr a) < 0 ∨ cur + costT t a < gI h.keys (farT t fr a)) :
    DJ t down n fr cur dist (setF h (farT t fr a).toNat (cur + costT t a)) pend ∧ 0 ≤ gI (setF h (farT t fr a).toNat (cur + costT t a)).places (farT t fr a) ∧ gI (setF h (farT t fr a).toNat (cur + costT t a)).keys (farT t fr a) = cur + costT t a := by
  have hl := H.len
  have hkl := H.klen
  have hnn := validB_head hv
  have hb := arc_nf hv fr a0 a1
  have hc0 := H.cur0
  obtain ⟨b1, b2, b3, b4, b5, b6, b7⟩ := hb
  have hdn := H.done _ b1 b2 (by rw [hcur]; exact hc0)
  generalize hx : farT t fr a = x at *
  have hkx : gI h.keys x = h.keys.getD x.toNat 0 := rfl
  have hpx : gI h.places x = h.places.getD x.toNat 0 := rfl
  obtain ⟨s1, s2, s3⟩ := set_HI (h := h) H.hi (x := x.toNat) (v := cur + costT t a) (by omega) (by omega) (by omega)
  have hheld : ∀ i : Int, 0 ≤ i → i < t.nodes → (0 ≤ gI (setF h x.toNat (cur + costT t a)).places i ↔ 0 ≤ gI h.places i ∨ i = x) := fun i i0 i1 => by
    have := s3 i.toNat (by omega)
    simp only [gI]
    constructor
    · intro hh
      by_cases hq : h.places.getD i.toNat 0 < 0
      · right
        by_cases he : i = x
        · exact he
        · have := this.2 ⟨hq, by omega⟩; omega
      · left; omega
    · intro hq
      by_cases hl : (setF h x.toNat (cur + costT t a)).places.getD i.toNat 0 < 0
      · have := this.1 hl; omega
      · omega
  have hkeys : ∀ i : Int, 0 ≤ i → gI (setF h x.toNat (cur + costT t a)).keys i = if i = x then cur + costT t a else gI h.keys i := fun i i0 => by
    rw [s2]; exact gI_set b3 (by omega) i0
  refine ⟨⟨hl, by rw [s2]; simpa using hkl, s1, H.sign, fun i i0 i1 hh => ?_, hc0, H.done, fun i i0 i1 hh => ?_, .inl hn0, fun c c0 c1 hp hok' hh => ?_, H.groundD, fun i i0 i1 hin hh => ?_⟩, (hheld x b3 b4).2 (.inr rfl), by rw [hkeys x b3, if_pos rfl]⟩
  · rcases (hheld i i0 i1).1 hh with hq | hq
    · exact H.excl i i0 i1 hq
    · subst hq
      have := H.sign i i0 i1; omega
  · rw [hkeys i i0]
    split
    · rw [hcur] at hdn; omega
    · rename_i hne
      exact H.held i i0 i1 (((hheld i i0 i1).1 hh).resolve_right hne)
  · have hb' := arc_nf hv fr c0 c1
    rw [hheld _ hb'.2.2.1 hb'.2.2.2.1, hkeys _ hb'.2.2.1]
    rcases H.close c c0 c1 hp hok' hh with hq | hq
    · exact .inl hq
    · right
      refine ⟨.inl hq.1, ?_⟩
      split
      · rename_i he
        rw [he] at hq
        omega
      · exact hq.2
  · rw [hkeys i i0]
    by_cases he : i = x
    · subst he
      rw [if_pos rfl]
      exact ⟨a, a0, a1, hok, hx, by rw [hcur]; exact hc0, by rw [hcur]⟩
    · rw [if_neg he]
      exact H.groundH i i0 i1 hin (((hheld i i0 i1).1 hh).resolve_right he)

theorem drop_cons {L : List Int} {j : Nat} (hj : j < L.length) {a : Int} : a ∈ L.drop j ↔ a = L.getD j 0 ∨ a ∈ L.drop (j + 1) := by
  rw [List.drop_eq_getElem_cons hj, List.mem_cons, List.getD_eq_getElem?_getD, List.getElem?_eq_getElem hj]; rfl

theorem DJ.arcs {y : Int} (hv : validB t = true) (H : DJ t down n fr cur dist h (fun a => nearT t fr a = y)) : DJ t down n fr cur dist h (fun a => a ∈ (arcsL t y fr).drop 0) :=
  H.pend_mono fun a a0 a1 _ hp _ => .inl (by rw [List.drop_zero, mem_arcsL hv]; exact ⟨a0, a1, hp⟩)
theorem DJ.over {y : Int} (H : DJ t down n fr cur dist h (fun a => nearT t fr a = y)) (hyn : y ≠ n) (ho : overT t y = true) : DJ t down n fr cur dist h (fun _ => False) :=
  H.pend_mono fun a a0 a1 hok hp _ => by
    rcases hok.2 with h | h
    · exact absurd (hp.symm.trans h) hyn
    · rw [hp, ho] at h; cases h
theorem DJ.done_arcs {L : List Int} {j : Nat} (H : DJ t down n fr cur dist h (fun a => a ∈ L.drop j)) (hj : L.length ≤ j) : DJ t down n fr cur dist h (fun _ => False) :=
  H.pend_mono fun a a0 a1 _ hp _ => by rw [List.drop_eq_nil_of_le hj] at hp; simp at hp
theorem DJ.next {L : List Int} {j : Nat} (hv : validB t = true) (H : DJ t down n fr cur dist h (fun a => a ∈ L.drop j)) (hj : j < L.length) (hcur : gI dist (nearT t fr (L.getD j 0)) = cur)
    (hh : upB down (L.getD j 0) = false ∨ 0 ≤ gI dist (farT t fr (L.getD j 0)) ∨ (0 ≤ gI h.places (farT t fr (L.getD j 0)) ∧ gI h.keys (farT t fr (L.getD j 0)) ≤ cur + costT t (L.getD j 0))) :
    DJ t down n fr cur dist h (fun a => a ∈ L.drop (j + 1)) :=
  H.pend_mono fun a a0 a1 hok hp hn => by
    rcases (drop_cons hj).1 hp with he | he
    · right
      have hb := arc_nf hv fr a0 a1
      rw [← he] at hh hcur
      rcases hh with h | h | h
      · rw [hok.1] at h; cases h
      · left; refine ⟨h, ?_⟩
        have := H.done _ hb.2.2.1 hb.2.2.2.1 h
        rw [hcur]; omega
      · right; rw [hcur]; exact h
    · exact .inl he
theorem DJ.put {L : List Int} {j : Nat} (hv : validB t = true) (H : DJ t down n fr cur dist h (fun a => a ∈ L.drop j)) (hj : j < L.length) (hcur : gI dist (nearT t fr (L.getD j 0)) = cur) (a0 : 0 ≤ L.getD j 0) (a1 : L.getD j 0 < 2 * t.links.length)
    (hup : upB down (L.getD j 0) = true) (htr : nearT t fr (L.getD j 0) = n ∨ overT t (nearT t fr (L.getD j 0)) = false) (hnew : gI dist (farT t fr (L.getD j 0)) < 0) (hn0 : gI dist n = 0)
    (hkey : gI h.places (farT t fr (L.getD j 0)) < 0 ∨ cur + costT t (L.getD j 0) < gI h.keys (farT t fr (L.getD j 0))) :
    DJ t down n fr cur dist (setF h (farT t fr (L.getD j 0)).toNat (cur + costT t (L.getD j 0))) (fun a => a ∈ L.drop (j + 1)) := by
  obtain ⟨H1, H2, H3⟩ := H.set hv a0 a1 ⟨hup, htr⟩ hcur hnew hn0 hkey
  exact H1.next hv hj hcur (.inr (.inr ⟨H2, by omega⟩))
/-- The start is done as soon as anything is. -/
theorem DJ.n0 {y : Int} (H : DJ t down n fr cur dist h pend) (y0 : 0 ≤ y) (y1 : y < t.nodes) (hy : 0 ≤ gI dist y) : gI dist n = 0 := by
  rcases H.start with h | ⟨_, _, h⟩
  · exact h
  · have := (h y y0 y1).1; omega

theorem DJ.all_arcs {L : List Int} {y : Int} (hv : validB t = true) (hL : ∀ a, a ∈ L → 0 ≤ a ∧ a < 2 * t.links.length ∧ nearT t fr a = y) (hcur : gI dist y = cur) (hn0 : gI dist n = 0) (htr : y = n ∨ overT t y = false) :
    ∀ (m j : Nat) (h : Hp), L.length - j = m → DJ t down n fr cur dist h (fun a => a ∈ L.drop j) → ∃ h', DJ t down n fr cur dist h' (fun _ => False) := by
  intro m
  induction m with
  | zero => intro j h hm H; exact ⟨h, H.done_arcs (by omega)⟩
  | succ m ih =>
    intro j h hm H
    have hj : j < L.length := by omega
    obtain ⟨a0, a1, a2⟩ := hL _ (getD_mem (d := 0) hj)
    have hc : gI dist (nearT t fr (L.getD j 0)) = cur := by rw [a2]; exact hcur
    cases hup : upB down (L.getD j 0) with
    | false => exact ih (j + 1) h (by omega) (H.next hv hj hc (.inl hup))
    | true =>
      by_cases hd : 0 ≤ gI dist (farT t fr (L.getD j 0))
      · exact ih (j + 1) h (by omega) (H.next hv hj hc (.inr (.inl hd)))
      · by_cases hk : 0 ≤ gI h.places (farT t fr (L.getD j 0)) ∧ gI h.keys (farT t fr (L.getD j 0)) ≤ cur + costT t (L.getD j 0)
        · exact ih (j + 1) h (by omega) (H.next hv hj hc (.inr (.inr hk)))
        · exact ih (j + 1) _ (by omega) (H.put hv hj hc a0 a1 hup (by rw [a2]; exact htr) (by omega) hn0 (by omega))

theorem DJ.goes (hv : validB t = true) (h0 : 0 ≤ n) (h1 : n < t.nodes) : ∀ (m : Nat) (cur : Int) (dist : List Int) (h : Hp), dist.length - cntD dist = m → DJ t down n fr cur dist h (fun _ => False) → ∃ l, IsDist t down n fr l ∧ ∀ i : Int, 0 ≤ i → i < t.nodes → gI l i ≤ 65535 * 64 := by
  intro m
  induction m using Nat.strongRecOn with
  | _ m ih =>
    intro cur dist h hm H
    by_cases he : h.items.length = 0
    · refine ⟨dist, H.fin hv h0 h1 he, fun i i0 i1 => ?_⟩
      have hc : cntD dist ≤ dist.length := List.countP_le_length
      have hl := H.len
      have hnn := validB_head hv
      by_cases hi : 0 ≤ gI dist i
      · have := (H.done i i0 i1 hi).2; omega
      · omega
    · obtain ⟨y, y1, y0, yn, yd, yk, yk2, H2, hc1, hc2⟩ := H.pop hv h0 (by omega)
      have hl2 := H2.len
      have hset : gI (dist.set y.toNat (gI h.keys y)) y = gI h.keys y := by rw [gI_set y0 (by have := H.len; omega) y0, if_pos rfl]
      have hdn0 := H2.n0 y0 yn (by rw [hset]; exact yk)
      have hmm : (dist.set y.toNat (gI h.keys y)).length - cntD (dist.set y.toNat (gI h.keys y)) < m := by simp only [List.length_set]; omega
      by_cases htr : y = n ∨ overT t y = false
      · obtain ⟨h', H3⟩ := DJ.all_arcs hv (L := arcsL t y fr) (y := y) (fun a ha => (mem_arcsL hv).1 ha) hset hdn0 htr _ 0 (popF h) rfl (H2.arcs hv)
        exact ih _ hmm _ _ _ rfl H3
      · have hyn : y ≠ n := fun e => htr (.inl e)
        have ho : overT t y = true := by
          cases hq : overT t y with
          | true => rfl
          | false => exact absurd (.inr hq) htr
        exact ih _ hmm _ _ _ rfl (H2.over hyn ho)

end

theorem distF_is' {t : Topo} {down : List Bool} {n : Int} {fr : Bool} (hv : validB t = true) (h0 : 0 ≤ n) (h1 : n < t.nodes) : IsDist t down n fr (distF t down n fr) ∧ ∀ i : Int, 0 ≤ i → i < t.nodes → gI (distF t down n fr) i ≤ 65535 * 64 := by
  obtain ⟨l, hl⟩ := DJ.goes hv h0 h1 _ _ _ _ rfl (DJ.init (down := down) (fr := fr) hv h0 h1)
  rw [hl.1.eq hv]; exact hl
theorem distF_is {t : Topo} {down : List Bool} {n : Int} {fr : Bool} (hv : validB t = true) (h0 : 0 ≤ n) (h1 : n < t.nodes) : IsDist t down n fr (distF t down n fr) := (distF_is' hv h0 h1).1
theorem distL_bnd {t : Topo} {down : List Bool} {n : Int} {fr : Bool} (h : errS t down n = 0) : ∀ i : Int, 0 ≤ i → i < t.nodes → gI (distL t down n fr) i ≤ 65535 * 64 := by
  obtain ⟨hf, h0, h1⟩ := errS_0 h
  unfold distL
  rw [if_pos h]
  exact (distF_is' (fitsB_v hf) h0 h1).2
theorem distL_is {t : Topo} {down : List Bool} {n : Int} {fr : Bool} (h : errS t down n = 0) : IsDist t down n fr (distL t down n fr) := by
  obtain ⟨hf, h0, h1⟩ := errS_0 h
  unfold distL
  rw [if_pos h]
  exact distF_is (fitsB_v hf) h0 h1

end Go.Proofs.YtcnfggpcploehaaDoor

/- The first shortest path, plainly. -/
namespace Go.Proofs.YtcnfggpcploehaaDoor
set_option maxRecDepth 10000
open Go.Wk

/-- May a shortest path to d go over the arc, where l are the distances to d? -/
def onP (t : Topo) (down : List Bool) (d : Int) (l : List Int) (n a : Int) : Bool :=
  upB down a && decide (0 ≤ gI l (headT t a)) && (decide (headT t a = d) || !overT t (headT t a)) && decide (gI l n = gI l (headT t a) + costT t a)
def nextP (t : Topo) (down : List Bool) (d : Int) (l : List Int) (n : Int) : Option Int := (arcsL t n true).find? (onP t down d l n)
def pathG (t : Topo) (down : List Bool) (d : Int) (l : List Int) : Nat → Int → List Int
  | 0, _ => []
  | k + 1, n => if n = d then [] else match nextP t down d l n with
    | some a => a :: pathG t down d l k (headT t a)
    | none => []
def pathF (t : Topo) (down : List Bool) (d : Int) (l : List Int) (n : Int) : List Int := pathG t down d l ((gI l n).toNat + 1) n

section
variable {t : Topo} {down : List Bool} {d n : Int} {l : List Int}

theorem onP_iff {a : Int} : onP t down d l n a = true ↔ upB down a = true ∧ 0 ≤ gI l (headT t a) ∧ (headT t a = d ∨ overT t (headT t a) = false) ∧ gI l n = gI l (headT t a) + costT t a := by
  simp only [onP, Bool.and_eq_true, decide_eq_true_eq, Bool.or_eq_true, Bool.not_eq_true', and_assoc]

theorem nextP_some (hv : validB t = true) (hl : IsDist t down d false l) (h0 : 0 ≤ n) (h1 : n < t.nodes) (hn : 0 ≤ gI l n) (hnd : n ≠ d) :
    ∃ a, nextP t down d l n = some a ∧ 0 ≤ a ∧ a < 2 * t.links.length ∧ tailT t a = n ∧ onP t down d l n a = true ∧ 0 ≤ gI l (headT t a) ∧ gI l (headT t a) < gI l n ∧ 0 ≤ headT t a ∧ headT t a < t.nodes := by
  obtain ⟨a, a0, a1, a2, a3, a4, a5⟩ := hl.ground n h0 h1 hnd hn
  have hm : a ∈ arcsL t n true := (mem_arcsL hv).2 ⟨a0, a1, a3⟩
  have hon : onP t down d l n a = true := onP_iff.2 ⟨a2.1, a4, a2.2, a5⟩
  cases hf : nextP t down d l n with
  | none => exact absurd hon (List.find?_eq_none.1 hf a hm)
  | some b =>
    have hb := List.find?_some hf
    obtain ⟨b0, b1, b2⟩ := (mem_arcsL hv).1 (List.mem_of_find?_eq_some hf)
    have hok := arc_ok hv b0 b1
    obtain ⟨o1, o2, o3, o4⟩ := onP_iff.1 hb
    exact ⟨b, rfl, b0, b1, b2, hb, o2, by omega, hok.2.2.1, hok.2.2.2.1⟩

theorem pathG_fuel (hv : validB t = true) (hl : IsDist t down d false l) : ∀ (k k' : Nat) (n : Int), 0 ≤ n → n < t.nodes → 0 ≤ gI l n → gI l n < k → gI l n < k' → pathG t down d l k n = pathG t down d l k' n := by
  intro k
  induction k with
  | zero => intro k' n h0 h1 hn hk; omega
  | succ k ih =>
    intro k' n h0 h1 hn hk hk'
    cases k' with
    | zero => omega
    | succ k' =>
      simp only [pathG]
      by_cases hnd : n = d
      · rw [if_pos hnd, if_pos hnd]
      · rw [if_neg hnd, if_neg hnd]
        obtain ⟨a, e, _, _, _, _, a4, a5, a6, a7⟩ := nextP_some hv hl h0 h1 hn hnd
        rw [e]
        simp only
        rw [ih k' _ a6 a7 a4 (by omega) (by omega)]

theorem pathF_end : pathF t down d l d = [] := by
  unfold pathF pathG
  rw [if_pos rfl]
theorem pathF_step (hv : validB t = true) (hl : IsDist t down d false l) (h0 : 0 ≤ n) (h1 : n < t.nodes) (hn : 0 ≤ gI l n) (hnd : n ≠ d) {a : Int} (ha : nextP t down d l n = some a) : pathF t down d l n = a :: pathF t down d l (headT t a) := by
  obtain ⟨b, e, _, _, _, _, b4, b5, b6, b7⟩ := nextP_some hv hl h0 h1 hn hnd
  rw [ha] at e; cases e
  unfold pathF
  conv => lhs; rw [pathG]
  rw [if_neg hnd, ha]
  simp only
  rw [pathG_fuel hv hl _ ((gI l (headT t a)).toNat + 1) _ b6 b7 b4 (by omega) (by omega)]

theorem find_at {L : List Int} {p : Int → Bool} {j : Nat} (hj : j < L.length) (h1 : ∀ i, i < j → p (L.getD i 0) = false) (h2 : p (L.getD j 0) = true) : L.find? p = some (L.getD j 0) := by
  induction L generalizing j with
  | nil => simp at hj
  | cons x r ih =>
    cases j with
    | zero => simp only [List.getD_cons_zero] at h2; simp [List.find?_cons, h2]
    | succ j =>
      have := h1 0 (by omega)
      simp only [List.getD_cons_zero] at this
      rw [List.find?_cons, this]
      simp only [List.getD_cons_succ] at h2 ⊢
      exact ih (by simpa using hj) (fun i hi => by have := h1 (i + 1) (by omega); simpa using this) h2
theorem nextP_at {j : Nat} (hj : j < (arcsL t n true).length) (h1 : ∀ i, i < j → onP t down d l n ((arcsL t n true).getD i 0) = false) (h2 : onP t down d l n ((arcsL t n true).getD j 0) = true) : nextP t down d l n = some ((arcsL t n true).getD j 0) := find_at hj h1 h2
theorem nextP_no (h1 : ∀ i, i < (arcsL t n true).length → onP t down d l n ((arcsL t n true).getD i 0) = false) : nextP t down d l n = none := by
  refine List.find?_eq_none.2 fun x hx => ?_
  obtain ⟨k, hk, rfl⟩ := List.mem_iff_getElem.1 hx
  have := h1 k hk
  simpa [List.getD_eq_getElem?_getD, hk] using this

theorem arcsR_getD {m k : Nat} (h : k < m) : (arcsR m).getD k 0 = k := by
  simp [arcsR, List.getD_eq_getElem?_getD, h]
/-- The first of all arcs. -/
theorem nextP_all (hv : validB t = true) {a : Nat} (ha : a < 2 * t.links.length) (ht : tailT t a = n) (h1 : ∀ i : Nat, i < a → tailT t i = n → onP t down d l n i = false) (h2 : onP t down d l n a = true) : nextP t down d l n = some (a : Int) := by
  unfold nextP
  rw [arcsL_eq hv, List.find?_filter]
  have := find_at (L := arcsR (2 * t.links.length)) (p := fun x => decide (nearT t true x = n) && onP t down d l n x) (j := a) (by simp [arcsR]; omega) (fun i hi => by
    rw [arcsR_getD (by omega)]
    by_cases hq : tailT t i = n
    · rw [h1 i hi hq, Bool.and_false]
    · simp [nearT, hq]) (by rw [arcsR_getD ha]; simp [nearT, ht, h2])
  rw [arcsR_getD ha] at this
  simpa using this

theorem onP_len (hv : validB t = true) (hl : IsDist t down d false l) : ∀ (k : Nat) (n : Int), 0 ≤ n → n < t.nodes → 0 ≤ gI l n → gI l n ≤ k → (pathF t down d l n).length ≤ k := by
  intro k
  induction k using Nat.strongRecOn with
  | _ k ih =>
    intro n h0 h1 hn hk
    by_cases hnd : n = d
    · rw [hnd, pathF_end]; simp
    · obtain ⟨a, e, _, _, _, _, a4, a5, a6, a7⟩ := nextP_some hv hl h0 h1 hn hnd
      rw [pathF_step hv hl h0 h1 hn hnd e]
      have := ih (k - 1) (by omega) (headT t a) a6 a7 a4 (by omega)
      simp; omega

end

/-- The result code of Path. -/
noncomputable def errP (t : Topo) (down : List Bool) (s d : Int) : Int :=
  if errS t down d = 0 then (bif decide (s < 0) || decide (t.nodes ≤ s) then 2 else (if gI (distL t down d false) s < 0 then 11 else 0)) else errS t down d
noncomputable def pathL (t : Topo) (down : List Bool) (s d : Int) : List Int := if errP t down s d = 0 then pathF t down d (distL t down d false) s else []
theorem errP_0 {t : Topo} {down : List Bool} {s d : Int} (h : errP t down s d = 0) : errS t down d = 0 ∧ 0 ≤ s ∧ s < t.nodes ∧ 0 ≤ gI (distL t down d false) s := by
  unfold errP at h
  by_cases h1 : errS t down d = 0
  · rw [if_pos h1] at h
    cases hn : (decide (s < 0) || decide (t.nodes ≤ s)) with
    | true => rw [hn] at h; cases h
    | false =>
      rw [hn] at h
      simp only [cond_false] at h
      simp only [Bool.or_eq_false_iff, decide_eq_false_iff_not] at hn
      by_cases h2 : gI (distL t down d false) s < 0
      · rw [if_pos h2] at h; cases h
      · exact ⟨h1, by omega, by omega, by omega⟩
  · rw [if_neg h1] at h; exact absurd h h1

theorem pathL_len (t : Topo) (down : List Bool) (s d : Int) : (pathL t down s d).length ≤ 65535 * 64 := by
  by_cases h : errP t down s d = 0
  · obtain ⟨h1, s0, s1, sn⟩ := errP_0 h
    have hl := distL_is (fr := false) h1
    have hb := distL_bnd (fr := false) h1 s s0 s1
    unfold pathL
    rw [if_pos h]
    have := onP_len (fitsB_v (errS_0 h1).1) hl (gI (distL t down d false) s).toNat s s0 s1 sn (by omega)
    omega
  · unfold pathL; rw [if_neg h]; simp

end Go.Proofs.YtcnfggpcploehaaDoor

/- Rows of literals. -/
namespace Go.Wk
set_option maxRecDepth 10000
open Go.RowKit

theorem litB_ones {size : Nat} {css : List (List D)} (h : css.all (fun c => c.all D.one) = true) : (litB size css).ones := by
  have row : (Blk.row size css.length fun i => css.getD i []).ones := by
    intro i hi x hx
    simp only at hx
    rw [List.getD_eq_getElem?_getD, List.getElem?_eq_getElem hi] at hx
    simp only [Option.getD_some] at hx
    rw [List.all_eq_true] at h
    have := h _ (List.getElem_mem hi)
    rw [List.all_eq_true] at this
    exact this x hx
  unfold litB
  split
  · cases Nat.beq size 1 with
    | false => exact row
    | true => trivial
  · split
    · cases Nat.beq size 1 with
      | false => exact row
      | true => trivial
    · exact row
end Go.Wk

/- Laws of layer 11: the example's topology. -/
namespace Go.Proofs.YtcnfggpcploehaaDoor
set_option maxRecDepth 10000
open Go.Wk

def sqL (k : Nat) : Lk := ⟨k, ((k : Int) + 1) % 4, 1, 1, 0, 1, 0⟩
def sqT : Topo := ⟨4, [], [sqL 0, sqL 1, sqL 2, sqL 3]⟩

def sqD (ov : D) : D := .agg [iD 4, ov, .arr 7 4 fun k => lkD (sqL k)]
theorem sqD_le {ov : D} {bs : List Bool} (h : DLe ov (boolsD bs)) : DLe (sqD ov) (topoD ⟨4, bs, [sqL 0, sqL 1, sqL 2, sqL 3]⟩) := by
  refine DLe.agg ⟨DLe.refl _, h, DLe.arr fun i hi => ?_, trivial⟩
  match i, hi with
  | 0, _ => rfl
  | 1, _ => rfl
  | 2, _ => rfl
  | 3, _ => rfl

end Go.Proofs.YtcnfggpcploehaaDoor

/- Layer 3: the heap. -/
namespace Go.Proofs.YtcnfggpcploehaaDoor
set_option maxRecDepth 10000
open Go.Wk

/-- A heap as the caller's blocks: itself, its items, its keys, its places. -/
abbrev hpS (items keys places : List Int) : List Blk := [.cells [.own 1, .own 2, .own 3], .ints .i64 items, .ints .i64 keys, .ints .i64 places]
abbrev iV (n : Int) : V := .d (iD n)

theorem h_before (items keys places : List Int) (i k : Int) (hi : 0 ≤ i ∧ i < keys.length) (hk : 0 ≤ k ∧ k < keys.length) :
    CtrO Tryd.prog 74 [.ptr 0 0, iV i, iV k] (hpS items keys places) (hpS items keys places) (.d (bD (beforeB keys i k))) := by
  refine spec_obj envOK (Go.Wk.enters_of Tryd.func74 (by kernel_rfl) (by kernel_rfl)) Tryd.func74 rfl rfl _ rfl (Nat.le_of_ble_eq_true rfl) rfl (by simp [kinds, Blk.isRow]) fun w0 ρ0 => ?_
  repeat' (first
  
    |refine zA ?_|refine zB ?_|refine zC (by kernel_rfl) (by kernel_rfl) ?_|refine zD ?_|refine zE ?_|refine zF rfl trivial ?_|refine zG ?_|refine zH rfl trivial ?_|refine zI ?_|refine zJ rfl trivial ?_|refine zK ?_|refine zL rfl trivial rfl ?_|refine zM ?_|refine zN rfl trivial ?_|refine zO rfl trivial ?_|refine zP rfl trivial (fun hc => ?_) (fun hc => ?_)|refine zQ rfl trivial (fun hc => ?_) (fun hc => ?_)|refine zR rfl trivial (fun hc => ?_) (fun hc => ?_)|refine zS rfl trivial (fun hc => ?_) (fun hc => ?_)|refine zT ?_|refine zU ?_|refine zF rfl ?_ ?_|refine zH rfl ?_ ?_|refine zJ rfl ?_ ?_|refine zL rfl ?_ rfl ?_|refine zV rfl trivial rfl rfl rfl ?_|refine zW rfl rfl rfl rfl ?_|refine zX rfl rfl trivial rfl trivial rfl rfl rfl rfl rfl ?_
  
    |(show allP _; first | trivial | exact ob1 (fun h => h) | exact ob2 (fun h => h) (fun h => h) | exact ob1 (fun h => ⟨h.1, trivial⟩) | (simp only [obS]; first | omega | (intros; omega) | (simp only [obL]; first | omega | (intros; omega)) | (refine ⟨?_, ?_⟩ <;> intros <;> first | (with_reducible assumption) | omega) | ((repeat' refine And.intro ?_ ?_) <;> (intros; first | (with_reducible assumption) | omega | (simp only [obL]; omega))) | ((try simp only [obB] at *); (try simp only [Blk.len] at *); first | omega | (intros; omega)) | (simp_all; done))))
  refine retO1 rfl (by (repeat (first | exact subS_nil | refine subS_cons (by first | rfl | rfl) ?_))) rfl rfl ?_
  rfl

theorem h_put (items keys places : List Int) (i at_ : Int) (hi : 0 ≤ i ∧ i < places.length) (ha : 0 ≤ at_ ∧ at_ < items.length) :
    CtrO Tryd.prog 75 [.ptr 0 0, iV i, iV at_] (hpS items keys places) (hpS (items.set at_.toNat i) keys (places.set i.toNat at_)) (.tup []) := by
  refine spec_obj envOK (Go.Wk.enters_of Tryd.func75 (by kernel_rfl) (by kernel_rfl)) Tryd.func75 rfl rfl _ rfl (Nat.le_of_ble_eq_true rfl) rfl (by simp [kinds, Blk.isRow]) fun w0 ρ0 => ?_
  repeat' (first
    | refine aw_region_m [1, 3] [false, false, false, false, false, false, false, false, false, false, false, false, false, true, false, true] (by kernel_rfl) (by kernel_rfl) (by kernel_rfl) rfl (by simp) ?_
    |refine zA ?_|refine zB ?_|refine zC (by kernel_rfl) (by kernel_rfl) ?_|refine zD ?_|refine zE ?_|refine zF rfl trivial ?_|refine zG ?_|refine zH rfl trivial ?_|refine zI ?_|refine zJ rfl trivial ?_|refine zK ?_|refine zL rfl trivial rfl ?_|refine zM ?_|refine zN rfl trivial ?_|refine zO rfl trivial ?_|refine zP rfl trivial (fun hc => ?_) (fun hc => ?_)|refine zQ rfl trivial (fun hc => ?_) (fun hc => ?_)|refine zR rfl trivial (fun hc => ?_) (fun hc => ?_)|refine zS rfl trivial (fun hc => ?_) (fun hc => ?_)|refine zT ?_|refine zU ?_|refine zF rfl ?_ ?_|refine zH rfl ?_ ?_|refine zJ rfl ?_ ?_|refine zL rfl ?_ rfl ?_|refine zV rfl trivial rfl rfl rfl ?_|refine zW rfl rfl rfl rfl ?_|refine zX rfl rfl trivial rfl trivial rfl rfl rfl rfl rfl ?_
    | refine am_store_ep rfl rfl trivial rfl trivial rfl rfl rfl rfl rfl rfl rfl ?_
    |(show allP _; first | trivial | exact ob1 (fun h => h) | exact ob2 (fun h => h) (fun h => h) | exact ob1 (fun h => ⟨h.1, trivial⟩) | (simp only [obS]; first | omega | (intros; omega) | (simp only [obL]; first | omega | (intros; omega)) | (refine ⟨?_, ?_⟩ <;> intros <;> first | (with_reducible assumption) | omega) | ((repeat' refine And.intro ?_ ?_) <;> (intros; first | (with_reducible assumption) | omega | (simp only [obL]; omega))) | ((try simp only [obB] at *); (try simp only [Blk.len] at *); first | omega | (intros; omega)) | (simp_all; done))))
  (first | refine retON rfl (by (repeat (first | exact subS_nil | refine subS_cons (by first | rfl | rfl) ?_))) rfl | refine retON' rfl (by (repeat (first | exact subS_nil | refine subS_cons (by first | rfl | rfl) ?_))) rfl)

theorem h_up (items keys places : List Int) (at_ : Nat) (ha : at_ < items.length) (hok : okH keys items places) :
    CtrO Tryd.prog 71 [.ptr 0 0, iV at_] (hpS items keys places) (hpS (upF keys (items.getD at_ 0) items places at_).1 keys (upF keys (items.getD at_ 0) items places at_).2) (.tup []) := by
  refine spec_obj envOK (Go.Wk.enters_of Tryd.func71 (by kernel_rfl) (by kernel_rfl)) Tryd.func71 rfl rfl _ rfl (Nat.le_of_ble_eq_true rfl) rfl (by simp [kinds, Blk.isRow]) fun w0 ρ0 => ?_
  have hl := hok.2.1
  have hi := hok.2.2 at_ ha
  repeat' (first
  
    |refine zA ?_|refine zB ?_|refine zC (by kernel_rfl) (by kernel_rfl) ?_|refine zD ?_|refine zE ?_|refine zF rfl trivial ?_|refine zG ?_|refine zH rfl trivial ?_|refine zI ?_|refine zJ rfl trivial ?_|refine zK ?_|refine zL rfl trivial rfl ?_|refine zM ?_|refine zN rfl trivial ?_|refine zO rfl trivial ?_|refine zP rfl trivial (fun hc => ?_) (fun hc => ?_)|refine zQ rfl trivial (fun hc => ?_) (fun hc => ?_)|refine zR rfl trivial (fun hc => ?_) (fun hc => ?_)|refine zS rfl trivial (fun hc => ?_) (fun hc => ?_)|refine zT ?_|refine zU ?_|refine zF rfl ?_ ?_|refine zH rfl ?_ ?_|refine zJ rfl ?_ ?_|refine zL rfl ?_ rfl ?_|refine zV rfl trivial rfl rfl rfl ?_|refine zW rfl rfl rfl rfl ?_|refine zX rfl rfl trivial rfl trivial rfl rfl rfl rfl rfl ?_
  
    |(show allP _; first | trivial | exact ob1 (fun h => h) | exact ob2 (fun h => h) (fun h => h) | exact ob1 (fun h => ⟨h.1, trivial⟩) | (simp only [obS]; first | omega | (intros; omega) | (simp only [obL]; first | omega | (intros; omega)) | (refine ⟨?_, ?_⟩ <;> intros <;> first | (with_reducible assumption) | omega) | ((repeat' refine And.intro ?_ ?_) <;> (intros; first | (with_reducible assumption) | omega | (simp only [obL]; omega))) | ((try simp only [obB] at *); (try simp only [Blk.len] at *); first | omega | (intros; omega)) | (simp_all; done))))
  refine aw_loop (ι := List Int × List Int × Nat) (fun s => [(4, [], iV (items.getD at_ 0)), (0, [], .ptr 0 0), (1, [], iV s.2.2)]) (fun s => hpS s.1 keys s.2.1)
    (fun s => upF keys (items.getD at_ 0) s.1 s.2.1 s.2.2 = upF keys (items.getD at_ 0) items places at_ ∧ s.2.2 < s.1.length ∧ okH keys s.1 s.2.1) (fun s => s.2.2) (items, places, at_) ⟨rfl, ha, hok⟩ (fun _ => Nat.le_of_ble_eq_true rfl) (by refine weak_to ?_ ?_ rfl rfl
                                                                                                                                                                                                                                                  · repeat (first | exact subF_nil | refine subF_cons (by first | rfl | (simp [look]; done)) ?_)
                                                                                                                                                                                                                                                  · repeat (first | exact subS_nil | refine subS_cons (by first | rfl | (simp; done)) ?_)) fun s hJ => ?_
  obtain ⟨its, pls, at1⟩ := s
  obtain ⟨hJ, ha1, hok1⟩ := hJ
  simp only at hJ ha1 hok1 ⊢
  have hl1 := hok1.2.1
  have e : 0 < at1 → (((at1 : Int) - 1) / 2).toNat = (at1 - 1) / 2 := by omega
  have hp := hok1.2.2 ((at1 - 1) / 2) (by omega)
  have hp' : 0 < (at1 : Int) → 0 ≤ its.getD (((at1 : Int) - 1) / 2).toNat 0 ∧ its.getD (((at1 : Int) - 1) / 2).toNat 0 < keys.length := fun h => by rw [e (by omega)]; exact hp
  repeat' (first
  
    |refine zA ?_|refine zB ?_|refine zC (by kernel_rfl) (by kernel_rfl) ?_|refine zD ?_|refine zE ?_|refine zF rfl trivial ?_|refine zG ?_|refine zH rfl trivial ?_|refine zI ?_|refine zJ rfl trivial ?_|refine zK ?_|refine zL rfl trivial rfl ?_|refine zM ?_|refine zN rfl trivial ?_|refine zO rfl trivial ?_|refine zP rfl trivial (fun hc => ?_) (fun hc => ?_)|refine zQ rfl trivial (fun hc => ?_) (fun hc => ?_)|refine zR rfl trivial (fun hc => ?_) (fun hc => ?_)|refine zS rfl trivial (fun hc => ?_) (fun hc => ?_)|refine zT ?_|refine zU ?_|refine zF rfl ?_ ?_|refine zH rfl ?_ ?_|refine zJ rfl ?_ ?_|refine zL rfl ?_ rfl ?_|refine zV rfl trivial rfl rfl rfl ?_|refine zW rfl rfl rfl rfl ?_|refine zX rfl rfl trivial rfl trivial rfl rfl rfl rfl rfl ?_
    | refine ao_callG rfl (fun hg => h_before its keys pls (items.getD at_ 0) (its.getD (((at1 : Int) - 1) / 2).toNat 0) hi (hp' (of_decide_eq_true hg.1))) [0, 1, 2, 3] ?_ rfl rfl rfl rfl rfl rfl (by simp [kinds, Blk.isRow]) (by simp [bflats, bflat, vflats, vflat, D.flat, D.scal, Blk.flat]) rfl rfl rfl rfl rfl ?_
    |(show allP _; first | trivial | exact ob1 (fun h => h) | exact ob2 (fun h => h) (fun h => h) | exact ob1 (fun h => ⟨h.1, trivial⟩) | (simp only [obS]; first | omega | (intros; omega) | (simp only [obL]; first | omega | (intros; omega)) | (refine ⟨?_, ?_⟩ <;> intros <;> first | (with_reducible assumption) | omega) | ((repeat' refine And.intro ?_ ?_) <;> (intros; first | (with_reducible assumption) | omega | (simp only [obL]; omega))) | ((try simp only [obB] at *); (try simp only [Blk.len] at *); first | omega | (intros; omega)) | (simp_all; done))))
  · simp only [Bool.and_eq_true, decide_eq_true_eq] at hc
    have h0 : 0 < at1 := by omega
    have e1 := e h0
    repeat' (first
    
      |refine zA ?_|refine zB ?_|refine zC (by kernel_rfl) (by kernel_rfl) ?_|refine zD ?_|refine zE ?_|refine zF rfl trivial ?_|refine zG ?_|refine zH rfl trivial ?_|refine zI ?_|refine zJ rfl trivial ?_|refine zK ?_|refine zL rfl trivial rfl ?_|refine zM ?_|refine zN rfl trivial ?_|refine zO rfl trivial ?_|refine zP rfl trivial (fun hc => ?_) (fun hc => ?_)|refine zQ rfl trivial (fun hc => ?_) (fun hc => ?_)|refine zR rfl trivial (fun hc => ?_) (fun hc => ?_)|refine zS rfl trivial (fun hc => ?_) (fun hc => ?_)|refine zT ?_|refine zU ?_|refine zF rfl ?_ ?_|refine zH rfl ?_ ?_|refine zJ rfl ?_ ?_|refine zL rfl ?_ rfl ?_|refine zV rfl trivial rfl rfl rfl ?_|refine zW rfl rfl rfl rfl ?_|refine zX rfl rfl trivial rfl trivial rfl rfl rfl rfl rfl ?_
      | refine ao_callO rfl (h_put its keys pls (its.getD (((at1 : Int) - 1) / 2).toNat 0) at1 (by rw [hok1.1]; exact hp' hc.1) (by omega)) [0, 1, 2, 3] trivial rfl rfl rfl rfl rfl rfl (by simp [kinds, Blk.isRow]) (by simp [bflats, bflat, vflats, vflat, D.flat, D.scal, Blk.flat]) rfl rfl rfl rfl rfl rfl ?_
      |(show allP _; first | trivial | exact ob1 (fun h => h) | exact ob2 (fun h => h) (fun h => h) | exact ob1 (fun h => ⟨h.1, trivial⟩) | (simp only [obS]; first | omega | (intros; omega) | (simp only [obL]; first | omega | (intros; omega)) | (refine ⟨?_, ?_⟩ <;> intros <;> first | (with_reducible assumption) | omega) | ((repeat' refine And.intro ?_ ?_) <;> (intros; first | (with_reducible assumption) | omega | (simp only [obL]; omega))) | ((try simp only [obB] at *); (try simp only [Blk.len] at *); first | omega | (intros; omega)) | (simp_all; done))))
    refine ⟨(its.set at1 (its.getD ((at1 - 1) / 2) 0), pls.set (its.getD ((at1 - 1) / 2) 0).toNat at1, (at1 - 1) / 2), ⟨?_, by simp; omega, okH_set hok1 hp⟩, by simp; omega, ?_⟩
    · rw [← hJ]
      conv => rhs; rw [upF]
      rw [if_pos ⟨h0, by rw [← e1]; exact hc.2⟩]
    · refine weak_to ?_ ?_ rfl rfl
      · have e2 : ((at1 : Int) - 1) / 2 = ((at1 - 1) / 2 : Nat) := by omega
        repeat (first | exact subF_nil | refine subF_cons (by first | rfl | (rw [← e2]; rfl)) ?_)
      · repeat (first | exact subS_nil | refine subS_cons (by first | rfl | (rw [e1]; done) | (rw [e1]; rfl) | (simp only [e1]; done)) ?_)
  · have hno : ¬ (0 < at1 ∧ beforeB keys (items.getD at_ 0) (its.getD ((at1 - 1) / 2) 0) = true) := by
      rintro ⟨h0, h1⟩
      rw [e h0, h1, decide_eq_true (by omega)] at hc
      cases hc
    repeat' (first
    
      |refine zA ?_|refine zB ?_|refine zC (by kernel_rfl) (by kernel_rfl) ?_|refine zD ?_|refine zE ?_|refine zF rfl trivial ?_|refine zG ?_|refine zH rfl trivial ?_|refine zI ?_|refine zJ rfl trivial ?_|refine zK ?_|refine zL rfl trivial rfl ?_|refine zM ?_|refine zN rfl trivial ?_|refine zO rfl trivial ?_|refine zP rfl trivial (fun hc => ?_) (fun hc => ?_)|refine zQ rfl trivial (fun hc => ?_) (fun hc => ?_)|refine zR rfl trivial (fun hc => ?_) (fun hc => ?_)|refine zS rfl trivial (fun hc => ?_) (fun hc => ?_)|refine zT ?_|refine zU ?_|refine zF rfl ?_ ?_|refine zH rfl ?_ ?_|refine zJ rfl ?_ ?_|refine zL rfl ?_ rfl ?_|refine zV rfl trivial rfl rfl rfl ?_|refine zW rfl rfl rfl rfl ?_|refine zX rfl rfl trivial rfl trivial rfl rfl rfl rfl rfl ?_
      | refine ao_callO rfl (h_put its keys pls (items.getD at_ 0) at1 (by rw [hok1.1]; exact hi) (by omega)) [0, 1, 2, 3] trivial rfl rfl rfl rfl rfl rfl (by simp [kinds, Blk.isRow]) (by simp [bflats, bflat, vflats, vflat, D.flat, D.scal, Blk.flat]) rfl rfl rfl rfl rfl rfl ?_
      |(show allP _; first | trivial | exact ob1 (fun h => h) | exact ob2 (fun h => h) (fun h => h) | exact ob1 (fun h => ⟨h.1, trivial⟩) | (simp only [obS]; first | omega | (intros; omega) | (simp only [obL]; first | omega | (intros; omega)) | (refine ⟨?_, ?_⟩ <;> intros <;> first | (with_reducible assumption) | omega) | ((repeat' refine And.intro ?_ ?_) <;> (intros; first | (with_reducible assumption) | omega | (simp only [obL]; omega))) | ((try simp only [obB] at *); (try simp only [Blk.len] at *); first | omega | (intros; omega)) | (simp_all; done))))
    rw [← hJ, upF, if_neg hno]
    (first | refine retON rfl (by (repeat (first | exact subS_nil | refine subS_cons (by first | rfl | rfl) ?_))) rfl | refine retON' rfl (by (repeat (first | exact subS_nil | refine subS_cons (by first | rfl | rfl) ?_))) rfl)

end Go.Proofs.YtcnfggpcploehaaDoor

/- Layer 3: the heap: down. -/
namespace Go.Proofs.YtcnfggpcploehaaDoor
set_option maxRecDepth 10000
open Go.Wk

set_option maxHeartbeats 2000000 in
theorem h_down (items keys places : List Int) (at_ : Nat) (ha : at_ < items.length) (hok : okH keys items places) :
    CtrO Tryd.prog 72 [.ptr 0 0, iV at_] (hpS items keys places) (hpS (downF keys (items.getD at_ 0) items places at_).1 keys (downF keys (items.getD at_ 0) items places at_).2) (.tup []) := by
  refine spec_obj envOK (Go.Wk.enters_of Tryd.func72 (by kernel_rfl) (by kernel_rfl)) Tryd.func72 rfl rfl _ rfl (Nat.le_of_ble_eq_true rfl) rfl (by simp [kinds, Blk.isRow]) fun w0 ρ0 => ?_
  have hl := hok.2.1
  have hi := hok.2.2 at_ ha
  repeat' (first
  
    |refine zA ?_|refine zB ?_|refine zC (by kernel_rfl) (by kernel_rfl) ?_|refine zD ?_|refine zE ?_|refine zF rfl trivial ?_|refine zG ?_|refine zH rfl trivial ?_|refine zI ?_|refine zJ rfl trivial ?_|refine zK ?_|refine zL rfl trivial rfl ?_|refine zM ?_|refine zN rfl trivial ?_|refine zO rfl trivial ?_|refine zP rfl trivial (fun hc => ?_) (fun hc => ?_)|refine zQ rfl trivial (fun hc => ?_) (fun hc => ?_)|refine zR rfl trivial (fun hc => ?_) (fun hc => ?_)|refine zS rfl trivial (fun hc => ?_) (fun hc => ?_)|refine zT ?_|refine zU ?_|refine zF rfl ?_ ?_|refine zH rfl ?_ ?_|refine zJ rfl ?_ ?_|refine zL rfl ?_ rfl ?_|refine zV rfl trivial rfl rfl rfl ?_|refine zW rfl rfl rfl rfl ?_|refine zX rfl rfl trivial rfl trivial rfl rfl rfl rfl rfl ?_
  
    |(show allP _; first | trivial | exact ob1 (fun h => h) | exact ob2 (fun h => h) (fun h => h) | exact ob1 (fun h => ⟨h.1, trivial⟩) | (simp only [obS]; first | omega | (intros; omega) | (simp only [obL]; first | omega | (intros; omega)) | (refine ⟨?_, ?_⟩ <;> intros <;> first | (with_reducible assumption) | omega) | ((repeat' refine And.intro ?_ ?_) <;> (intros; first | (with_reducible assumption) | omega | (simp only [obL]; omega))) | ((try simp only [obB] at *); (try simp only [Blk.len] at *); first | omega | (intros; omega)) | (simp_all; done))))
  refine aw_loop (ι := List Int × List Int × Nat) (fun s => [(4, [], iV (items.getD at_ 0)), (0, [], .ptr 0 0), (1, [], iV s.2.2)]) (fun s => hpS s.1 keys s.2.1)
    (fun s => downF keys (items.getD at_ 0) s.1 s.2.1 s.2.2 = downF keys (items.getD at_ 0) items places at_ ∧ s.2.2 < s.1.length ∧ okH keys s.1 s.2.1) (fun s => s.1.length - s.2.2) (items, places, at_) ⟨rfl, ha, hok⟩ (fun _ => Nat.le_of_ble_eq_true rfl) (by refine weak_to ?_ ?_ rfl rfl
                                                                                                                                                                                                                                                                   · repeat (first | exact subF_nil | refine subF_cons (by first | rfl | (simp [look]; done)) ?_)
                                                                                                                                                                                                                                                                   · repeat (first | exact subS_nil | refine subS_cons (by first | rfl | (simp; done)) ?_)) fun s hJ => ?_
  obtain ⟨its, pls, at1⟩ := s
  obtain ⟨hJ, ha1, hok1⟩ := hJ
  simp only at hJ ha1 hok1 ⊢
  have hl1 := hok1.2.1
  have h1 : (2 * (at1 : Int) + 1).toNat = 2 * at1 + 1 := by omega
  have h2 : (2 * (at1 : Int) + 1 + 1).toNat = 2 * at1 + 2 := by omega
  have k1 : 2 * (at1 : Int) + 1 < its.length → 0 ≤ its.getD (2 * (at1 : Int) + 1).toNat 0 ∧ its.getD (2 * (at1 : Int) + 1).toNat 0 < keys.length := fun h => hok1.2.2 _ (by omega)
  have k2 : 2 * (at1 : Int) + 1 + 1 < its.length → 0 ≤ its.getD (2 * (at1 : Int) + 1 + 1).toNat 0 ∧ its.getD (2 * (at1 : Int) + 1 + 1).toNat 0 < keys.length := fun h => hok1.2.2 _ (by omega)
  repeat' (first
    | refine aw_region_t 25 (by kernel_rfl) (by kernel_rfl) rfl ?_
    |refine zA ?_|refine zB ?_|refine zC (by kernel_rfl) (by kernel_rfl) ?_|refine zD ?_|refine zE ?_|refine zF rfl trivial ?_|refine zG ?_|refine zH rfl trivial ?_|refine zI ?_|refine zJ rfl trivial ?_|refine zK ?_|refine zL rfl trivial rfl ?_|refine zM ?_|refine zN rfl trivial ?_|refine zO rfl trivial ?_|refine zP rfl trivial (fun hc => ?_) (fun hc => ?_)|refine zQ rfl trivial (fun hc => ?_) (fun hc => ?_)|refine zR rfl trivial (fun hc => ?_) (fun hc => ?_)|refine zS rfl trivial (fun hc => ?_) (fun hc => ?_)|refine zT ?_|refine zU ?_|refine zF rfl ?_ ?_|refine zH rfl ?_ ?_|refine zJ rfl ?_ ?_|refine zL rfl ?_ rfl ?_|refine zV rfl trivial rfl rfl rfl ?_|refine zW rfl rfl rfl rfl ?_|refine zX rfl rfl trivial rfl trivial rfl rfl rfl rfl rfl ?_
    | refine ao_callG rfl (fun hg => h_before its keys pls (its.getD (2 * (at1 : Int) + 1 + 1).toNat 0) (its.getD (2 * (at1 : Int) + 1).toNat 0) (k2 (of_decide_eq_true hg.1)) (k1 (by have := of_decide_eq_true hg.1; simp only [Blk.len] at this; omega))) [0, 1, 2, 3] ?_ rfl rfl rfl rfl rfl rfl (by simp [kinds, Blk.isRow]) (by simp [bflats, bflat, vflats, vflat, D.flat, D.scal, Blk.flat]) rfl rfl rfl rfl rfl ?_
    | refine ao_callG rfl (fun hg => h_before its keys pls (its.getD (2 * (at1 : Int) + 1).toNat 0) (items.getD at_ 0) (k1 (by have := hg.1; simp only [Bool.not_eq_true', decide_eq_false_iff_not] at this; simp only [Blk.len] at this; omega)) hi) [0, 1, 2, 3] ?_ rfl rfl rfl rfl rfl rfl (by simp [kinds, Blk.isRow]) (by simp [bflats, bflat, vflats, vflat, D.flat, D.scal, Blk.flat]) rfl rfl rfl rfl rfl ?_
    | refine ao_callG rfl (fun hg => h_before its keys pls (its.getD (2 * (at1 : Int) + 1 + 1).toNat 0) (items.getD at_ 0) (k2 (by have := hg.1; simp only [Bool.not_eq_true', decide_eq_false_iff_not] at this; simp only [Blk.len] at this; omega)) hi) [0, 1, 2, 3] ?_ rfl rfl rfl rfl rfl rfl (by simp [kinds, Blk.isRow]) (by simp [bflats, bflat, vflats, vflat, D.flat, D.scal, Blk.flat]) rfl rfl rfl rfl rfl ?_
    |(show allP _; first | trivial | exact ob1 (fun h => h) | exact ob2 (fun h => h) (fun h => h) | exact ob1 (fun h => ⟨h.1, trivial⟩) | (simp only [obS]; first | omega | (intros; omega) | (simp only [obL]; first | omega | (intros; omega)) | (refine ⟨?_, ?_⟩ <;> intros <;> first | (with_reducible assumption) | omega) | ((repeat' refine And.intro ?_ ?_) <;> (intros; first | (with_reducible assumption) | omega | (simp only [obL]; omega))) | ((try simp only [obB] at *); (try simp only [Blk.len] at *); first | omega | (intros; omega)) | (simp_all; done))))
  · rename_i h
    have hk : kidF keys its at1 = 2 * at1 + 2 := by
      rw [h1, h2] at h
      simp only [Bool.and_eq_true, decide_eq_true_eq] at h
      unfold kidF
      rw [if_pos ⟨by have := h.1; simp only [Blk.len] at this; omega, h.2⟩]
    have hno : ¬ (kidF keys its at1 < its.length ∧ beforeB keys (its.getD (kidF keys its at1) 0) (items.getD at_ 0) = true) := by
      rw [hk]
      rintro ⟨q1, q2⟩
      rw [h2] at hc
      rw [q2] at hc
      simp only [Bool.or_eq_true, decide_eq_true_eq, Bool.not_true] at hc
      simp only [Blk.len] at hc
      simp at hc; omega
    repeat' (first
    
      |refine zA ?_|refine zB ?_|refine zC (by kernel_rfl) (by kernel_rfl) ?_|refine zD ?_|refine zE ?_|refine zF rfl trivial ?_|refine zG ?_|refine zH rfl trivial ?_|refine zI ?_|refine zJ rfl trivial ?_|refine zK ?_|refine zL rfl trivial rfl ?_|refine zM ?_|refine zN rfl trivial ?_|refine zO rfl trivial ?_|refine zP rfl trivial (fun hc => ?_) (fun hc => ?_)|refine zQ rfl trivial (fun hc => ?_) (fun hc => ?_)|refine zR rfl trivial (fun hc => ?_) (fun hc => ?_)|refine zS rfl trivial (fun hc => ?_) (fun hc => ?_)|refine zT ?_|refine zU ?_|refine zF rfl ?_ ?_|refine zH rfl ?_ ?_|refine zJ rfl ?_ ?_|refine zL rfl ?_ rfl ?_|refine zV rfl trivial rfl rfl rfl ?_|refine zW rfl rfl rfl rfl ?_|refine zX rfl rfl trivial rfl trivial rfl rfl rfl rfl rfl ?_
      | refine ao_callO rfl (h_put its keys pls (items.getD at_ 0) at1 (by rw [hok1.1]; exact hi) (by omega)) [0, 1, 2, 3] trivial rfl rfl rfl rfl rfl rfl (by simp [kinds, Blk.isRow]) (by simp [bflats, bflat, vflats, vflat, D.flat, D.scal, Blk.flat]) rfl rfl rfl rfl rfl rfl ?_
      |(show allP _; first | trivial | exact ob1 (fun h => h) | exact ob2 (fun h => h) (fun h => h) | exact ob1 (fun h => ⟨h.1, trivial⟩) | (simp only [obS]; first | omega | (intros; omega) | (simp only [obL]; first | omega | (intros; omega)) | (refine ⟨?_, ?_⟩ <;> intros <;> first | (with_reducible assumption) | omega) | ((repeat' refine And.intro ?_ ?_) <;> (intros; first | (with_reducible assumption) | omega | (simp only [obL]; omega))) | ((try simp only [obB] at *); (try simp only [Blk.len] at *); first | omega | (intros; omega)) | (simp_all; done))))
    rw [← hJ, downF, if_neg hno]
    (first | refine retON rfl (by (repeat (first | exact subS_nil | refine subS_cons (by first | rfl | rfl) ?_))) rfl | refine retON' rfl (by (repeat (first | exact subS_nil | refine subS_cons (by first | rfl | rfl) ?_))) rfl)
  · rename_i h
    have hk : kidF keys its at1 = 2 * at1 + 2 := by
      rw [h1, h2] at h
      simp only [Bool.and_eq_true, decide_eq_true_eq] at h
      unfold kidF
      rw [if_pos ⟨by have := h.1; simp only [Blk.len] at this; omega, h.2⟩]
    simp only [Bool.or_eq_false_iff, decide_eq_false_iff_not, Bool.not_eq_false'] at hc
    obtain ⟨q1, q2⟩ := hc
    simp only [Blk.len] at q1
    rw [h2] at q2
    have hkl : kidF keys its at1 < its.length := by omega
    have hp := hok1.2.2 _ hkl
    repeat' (first
    
      |refine zA ?_|refine zB ?_|refine zC (by kernel_rfl) (by kernel_rfl) ?_|refine zD ?_|refine zE ?_|refine zF rfl trivial ?_|refine zG ?_|refine zH rfl trivial ?_|refine zI ?_|refine zJ rfl trivial ?_|refine zK ?_|refine zL rfl trivial rfl ?_|refine zM ?_|refine zN rfl trivial ?_|refine zO rfl trivial ?_|refine zP rfl trivial (fun hc => ?_) (fun hc => ?_)|refine zQ rfl trivial (fun hc => ?_) (fun hc => ?_)|refine zR rfl trivial (fun hc => ?_) (fun hc => ?_)|refine zS rfl trivial (fun hc => ?_) (fun hc => ?_)|refine zT ?_|refine zU ?_|refine zF rfl ?_ ?_|refine zH rfl ?_ ?_|refine zJ rfl ?_ ?_|refine zL rfl ?_ rfl ?_|refine zV rfl trivial rfl rfl rfl ?_|refine zW rfl rfl rfl rfl ?_|refine zX rfl rfl trivial rfl trivial rfl rfl rfl rfl rfl ?_
      | refine ao_callO rfl (h_put its keys pls (its.getD (2 * (at1 : Int) + 1 + 1).toNat 0) at1 (by rw [hok1.1, h2, ← hk]; exact hp) (by omega)) [0, 1, 2, 3] trivial rfl rfl rfl rfl rfl rfl (by simp [kinds, Blk.isRow]) (by simp [bflats, bflat, vflats, vflat, D.flat, D.scal, Blk.flat]) rfl rfl rfl rfl rfl rfl ?_
      |(show allP _; first | trivial | exact ob1 (fun h => h) | exact ob2 (fun h => h) (fun h => h) | exact ob1 (fun h => ⟨h.1, trivial⟩) | (simp only [obS]; first | omega | (intros; omega) | (simp only [obL]; first | omega | (intros; omega)) | (refine ⟨?_, ?_⟩ <;> intros <;> first | (with_reducible assumption) | omega) | ((repeat' refine And.intro ?_ ?_) <;> (intros; first | (with_reducible assumption) | omega | (simp only [obL]; omega))) | ((try simp only [obB] at *); (try simp only [Blk.len] at *); first | omega | (intros; omega)) | (simp_all; done))))
    refine ⟨(its.set at1 (its.getD (kidF keys its at1) 0), pls.set (its.getD (kidF keys its at1) 0).toNat at1, kidF keys its at1), ⟨?_, by simpa using hkl, okH_set hok1 hp⟩, by simp; omega, ?_⟩
    · rw [← hJ]
      conv => rhs; rw [downF]
      rw [if_pos ⟨hkl, by rw [hk]; exact q2⟩]
    · rw [hk]
      refine weak_to ?_ ?_ rfl rfl
      · repeat (first | exact subF_nil | refine subF_cons (by first | rfl | (simp [look]; omega)) ?_)
      · repeat (first | exact subS_nil | refine subS_cons (by first | rfl | (rw [h2]; done) | (rw [h2]; rfl) | (simp only [h2]; done)) ?_)
  · rename_i h
    have hk : kidF keys its at1 = 2 * at1 + 1 := by
      rw [h1, h2] at h
      unfold kidF
      rw [if_neg]
      rintro ⟨q1, q2⟩
      rw [q2, Bool.and_true] at h
      have := of_decide_eq_false h
      simp only [Blk.len] at this; omega
    have hno : ¬ (kidF keys its at1 < its.length ∧ beforeB keys (its.getD (kidF keys its at1) 0) (items.getD at_ 0) = true) := by
      rw [hk]
      rintro ⟨q1, q2⟩
      rw [h1] at hc
      rw [q2] at hc
      simp only [Bool.or_eq_true, decide_eq_true_eq, Bool.not_true] at hc
      simp only [Blk.len] at hc
      simp at hc; omega
    repeat' (first
    
      |refine zA ?_|refine zB ?_|refine zC (by kernel_rfl) (by kernel_rfl) ?_|refine zD ?_|refine zE ?_|refine zF rfl trivial ?_|refine zG ?_|refine zH rfl trivial ?_|refine zI ?_|refine zJ rfl trivial ?_|refine zK ?_|refine zL rfl trivial rfl ?_|refine zM ?_|refine zN rfl trivial ?_|refine zO rfl trivial ?_|refine zP rfl trivial (fun hc => ?_) (fun hc => ?_)|refine zQ rfl trivial (fun hc => ?_) (fun hc => ?_)|refine zR rfl trivial (fun hc => ?_) (fun hc => ?_)|refine zS rfl trivial (fun hc => ?_) (fun hc => ?_)|refine zT ?_|refine zU ?_|refine zF rfl ?_ ?_|refine zH rfl ?_ ?_|refine zJ rfl ?_ ?_|refine zL rfl ?_ rfl ?_|refine zV rfl trivial rfl rfl rfl ?_|refine zW rfl rfl rfl rfl ?_|refine zX rfl rfl trivial rfl trivial rfl rfl rfl rfl rfl ?_
      | refine ao_callO rfl (h_put its keys pls (items.getD at_ 0) at1 (by rw [hok1.1]; exact hi) (by omega)) [0, 1, 2, 3] trivial rfl rfl rfl rfl rfl rfl (by simp [kinds, Blk.isRow]) (by simp [bflats, bflat, vflats, vflat, D.flat, D.scal, Blk.flat]) rfl rfl rfl rfl rfl rfl ?_
      |(show allP _; first | trivial | exact ob1 (fun h => h) | exact ob2 (fun h => h) (fun h => h) | exact ob1 (fun h => ⟨h.1, trivial⟩) | (simp only [obS]; first | omega | (intros; omega) | (simp only [obL]; first | omega | (intros; omega)) | (refine ⟨?_, ?_⟩ <;> intros <;> first | (with_reducible assumption) | omega) | ((repeat' refine And.intro ?_ ?_) <;> (intros; first | (with_reducible assumption) | omega | (simp only [obL]; omega))) | ((try simp only [obB] at *); (try simp only [Blk.len] at *); first | omega | (intros; omega)) | (simp_all; done))))
    rw [← hJ, downF, if_neg hno]
    (first | refine retON rfl (by (repeat (first | exact subS_nil | refine subS_cons (by first | rfl | rfl) ?_))) rfl | refine retON' rfl (by (repeat (first | exact subS_nil | refine subS_cons (by first | rfl | rfl) ?_))) rfl)
  · rename_i h
    have hk : kidF keys its at1 = 2 * at1 + 1 := by
      rw [h1, h2] at h
      unfold kidF
      rw [if_neg]
      rintro ⟨q1, q2⟩
      rw [q2, Bool.and_true] at h
      have := of_decide_eq_false h
      simp only [Blk.len] at this; omega
    simp only [Bool.or_eq_false_iff, decide_eq_false_iff_not, Bool.not_eq_false'] at hc
    obtain ⟨q1, q2⟩ := hc
    simp only [Blk.len] at q1
    rw [h1] at q2
    have hkl : kidF keys its at1 < its.length := by omega
    have hp := hok1.2.2 _ hkl
    repeat' (first
    
      |refine zA ?_|refine zB ?_|refine zC (by kernel_rfl) (by kernel_rfl) ?_|refine zD ?_|refine zE ?_|refine zF rfl trivial ?_|refine zG ?_|refine zH rfl trivial ?_|refine zI ?_|refine zJ rfl trivial ?_|refine zK ?_|refine zL rfl trivial rfl ?_|refine zM ?_|refine zN rfl trivial ?_|refine zO rfl trivial ?_|refine zP rfl trivial (fun hc => ?_) (fun hc => ?_)|refine zQ rfl trivial (fun hc => ?_) (fun hc => ?_)|refine zR rfl trivial (fun hc => ?_) (fun hc => ?_)|refine zS rfl trivial (fun hc => ?_) (fun hc => ?_)|refine zT ?_|refine zU ?_|refine zF rfl ?_ ?_|refine zH rfl ?_ ?_|refine zJ rfl ?_ ?_|refine zL rfl ?_ rfl ?_|refine zV rfl trivial rfl rfl rfl ?_|refine zW rfl rfl rfl rfl ?_|refine zX rfl rfl trivial rfl trivial rfl rfl rfl rfl rfl ?_
      | refine ao_callO rfl (h_put its keys pls (its.getD (2 * (at1 : Int) + 1).toNat 0) at1 (by rw [hok1.1, h1, ← hk]; exact hp) (by omega)) [0, 1, 2, 3] trivial rfl rfl rfl rfl rfl rfl (by simp [kinds, Blk.isRow]) (by simp [bflats, bflat, vflats, vflat, D.flat, D.scal, Blk.flat]) rfl rfl rfl rfl rfl rfl ?_
      |(show allP _; first | trivial | exact ob1 (fun h => h) | exact ob2 (fun h => h) (fun h => h) | exact ob1 (fun h => ⟨h.1, trivial⟩) | (simp only [obS]; first | omega | (intros; omega) | (simp only [obL]; first | omega | (intros; omega)) | (refine ⟨?_, ?_⟩ <;> intros <;> first | (with_reducible assumption) | omega) | ((repeat' refine And.intro ?_ ?_) <;> (intros; first | (with_reducible assumption) | omega | (simp only [obL]; omega))) | ((try simp only [obB] at *); (try simp only [Blk.len] at *); first | omega | (intros; omega)) | (simp_all; done))))
    refine ⟨(its.set at1 (its.getD (kidF keys its at1) 0), pls.set (its.getD (kidF keys its at1) 0).toNat at1, kidF keys its at1), ⟨?_, by simpa using hkl, okH_set hok1 hp⟩, by simp; omega, ?_⟩
    · rw [← hJ]
      conv => rhs; rw [downF]
      rw [if_pos ⟨hkl, by rw [hk]; exact q2⟩]
    · rw [hk]
      refine weak_to ?_ ?_ rfl rfl
      · repeat (first | exact subF_nil | refine subF_cons (by first | rfl | (simp [look]; omega)) ?_)
      · repeat (first | exact subS_nil | refine subS_cons (by first | rfl | (rw [h1]; done) | (rw [h1]; rfl) | (simp only [h1]; done)) ?_)

end Go.Proofs.YtcnfggpcploehaaDoor

/- Layer 3: the heap: has, Key. -/
namespace Go.Proofs.YtcnfggpcploehaaDoor
set_option maxRecDepth 10000
open Go.Wk

theorem h_has (items keys places : List Int) (i : Int) :
    CtrO Tryd.prog 70 [.ptr 0 0, iV i] (hpS items keys places) (hpS items keys places) (.d (bD (decide (0 ≤ i) && decide (i < places.length)))) := by
  refine spec_obj envOK (Go.Wk.enters_of Tryd.func70 (by kernel_rfl) (by kernel_rfl)) Tryd.func70 rfl rfl _ rfl (Nat.le_of_ble_eq_true rfl) rfl (by simp [kinds, Blk.isRow]) fun w0 ρ0 => ?_
  repeat' (first
  
    |refine zA ?_|refine zB ?_|refine zC (by kernel_rfl) (by kernel_rfl) ?_|refine zD ?_|refine zE ?_|refine zF rfl trivial ?_|refine zG ?_|refine zH rfl trivial ?_|refine zI ?_|refine zJ rfl trivial ?_|refine zK ?_|refine zL rfl trivial rfl ?_|refine zM ?_|refine zN rfl trivial ?_|refine zO rfl trivial ?_|refine zP rfl trivial (fun hc => ?_) (fun hc => ?_)|refine zQ rfl trivial (fun hc => ?_) (fun hc => ?_)|refine zR rfl trivial (fun hc => ?_) (fun hc => ?_)|refine zS rfl trivial (fun hc => ?_) (fun hc => ?_)|refine zT ?_|refine zU ?_|refine zF rfl ?_ ?_|refine zH rfl ?_ ?_|refine zJ rfl ?_ ?_|refine zL rfl ?_ rfl ?_|refine zV rfl trivial rfl rfl rfl ?_|refine zW rfl rfl rfl rfl ?_|refine zX rfl rfl trivial rfl trivial rfl rfl rfl rfl rfl ?_
  
    |(show allP _; first | trivial | exact ob1 (fun h => h) | exact ob2 (fun h => h) (fun h => h) | exact ob1 (fun h => ⟨h.1, trivial⟩) | (simp only [obS]; first | omega | (intros; omega) | (simp only [obL]; first | omega | (intros; omega)) | (refine ⟨?_, ?_⟩ <;> intros <;> first | (with_reducible assumption) | omega) | ((repeat' refine And.intro ?_ ?_) <;> (intros; first | (with_reducible assumption) | omega | (simp only [obL]; omega))) | ((try simp only [obB] at *); (try simp only [Blk.len] at *); first | omega | (intros; omega)) | (simp_all; done))))
  refine retO1 rfl (by (repeat (first | exact subS_nil | refine subS_cons (by first | rfl | rfl) ?_))) rfl rfl ?_
  rfl

theorem h_Key (items keys places : List Int) (i : Int) (hi : 0 ≤ i ∧ i < keys.length) (hok : places.length = keys.length) :
    CtrO Tryd.prog 69 [.ptr 0 0, iV i] (hpS items keys places) (hpS items keys places) (.tup [iV (bif decide (gI places i < 0) then 0 else gI keys i), .d (bD (!decide (gI places i < 0)))]) := by
  refine spec_obj envOK (Go.Wk.enters_of Tryd.func69 (by kernel_rfl) (by kernel_rfl)) Tryd.func69 rfl rfl _ rfl (Nat.le_of_ble_eq_true rfl) rfl (by simp [kinds, Blk.isRow]) fun w0 ρ0 => ?_
  have h1 : (decide (0 ≤ i) && decide (i < (places.length : Int))) = true := by simp; omega
  repeat' (first
  
    |refine zA ?_|refine zB ?_|refine zC (by kernel_rfl) (by kernel_rfl) ?_|refine zD ?_|refine zE ?_|refine zF rfl trivial ?_|refine zG ?_|refine zH rfl trivial ?_|refine zI ?_|refine zJ rfl trivial ?_|refine zK ?_|refine zL rfl trivial rfl ?_|refine zM ?_|refine zN rfl trivial ?_|refine zO rfl trivial ?_|refine zP rfl trivial (fun hc => ?_) (fun hc => ?_)|refine zQ rfl trivial (fun hc => ?_) (fun hc => ?_)|refine zR rfl trivial (fun hc => ?_) (fun hc => ?_)|refine zS rfl trivial (fun hc => ?_) (fun hc => ?_)|refine zT ?_|refine zU ?_|refine zF rfl ?_ ?_|refine zH rfl ?_ ?_|refine zJ rfl ?_ ?_|refine zL rfl ?_ rfl ?_|refine zV rfl trivial rfl rfl rfl ?_|refine zW rfl rfl rfl rfl ?_|refine zX rfl rfl trivial rfl trivial rfl rfl rfl rfl rfl ?_
    | refine ao_callO rfl (h_has items keys places i) [0, 1, 2, 3] trivial rfl rfl rfl rfl rfl rfl (by simp [kinds, Blk.isRow]) (by simp [bflats, bflat, vflats, vflat, D.flat, D.scal, Blk.flat]) rfl rfl rfl rfl rfl rfl ?_
    |(show allP _; first | trivial | exact ob1 (fun h => h) | exact ob2 (fun h => h) (fun h => h) | exact ob1 (fun h => ⟨h.1, trivial⟩) | (simp only [obS]; first | omega | (intros; omega) | (simp only [obL]; first | omega | (intros; omega)) | (refine ⟨?_, ?_⟩ <;> intros <;> first | (with_reducible assumption) | omega) | ((repeat' refine And.intro ?_ ?_) <;> (intros; first | (with_reducible assumption) | omega | (simp only [obL]; omega))) | ((try simp only [obB] at *); (try simp only [Blk.len] at *); first | omega | (intros; omega)) | (simp_all; done))))
  · rw [h1] at hc
    have hd : decide (gI places i < 0) = true := by simpa using hc
    refine retO2 rfl (by (repeat (first | exact subS_nil | refine subS_cons (by first | rfl | rfl) ?_))) rfl rfl ?_ ?_
    · rw [hd]; rfl
    · rw [hd]; rfl
  · rw [h1] at hc
    have hd : decide (gI places i < 0) = false := by simpa using hc
    refine retO2 rfl (by (repeat (first | exact subS_nil | refine subS_cons (by first | rfl | rfl) ?_))) rfl rfl ?_ ?_
    · rw [hd]; rfl
    · rw [hd]; rfl

end Go.Proofs.YtcnfggpcploehaaDoor

/- Layer 3: the heap: Set. -/
namespace Go.Proofs.YtcnfggpcploehaaDoor
set_option maxRecDepth 10000
open Go.Wk

theorem h_upI (items keys places : List Int) (at_ : Int) (h0 : 0 ≤ at_) (ha : at_ < items.length) (hok : okH keys items places) :
    CtrO Tryd.prog 71 [.ptr 0 0, iV at_] (hpS items keys places) (hpS (upF keys (items.getD at_.toNat 0) items places at_.toNat).1 keys (upF keys (items.getD at_.toNat 0) items places at_.toNat).2) (.tup []) := by
  have := h_up items keys places at_.toNat (by omega) hok
  rwa [show ((at_.toNat : Nat) : Int) = at_ by omega] at this
theorem h_downI (items keys places : List Int) (at_ : Int) (h0 : 0 ≤ at_) (ha : at_ < items.length) (hok : okH keys items places) :
    CtrO Tryd.prog 72 [.ptr 0 0, iV at_] (hpS items keys places) (hpS (downF keys (items.getD at_.toNat 0) items places at_.toNat).1 keys (downF keys (items.getD at_.toNat 0) items places at_.toNat).2) (.tup []) := by
  have := h_down items keys places at_.toNat (by omega) hok
  rwa [show ((at_.toNat : Nat) : Int) = at_ by omega] at this

set_option maxHeartbeats 2000000 in
theorem h_Set (items keys places : List Int) (i k : Int) (hi : 0 ≤ i ∧ i < keys.length) (hn : keys.length ≤ 65536) (h : InvP keys items places) :
    CtrO Tryd.prog 66 [.ptr 0 0, iV i, iV k] (hpS items keys places) (hpS (setF ⟨items, keys, places⟩ i.toNat k).items (setF ⟨items, keys, places⟩ i.toNat k).keys (setF ⟨items, keys, places⟩ i.toNat k).places) (.d (iD 0)) := by
  refine spec_obj envOK (Go.Wk.enters_of Tryd.func66 (by kernel_rfl) (by kernel_rfl)) Tryd.func66 rfl rfl _ rfl (Nat.le_of_ble_eq_true rfl) rfl (by simp [kinds, Blk.isRow]) fun w0 ρ0 => ?_
  have hl := h.ok.2.1
  have hp := h.ok.1
  have hb : (decide (0 ≤ i) && decide (i < (places.length : Int))) = true := by simp; omega
  have hkl : (keys.set i.toNat k).length = keys.length := by simp
  repeat' (first
    | refine aw_region_t 11 (by kernel_rfl) (by kernel_rfl) rfl ?_
    |refine zA ?_|refine zB ?_|refine zC (by kernel_rfl) (by kernel_rfl) ?_|refine zD ?_|refine zE ?_|refine zF rfl trivial ?_|refine zG ?_|refine zH rfl trivial ?_|refine zI ?_|refine zJ rfl trivial ?_|refine zK ?_|refine zL rfl trivial rfl ?_|refine zM ?_|refine zN rfl trivial ?_|refine zO rfl trivial ?_|refine zP rfl trivial (fun hc => ?_) (fun hc => ?_)|refine zQ rfl trivial (fun hc => ?_) (fun hc => ?_)|refine zR rfl trivial (fun hc => ?_) (fun hc => ?_)|refine zS rfl trivial (fun hc => ?_) (fun hc => ?_)|refine zT ?_|refine zU ?_|refine zF rfl ?_ ?_|refine zH rfl ?_ ?_|refine zJ rfl ?_ ?_|refine zL rfl ?_ rfl ?_|refine zV rfl trivial rfl rfl rfl ?_|refine zW rfl rfl rfl rfl ?_|refine zX rfl rfl trivial rfl trivial rfl rfl rfl rfl rfl ?_
    | refine ao_store_ep rfl rfl trivial rfl trivial rfl rfl rfl rfl rfl rfl ?_
    | refine ao_callO rfl (h_has items keys places i) [0, 1, 2, 3] trivial rfl rfl rfl rfl rfl rfl (by simp [kinds, Blk.isRow]) (by simp [bflats, bflat, vflats, vflat, D.flat, D.scal, Blk.flat]) rfl rfl rfl rfl rfl rfl ?_
    |(show allP _; first | trivial | exact ob1 (fun h => h) | exact ob2 (fun h => h) (fun h => h) | exact ob1 (fun h => ⟨h.1, trivial⟩) | (simp only [obS]; first | omega | (intros; omega) | (simp only [obL]; first | omega | (intros; omega)) | (refine ⟨?_, ?_⟩ <;> intros <;> first | (with_reducible assumption) | omega) | ((repeat' refine And.intro ?_ ?_) <;> (intros; first | (with_reducible assumption) | omega | (simp only [obL]; omega))) | ((try simp only [obB] at *); (try simp only [Blk.len] at *); first | omega | (intros; omega)) | (simp_all; done))))
  · rw [hb] at hc; cases hc
  · have hI := (h.push hn (i := i.toNat) (by omega) hc).keys hkl
    rw [show ((i.toNat : Nat) : Int) = i by omega] at hI
    have e : (((Blk.ints .i64 (items ++ [i])).len : Nat) : Int) - 1 = items.length := by simp [Blk.len]
    have h0 : 0 ≤ (places.set i.toNat (items.length : Int)).getD i.toNat 0 := by rw [getD_set, if_pos (by omega)]; omega
    have hset : setF ⟨items, keys, places⟩ i.toNat k = bumpF ⟨items ++ [i], keys.set i.toNat k, places.set i.toNat items.length⟩ i.toNat := by
      unfold setF
      rw [if_pos hc]
      simp only [show ((i.toNat : Nat) : Int) = i by omega]
    rw [hset]
    repeat' (first
      | refine aw_region_t 11 (by kernel_rfl) (by kernel_rfl) rfl ?_
      |refine zA ?_|refine zB ?_|refine zC (by kernel_rfl) (by kernel_rfl) ?_|refine zD ?_|refine zE ?_|refine zF rfl trivial ?_|refine zG ?_|refine zH rfl trivial ?_|refine zI ?_|refine zJ rfl trivial ?_|refine zK ?_|refine zL rfl trivial rfl ?_|refine zM ?_|refine zN rfl trivial ?_|refine zO rfl trivial ?_|refine zP rfl trivial (fun hc => ?_) (fun hc => ?_)|refine zQ rfl trivial (fun hc => ?_) (fun hc => ?_)|refine zR rfl trivial (fun hc => ?_) (fun hc => ?_)|refine zS rfl trivial (fun hc => ?_) (fun hc => ?_)|refine zT ?_|refine zU ?_|refine zF rfl ?_ ?_|refine zH rfl ?_ ?_|refine zJ rfl ?_ ?_|refine zL rfl ?_ rfl ?_|refine zV rfl trivial rfl rfl rfl ?_|refine zW rfl rfl rfl rfl ?_|refine zX rfl rfl trivial rfl trivial rfl rfl rfl rfl rfl ?_
      | refine ao_store_ep rfl rfl trivial rfl trivial rfl rfl rfl rfl rfl rfl ?_
      | refine ao_lit rfl rfl rfl rfl trivial rfl rfl rfl rfl rfl rfl ?_
      | refine ao_app rfl rfl rfl rfl trivial rfl trivial rfl rfl trivial rfl rfl rfl rfl rfl (by simp [Blk.len]; omega) rfl rfl rfl ?_
      |(show allP _; first | trivial | exact ob1 (fun h => h) | exact ob2 (fun h => h) (fun h => h) | exact ob1 (fun h => ⟨h.1, trivial⟩) | (simp only [obS]; first | omega | (intros; omega) | (simp only [obL]; first | omega | (intros; omega)) | (refine ⟨?_, ?_⟩ <;> intros <;> first | (with_reducible assumption) | omega) | ((repeat' refine And.intro ?_ ?_) <;> (intros; first | (with_reducible assumption) | omega | (simp only [obL]; omega))) | ((try simp only [obB] at *); (try simp only [Blk.len] at *); first | omega | (intros; omega)) | (simp_all; done))))
    rw [e]
    generalize items ++ [i] = its1 at *
    generalize keys.set i.toNat k = keys1 at *
    generalize places.set i.toNat (items.length : Int) = pl1 at *
    have q0 := hI.ok.1
    have hb1 := bump_up hI (x := i.toNat) (by omega) h0
    have q1 := hI.held (x := i.toNat) (by omega) h0
    have hb2 := hb1.1.held (x := i.toNat) (by omega) hb1.2
    have q2 := hb1.1.ok.1
    repeat' (first
    
      |refine zA ?_|refine zB ?_|refine zC (by kernel_rfl) (by kernel_rfl) ?_|refine zD ?_|refine zE ?_|refine zF rfl trivial ?_|refine zG ?_|refine zH rfl trivial ?_|refine zI ?_|refine zJ rfl trivial ?_|refine zK ?_|refine zL rfl trivial rfl ?_|refine zM ?_|refine zN rfl trivial ?_|refine zO rfl trivial ?_|refine zP rfl trivial (fun hc => ?_) (fun hc => ?_)|refine zQ rfl trivial (fun hc => ?_) (fun hc => ?_)|refine zR rfl trivial (fun hc => ?_) (fun hc => ?_)|refine zS rfl trivial (fun hc => ?_) (fun hc => ?_)|refine zT ?_|refine zU ?_|refine zF rfl ?_ ?_|refine zH rfl ?_ ?_|refine zJ rfl ?_ ?_|refine zL rfl ?_ rfl ?_|refine zV rfl trivial rfl rfl rfl ?_|refine zW rfl rfl rfl rfl ?_|refine zX rfl rfl trivial rfl trivial rfl rfl rfl rfl rfl ?_
      | refine ao_callO rfl (h_upI its1 keys1 pl1 (pl1.getD i.toNat 0) h0 q1.2.2 hI.ok) [0, 1, 2, 3] trivial rfl rfl rfl rfl rfl rfl (by simp [kinds, Blk.isRow]) (by simp [bflats, bflat, vflats, vflat, D.flat, D.scal, Blk.flat]) rfl rfl rfl rfl rfl rfl ?_
      |(show allP _; first | trivial | exact ob1 (fun h => h) | exact ob2 (fun h => h) (fun h => h) | exact ob1 (fun h => ⟨h.1, trivial⟩) | (simp only [obS]; first | omega | (intros; omega) | (simp only [obL]; first | omega | (intros; omega)) | (refine ⟨?_, ?_⟩ <;> intros <;> first | (with_reducible assumption) | omega) | ((repeat' refine And.intro ?_ ?_) <;> (intros; first | (with_reducible assumption) | omega | (simp only [obL]; omega))) | ((try simp only [obB] at *); (try simp only [Blk.len] at *); first | omega | (intros; omega)) | (simp_all; done))))
    generalize hu : upF keys1 (its1.getD (pl1.getD i.toNat 0).toNat 0) its1 pl1 (pl1.getD i.toNat 0).toNat = u at hb1 hb2 q2 ⊢
    repeat' (first
    
      |refine zA ?_|refine zB ?_|refine zC (by kernel_rfl) (by kernel_rfl) ?_|refine zD ?_|refine zE ?_|refine zF rfl trivial ?_|refine zG ?_|refine zH rfl trivial ?_|refine zI ?_|refine zJ rfl trivial ?_|refine zK ?_|refine zL rfl trivial rfl ?_|refine zM ?_|refine zN rfl trivial ?_|refine zO rfl trivial ?_|refine zP rfl trivial (fun hc => ?_) (fun hc => ?_)|refine zQ rfl trivial (fun hc => ?_) (fun hc => ?_)|refine zR rfl trivial (fun hc => ?_) (fun hc => ?_)|refine zS rfl trivial (fun hc => ?_) (fun hc => ?_)|refine zT ?_|refine zU ?_|refine zF rfl ?_ ?_|refine zH rfl ?_ ?_|refine zJ rfl ?_ ?_|refine zL rfl ?_ rfl ?_|refine zV rfl trivial rfl rfl rfl ?_|refine zW rfl rfl rfl rfl ?_|refine zX rfl rfl trivial rfl trivial rfl rfl rfl rfl rfl ?_
      | refine ao_callO rfl (h_downI u.1 keys1 u.2 (u.2.getD i.toNat 0) hb1.2 hb2.2.2 hb1.1.ok) [0, 1, 2, 3] trivial rfl rfl rfl rfl rfl rfl (by simp [kinds, Blk.isRow]) (by simp [bflats, bflat, vflats, vflat, D.flat, D.scal, Blk.flat]) rfl rfl rfl rfl rfl rfl ?_
      |(show allP _; first | trivial | exact ob1 (fun h => h) | exact ob2 (fun h => h) (fun h => h) | exact ob1 (fun h => ⟨h.1, trivial⟩) | (simp only [obS]; first | omega | (intros; omega) | (simp only [obL]; first | omega | (intros; omega)) | (refine ⟨?_, ?_⟩ <;> intros <;> first | (with_reducible assumption) | omega) | ((repeat' refine And.intro ?_ ?_) <;> (intros; first | (with_reducible assumption) | omega | (simp only [obL]; omega))) | ((try simp only [obB] at *); (try simp only [Blk.len] at *); first | omega | (intros; omega)) | (simp_all; done))))
    refine retO1 rfl (by (repeat (first | exact subS_nil | refine subS_cons (by first | rfl | (simp only [bumpF, hu]; done)) ?_))) rfl rfl ?_
    rfl
  · have hI := h.keys hkl
    have h0 : 0 ≤ places.getD i.toNat 0 := by omega
    have hset : setF ⟨items, keys, places⟩ i.toNat k = bumpF ⟨items, keys.set i.toNat k, places⟩ i.toNat := by
      unfold setF
      rw [if_neg hc]
    rw [hset]
    generalize keys.set i.toNat k = keys1 at *
    generalize hits : items = its1 at *
    generalize hpls : places = pl1 at *
    have q0 := hI.ok.1
    have hb1 := bump_up hI (x := i.toNat) (by omega) h0
    have q1 := hI.held (x := i.toNat) (by omega) h0
    have hb2 := hb1.1.held (x := i.toNat) (by omega) hb1.2
    have q2 := hb1.1.ok.1
    repeat' (first
    
      |refine zA ?_|refine zB ?_|refine zC (by kernel_rfl) (by kernel_rfl) ?_|refine zD ?_|refine zE ?_|refine zF rfl trivial ?_|refine zG ?_|refine zH rfl trivial ?_|refine zI ?_|refine zJ rfl trivial ?_|refine zK ?_|refine zL rfl trivial rfl ?_|refine zM ?_|refine zN rfl trivial ?_|refine zO rfl trivial ?_|refine zP rfl trivial (fun hc => ?_) (fun hc => ?_)|refine zQ rfl trivial (fun hc => ?_) (fun hc => ?_)|refine zR rfl trivial (fun hc => ?_) (fun hc => ?_)|refine zS rfl trivial (fun hc => ?_) (fun hc => ?_)|refine zT ?_|refine zU ?_|refine zF rfl ?_ ?_|refine zH rfl ?_ ?_|refine zJ rfl ?_ ?_|refine zL rfl ?_ rfl ?_|refine zV rfl trivial rfl rfl rfl ?_|refine zW rfl rfl rfl rfl ?_|refine zX rfl rfl trivial rfl trivial rfl rfl rfl rfl rfl ?_
      | refine ao_callO rfl (h_upI its1 keys1 pl1 (pl1.getD i.toNat 0) h0 q1.2.2 hI.ok) [0, 1, 2, 3] trivial rfl rfl rfl rfl rfl rfl (by simp [kinds, Blk.isRow]) (by simp [bflats, bflat, vflats, vflat, D.flat, D.scal, Blk.flat]) rfl rfl rfl rfl rfl rfl ?_
      |(show allP _; first | trivial | exact ob1 (fun h => h) | exact ob2 (fun h => h) (fun h => h) | exact ob1 (fun h => ⟨h.1, trivial⟩) | (simp only [obS]; first | omega | (intros; omega) | (simp only [obL]; first | omega | (intros; omega)) | (refine ⟨?_, ?_⟩ <;> intros <;> first | (with_reducible assumption) | omega) | ((repeat' refine And.intro ?_ ?_) <;> (intros; first | (with_reducible assumption) | omega | (simp only [obL]; omega))) | ((try simp only [obB] at *); (try simp only [Blk.len] at *); first | omega | (intros; omega)) | (simp_all; done))))
    generalize hu : upF keys1 (its1.getD (pl1.getD i.toNat 0).toNat 0) its1 pl1 (pl1.getD i.toNat 0).toNat = u at hb1 hb2 q2 ⊢
    repeat' (first
    
      |refine zA ?_|refine zB ?_|refine zC (by kernel_rfl) (by kernel_rfl) ?_|refine zD ?_|refine zE ?_|refine zF rfl trivial ?_|refine zG ?_|refine zH rfl trivial ?_|refine zI ?_|refine zJ rfl trivial ?_|refine zK ?_|refine zL rfl trivial rfl ?_|refine zM ?_|refine zN rfl trivial ?_|refine zO rfl trivial ?_|refine zP rfl trivial (fun hc => ?_) (fun hc => ?_)|refine zQ rfl trivial (fun hc => ?_) (fun hc => ?_)|refine zR rfl trivial (fun hc => ?_) (fun hc => ?_)|refine zS rfl trivial (fun hc => ?_) (fun hc => ?_)|refine zT ?_|refine zU ?_|refine zF rfl ?_ ?_|refine zH rfl ?_ ?_|refine zJ rfl ?_ ?_|refine zL rfl ?_ rfl ?_|refine zV rfl trivial rfl rfl rfl ?_|refine zW rfl rfl rfl rfl ?_|refine zX rfl rfl trivial rfl trivial rfl rfl rfl rfl rfl ?_
      | refine ao_callO rfl (h_downI u.1 keys1 u.2 (u.2.getD i.toNat 0) hb1.2 hb2.2.2 hb1.1.ok) [0, 1, 2, 3] trivial rfl rfl rfl rfl rfl rfl (by simp [kinds, Blk.isRow]) (by simp [bflats, bflat, vflats, vflat, D.flat, D.scal, Blk.flat]) rfl rfl rfl rfl rfl rfl ?_
      |(show allP _; first | trivial | exact ob1 (fun h => h) | exact ob2 (fun h => h) (fun h => h) | exact ob1 (fun h => ⟨h.1, trivial⟩) | (simp only [obS]; first | omega | (intros; omega) | (simp only [obL]; first | omega | (intros; omega)) | (refine ⟨?_, ?_⟩ <;> intros <;> first | (with_reducible assumption) | omega) | ((repeat' refine And.intro ?_ ?_) <;> (intros; first | (with_reducible assumption) | omega | (simp only [obL]; omega))) | ((try simp only [obB] at *); (try simp only [Blk.len] at *); first | omega | (intros; omega)) | (simp_all; done))))
    refine retO1 rfl (by (repeat (first | exact subS_nil | refine subS_cons (by first | rfl | (simp only [bumpF, hu]; done)) ?_))) rfl rfl ?_
    rfl

end Go.Proofs.YtcnfggpcploehaaDoor

/- Layer 3: the heap: take, Pop. -/
namespace Go.Proofs.YtcnfggpcploehaaDoor
set_option maxRecDepth 10000
open Go.Wk

set_option maxHeartbeats 2000000 in
theorem h_take (items keys places : List Int) (h0 : 0 < items.length) (hok : okH keys items places) :
    CtrO Tryd.prog 73 [.ptr 0 0, iV 0] (hpS items keys places) (hpS (popF ⟨items, keys, places⟩).items keys (popF ⟨items, keys, places⟩).places) (.tup []) := by
  refine spec_obj envOK (Go.Wk.enters_of Tryd.func73 (by kernel_rfl) (by kernel_rfl)) Tryd.func73 rfl rfl _ rfl (Nat.le_of_ble_eq_true rfl) rfl (by simp [kinds, Blk.isRow]) fun w0 ρ0 => ?_
  have hl := hok.2.1
  have hp := hok.1
  have hi := hok.2.2 0 h0
  have e1 : ((items.length : Int) - 1).toNat = items.length - 1 := by omega
  have hi' : 0 ≤ items.getD (Int.toNat 0) 0 ∧ items.getD (Int.toNat 0) 0 < places.length := by rw [hp]; exact hi
  repeat' (first
    | refine aw_region_t (l2 := [_, _, _]) 12 (by kernel_rfl) (by kernel_rfl) rfl ?_
    |refine zA ?_|refine zB ?_|refine zC (by kernel_rfl) (by kernel_rfl) ?_|refine zD ?_|refine zE ?_|refine zF rfl trivial ?_|refine zG ?_|refine zH rfl trivial ?_|refine zI ?_|refine zJ rfl trivial ?_|refine zK ?_|refine zL rfl trivial rfl ?_|refine zM ?_|refine zN rfl trivial ?_|refine zO rfl trivial ?_|refine zP rfl trivial (fun hc => ?_) (fun hc => ?_)|refine zQ rfl trivial (fun hc => ?_) (fun hc => ?_)|refine zR rfl trivial (fun hc => ?_) (fun hc => ?_)|refine zS rfl trivial (fun hc => ?_) (fun hc => ?_)|refine zT ?_|refine zU ?_|refine zF rfl ?_ ?_|refine zH rfl ?_ ?_|refine zJ rfl ?_ ?_|refine zL rfl ?_ rfl ?_|refine zV rfl trivial rfl rfl rfl ?_|refine zW rfl rfl rfl rfl ?_|refine zX rfl rfl trivial rfl trivial rfl rfl rfl rfl rfl ?_
  
    |(show allP _; first | trivial | exact ob1 (fun h => h) | exact ob2 (fun h => h) (fun h => h) | exact ob1 (fun h => ⟨h.1, trivial⟩) | (simp only [obS]; first | omega | (intros; omega) | (simp only [obL]; first | omega | (intros; omega)) | (refine ⟨?_, ?_⟩ <;> intros <;> first | (with_reducible assumption) | omega) | ((repeat' refine And.intro ?_ ?_) <;> (intros; first | (with_reducible assumption) | omega | (simp only [obL]; omega))) | ((try simp only [obB] at *); (try simp only [Blk.len] at *); first | omega | (intros; omega)) | (simp_all; done))))
  have e2 : ((((Blk.ints .i64 items).len : Nat) : Int) - 1).toNat = items.length - 1 := e1
  have e3 : items.getD (Int.toNat 0) 0 = items.getD 0 0 := rfl
  rw [e2]
  refine ao_weak (weak_cut (nm := 1) (hn := 0) (j := 0) (m := items.length - 1) rfl rfl (by simp [Blk.len]) rfl rfl rfl rfl rfl rfl rfl) (Nat.le_of_ble_eq_true rfl) ?_
  repeat' (first
  
    |refine zA ?_|refine zB ?_|refine zC (by kernel_rfl) (by kernel_rfl) ?_|refine zD ?_|refine zE ?_|refine zF rfl trivial ?_|refine zG ?_|refine zH rfl trivial ?_|refine zI ?_|refine zJ rfl trivial ?_|refine zK ?_|refine zL rfl trivial rfl ?_|refine zM ?_|refine zN rfl trivial ?_|refine zO rfl trivial ?_|refine zP rfl trivial (fun hc => ?_) (fun hc => ?_)|refine zQ rfl trivial (fun hc => ?_) (fun hc => ?_)|refine zR rfl trivial (fun hc => ?_) (fun hc => ?_)|refine zS rfl trivial (fun hc => ?_) (fun hc => ?_)|refine zT ?_|refine zU ?_|refine zF rfl ?_ ?_|refine zH rfl ?_ ?_|refine zJ rfl ?_ ?_|refine zL rfl ?_ rfl ?_|refine zV rfl trivial rfl rfl rfl ?_|refine zW rfl rfl rfl rfl ?_|refine zX rfl rfl trivial rfl trivial rfl rfl rfl rfl rfl ?_
    | refine ao_store_ep rfl rfl trivial rfl trivial rfl rfl rfl rfl rfl rfl ?_
    |(show allP _; first | trivial | exact ob1 (fun h => h) | exact ob2 (fun h => h) (fun h => h) | exact ob1 (fun h => ⟨h.1, trivial⟩) | (simp only [obS]; first | omega | (intros; omega) | (simp only [obL]; first | omega | (intros; omega)) | (refine ⟨?_, ?_⟩ <;> intros <;> first | (with_reducible assumption) | omega) | ((repeat' refine And.intro ?_ ?_) <;> (intros; first | (with_reducible assumption) | omega | (simp only [obL]; omega))) | ((try simp only [obB] at *); (try simp only [Blk.len] at *); first | omega | (intros; omega)) | (simp_all; done))))
  · have hset : popF ⟨items, keys, places⟩ = ⟨items.take (items.length - 1), keys, places.set (items.getD 0 0).toNat (-1)⟩ := by
      unfold popF
      exact if_pos hc
    rw [hset]
    (first | refine retON rfl (by (repeat (first | exact subS_nil | refine subS_cons (by first | rfl | rfl) ?_))) rfl | refine retON' rfl (by (repeat (first | exact subS_nil | refine subS_cons (by first | rfl | rfl) ?_))) rfl)
  · have hset : popF ⟨items, keys, places⟩ = ⟨(downF keys (items.getD (items.length - 1) 0) ((items.take (items.length - 1)).set 0 (items.getD (items.length - 1) 0)) ((places.set (items.getD 0 0).toNat (-1)).set (items.getD (items.length - 1) 0).toNat 0) 0).1, keys, (downF keys (items.getD (items.length - 1) 0) ((items.take (items.length - 1)).set 0 (items.getD (items.length - 1) 0)) ((places.set (items.getD 0 0).toNat (-1)).set (items.getD (items.length - 1) 0).toNat 0) 0).2⟩ := by
      unfold popF
      exact if_neg hc
    have hL := hok.2.2 (items.length - 1) (by omega)
    have h2 : 1 < items.length := by
      rcases Nat.lt_or_ge 1 items.length with h | h
      · exact h
      · exfalso; apply hc; rw [show items.length - 1 = 0 by omega]; rfl
    rw [hset]
    have hit : (items.take (items.length - 1)).length = items.length - 1 := by simp
    have hok1 : okH keys ((items.take (items.length - 1)).set 0 (items.getD (items.length - 1) 0)) ((places.set (items.getD 0 0).toNat (-1)).set (items.getD (items.length - 1) 0).toNat 0) := by
      refine okH_set ⟨by simpa using hp, by omega, fun k hk => ?_⟩ hL
      rw [hit] at hk
      have := hok.2.2 k (by omega)
      have e4 : (items.take (items.length - 1)).getD k 0 = items.getD k 0 := by rw [List.getD_eq_getElem?_getD, List.getElem?_take, if_pos hk, ← List.getD_eq_getElem?_getD]
      rw [e4]; exact this
    have hpl0 : (places.set (items.getD 0 0).toNat (-1)).length = keys.length := by simpa using hp
    change items.getD 0 0 = items.getD (items.length - 1) 0 → False at hc
    simp only [e3]
    generalize items.getD (items.length - 1) 0 = last at *
    generalize items.take (items.length - 1) = its at *
    generalize places.set (items.getD 0 0).toNat (-1) = pls at *
    repeat' (first
    
      |refine zA ?_|refine zB ?_|refine zC (by kernel_rfl) (by kernel_rfl) ?_|refine zD ?_|refine zE ?_|refine zF rfl trivial ?_|refine zG ?_|refine zH rfl trivial ?_|refine zI ?_|refine zJ rfl trivial ?_|refine zK ?_|refine zL rfl trivial rfl ?_|refine zM ?_|refine zN rfl trivial ?_|refine zO rfl trivial ?_|refine zP rfl trivial (fun hc => ?_) (fun hc => ?_)|refine zQ rfl trivial (fun hc => ?_) (fun hc => ?_)|refine zR rfl trivial (fun hc => ?_) (fun hc => ?_)|refine zS rfl trivial (fun hc => ?_) (fun hc => ?_)|refine zT ?_|refine zU ?_|refine zF rfl ?_ ?_|refine zH rfl ?_ ?_|refine zJ rfl ?_ ?_|refine zL rfl ?_ rfl ?_|refine zV rfl trivial rfl rfl rfl ?_|refine zW rfl rfl rfl rfl ?_|refine zX rfl rfl trivial rfl trivial rfl rfl rfl rfl rfl ?_
      | refine ao_callO rfl (h_put its keys pls last 0 (by omega) (by omega)) [0, 1, 2, 3] trivial rfl rfl rfl rfl rfl rfl (by simp [kinds, Blk.isRow]) (by simp [bflats, bflat, vflats, vflat, D.flat, D.scal, Blk.flat]) rfl rfl rfl rfl rfl rfl ?_
      |(show allP _; first | trivial | exact ob1 (fun h => h) | exact ob2 (fun h => h) (fun h => h) | exact ob1 (fun h => ⟨h.1, trivial⟩) | (simp only [obS]; first | omega | (intros; omega) | (simp only [obL]; first | omega | (intros; omega)) | (refine ⟨?_, ?_⟩ <;> intros <;> first | (with_reducible assumption) | omega) | ((repeat' refine And.intro ?_ ?_) <;> (intros; first | (with_reducible assumption) | omega | (simp only [obL]; omega))) | ((try simp only [obB] at *); (try simp only [Blk.len] at *); first | omega | (intros; omega)) | (simp_all; done))))
    have gl : (its.set 0 last).getD 0 0 = last := by rw [getD_set, if_pos ⟨rfl, by omega⟩]
    have gp : (pls.set last.toNat 0).getD last.toNat 0 = 0 := by rw [getD_set, if_pos ⟨rfl, by omega⟩]
    have hu : upF keys ((its.set 0 last).getD (Int.toNat 0) 0) (its.set 0 last) (pls.set last.toNat 0) (Int.toNat 0) = (its.set 0 last, pls.set last.toNat 0) := by
      show upF keys ((its.set 0 last).getD 0 0) (its.set 0 last) (pls.set last.toNat 0) 0 = _
      rw [gl, upF_zero, set_same (l := its.set 0 last) gl, set_same (l := pls.set last.toNat 0) gp]
    have z1 : (its.set 0 last).length = its.length := by simp
    rw [show Int.toNat 0 = 0 from rfl]
    generalize its.set 0 last = its1 at *
    generalize pls.set last.toNat 0 = pls1 at *
    have q1 := hok1.1
    have hu1 := congrArg Prod.fst hu
    have hu2 := congrArg Prod.snd hu
    simp only at hu1 hu2
    have q4 := congrArg List.length hu2
    repeat' (first
    
      |refine zA ?_|refine zB ?_|refine zC (by kernel_rfl) (by kernel_rfl) ?_|refine zD ?_|refine zE ?_|refine zF rfl trivial ?_|refine zG ?_|refine zH rfl trivial ?_|refine zI ?_|refine zJ rfl trivial ?_|refine zK ?_|refine zL rfl trivial rfl ?_|refine zM ?_|refine zN rfl trivial ?_|refine zO rfl trivial ?_|refine zP rfl trivial (fun hc => ?_) (fun hc => ?_)|refine zQ rfl trivial (fun hc => ?_) (fun hc => ?_)|refine zR rfl trivial (fun hc => ?_) (fun hc => ?_)|refine zS rfl trivial (fun hc => ?_) (fun hc => ?_)|refine zT ?_|refine zU ?_|refine zF rfl ?_ ?_|refine zH rfl ?_ ?_|refine zJ rfl ?_ ?_|refine zL rfl ?_ rfl ?_|refine zV rfl trivial rfl rfl rfl ?_|refine zW rfl rfl rfl rfl ?_|refine zX rfl rfl trivial rfl trivial rfl rfl rfl rfl rfl ?_
      | refine ao_callO rfl (h_upI its1 keys pls1 0 (by omega) (by omega) hok1) [0, 1, 2, 3] trivial rfl rfl rfl rfl rfl rfl (by simp [kinds, Blk.isRow]) (by simp [bflats, bflat, vflats, vflat, D.flat, D.scal, Blk.flat]) rfl rfl rfl rfl rfl rfl ?_
      |(show allP _; first | trivial | exact ob1 (fun h => h) | exact ob2 (fun h => h) (fun h => h) | exact ob1 (fun h => ⟨h.1, trivial⟩) | (simp only [obS]; first | omega | (intros; omega) | (simp only [obL]; first | omega | (intros; omega)) | (refine ⟨?_, ?_⟩ <;> intros <;> first | (with_reducible assumption) | omega) | ((repeat' refine And.intro ?_ ?_) <;> (intros; first | (with_reducible assumption) | omega | (simp only [obL]; omega))) | ((try simp only [obB] at *); (try simp only [Blk.len] at *); first | omega | (intros; omega)) | (simp_all; done))))
    rw [hu1, hu2]
    repeat' (first
    
      |refine zA ?_|refine zB ?_|refine zC (by kernel_rfl) (by kernel_rfl) ?_|refine zD ?_|refine zE ?_|refine zF rfl trivial ?_|refine zG ?_|refine zH rfl trivial ?_|refine zI ?_|refine zJ rfl trivial ?_|refine zK ?_|refine zL rfl trivial rfl ?_|refine zM ?_|refine zN rfl trivial ?_|refine zO rfl trivial ?_|refine zP rfl trivial (fun hc => ?_) (fun hc => ?_)|refine zQ rfl trivial (fun hc => ?_) (fun hc => ?_)|refine zR rfl trivial (fun hc => ?_) (fun hc => ?_)|refine zS rfl trivial (fun hc => ?_) (fun hc => ?_)|refine zT ?_|refine zU ?_|refine zF rfl ?_ ?_|refine zH rfl ?_ ?_|refine zJ rfl ?_ ?_|refine zL rfl ?_ rfl ?_|refine zV rfl trivial rfl rfl rfl ?_|refine zW rfl rfl rfl rfl ?_|refine zX rfl rfl trivial rfl trivial rfl rfl rfl rfl rfl ?_
      | refine ao_callO rfl (h_downI its1 keys pls1 (pls1.getD last.toNat 0) (by omega) (by omega) hok1) [0, 1, 2, 3] trivial rfl rfl rfl rfl rfl rfl (by simp [kinds, Blk.isRow]) (by simp [bflats, bflat, vflats, vflat, D.flat, D.scal, Blk.flat]) rfl rfl rfl rfl rfl rfl ?_
      |(show allP _; first | trivial | exact ob1 (fun h => h) | exact ob2 (fun h => h) (fun h => h) | exact ob1 (fun h => ⟨h.1, trivial⟩) | (simp only [obS]; first | omega | (intros; omega) | (simp only [obL]; first | omega | (intros; omega)) | (refine ⟨?_, ?_⟩ <;> intros <;> first | (with_reducible assumption) | omega) | ((repeat' refine And.intro ?_ ?_) <;> (intros; first | (with_reducible assumption) | omega | (simp only [obL]; omega))) | ((try simp only [obB] at *); (try simp only [Blk.len] at *); first | omega | (intros; omega)) | (simp_all; done))))
    rw [gp]
    (first | refine retON rfl (by (repeat (first | exact subS_nil | refine subS_cons (by first | rfl | (rw [show Int.toNat 0 = 0 from rfl, gl]; done)) ?_))) rfl | refine retON' rfl (by (repeat (first | exact subS_nil | refine subS_cons (by first | rfl | (rw [show Int.toNat 0 = 0 from rfl, gl]; done)) ?_))) rfl)

end Go.Proofs.YtcnfggpcploehaaDoor

/- Layer 3: the heap: Pop. -/
namespace Go.Proofs.YtcnfggpcploehaaDoor
set_option maxRecDepth 10000
open Go.Wk

theorem h_Pop0 (keys places : List Int) :
    CtrO Tryd.prog 67 [.ptr 0 0] (hpS [] keys places) (hpS [] keys places) (.tup [iV 0, iV 0, .d (bD false)]) := by
  refine spec_obj envOK (Go.Wk.enters_of Tryd.func67 (by kernel_rfl) (by kernel_rfl)) Tryd.func67 rfl rfl _ rfl (Nat.le_of_ble_eq_true rfl) rfl (by simp [kinds, Blk.isRow]) fun w0 ρ0 => ?_
  repeat' (first
    | refine aw_region_t 9 (by kernel_rfl) (by kernel_rfl) rfl ?_
    |refine zA ?_|refine zB ?_|refine zC (by kernel_rfl) (by kernel_rfl) ?_|refine zD ?_|refine zE ?_|refine zF rfl trivial ?_|refine zG ?_|refine zH rfl trivial ?_|refine zI ?_|refine zJ rfl trivial ?_|refine zK ?_|refine zL rfl trivial rfl ?_|refine zM ?_|refine zN rfl trivial ?_|refine zO rfl trivial ?_|refine zP rfl trivial (fun hc => ?_) (fun hc => ?_)|refine zQ rfl trivial (fun hc => ?_) (fun hc => ?_)|refine zR rfl trivial (fun hc => ?_) (fun hc => ?_)|refine zS rfl trivial (fun hc => ?_) (fun hc => ?_)|refine zT ?_|refine zU ?_|refine zF rfl ?_ ?_|refine zH rfl ?_ ?_|refine zJ rfl ?_ ?_|refine zL rfl ?_ rfl ?_|refine zV rfl trivial rfl rfl rfl ?_|refine zW rfl rfl rfl rfl ?_|refine zX rfl rfl trivial rfl trivial rfl rfl rfl rfl rfl ?_
  
    |(show allP _; first | trivial | exact ob1 (fun h => h) | exact ob2 (fun h => h) (fun h => h) | exact ob1 (fun h => ⟨h.1, trivial⟩) | (simp only [obS]; first | omega | (intros; omega) | (simp only [obL]; first | omega | (intros; omega)) | (refine ⟨?_, ?_⟩ <;> intros <;> first | (with_reducible assumption) | omega) | ((repeat' refine And.intro ?_ ?_) <;> (intros; first | (with_reducible assumption) | omega | (simp only [obL]; omega))) | ((try simp only [obB] at *); (try simp only [Blk.len] at *); first | omega | (intros; omega)) | (simp_all; done))))
  refine retO3 rfl (by (repeat (first | exact subS_nil | refine subS_cons (by first | rfl | rfl) ?_))) rfl rfl ?_ ?_ ?_
  all_goals rfl

theorem h_Pop (items keys places : List Int) (h0 : 0 < items.length) (hok : okH keys items places) :
    CtrO Tryd.prog 67 [.ptr 0 0] (hpS items keys places) (hpS (popF ⟨items, keys, places⟩).items keys (popF ⟨items, keys, places⟩).places) (.tup [iV (items.getD 0 0), iV (gI keys (items.getD 0 0)), .d (bD true)]) := by
  refine spec_obj envOK (Go.Wk.enters_of Tryd.func67 (by kernel_rfl) (by kernel_rfl)) Tryd.func67 rfl rfl _ rfl (Nat.le_of_ble_eq_true rfl) rfl (by simp [kinds, Blk.isRow]) fun w0 ρ0 => ?_
  have hi := hok.2.2 0 h0
  have hi' : 0 ≤ items.getD (Int.toNat 0) 0 ∧ items.getD (Int.toNat 0) 0 < keys.length := hi
  repeat' (first
    | refine aw_region_t 9 (by kernel_rfl) (by kernel_rfl) rfl ?_
    |refine zA ?_|refine zB ?_|refine zC (by kernel_rfl) (by kernel_rfl) ?_|refine zD ?_|refine zE ?_|refine zF rfl trivial ?_|refine zG ?_|refine zH rfl trivial ?_|refine zI ?_|refine zJ rfl trivial ?_|refine zK ?_|refine zL rfl trivial rfl ?_|refine zM ?_|refine zN rfl trivial ?_|refine zO rfl trivial ?_|refine zP rfl trivial (fun hc => ?_) (fun hc => ?_)|refine zQ rfl trivial (fun hc => ?_) (fun hc => ?_)|refine zR rfl trivial (fun hc => ?_) (fun hc => ?_)|refine zS rfl trivial (fun hc => ?_) (fun hc => ?_)|refine zT ?_|refine zU ?_|refine zF rfl ?_ ?_|refine zH rfl ?_ ?_|refine zJ rfl ?_ ?_|refine zL rfl ?_ rfl ?_|refine zV rfl trivial rfl rfl rfl ?_|refine zW rfl rfl rfl rfl ?_|refine zX rfl rfl trivial rfl trivial rfl rfl rfl rfl rfl ?_
    | refine ao_callO rfl (h_take items keys places h0 hok) [0, 1, 2, 3] trivial rfl rfl rfl rfl rfl rfl (by simp [kinds, Blk.isRow]) (by simp [bflats, bflat, vflats, vflat, D.flat, D.scal, Blk.flat]) rfl rfl rfl rfl rfl rfl ?_
    |(show allP _; first | trivial | exact ob1 (fun h => h) | exact ob2 (fun h => h) (fun h => h) | exact ob1 (fun h => ⟨h.1, trivial⟩) | (simp only [obS]; first | omega | (intros; omega) | (simp only [obL]; first | omega | (intros; omega)) | (refine ⟨?_, ?_⟩ <;> intros <;> first | (with_reducible assumption) | omega) | ((repeat' refine And.intro ?_ ?_) <;> (intros; first | (with_reducible assumption) | omega | (simp only [obL]; omega))) | ((try simp only [obB] at *); (try simp only [Blk.len] at *); first | omega | (intros; omega)) | (simp_all; done))))
  · simp only [Blk.len] at hc; omega
  · refine retO3 rfl (by (repeat (first | exact subS_nil | refine subS_cons (by first | rfl | rfl) ?_))) rfl rfl ?_ ?_ ?_
    all_goals rfl

end Go.Proofs.YtcnfggpcploehaaDoor

/- Layer 3: the heap: New. -/
namespace Go.Proofs.YtcnfggpcploehaaDoor
set_option maxRecDepth 10000
open Go.Wk

theorem extD {a b : List Int} (h : a.length = b.length) (h2 : ∀ j, j < a.length → a.getD j 0 = b.getD j 0) : a = b := by
  apply List.ext_getElem h
  intro i h1 h3
  have := h2 i h1
  simpa [List.getD_eq_getElem?_getD, h1, h3] using this

theorem h_New (n : Int) (h0 : 0 ≤ n) (h1 : n ≤ 65536) : Ctr Tryd.prog 65 [iD n] [.ints .i64 (List.replicate n.toNat 0), .ints .i64 (List.replicate n.toNat (-1)), .cells [.nil, .own 0, .own 1]] (.tup [.ptr 2 0, .d (iD 0)]) := by
  have hnn : (((Blk.ints IntKind.i64 (List.replicate n.toNat 0)).len : Nat) : Int) = n := by simp [Blk.len]; omega
  refine spec_new envOK (Go.Wk.enters_of Tryd.func65 (by kernel_rfl) (by kernel_rfl)) Tryd.func65 rfl rfl _ rfl (Nat.le_of_ble_eq_true rfl) rfl fun w0 => ?_
  repeat' (first
    | refine aw_region_n (l0 := [_, _, _, _, _, _, _]) [] (by kernel_rfl) (by simp) ?_
    |refine zA ?_|refine zB ?_|refine zC (by kernel_rfl) (by kernel_rfl) ?_|refine zD ?_|refine zE ?_|refine zF rfl trivial ?_|refine zG ?_|refine zH rfl trivial ?_|refine zI ?_|refine zJ rfl trivial ?_|refine zK ?_|refine zL rfl trivial rfl ?_|refine zM ?_|refine zN rfl trivial ?_|refine zO rfl trivial ?_|refine zP rfl trivial (fun hc => ?_) (fun hc => ?_)|refine zQ rfl trivial (fun hc => ?_) (fun hc => ?_)|refine zR rfl trivial (fun hc => ?_) (fun hc => ?_)|refine zS rfl trivial (fun hc => ?_) (fun hc => ?_)|refine zT ?_|refine zU ?_|refine zF rfl ?_ ?_|refine zH rfl ?_ ?_|refine zJ rfl ?_ ?_|refine zL rfl ?_ rfl ?_|refine zV rfl trivial rfl rfl rfl ?_|refine zW rfl rfl rfl rfl ?_|refine zX rfl rfl trivial rfl trivial rfl rfl rfl rfl rfl ?_
    
    |(show allP _; first | trivial | exact ob1 (fun h => h) | exact ob2 (fun h => h) (fun h => h) | exact ob1 (fun h => ⟨h.1, trivial⟩) | (simp only [obS]; first | omega | (intros; omega) | (simp only [obL]; first | omega | (intros; omega)) | (refine ⟨?_, ?_⟩ <;> intros <;> first | (with_reducible assumption) | omega) | ((repeat' refine And.intro ?_ ?_) <;> (intros; first | (with_reducible assumption) | omega | (simp only [obL]; omega))) | ((try simp only [obB] at *); (try simp only [Blk.len] at *); first | omega | (intros; omega)) | (simp_all; done))))
  all_goals try (exfalso; simp at hc; omega)
  refine an_q 0 (by kernel_rfl) (by kernel_rfl) rfl rfl (by first | trivial | exact ob1 (fun h => h) | exact ob2 (fun h => h) (fun h => h) | exact ob1 (fun h => ⟨h.1, trivial⟩) | (simp only [obS]; first | omega | (intros; omega) | (simp only [obL]; first | omega | (intros; omega)) | (refine ⟨?_, ?_⟩ <;> intros <;> first | (with_reducible assumption) | omega) | ((repeat' refine And.intro ?_ ?_) <;> (intros; first | (with_reducible assumption) | omega | (simp only [obL]; omega))) | ((try simp only [obB] at *); (try simp only [Blk.len] at *); first | omega | (intros; omega)) | (simp_all; done))) (by kernel_rfl) ?_
  refine an_q 2 (by kernel_rfl) (by kernel_rfl) rfl rfl (by first | trivial | exact ob1 (fun h => h) | exact ob2 (fun h => h) (fun h => h) | exact ob1 (fun h => ⟨h.1, trivial⟩) | (simp only [obS]; first | omega | (intros; omega) | (simp only [obL]; first | omega | (intros; omega)) | (refine ⟨?_, ?_⟩ <;> intros <;> first | (with_reducible assumption) | omega) | ((repeat' refine And.intro ?_ ?_) <;> (intros; first | (with_reducible assumption) | omega | (simp only [obL]; omega))) | ((try simp only [obB] at *); (try simp only [Blk.len] at *); first | omega | (intros; omega)) | (simp_all; done))) (by kernel_rfl) ?_
  refine an_2 1 3 (by kernel_rfl) rfl rfl ?_ ?_
  · refine ax_make rfl rfl rfl rfl trivial rfl trivial (by first | omega | (dsimp only; omega)) (by first | omega | (dsimp only; omega)) (by first | omega | (dsimp only; omega)) rfl rfl rfl ?_
    refine an_1 3 (by kernel_rfl) rfl ?_
    refine ax_make rfl rfl rfl rfl trivial rfl trivial (by first | omega | (dsimp only; omega)) (by first | omega | (dsimp only; omega)) (by first | omega | (dsimp only; omega)) rfl rfl rfl ?_
    refine an_1 4 (by kernel_rfl) rfl ?_
    refine ax_q rfl (by first | trivial | exact ob1 (fun h => h) | exact ob2 (fun h => h) (fun h => h) | exact ob1 (fun h => ⟨h.1, trivial⟩) | (simp only [obS]; first | omega | (intros; omega) | (simp only [obL]; first | omega | (intros; omega)) | (refine ⟨?_, ?_⟩ <;> intros <;> first | (with_reducible assumption) | omega) | ((repeat' refine And.intro ?_ ?_) <;> (intros; first | (with_reducible assumption) | omega | (simp only [obL]; omega))) | ((try simp only [obB] at *); (try simp only [Blk.len] at *); first | omega | (intros; omega)) | (simp_all; done))) ?_
    refine an_1 5 (by kernel_rfl) rfl ?_
    refine ax_box rfl trivial rfl rfl rfl ?_
    refine an_1 6 (by kernel_rfl) rfl ?_
    refine ax_q rfl (by first | trivial | exact ob1 (fun h => h) | exact ob2 (fun h => h) (fun h => h) | exact ob1 (fun h => ⟨h.1, trivial⟩) | (simp only [obS]; first | omega | (intros; omega) | (simp only [obL]; first | omega | (intros; omega)) | (refine ⟨?_, ?_⟩ <;> intros <;> first | (with_reducible assumption) | omega) | ((repeat' refine And.intro ?_ ?_) <;> (intros; first | (with_reducible assumption) | omega | (simp only [obL]; omega))) | ((try simp only [obB] at *); (try simp only [Blk.len] at *); first | omega | (intros; omega)) | (simp_all; done))) ?_
    refine an_nil (by kernel_rfl) ?_
    repeat' (first
    
      |refine zA ?_|refine zB ?_|refine zC (by kernel_rfl) (by kernel_rfl) ?_|refine zD ?_|refine zE ?_|refine zF rfl trivial ?_|refine zG ?_|refine zH rfl trivial ?_|refine zI ?_|refine zJ rfl trivial ?_|refine zK ?_|refine zL rfl trivial rfl ?_|refine zM ?_|refine zN rfl trivial ?_|refine zO rfl trivial ?_|refine zP rfl trivial (fun hc => ?_) (fun hc => ?_)|refine zQ rfl trivial (fun hc => ?_) (fun hc => ?_)|refine zR rfl trivial (fun hc => ?_) (fun hc => ?_)|refine zS rfl trivial (fun hc => ?_) (fun hc => ?_)|refine zT ?_|refine zU ?_|refine zF rfl ?_ ?_|refine zH rfl ?_ ?_|refine zJ rfl ?_ ?_|refine zL rfl ?_ rfl ?_|refine zV rfl trivial rfl rfl rfl ?_|refine zW rfl rfl rfl rfl ?_|refine zX rfl rfl trivial rfl trivial rfl rfl rfl rfl rfl ?_
    
      |(show allP _; first | trivial | exact ob1 (fun h => h) | exact ob2 (fun h => h) (fun h => h) | exact ob1 (fun h => ⟨h.1, trivial⟩) | (simp only [obS]; first | omega | (intros; omega) | (simp only [obL]; first | omega | (intros; omega)) | (refine ⟨?_, ?_⟩ <;> intros <;> first | (with_reducible assumption) | omega) | ((repeat' refine And.intro ?_ ?_) <;> (intros; first | (with_reducible assumption) | omega | (simp only [obL]; omega))) | ((try simp only [obB] at *); (try simp only [Blk.len] at *); first | omega | (intros; omega)) | (simp_all; done))))
    rw [hnn]
    refine aw_loop (ι := List Int × Nat) (fun s => [(23, [], .d (iD s.2)), (22, [], .d (iD n)), (21, [], .own 1), (4, [], .ptr 2 0)]) (fun s => [.ints .i64 (List.replicate n.toNat 0), .ints .i64 s.1, .cells [.nil, .own 0, .own 1]])
      (fun s => s.1.length = n.toNat ∧ s.2 ≤ n.toNat ∧ ∀ j, j < s.2 → s.1.getD j 0 = -1) (fun s => n.toNat - s.2) (List.replicate n.toNat 0, 0) ⟨by simp, by simp, fun j hj => by simp at hj⟩ (fun _ => Nat.le_of_ble_eq_true rfl) ?_ fun s hs => ?_
    · refine weak_to ?_ ?_ rfl rfl
      · repeat (first | exact subF_nil | refine subF_cons (by first | rfl | (simp [look]; done) | (rw [← hnn]; rfl)) ?_)
      · repeat (first | exact subS_nil | refine subS_cons (by first | rfl | (simp; done) | rfl) ?_)
    obtain ⟨p, i⟩ := s
    obtain ⟨hp, hi, hj⟩ := hs
    simp only at hp hi hj ⊢
    repeat' (first
    
      |refine zA ?_|refine zB ?_|refine zC (by kernel_rfl) (by kernel_rfl) ?_|refine zD ?_|refine zE ?_|refine zF rfl trivial ?_|refine zG ?_|refine zH rfl trivial ?_|refine zI ?_|refine zJ rfl trivial ?_|refine zK ?_|refine zL rfl trivial rfl ?_|refine zM ?_|refine zN rfl trivial ?_|refine zO rfl trivial ?_|refine zP rfl trivial (fun hc => ?_) (fun hc => ?_)|refine zQ rfl trivial (fun hc => ?_) (fun hc => ?_)|refine zR rfl trivial (fun hc => ?_) (fun hc => ?_)|refine zS rfl trivial (fun hc => ?_) (fun hc => ?_)|refine zT ?_|refine zU ?_|refine zF rfl ?_ ?_|refine zH rfl ?_ ?_|refine zJ rfl ?_ ?_|refine zL rfl ?_ rfl ?_|refine zV rfl trivial rfl rfl rfl ?_|refine zW rfl rfl rfl rfl ?_|refine zX rfl rfl trivial rfl trivial rfl rfl rfl rfl rfl ?_
      | refine ao_store_ep rfl rfl trivial rfl trivial rfl rfl rfl rfl rfl rfl ?_
      |(show allP _; first | trivial | exact ob1 (fun h => h) | exact ob2 (fun h => h) (fun h => h) | exact ob1 (fun h => ⟨h.1, trivial⟩) | (simp only [obS]; first | omega | (intros; omega) | (simp only [obL]; first | omega | (intros; omega)) | (refine ⟨?_, ?_⟩ <;> intros <;> first | (with_reducible assumption) | omega) | ((repeat' refine And.intro ?_ ?_) <;> (intros; first | (with_reducible assumption) | omega | (simp only [obL]; omega))) | ((try simp only [obB] at *); (try simp only [Blk.len] at *); first | omega | (intros; omega)) | (simp_all; done))))
    · rw [show (Int.toNat (i : Int)) = i from rfl]
      refine ⟨(p.set i (-1), i + 1), ⟨by simpa using hp, by simp only; omega, fun j hj' => ?_⟩, by simp only; omega, ?_⟩
      · simp only at hj' ⊢
        rw [getD_set]
        split
        · rfl
        · exact hj j (by omega)
      · refine weak_to ?_ ?_ rfl rfl
        · repeat (first | exact subF_nil | refine subF_cons (by first | rfl | (simp [look]; done) | (simp [look]; done)) ?_)
        · repeat (first | exact subS_nil | refine subS_cons (by first | rfl | (simp; done) | rfl) ?_)
    · have he : p = List.replicate n.toNat (-1) := by
        refine extD (by simpa using hp) fun j hj' => ?_
        rw [hj j (by omega), List.getD_eq_getElem?_getD, List.getElem?_replicate, if_pos (by omega)]; rfl
      subst he
      refine retN2 rfl (by (repeat (first | exact subS_nil | refine subS_cons (by first | rfl | rfl) ?_))) rfl rfl (by simp [bflats, bflat, vflats, vflat, D.flat, D.scal, Blk.flat]) rfl rfl rfl
  · refine ax_make rfl rfl rfl rfl trivial rfl trivial (by first | omega | (dsimp only; omega)) (by first | omega | (dsimp only; omega)) (by first | omega | (dsimp only; omega)) rfl rfl rfl ?_
    refine an_1 1 (by kernel_rfl) rfl ?_
    refine ax_make rfl rfl rfl rfl trivial rfl trivial (by first | omega | (dsimp only; omega)) (by first | omega | (dsimp only; omega)) (by first | omega | (dsimp only; omega)) rfl rfl rfl ?_
    refine an_1 4 (by kernel_rfl) rfl ?_
    refine ax_q rfl (by first | trivial | exact ob1 (fun h => h) | exact ob2 (fun h => h) (fun h => h) | exact ob1 (fun h => ⟨h.1, trivial⟩) | (simp only [obS]; first | omega | (intros; omega) | (simp only [obL]; first | omega | (intros; omega)) | (refine ⟨?_, ?_⟩ <;> intros <;> first | (with_reducible assumption) | omega) | ((repeat' refine And.intro ?_ ?_) <;> (intros; first | (with_reducible assumption) | omega | (simp only [obL]; omega))) | ((try simp only [obB] at *); (try simp only [Blk.len] at *); first | omega | (intros; omega)) | (simp_all; done))) ?_
    refine an_1 5 (by kernel_rfl) rfl ?_
    refine ax_box rfl trivial rfl rfl rfl ?_
    refine an_1 6 (by kernel_rfl) rfl ?_
    refine ax_q rfl (by first | trivial | exact ob1 (fun h => h) | exact ob2 (fun h => h) (fun h => h) | exact ob1 (fun h => ⟨h.1, trivial⟩) | (simp only [obS]; first | omega | (intros; omega) | (simp only [obL]; first | omega | (intros; omega)) | (refine ⟨?_, ?_⟩ <;> intros <;> first | (with_reducible assumption) | omega) | ((repeat' refine And.intro ?_ ?_) <;> (intros; first | (with_reducible assumption) | omega | (simp only [obL]; omega))) | ((try simp only [obB] at *); (try simp only [Blk.len] at *); first | omega | (intros; omega)) | (simp_all; done))) ?_
    refine an_nil (by kernel_rfl) ?_
    repeat' (first
    
      |refine zA ?_|refine zB ?_|refine zC (by kernel_rfl) (by kernel_rfl) ?_|refine zD ?_|refine zE ?_|refine zF rfl trivial ?_|refine zG ?_|refine zH rfl trivial ?_|refine zI ?_|refine zJ rfl trivial ?_|refine zK ?_|refine zL rfl trivial rfl ?_|refine zM ?_|refine zN rfl trivial ?_|refine zO rfl trivial ?_|refine zP rfl trivial (fun hc => ?_) (fun hc => ?_)|refine zQ rfl trivial (fun hc => ?_) (fun hc => ?_)|refine zR rfl trivial (fun hc => ?_) (fun hc => ?_)|refine zS rfl trivial (fun hc => ?_) (fun hc => ?_)|refine zT ?_|refine zU ?_|refine zF rfl ?_ ?_|refine zH rfl ?_ ?_|refine zJ rfl ?_ ?_|refine zL rfl ?_ rfl ?_|refine zV rfl trivial rfl rfl rfl ?_|refine zW rfl rfl rfl rfl ?_|refine zX rfl rfl trivial rfl trivial rfl rfl rfl rfl rfl ?_
    
      |(show allP _; first | trivial | exact ob1 (fun h => h) | exact ob2 (fun h => h) (fun h => h) | exact ob1 (fun h => ⟨h.1, trivial⟩) | (simp only [obS]; first | omega | (intros; omega) | (simp only [obL]; first | omega | (intros; omega)) | (refine ⟨?_, ?_⟩ <;> intros <;> first | (with_reducible assumption) | omega) | ((repeat' refine And.intro ?_ ?_) <;> (intros; first | (with_reducible assumption) | omega | (simp only [obL]; omega))) | ((try simp only [obB] at *); (try simp only [Blk.len] at *); first | omega | (intros; omega)) | (simp_all; done))))
    rw [hnn]
    refine aw_weak (F' := [(23, [], .d (iD 0)), (22, [], .d (iD n)), (21, [], .own 0), (4, [], .ptr 2 0)]) (S' := [.ints .i64 (List.replicate n.toNat 0), .ints .i64 (List.replicate n.toNat 0), .cells [.nil, .own 1, .own 0]]) ?_ (Nat.le_of_ble_eq_true rfl) ?_
    · refine weak_to ?_ ?_ rfl rfl
      · repeat (first | exact subF_nil | refine subF_cons (by first | rfl | (simp [look]; done) | (rw [← hnn]; rfl)) ?_)
      · repeat (first | exact subS_nil | refine subS_cons (by first | rfl | (simp; done) | rfl) ?_)
    refine aw_sel (F0 := [(23, [], .d (iD 0)), (22, [], .d (iD n)), (21, [], .own 1), (4, [], .ptr 2 0)]) (S0 := [.ints .i64 (List.replicate n.toNat 0), .ints .i64 (List.replicate n.toNat 0), .cells [.nil, .own 0, .own 1]]) [1, 0, 2] rfl rfl rfl (Nat.le_of_ble_eq_true rfl) (fun i hi => absurd hi (Nat.not_lt_zero _)) (by repeat (first | exact subR_nil | refine subR_cons rfl rfl ?_)) ?_
    refine aw_loop (ι := List Int × Nat) (fun s => [(23, [], .d (iD s.2)), (22, [], .d (iD n)), (21, [], .own 1), (4, [], .ptr 2 0)]) (fun s => [.ints .i64 (List.replicate n.toNat 0), .ints .i64 s.1, .cells [.nil, .own 0, .own 1]])
      (fun s => s.1.length = n.toNat ∧ s.2 ≤ n.toNat ∧ ∀ j, j < s.2 → s.1.getD j 0 = -1) (fun s => n.toNat - s.2) (List.replicate n.toNat 0, 0) ⟨by simp, by simp, fun j hj => by simp at hj⟩ (fun _ => Nat.le_of_ble_eq_true rfl) ?_ fun s hs => ?_
    · refine weak_to ?_ ?_ rfl rfl
      · repeat (first | exact subF_nil | refine subF_cons (by first | rfl | (simp [look]; done) | (rw [← hnn]; rfl)) ?_)
      · repeat (first | exact subS_nil | refine subS_cons (by first | rfl | (simp; done) | rfl) ?_)
    obtain ⟨p, i⟩ := s
    obtain ⟨hp, hi, hj⟩ := hs
    simp only at hp hi hj ⊢
    repeat' (first
    
      |refine zA ?_|refine zB ?_|refine zC (by kernel_rfl) (by kernel_rfl) ?_|refine zD ?_|refine zE ?_|refine zF rfl trivial ?_|refine zG ?_|refine zH rfl trivial ?_|refine zI ?_|refine zJ rfl trivial ?_|refine zK ?_|refine zL rfl trivial rfl ?_|refine zM ?_|refine zN rfl trivial ?_|refine zO rfl trivial ?_|refine zP rfl trivial (fun hc => ?_) (fun hc => ?_)|refine zQ rfl trivial (fun hc => ?_) (fun hc => ?_)|refine zR rfl trivial (fun hc => ?_) (fun hc => ?_)|refine zS rfl trivial (fun hc => ?_) (fun hc => ?_)|refine zT ?_|refine zU ?_|refine zF rfl ?_ ?_|refine zH rfl ?_ ?_|refine zJ rfl ?_ ?_|refine zL rfl ?_ rfl ?_|refine zV rfl trivial rfl rfl rfl ?_|refine zW rfl rfl rfl rfl ?_|refine zX rfl rfl trivial rfl trivial rfl rfl rfl rfl rfl ?_
      | refine ao_store_ep rfl rfl trivial rfl trivial rfl rfl rfl rfl rfl rfl ?_
      |(show allP _; first | trivial | exact ob1 (fun h => h) | exact ob2 (fun h => h) (fun h => h) | exact ob1 (fun h => ⟨h.1, trivial⟩) | (simp only [obS]; first | omega | (intros; omega) | (simp only [obL]; first | omega | (intros; omega)) | (refine ⟨?_, ?_⟩ <;> intros <;> first | (with_reducible assumption) | omega) | ((repeat' refine And.intro ?_ ?_) <;> (intros; first | (with_reducible assumption) | omega | (simp only [obL]; omega))) | ((try simp only [obB] at *); (try simp only [Blk.len] at *); first | omega | (intros; omega)) | (simp_all; done))))
    · rw [show (Int.toNat (i : Int)) = i from rfl]
      refine ⟨(p.set i (-1), i + 1), ⟨by simpa using hp, by simp only; omega, fun j hj' => ?_⟩, by simp only; omega, ?_⟩
      · simp only at hj' ⊢
        rw [getD_set]
        split
        · rfl
        · exact hj j (by omega)
      · refine weak_to ?_ ?_ rfl rfl
        · repeat (first | exact subF_nil | refine subF_cons (by first | rfl | (simp [look]; done) | (simp [look]; done)) ?_)
        · repeat (first | exact subS_nil | refine subS_cons (by first | rfl | (simp; done) | rfl) ?_)
    · have he : p = List.replicate n.toNat (-1) := by
        refine extD (by simpa using hp) fun j hj' => ?_
        rw [hj j (by omega), List.getD_eq_getElem?_getD, List.getElem?_replicate, if_pos (by omega)]; rfl
      subst he
      refine retN2 rfl (by (repeat (first | exact subS_nil | refine subS_cons (by first | rfl | rfl) ?_))) rfl rfl (by simp [bflats, bflat, vflats, vflat, D.flat, D.scal, Blk.flat]) rfl rfl rfl

end Go.Proofs.YtcnfggpcploehaaDoor

/- Layer 11: fits, up. -/
namespace Go.Proofs.YtcnfggpcploehaaDoor
set_option maxRecDepth 10000
open Go.Wk

theorem c_fits (t : Topo) (down : List Bool) : Ctr Tryd.prog 64 [topoD t, boolsD down] [] (.d (bD (fitsB t down))) := by
  refine spec_of envOK (Go.Wk.enters_of Tryd.func64 (by kernel_rfl) (by kernel_rfl)) Tryd.func64 rfl rfl _ rfl (Nat.le_of_ble_eq_true rfl) rfl fun w0 => ?_
  have hl : validB t = false ∨ t.links.length ≤ 256 := by
    cases hv : validB t with
    | false => exact .inl rfl
    | true => exact .inr (validB_head hv).2.2.1
  rcases hl with hl | hl
  · repeat' (first
    
      |refine zA ?_|refine zB ?_|refine zC (by kernel_rfl) (by kernel_rfl) ?_|refine zD ?_|refine zE ?_|refine zF rfl trivial ?_|refine zG ?_|refine zH rfl trivial ?_|refine zI ?_|refine zJ rfl trivial ?_|refine zK ?_|refine zL rfl trivial rfl ?_|refine zM ?_|refine zN rfl trivial ?_|refine zO rfl trivial ?_|refine zP rfl trivial (fun hc => ?_) (fun hc => ?_)|refine zQ rfl trivial (fun hc => ?_) (fun hc => ?_)|refine zR rfl trivial (fun hc => ?_) (fun hc => ?_)|refine zS rfl trivial (fun hc => ?_) (fun hc => ?_)|refine zT ?_|refine zU ?_|refine zF rfl ?_ ?_|refine zH rfl ?_ ?_|refine zJ rfl ?_ ?_|refine zL rfl ?_ rfl ?_|refine zV rfl trivial rfl rfl rfl ?_|refine zW rfl rfl rfl rfl ?_|refine zX rfl rfl trivial rfl trivial rfl rfl rfl rfl rfl ?_
      | refine ao_call rfl (c_Valid _) rfl ?_ ?_
      | refine aq_call rfl (c_Valid _) rfl ?_ ?_
      |(show allP _; first | trivial | exact ob1 (fun h => h) | exact ob2 (fun h => h) (fun h => h) | exact ob1 (fun h => ⟨h.1, trivial⟩) | (simp only [obS]; first | omega | (intros; omega) | (simp only [obL]; first | omega | (intros; omega)) | (refine ⟨?_, ?_⟩ <;> intros <;> first | (with_reducible assumption) | omega) | ((repeat' refine And.intro ?_ ?_) <;> (intros; first | (with_reducible assumption) | omega | (simp only [obL]; omega))) | ((try simp only [obB] at *); (try simp only [Blk.len] at *); first | omega | (intros; omega)) | (simp_all; done))))
    (refine fin_ret ?_; exact ret1 (by rfl) (by (simp [fitsB])) (by rfl))
  · repeat' (first
    
      |refine zA ?_|refine zB ?_|refine zC (by kernel_rfl) (by kernel_rfl) ?_|refine zD ?_|refine zE ?_|refine zF rfl trivial ?_|refine zG ?_|refine zH rfl trivial ?_|refine zI ?_|refine zJ rfl trivial ?_|refine zK ?_|refine zL rfl trivial rfl ?_|refine zM ?_|refine zN rfl trivial ?_|refine zO rfl trivial ?_|refine zP rfl trivial (fun hc => ?_) (fun hc => ?_)|refine zQ rfl trivial (fun hc => ?_) (fun hc => ?_)|refine zR rfl trivial (fun hc => ?_) (fun hc => ?_)|refine zS rfl trivial (fun hc => ?_) (fun hc => ?_)|refine zT ?_|refine zU ?_|refine zF rfl ?_ ?_|refine zH rfl ?_ ?_|refine zJ rfl ?_ ?_|refine zL rfl ?_ rfl ?_|refine zV rfl trivial rfl rfl rfl ?_|refine zW rfl rfl rfl rfl ?_|refine zX rfl rfl trivial rfl trivial rfl rfl rfl rfl rfl ?_
      | refine ao_call rfl (c_Valid _) rfl ?_ ?_
      | refine aq_call rfl (c_Valid _) rfl ?_ ?_
      |(show allP _; first | trivial | exact ob1 (fun h => h) | exact ob2 (fun h => h) (fun h => h) | exact ob1 (fun h => ⟨h.1, trivial⟩) | (simp only [obS]; first | omega | (intros; omega) | (simp only [obL]; first | omega | (intros; omega)) | (refine ⟨?_, ?_⟩ <;> intros <;> first | (with_reducible assumption) | omega) | ((repeat' refine And.intro ?_ ?_) <;> (intros; first | (with_reducible assumption) | omega | (simp only [obL]; omega))) | ((try simp only [obB] at *); (try simp only [Blk.len] at *); first | omega | (intros; omega)) | (simp_all; done))))
    (refine fin_ret ?_; exact ret1 (by rfl) (by (simp [fitsB])) (by rfl))

theorem c_up (down : List Bool) (a : Int) (h : down.length = 0 ∨ 0 ≤ a ∧ a < down.length) : Ctr Tryd.prog 68 [boolsD down, iD a] [] (.d (bD (upB down a))) := by
  refine spec_of envOK (Go.Wk.enters_of Tryd.func68 (by kernel_rfl) (by kernel_rfl)) Tryd.func68 rfl rfl _ rfl (Nat.le_of_ble_eq_true rfl) rfl fun w0 => ?_
  repeat' (first
  
    |refine zA ?_|refine zB ?_|refine zC (by kernel_rfl) (by kernel_rfl) ?_|refine zD ?_|refine zE ?_|refine zF rfl trivial ?_|refine zG ?_|refine zH rfl trivial ?_|refine zI ?_|refine zJ rfl trivial ?_|refine zK ?_|refine zL rfl trivial rfl ?_|refine zM ?_|refine zN rfl trivial ?_|refine zO rfl trivial ?_|refine zP rfl trivial (fun hc => ?_) (fun hc => ?_)|refine zQ rfl trivial (fun hc => ?_) (fun hc => ?_)|refine zR rfl trivial (fun hc => ?_) (fun hc => ?_)|refine zS rfl trivial (fun hc => ?_) (fun hc => ?_)|refine zT ?_|refine zU ?_|refine zF rfl ?_ ?_|refine zH rfl ?_ ?_|refine zJ rfl ?_ ?_|refine zL rfl ?_ rfl ?_|refine zV rfl trivial rfl rfl rfl ?_|refine zW rfl rfl rfl rfl ?_|refine zX rfl rfl trivial rfl trivial rfl rfl rfl rfl rfl ?_
  
    |(show allP _; first | trivial | exact ob1 (fun h => h) | exact ob2 (fun h => h) (fun h => h) | exact ob1 (fun h => ⟨h.1, trivial⟩) | (simp only [obS]; first | omega | (intros; omega) | (simp only [obL]; first | omega | (intros; omega)) | (refine ⟨?_, ?_⟩ <;> intros <;> first | (with_reducible assumption) | omega) | ((repeat' refine And.intro ?_ ?_) <;> (intros; first | (with_reducible assumption) | omega | (simp only [obL]; omega))) | ((try simp only [obB] at *); (try simp only [Blk.len] at *); first | omega | (intros; omega)) | (simp_all; done))))
  (refine fin_ret ?_; exact ret1 (by rfl) (by (simp [upB])) (by rfl))

end Go.Proofs.YtcnfggpcploehaaDoor

/- Layer 11: the search: the arcs of a node. -/
namespace Go.Proofs.YtcnfggpcploehaaDoor
set_option maxRecDepth 10000
open Go.Wk

theorem arcsL_len {t : Topo} (hv : validB t = true) (y : Int) (fr : Bool) : (arcsL t y fr).length ≤ 512 := by
  have := validB_head hv
  rw [arcsL_eq hv]
  refine Nat.le_trans (List.length_filter_le _ _) ?_
  simp [arcsR]; omega

abbrev tBlk (t : Topo) : Blk := .cells [.d (iD t.nodes), .d (boolsD t.overload), .d (linksD t.links)]

theorem key_true {p k o : Int} (h : (!!decide (p < 0) || decide (k < (bif decide (p < 0) then 0 else o))) = true) : p < 0 ∨ k < o := by
  by_cases hp : p < 0
  · exact .inl hp
  · right; simpa [hp] using h
theorem key_false {p k o : Int} (h : (!!decide (p < 0) || decide (k < (bif decide (p < 0) then 0 else o))) = false) : 0 ≤ p ∧ o ≤ k := by
  by_cases hp : p < 0
  · simp [hp] at h
  · simp [hp] at h; omega

set_option maxHeartbeats 4000000 in
theorem s_inner {Q : Exit → Fr → List Blk → Prop} {w0 : World} {t : Topo} {down : List Bool} {n y k : Int} {fr : Bool} {fa fe : FuncId} {dist2 : List Int} {h2 : Hp} (he : ∀ a, Ctr Tryd.prog fe [topoD t, iD a] [] (.d (iD (farT t fr a))))
    (hf : fitsB t down = true) (y0 : 0 ≤ y) (yn : y < t.nodes) (yk : 0 ≤ k) (yk2 : k ≤ 65535 * 64) (htr : y = n ∨ overT t y = false) (hset : gI dist2 y = k) (hdn0 : gI dist2 n = 0) (H : DJ t down n fr k dist2 h2 (fun a => nearT t fr a = y))
    (hQ : ∀ h3 F, DJ t down n fr k dist2 h3 (fun _ => False) → subF F [(14, [], .d (iD y)), (15, [], .d (iD k)), (12, [], .ptr 5 0), (10, [], .own 2), (7, [], .ptr 1 0), (4, [], .ptr 0 0), (1, [], .d (boolsD down)), (2, [], .d (iD n))] →
      Q (.exit 4) F [tBlk t, .cells [.d (.fn fa), .d (.fn fe)], .ints .i64 dist2, .ints .i64 h3.keys, .ints .i64 h3.places, .cells [.own 6, .own 3, .own 4], .ints .i64 h3.items, .ints .i64 (arcsL t y fr)]) :
    AW Tryd.prog env (Base.of w0) Tryd.f52.ntmps (loopC Tryd.f52 19) Q
      [(83, [], .d (iD 0)), (82, [], .d (iD (arcsL t y fr).length)), (81, [], .own 7), (14, [], .d (iD y)), (15, [], .d (iD k)), (12, [], .ptr 5 0), (10, [], .own 2), (7, [], .ptr 1 0), (4, [], .ptr 0 0), (1, [], .d (boolsD down)), (2, [], .d (iD n))]
      [tBlk t, .cells [.d (.fn fa), .d (.fn fe)], .ints .i64 dist2, .ints .i64 h2.keys, .ints .i64 h2.places, .cells [.own 6, .own 3, .own 4], .ints .i64 h2.items, .ints .i64 (arcsL t y fr)] := by
  have hv := fitsB_v hf
  have hnn := validB_head hv
  have hll := arcsL_len hv y fr
  have hl2 := H.len
  refine aw_loop (ι := Hp × Nat) (fun s => [(83, [], .d (iD s.2)), (82, [], .d (iD (arcsL t y fr).length)), (81, [], .own 7), (14, [], .d (iD y)), (15, [], .d (iD k)), (12, [], .ptr 5 0), (10, [], .own 2), (7, [], .ptr 1 0), (4, [], .ptr 0 0), (1, [], .d (boolsD down)), (2, [], .d (iD n))])
    (fun s => [.cells [.d (iD t.nodes), .d (boolsD t.overload), .d (linksD t.links)], .cells [.d (.fn fa), .d (.fn fe)], .ints .i64 dist2, .ints .i64 s.1.keys, .ints .i64 s.1.places, .cells [.own 6, .own 3, .own 4], .ints .i64 s.1.items, .ints .i64 (arcsL t y fr)])
    (fun s => DJ t down n fr k dist2 s.1 (fun a => a ∈ (arcsL t y fr).drop s.2) ∧ s.2 ≤ (arcsL t y fr).length) (fun s => (arcsL t y fr).length - s.2) (h2, 0) ⟨H.arcs hv, by simp⟩ (fun _ => Nat.le_of_ble_eq_true rfl) (by refine weak_to ?_ ?_ rfl rfl
                                                                                                                                                                                                                            · repeat (first | exact subF_nil | refine subF_cons (by first | rfl | (simp [look]; done)) ?_)
                                                                                                                                                                                                                            · repeat (first | exact subS_nil | refine subS_cons (by first | rfl | (simp; done)) ?_)) fun s hs => ?_
  obtain ⟨h3, j⟩ := s
  obtain ⟨H3, hj⟩ := hs
  simp only at H3 hj ⊢
  have hkl3 := H3.klen
  by_cases hjl : j < (arcsL t y fr).length
  · obtain ⟨a0, a1, a2⟩ := (mem_arcsL hv).1 (getD_mem (d := 0) hjl)
    have hb := arc_nf hv fr a0 a1
    have hup : down.length = 0 ∨ 0 ≤ (arcsL t y fr).getD j 0 ∧ (arcsL t y fr).getD j 0 < down.length := by
      simp only [fitsB, Bool.and_eq_true, Bool.or_eq_true, decide_eq_true_eq] at hf
      omega
    have hcur : gI dist2 (nearT t fr ((arcsL t y fr).getD j 0)) = k := by rw [a2]; exact hset
    have hx : 0 ≤ farT t fr ((arcsL t y fr).getD (Int.toNat (j : Int)) 0) ∧ farT t fr ((arcsL t y fr).getD (Int.toNat (j : Int)) 0) < h3.keys.length := by
      rw [show Int.toNat (j : Int) = j from rfl]; omega
    have hx2 : farT t fr ((arcsL t y fr).getD (Int.toNat (j : Int)) 0) < dist2.length := by omega
    have hc1 : 1 ≤ costT t ((arcsL t y fr).getD (Int.toNat (j : Int)) 0) ∧ costT t ((arcsL t y fr).getD (Int.toNat (j : Int)) 0) ≤ 65535 := hb.2.2.2.2.2
    have hI3 := H3.hi.inv
    have hpk := hI3.ok.1
    repeat' (first
    
      |refine zA ?_|refine zB ?_|refine zC (by kernel_rfl) (by kernel_rfl) ?_|refine zD ?_|refine zE ?_|refine zF rfl trivial ?_|refine zG ?_|refine zH rfl trivial ?_|refine zI ?_|refine zJ rfl trivial ?_|refine zK ?_|refine zL rfl trivial rfl ?_|refine zM ?_|refine zN rfl trivial ?_|refine zO rfl trivial ?_|refine zP rfl trivial (fun hc => ?_) (fun hc => ?_)|refine zQ rfl trivial (fun hc => ?_) (fun hc => ?_)|refine zR rfl trivial (fun hc => ?_) (fun hc => ?_)|refine zS rfl trivial (fun hc => ?_) (fun hc => ?_)|refine zT ?_|refine zU ?_|refine zF rfl ?_ ?_|refine zH rfl ?_ ?_|refine zJ rfl ?_ ?_|refine zL rfl ?_ rfl ?_|refine zV rfl trivial rfl rfl rfl ?_|refine zW rfl rfl rfl rfl ?_|refine zX rfl rfl trivial rfl trivial rfl rfl rfl rfl rfl ?_
      | refine ao_call rfl (he _) rfl ?_ ?_
      | refine ao_call rfl (c_up down _ hup) rfl ?_ ?_
      | refine ao_call rfl (c_Cost _ _) rfl ?_ ?_
      | refine ao_callO rfl (h_Key h3.items h3.keys h3.places (farT t fr ((arcsL t y fr).getD (Int.toNat (j : Int)) 0)) hx hpk) [5, 6, 3, 4] trivial rfl rfl rfl rfl rfl rfl (by simp [kinds, Blk.isRow]) (by simp [bflats, bflat, vflats, vflat, D.flat, D.scal, Blk.flat]) rfl rfl rfl rfl rfl rfl ?_
      | refine ao_callO rfl (h_Set h3.items h3.keys h3.places (farT t fr ((arcsL t y fr).getD (Int.toNat (j : Int)) 0)) (k + costT t ((arcsL t y fr).getD (Int.toNat (j : Int)) 0)) hx (by omega) hI3) [5, 6, 3, 4] trivial rfl rfl rfl rfl rfl rfl (by simp [kinds, Blk.isRow]) (by simp [bflats, bflat, vflats, vflat, D.flat, D.scal, Blk.flat]) rfl rfl rfl rfl rfl rfl ?_
      |(show allP _; first | trivial | exact ob1 (fun h => h) | exact ob2 (fun h => h) (fun h => h) | exact ob1 (fun h => ⟨h.1, trivial⟩) | (simp only [obS]; first | omega | (intros; omega) | (simp only [obL]; first | omega | (intros; omega)) | (refine ⟨?_, ?_⟩ <;> intros <;> first | (with_reducible assumption) | omega) | ((repeat' refine And.intro ?_ ?_) <;> (intros; first | (with_reducible assumption) | omega | (simp only [obL]; omega))) | ((try simp only [obB] at *); (try simp only [Blk.len] at *); first | omega | (intros; omega)) | (simp_all; done))))
    all_goals simp only [Int.toNat_natCast] at *
    · refine ⟨(h3, j + 1), ⟨H3.next hv hjl hcur ?_, by simp only; omega⟩, by simp only; omega, ?_⟩
      · simp only [Bool.or_eq_true, Bool.not_eq_true', decide_eq_true_eq] at hc
        rcases hc with h | h
        · exact .inl h
        · exact .inr (.inl h)
      · refine weak_to ?_ ?_ rfl rfl
        · repeat (first | exact subF_nil | refine subF_cons (by first | rfl | (simp [look]; done)) ?_)
        · repeat (first | exact subS_nil | refine subS_cons (by first | rfl | (simp; done)) ?_)
    · rename_i hc2 hc3
      simp only [Bool.or_eq_false_iff, Bool.not_eq_false', decide_eq_false_iff_not] at hc3
      have hkey : gI h3.places (farT t fr ((arcsL t y fr).getD j 0)) < 0 ∨ k + costT t ((arcsL t y fr).getD j 0) < gI h3.keys (farT t fr ((arcsL t y fr).getD j 0)) := by
        exact key_true hc
      refine ⟨(setF h3 (farT t fr ((arcsL t y fr).getD j 0)).toNat (k + costT t ((arcsL t y fr).getD j 0)), j + 1), ⟨H3.put hv hjl hcur a0 a1 hc3.1 (by rw [a2]; exact htr) (by have := hc3.2; simp only [gI]; omega) hdn0 hkey, by simp only; omega⟩, by simp only; omega, ?_⟩
      refine weak_to ?_ ?_ rfl rfl
      · repeat (first | exact subF_nil | refine subF_cons (by first | rfl | (simp [look]; done)) ?_)
      · repeat (first | exact subS_nil | refine subS_cons (by first | rfl | (simp; done)) ?_)
    · rename_i hc2 hc3
      simp only [Bool.or_eq_false_iff, Bool.not_eq_false', decide_eq_false_iff_not] at hc3
      have hkey : 0 ≤ gI h3.places (farT t fr ((arcsL t y fr).getD j 0)) ∧ gI h3.keys (farT t fr ((arcsL t y fr).getD j 0)) ≤ k + costT t ((arcsL t y fr).getD j 0) := by
        exact key_false hc
      refine ⟨(h3, j + 1), ⟨H3.next hv hjl hcur (.inr (.inr hkey)), by simp only; omega⟩, by simp only; omega, ?_⟩
      refine weak_to ?_ ?_ rfl rfl
      · repeat (first | exact subF_nil | refine subF_cons (by first | rfl | (simp [look]; done)) ?_)
      · repeat (first | exact subS_nil | refine subS_cons (by first | rfl | (simp; done)) ?_)
    · exfalso; omega
  · repeat' (first
    
      |refine zA ?_|refine zB ?_|refine zC (by kernel_rfl) (by kernel_rfl) ?_|refine zD ?_|refine zE ?_|refine zF rfl trivial ?_|refine zG ?_|refine zH rfl trivial ?_|refine zI ?_|refine zJ rfl trivial ?_|refine zK ?_|refine zL rfl trivial rfl ?_|refine zM ?_|refine zN rfl trivial ?_|refine zO rfl trivial ?_|refine zP rfl trivial (fun hc => ?_) (fun hc => ?_)|refine zQ rfl trivial (fun hc => ?_) (fun hc => ?_)|refine zR rfl trivial (fun hc => ?_) (fun hc => ?_)|refine zS rfl trivial (fun hc => ?_) (fun hc => ?_)|refine zT ?_|refine zU ?_|refine zF rfl ?_ ?_|refine zH rfl ?_ ?_|refine zJ rfl ?_ ?_|refine zL rfl ?_ rfl ?_|refine zV rfl trivial rfl rfl rfl ?_|refine zW rfl rfl rfl rfl ?_|refine zX rfl rfl trivial rfl trivial rfl rfl rfl rfl rfl ?_
      | (exfalso; omega)
      |(show allP _; first | trivial | exact ob1 (fun h => h) | exact ob2 (fun h => h) (fun h => h) | exact ob1 (fun h => ⟨h.1, trivial⟩) | (simp only [obS]; first | omega | (intros; omega) | (simp only [obL]; first | omega | (intros; omega)) | (refine ⟨?_, ?_⟩ <;> intros <;> first | (with_reducible assumption) | omega) | ((repeat' refine And.intro ?_ ?_) <;> (intros; first | (with_reducible assumption) | omega | (simp only [obL]; omega))) | ((try simp only [obB] at *); (try simp only [Blk.len] at *); first | omega | (intros; omega)) | (simp_all; done))))
    exact hQ h3 _ (H3.done_arcs (by omega)) (by repeat (first | exact subF_nil | refine subF_cons rfl ?_))
end Go.Proofs.YtcnfggpcploehaaDoor

/- Layer 11: the search. -/
namespace Go.Proofs.YtcnfggpcploehaaDoor
set_option maxRecDepth 10000
open Go.Wk

set_option maxHeartbeats 4000000 in
theorem c_search (t : Topo) (down : List Bool) (n : Int) (fr : Bool) (fa fe : FuncId) (ha : ∀ y, Ctr Tryd.prog fa [topoD t, iD y] [.ints .i64 (arcsL t y fr)] (.own 0)) (he : ∀ a, Ctr Tryd.prog fe [topoD t, iD a] [] (.d (iD (farT t fr a)))) :
    Ctr Tryd.prog 52 [topoD t, boolsD down, iD n, .agg [.fn fa, .fn fe]] [.ints .i64 (distL t down n fr)] (.tup [.own 0, .d (iD (errS t down n))]) := by
  refine spec_of envOK (Go.Wk.enters_of Tryd.func52 (by kernel_rfl) (by kernel_rfl)) Tryd.func52 rfl rfl _ rfl (Nat.le_of_ble_eq_true rfl) rfl fun w0 => ?_
  repeat' (first
  
    |refine zA ?_|refine zB ?_|refine zC (by kernel_rfl) (by kernel_rfl) ?_|refine zD ?_|refine zE ?_|refine zF rfl trivial ?_|refine zG ?_|refine zH rfl trivial ?_|refine zI ?_|refine zJ rfl trivial ?_|refine zK ?_|refine zL rfl trivial rfl ?_|refine zM ?_|refine zN rfl trivial ?_|refine zO rfl trivial ?_|refine zP rfl trivial (fun hc => ?_) (fun hc => ?_)|refine zQ rfl trivial (fun hc => ?_) (fun hc => ?_)|refine zR rfl trivial (fun hc => ?_) (fun hc => ?_)|refine zS rfl trivial (fun hc => ?_) (fun hc => ?_)|refine zT ?_|refine zU ?_|refine zF rfl ?_ ?_|refine zH rfl ?_ ?_|refine zJ rfl ?_ ?_|refine zL rfl ?_ rfl ?_|refine zV rfl trivial rfl rfl rfl ?_|refine zW rfl rfl rfl rfl ?_|refine zX rfl rfl trivial rfl trivial rfl rfl rfl rfl rfl ?_
    | refine ao_call rfl (c_fits _ _) rfl ?_ ?_
    |(show allP _; first | trivial | exact ob1 (fun h => h) | exact ob2 (fun h => h) (fun h => h) | exact ob1 (fun h => ⟨h.1, trivial⟩) | (simp only [obS]; first | omega | (intros; omega) | (simp only [obL]; first | omega | (intros; omega)) | (refine ⟨?_, ?_⟩ <;> intros <;> first | (with_reducible assumption) | omega) | ((repeat' refine And.intro ?_ ?_) <;> (intros; first | (with_reducible assumption) | omega | (simp only [obL]; omega))) | ((try simp only [obB] at *); (try simp only [Blk.len] at *); first | omega | (intros; omega)) | (simp_all; done))))
  · have he : errS t down n = 1 := by unfold errS; rw [hc]; rfl
    refine fin_ret ?_; exact retNil2 rfl (by simp [distL, he, Blk.len]) (by rw [he]) trivial rfl
  · rename_i hf
    have he : errS t down n = 2 := by unfold errS; rw [hf, hc]; rfl
    refine fin_ret ?_; exact retNil2 rfl (by simp [distL, he, Blk.len]) (by rw [he]) trivial rfl
  rename_i hf
  have herr : errS t down n = 0 := by unfold errS; rw [hf, hc]; rfl
  obtain ⟨_, n0, n1⟩ := errS_0 herr
  have hv := fitsB_v hf
  have hnn := validB_head hv
  repeat' (first
  
    |refine zA ?_|refine zB ?_|refine zC (by kernel_rfl) (by kernel_rfl) ?_|refine zD ?_|refine zE ?_|refine zF rfl trivial ?_|refine zG ?_|refine zH rfl trivial ?_|refine zI ?_|refine zJ rfl trivial ?_|refine zK ?_|refine zL rfl trivial rfl ?_|refine zM ?_|refine zN rfl trivial ?_|refine zO rfl trivial ?_|refine zP rfl trivial (fun hc => ?_) (fun hc => ?_)|refine zQ rfl trivial (fun hc => ?_) (fun hc => ?_)|refine zR rfl trivial (fun hc => ?_) (fun hc => ?_)|refine zS rfl trivial (fun hc => ?_) (fun hc => ?_)|refine zT ?_|refine zU ?_|refine zF rfl ?_ ?_|refine zH rfl ?_ ?_|refine zJ rfl ?_ ?_|refine zL rfl ?_ rfl ?_|refine zV rfl trivial rfl rfl rfl ?_|refine zW rfl rfl rfl rfl ?_|refine zX rfl rfl trivial rfl trivial rfl rfl rfl rfl rfl ?_
    | refine ao_make rfl rfl rfl rfl trivial rfl trivial (by first | omega | (dsimp only; omega)) (by first | omega | (dsimp only; omega)) (by first | omega | (dsimp only; omega)) rfl rfl rfl ?_
    |(show allP _; first | trivial | exact ob1 (fun h => h) | exact ob2 (fun h => h) (fun h => h) | exact ob1 (fun h => ⟨h.1, trivial⟩) | (simp only [obS]; first | omega | (intros; omega) | (simp only [obL]; first | omega | (intros; omega)) | (refine ⟨?_, ?_⟩ <;> intros <;> first | (with_reducible assumption) | omega) | ((repeat' refine And.intro ?_ ?_) <;> (intros; first | (with_reducible assumption) | omega | (simp only [obL]; omega))) | ((try simp only [obB] at *); (try simp only [Blk.len] at *); first | omega | (intros; omega)) | (simp_all; done))))
  rw [show (((Blk.ints IntKind.i64 (List.replicate t.nodes.toNat 0)).len : Nat) : Int) = t.nodes by simp [Blk.len]; omega]
  refine aw_loop (ι := List Int × Nat) (fun s => [(40, [], .d (iD s.2)), (39, [], .d (iD t.nodes)), (38, [], .own 2), (10, [], .own 2), (7, [], .ptr 1 0), (4, [], .ptr 0 0), (1, [], .d (boolsD down)), (2, [], .d (iD n))])
    (fun s => [.cells [.d (iD t.nodes), .d (boolsD t.overload), .d (linksD t.links)], .cells [.d (.fn fa), .d (.fn fe)], .ints .i64 s.1])
    (fun s => s.1.length = t.nodes.toNat ∧ s.2 ≤ t.nodes.toNat ∧ ∀ j, j < s.2 → s.1.getD j 0 = -1) (fun s => t.nodes.toNat - s.2) (List.replicate t.nodes.toNat 0, 0) ⟨by simp, by simp, fun j hj => by simp at hj⟩ (fun _ => Nat.le_of_ble_eq_true rfl) (by refine weak_to ?_ ?_ rfl rfl
                                                                                                                                                                                                                                                             · repeat (first | exact subF_nil | refine subF_cons (by first | rfl | (simp [look]; done)) ?_)
                                                                                                                                                                                                                                                             · repeat (first | exact subS_nil | refine subS_cons (by first | rfl | (simp; done)) ?_)) fun s hs => ?_
  obtain ⟨p, i⟩ := s
  obtain ⟨hp, hi, hj⟩ := hs
  simp only at hp hi hj ⊢
  repeat' (first
  
    |refine zA ?_|refine zB ?_|refine zC (by kernel_rfl) (by kernel_rfl) ?_|refine zD ?_|refine zE ?_|refine zF rfl trivial ?_|refine zG ?_|refine zH rfl trivial ?_|refine zI ?_|refine zJ rfl trivial ?_|refine zK ?_|refine zL rfl trivial rfl ?_|refine zM ?_|refine zN rfl trivial ?_|refine zO rfl trivial ?_|refine zP rfl trivial (fun hc => ?_) (fun hc => ?_)|refine zQ rfl trivial (fun hc => ?_) (fun hc => ?_)|refine zR rfl trivial (fun hc => ?_) (fun hc => ?_)|refine zS rfl trivial (fun hc => ?_) (fun hc => ?_)|refine zT ?_|refine zU ?_|refine zF rfl ?_ ?_|refine zH rfl ?_ ?_|refine zJ rfl ?_ ?_|refine zL rfl ?_ rfl ?_|refine zV rfl trivial rfl rfl rfl ?_|refine zW rfl rfl rfl rfl ?_|refine zX rfl rfl trivial rfl trivial rfl rfl rfl rfl rfl ?_
    | refine ao_store_ep rfl rfl trivial rfl trivial rfl rfl rfl rfl rfl rfl ?_
    | refine ao_callR rfl (h_New _ (by omega) (by omega)) trivial rfl rfl ?_
    |(show allP _; first | trivial | exact ob1 (fun h => h) | exact ob2 (fun h => h) (fun h => h) | exact ob1 (fun h => ⟨h.1, trivial⟩) | (simp only [obS]; first | omega | (intros; omega) | (simp only [obL]; first | omega | (intros; omega)) | (refine ⟨?_, ?_⟩ <;> intros <;> first | (with_reducible assumption) | omega) | ((repeat' refine And.intro ?_ ?_) <;> (intros; first | (with_reducible assumption) | omega | (simp only [obL]; omega))) | ((try simp only [obB] at *); (try simp only [Blk.len] at *); first | omega | (intros; omega)) | (simp_all; done))))
  · rw [show (Int.toNat (i : Int)) = i from rfl]
    refine ⟨(p.set i (-1), i + 1), ⟨by simpa using hp, by simp only; omega, fun j hj' => ?_⟩, by simp only; omega, ?_⟩
    · simp only at hj' ⊢
      rw [getD_set]
      split
      · rfl
      · exact hj j (by omega)
    · refine weak_to ?_ ?_ rfl rfl
      · repeat (first | exact subF_nil | refine subF_cons (by first | rfl | (simp [look]; done)) ?_)
      · repeat (first | exact subS_nil | refine subS_cons (by first | rfl | (simp; done)) ?_)
  have hpe : p = List.replicate t.nodes.toNat (-1) := by
    refine extD (by simpa using hp) fun j hj' => ?_
    rw [hj j (by omega), List.getD_eq_getElem?_getD, List.getElem?_replicate, if_pos (by omega)]; rfl
  subst hpe
  have hI0 : InvP (List.replicate t.nodes.toNat 0) [] (List.replicate t.nodes.toNat (-1)) := ⟨⟨by simp, by simp, fun k hk => by simp at hk⟩, fun k hk => by simp at hk, fun x hx => .inl (by
    have hx' : x < t.nodes.toNat := by simpa using hx
    rw [List.getD_eq_getElem?_getD, List.getElem?_replicate, if_pos hx']; decide)⟩
  have D0 := DJ.init (down := down) (fr := fr) hv n0 n1
  refine ao_weak (F' := [(54, [], .d (iD n)), (53, [], .ptr 5 0), (12, [], .ptr 5 0), (10, [], .own 2), (7, [], .ptr 1 0), (4, [], .ptr 0 0), (1, [], .d (boolsD down)), (2, [], .d (iD n))])
    (S' := [.cells [.d (iD t.nodes), .d (boolsD t.overload), .d (linksD t.links)], .cells [.d (.fn fa), .d (.fn fe)], .ints .i64 (List.replicate t.nodes.toNat (-1)), .ints .i64 (List.replicate t.nodes.toNat 0), .ints .i64 (List.replicate t.nodes.toNat (-1)), .cells [.nil, .own 3, .own 4]]) ?_ (Nat.le_of_ble_eq_true rfl) ?_
  · refine weak_to ?_ ?_ rfl rfl
    · repeat (first | exact subF_nil | refine subF_cons (by first | rfl | (simp [look]; done)) ?_)
    · repeat (first | exact subS_nil | refine subS_cons (by first | rfl | (simp; done)) ?_)
  refine ao_weak (weak_nilc (hn := 5) (j := 0) (.ints .i64 []) rfl rfl rfl rfl rfl rfl rfl rfl) (Nat.le_of_ble_eq_true rfl) ?_
  repeat' (first
  
    |refine zA ?_|refine zB ?_|refine zC (by kernel_rfl) (by kernel_rfl) ?_|refine zD ?_|refine zE ?_|refine zF rfl trivial ?_|refine zG ?_|refine zH rfl trivial ?_|refine zI ?_|refine zJ rfl trivial ?_|refine zK ?_|refine zL rfl trivial rfl ?_|refine zM ?_|refine zN rfl trivial ?_|refine zO rfl trivial ?_|refine zP rfl trivial (fun hc => ?_) (fun hc => ?_)|refine zQ rfl trivial (fun hc => ?_) (fun hc => ?_)|refine zR rfl trivial (fun hc => ?_) (fun hc => ?_)|refine zS rfl trivial (fun hc => ?_) (fun hc => ?_)|refine zT ?_|refine zU ?_|refine zF rfl ?_ ?_|refine zH rfl ?_ ?_|refine zJ rfl ?_ ?_|refine zL rfl ?_ rfl ?_|refine zV rfl trivial rfl rfl rfl ?_|refine zW rfl rfl rfl rfl ?_|refine zX rfl rfl trivial rfl trivial rfl rfl rfl rfl rfl ?_
    | refine ao_callO rfl (h_Set [] (List.replicate t.nodes.toNat 0) (List.replicate t.nodes.toNat (-1)) n 0 (by simp; omega) (by simp; omega) hI0) [5, 6, 3, 4] trivial rfl rfl rfl rfl rfl rfl (by simp [kinds, Blk.isRow]) (by simp [bflats, bflat, vflats, vflat, D.flat, D.scal, Blk.flat]) rfl rfl rfl rfl rfl rfl ?_
    |(show allP _; first | trivial | exact ob1 (fun h => h) | exact ob2 (fun h => h) (fun h => h) | exact ob1 (fun h => ⟨h.1, trivial⟩) | (simp only [obS]; first | omega | (intros; omega) | (simp only [obL]; first | omega | (intros; omega)) | (refine ⟨?_, ?_⟩ <;> intros <;> first | (with_reducible assumption) | omega) | ((repeat' refine And.intro ?_ ?_) <;> (intros; first | (with_reducible assumption) | omega | (simp only [obL]; omega))) | ((try simp only [obB] at *); (try simp only [Blk.len] at *); first | omega | (intros; omega)) | (simp_all; done))))
  generalize setF ⟨[], List.replicate t.nodes.toNat 0, List.replicate t.nodes.toNat (-1)⟩ n.toNat 0 = h0 at *
  refine aw_loop (ι := Int × List Int × Hp) (fun s => [(12, [], .ptr 5 0), (10, [], .own 2), (7, [], .ptr 1 0), (4, [], .ptr 0 0), (1, [], .d (boolsD down)), (2, [], .d (iD n))])
    (fun s => [.cells [.d (iD t.nodes), .d (boolsD t.overload), .d (linksD t.links)], .cells [.d (.fn fa), .d (.fn fe)], .ints .i64 s.2.1, .ints .i64 s.2.2.keys, .ints .i64 s.2.2.places, .cells [.own 6, .own 3, .own 4], .ints .i64 s.2.2.items])
    (fun s => DJ t down n fr s.1 s.2.1 s.2.2 (fun _ => False)) (fun s => s.2.1.length - cntD s.2.1) (0, List.replicate t.nodes.toNat (-1), h0) D0 (fun _ => Nat.le_of_ble_eq_true rfl) (by refine weak_to ?_ ?_ rfl rfl
                                                                                                                                                                                           · repeat (first | exact subF_nil | refine subF_cons (by first | rfl | (simp [look]; done)) ?_)
                                                                                                                                                                                           · repeat (first | exact subS_nil | refine subS_cons (by first | rfl | (simp; done)) ?_)) fun s hs => ?_
  obtain ⟨cur, dist, hp1⟩ := s
  simp only at hs ⊢
  by_cases hlen : hp1.items.length = 0
  · have hI := hs.fin hv n0 n1 hlen
    have hnil : hp1.items = [] := List.length_eq_zero_iff.1 hlen
    rw [hnil]
    repeat' (first
    
      |refine zA ?_|refine zB ?_|refine zC (by kernel_rfl) (by kernel_rfl) ?_|refine zD ?_|refine zE ?_|refine zF rfl trivial ?_|refine zG ?_|refine zH rfl trivial ?_|refine zI ?_|refine zJ rfl trivial ?_|refine zK ?_|refine zL rfl trivial rfl ?_|refine zM ?_|refine zN rfl trivial ?_|refine zO rfl trivial ?_|refine zP rfl trivial (fun hc => ?_) (fun hc => ?_)|refine zQ rfl trivial (fun hc => ?_) (fun hc => ?_)|refine zR rfl trivial (fun hc => ?_) (fun hc => ?_)|refine zS rfl trivial (fun hc => ?_) (fun hc => ?_)|refine zT ?_|refine zU ?_|refine zF rfl ?_ ?_|refine zH rfl ?_ ?_|refine zJ rfl ?_ ?_|refine zL rfl ?_ rfl ?_|refine zV rfl trivial rfl rfl rfl ?_|refine zW rfl rfl rfl rfl ?_|refine zX rfl rfl trivial rfl trivial rfl rfl rfl rfl rfl ?_
      | refine ao_callO rfl (h_Pop0 hp1.keys hp1.places) [5, 6, 3, 4] trivial rfl rfl rfl rfl rfl rfl (by simp [kinds, Blk.isRow]) (by simp [bflats, bflat, vflats, vflat, D.flat, D.scal, Blk.flat]) rfl rfl rfl rfl rfl rfl ?_
      |(show allP _; first | trivial | exact ob1 (fun h => h) | exact ob2 (fun h => h) (fun h => h) | exact ob1 (fun h => ⟨h.1, trivial⟩) | (simp only [obS]; first | omega | (intros; omega) | (simp only [obL]; first | omega | (intros; omega)) | (refine ⟨?_, ?_⟩ <;> intros <;> first | (with_reducible assumption) | omega) | ((repeat' refine And.intro ?_ ?_) <;> (intros; first | (with_reducible assumption) | omega | (simp only [obL]; omega))) | ((try simp only [obB] at *); (try simp only [Blk.len] at *); first | omega | (intros; omega)) | (simp_all; done))))
    refine fin_ret ?_
    exact retOwn2 rfl rfl (by simp only [distL, herr, if_true]; rw [hI.eq hv]) (by rw [herr]) trivial rfl
  obtain ⟨y, y1, y0, yn, yd, yk, yk2, H, hc1, hc2⟩ := hs.pop hv n0 (by omega)
  have hl := hs.len
  have hkl := hs.klen
  have hPop : CtrO Tryd.prog 67 [.ptr 0 0] (hpS hp1.items hp1.keys hp1.places) (hpS (popF hp1).items (popF hp1).keys (popF hp1).places) (.tup [iV y, iV (gI hp1.keys y), .d (bD true)]) := by
    have := h_Pop hp1.items hp1.keys hp1.places (by omega) hs.hi.inv.ok
    rw [y1] at this
    rw [(pop_HI hs.hi (by omega)).2.1]
    exact this
  clear hI0 D0 hp hj hc hi
  generalize popF hp1 = h2 at *
  generalize gI hp1.keys y = k at *
  have hl2 := H.len
  have hkl2 := H.klen
  repeat' (first
  
    |refine zA ?_|refine zB ?_|refine zC (by kernel_rfl) (by kernel_rfl) ?_|refine zD ?_|refine zE ?_|refine zF rfl trivial ?_|refine zG ?_|refine zH rfl trivial ?_|refine zI ?_|refine zJ rfl trivial ?_|refine zK ?_|refine zL rfl trivial rfl ?_|refine zM ?_|refine zN rfl trivial ?_|refine zO rfl trivial ?_|refine zP rfl trivial (fun hc => ?_) (fun hc => ?_)|refine zQ rfl trivial (fun hc => ?_) (fun hc => ?_)|refine zR rfl trivial (fun hc => ?_) (fun hc => ?_)|refine zS rfl trivial (fun hc => ?_) (fun hc => ?_)|refine zT ?_|refine zU ?_|refine zF rfl ?_ ?_|refine zH rfl ?_ ?_|refine zJ rfl ?_ ?_|refine zL rfl ?_ rfl ?_|refine zV rfl trivial rfl rfl rfl ?_|refine zW rfl rfl rfl rfl ?_|refine zX rfl rfl trivial rfl trivial rfl rfl rfl rfl rfl ?_
    | refine ao_store_ep rfl rfl trivial rfl trivial rfl rfl rfl rfl rfl rfl ?_
    | refine ao_call rfl (c_Overloaded _ _) rfl ?_ ?_
    | refine ao_callO rfl (hPop) [5, 6, 3, 4] trivial rfl rfl rfl rfl rfl rfl (by simp [kinds, Blk.isRow]) (by simp [bflats, bflat, vflats, vflat, D.flat, D.scal, Blk.flat]) rfl rfl rfl rfl rfl rfl ?_
    | refine ao_callR rfl (ha _) trivial rfl rfl ?_
    |(show allP _; first | trivial | exact ob1 (fun h => h) | exact ob2 (fun h => h) (fun h => h) | exact ob1 (fun h => ⟨h.1, trivial⟩) | (simp only [obS]; first | omega | (intros; omega) | (simp only [obL]; first | omega | (intros; omega)) | (refine ⟨?_, ?_⟩ <;> intros <;> first | (with_reducible assumption) | omega) | ((repeat' refine And.intro ?_ ?_) <;> (intros; first | (with_reducible assumption) | omega | (simp only [obL]; omega))) | ((try simp only [obB] at *); (try simp only [Blk.len] at *); first | omega | (intros; omega)) | (simp_all; done))))
  · simp only [Bool.and_eq_true, Bool.not_eq_true', decide_eq_false_iff_not] at hc
    refine ⟨(k, dist.set y.toNat k, h2), H.over hc.1 hc.2, by simp only; rw [hc2]; simp; omega, ?_⟩
    refine weak_to ?_ ?_ rfl rfl
    · repeat (first | exact subF_nil | refine subF_cons (by first | rfl | (simp [look]; done)) ?_)
    · repeat (first | exact subS_nil | refine subS_cons (by first | rfl | (simp; done)) ?_)
  have htr : y = n ∨ overT t y = false := by
    by_cases hyn : y = n
    · exact .inl hyn
    · right; rw [decide_eq_false hyn] at hc; simpa using hc
  have hset : gI (dist.set y.toNat k) y = k := by rw [gI_set y0 (by omega) y0, if_pos rfl]
  have hdn0 : gI (dist.set y.toNat k) n = 0 := H.n0 y0 yn (by rw [hset]; exact yk)
  clear hPop yd hs hc hkl h0
  generalize hdd : dist.set y.toNat k = dist2 at *
  have hll : (dist.length : Int) = dist2.length := by rw [← hdd]; simp
  refine aw_weak (F' := [(83, [], .d (iD 0)), (82, [], .d (iD (arcsL t y fr).length)), (81, [], .own 7), (14, [], .d (iD y)), (15, [], .d (iD k)), (12, [], .ptr 5 0), (10, [], .own 2), (7, [], .ptr 1 0), (4, [], .ptr 0 0), (1, [], .d (boolsD down)), (2, [], .d (iD n))])
    (S' := [tBlk t, .cells [.d (.fn fa), .d (.fn fe)], .ints .i64 dist2, .ints .i64 h2.keys, .ints .i64 h2.places, .cells [.own 6, .own 3, .own 4], .ints .i64 h2.items, .ints .i64 (arcsL t y fr)]) (by refine weak_to ?_ ?_ rfl rfl
                                                                                                                                                                                                         · repeat (first | exact subF_nil | refine subF_cons (by first | rfl | (simp [look]; done)) ?_)
                                                                                                                                                                                                         · repeat (first | exact subS_nil | refine subS_cons (by first | rfl | (simp; done)) ?_)) (Nat.le_of_ble_eq_true rfl) ?_
  refine s_inner he hf y0 yn yk (by omega) htr hset hdn0 H fun h3 F H3 hF => ?_
  refine ⟨(k, dist2, h3), H3, by simp only; omega, ?_⟩
  exact weak_to hF.2.2 (by (repeat (first | exact subS_nil | refine subS_cons (by first | rfl | rfl) ?_))) rfl rfl

end Go.Proofs.YtcnfggpcploehaaDoor

/- Layer 11: Dist, From. -/
namespace Go.Proofs.YtcnfggpcploehaaDoor
set_option maxRecDepth 10000
open Go.Wk

theorem c_Dist (t : Topo) (down : List Bool) (d : Int) : Ctr Tryd.prog 31 [topoD t, boolsD down, iD d] [.ints .i64 (distL t down d false)] (.tup [.own 0, .d (iD (errS t down d))]) := by
  refine spec_of envOK (Go.Wk.enters_of Tryd.func31 (by kernel_rfl) (by kernel_rfl)) Tryd.func31 rfl rfl _ rfl (Nat.le_of_ble_eq_true rfl) rfl fun w0 => ?_
  repeat' (first
  
    |refine zA ?_|refine zB ?_|refine zC (by kernel_rfl) (by kernel_rfl) ?_|refine zD ?_|refine zE ?_|refine zF rfl trivial ?_|refine zG ?_|refine zH rfl trivial ?_|refine zI ?_|refine zJ rfl trivial ?_|refine zK ?_|refine zL rfl trivial rfl ?_|refine zM ?_|refine zN rfl trivial ?_|refine zO rfl trivial ?_|refine zP rfl trivial (fun hc => ?_) (fun hc => ?_)|refine zQ rfl trivial (fun hc => ?_) (fun hc => ?_)|refine zR rfl trivial (fun hc => ?_) (fun hc => ?_)|refine zS rfl trivial (fun hc => ?_) (fun hc => ?_)|refine zT ?_|refine zU ?_|refine zF rfl ?_ ?_|refine zH rfl ?_ ?_|refine zJ rfl ?_ ?_|refine zL rfl ?_ rfl ?_|refine zV rfl trivial rfl rfl rfl ?_|refine zW rfl rfl rfl rfl ?_|refine zX rfl rfl trivial rfl trivial rfl rfl rfl rfl rfl ?_
    | refine ao_callR rfl (c_search t down d false 53 32 (fun y => c_In t y) (fun a => c_Tail t a)) trivial rfl rfl ?_
    |(show allP _; first | trivial | exact ob1 (fun h => h) | exact ob2 (fun h => h) (fun h => h) | exact ob1 (fun h => ⟨h.1, trivial⟩) | (simp only [obS]; first | omega | (intros; omega) | (simp only [obL]; first | omega | (intros; omega)) | (refine ⟨?_, ?_⟩ <;> intros <;> first | (with_reducible assumption) | omega) | ((repeat' refine And.intro ?_ ?_) <;> (intros; first | (with_reducible assumption) | omega | (simp only [obL]; omega))) | ((try simp only [obB] at *); (try simp only [Blk.len] at *); first | omega | (intros; omega)) | (simp_all; done))))
  refine fin_ret ?_; exact retOwn2 rfl rfl rfl rfl trivial rfl
theorem c_From (t : Topo) (down : List Bool) (s : Int) : Ctr Tryd.prog 30 [topoD t, boolsD down, iD s] [.ints .i64 (distL t down s true)] (.tup [.own 0, .d (iD (errS t down s))]) := by
  refine spec_of envOK (Go.Wk.enters_of Tryd.func30 (by kernel_rfl) (by kernel_rfl)) Tryd.func30 rfl rfl _ rfl (Nat.le_of_ble_eq_true rfl) rfl fun w0 => ?_
  repeat' (first
  
    |refine zA ?_|refine zB ?_|refine zC (by kernel_rfl) (by kernel_rfl) ?_|refine zD ?_|refine zE ?_|refine zF rfl trivial ?_|refine zG ?_|refine zH rfl trivial ?_|refine zI ?_|refine zJ rfl trivial ?_|refine zK ?_|refine zL rfl trivial rfl ?_|refine zM ?_|refine zN rfl trivial ?_|refine zO rfl trivial ?_|refine zP rfl trivial (fun hc => ?_) (fun hc => ?_)|refine zQ rfl trivial (fun hc => ?_) (fun hc => ?_)|refine zR rfl trivial (fun hc => ?_) (fun hc => ?_)|refine zS rfl trivial (fun hc => ?_) (fun hc => ?_)|refine zT ?_|refine zU ?_|refine zF rfl ?_ ?_|refine zH rfl ?_ ?_|refine zJ rfl ?_ ?_|refine zL rfl ?_ rfl ?_|refine zV rfl trivial rfl rfl rfl ?_|refine zW rfl rfl rfl rfl ?_|refine zX rfl rfl trivial rfl trivial rfl rfl rfl rfl rfl ?_
    | refine ao_callR rfl (c_search t down s true 49 33 (fun y => c_Out t y) (fun a => c_Head t a)) trivial rfl rfl ?_
    |(show allP _; first | trivial | exact ob1 (fun h => h) | exact ob2 (fun h => h) (fun h => h) | exact ob1 (fun h => ⟨h.1, trivial⟩) | (simp only [obS]; first | omega | (intros; omega) | (simp only [obL]; first | omega | (intros; omega)) | (refine ⟨?_, ?_⟩ <;> intros <;> first | (with_reducible assumption) | omega) | ((repeat' refine And.intro ?_ ?_) <;> (intros; first | (with_reducible assumption) | omega | (simp only [obL]; omega))) | ((try simp only [obB] at *); (try simp only [Blk.len] at *); first | omega | (intros; omega)) | (simp_all; done))))
  refine fin_ret ?_; exact retOwn2 rfl rfl rfl rfl trivial rfl
end Go.Proofs.YtcnfggpcploehaaDoor

/- Layer 11: Path: the arcs of a node. -/
namespace Go.Proofs.YtcnfggpcploehaaDoor
set_option maxRecDepth 10000
open Go.Wk

end Go.Proofs.YtcnfggpcploehaaDoor

/- Layer 11: Path. -/
namespace Go.Proofs.YtcnfggpcploehaaDoor
set_option maxRecDepth 10000
open Go.Wk

end Go.Proofs.YtcnfggpcploehaaDoor

/- The search by repeated comparisons, plainly. -/
namespace Go.Proofs.YtcnfggpcploehaaDoor
set_option maxRecDepth 10000
open Go.Wk

def valB (x : Int) : Nat := if x < 0 then 4194305 else x.toNat
def msr (l : List Int) : Nat := (l.map valB).sum
theorem msr_set {l : List Int} {i : Nat} {v : Int} (hi : i < l.length) : msr (l.set i v) + valB (l.getD i 0) = msr l + valB v := by
  induction l generalizing i with
  | nil => simp at hi
  | cons x r ih =>
    cases i with
    | zero => simp only [List.set_cons_zero, msr, List.map_cons, List.sum_cons, List.getD_cons_zero]; omega
    | succ i =>
      have := ih (i := i) (by simpa using hi)
      simp only [List.set_cons_succ, msr, List.map_cons, List.sum_cons, List.getD_cons_succ] at this ⊢
      omega

structure BF (t : Topo) (down : List Bool) (n : Int) (fr : Bool) (l : List Int) : Prop where
  len : (l.length : Int) = t.nodes
  self : gI l n = 0
  sign : ∀ i : Int, 0 ≤ i → i < t.nodes → gI l i = -1 ∨ 0 ≤ gI l i
  bnd : ∀ i : Int, 0 ≤ i → i < t.nodes → 0 ≤ gI l i → gI l i + 65535 ≤ 65535 * (cntD l : Int)
  ground : ∀ i : Int, 0 ≤ i → i < t.nodes → i ≠ n → 0 ≤ gI l i → ∃ a : Int, 0 ≤ a ∧ a < 2 * t.links.length ∧ okA t down n fr a ∧ farT t fr a = i ∧ 0 ≤ gI l (nearT t fr a) ∧ gI l (nearT t fr a) + costT t a ≤ gI l i

/-- The arc asks for no change. -/
def closed (t : Topo) (down : List Bool) (n : Int) (fr : Bool) (l : List Int) (a : Int) : Prop :=
  okA t down n fr a → 0 ≤ gI l (nearT t fr a) → 0 ≤ gI l (farT t fr a) ∧ gI l (farT t fr a) ≤ gI l (nearT t fr a) + costT t a

section
variable {t : Topo} {down : List Bool} {n : Int} {fr : Bool} {l : List Int}

theorem BF.init (h0 : 0 ≤ n) (h1 : n < t.nodes) : BF t down n fr ((List.replicate t.nodes.toNat (-1)).set n.toNat 0) := by
  have hs : ∀ i : Int, 0 ≤ i → i < t.nodes → gI ((List.replicate t.nodes.toNat (-1)).set n.toNat 0) i = if i = n then 0 else -1 := fun i i0 i1 => by
    rw [gI_set h0 (by simp; omega) i0]
    split
    · rfl
    · exact gI_rep i0 (by omega)
  have hc : cntD ((List.replicate t.nodes.toNat (-1)).set n.toNat 0) = 1 := by
    rw [cntD_set (by simp; omega) (by have := gI_rep (m := t.nodes.toNat) (v := -1) h0 (by omega); simp only [gI] at this; omega) (by omega)]
    simp [cntD, List.countP_replicate]
  refine ⟨by simp; omega, by rw [hs n h0 h1, if_pos rfl], fun i i0 i1 => ?_, fun i i0 i1 hh => ?_, fun i i0 i1 hin hh => ?_⟩
  · rw [hs i i0 i1]; split <;> omega
  · rw [hs i i0 i1] at hh ⊢
    rw [hc]
    split <;> omega
  · rw [hs i i0 i1, if_neg hin] at hh; omega

theorem BF.le (hv : validB t = true) (H : BF t down n fr l) {i : Int} (i0 : 0 ≤ i) (i1 : i < t.nodes) : gI l i ≤ 65535 * 63 := by
  have hnn := validB_head hv
  have hc : cntD l ≤ l.length := List.countP_le_length
  have hl := H.len
  by_cases hi : 0 ≤ gI l i
  · have := H.bnd i i0 i1 hi; omega
  · omega

theorem BF.fin (H : BF t down n fr l) (hc : ∀ a : Int, 0 ≤ a → a < 2 * t.links.length → closed t down n fr l a) : IsDist t down n fr l := by
  refine ⟨H.len, H.self, H.sign, fun a a0 a1 hok hn => hc a a0 a1 hok hn, fun i i0 i1 hin hh => ?_⟩
  obtain ⟨a, a0, a1, a2, a3, a4, a5⟩ := H.ground i i0 i1 hin hh
  have := hc a a0 a1 a2 a4
  rw [a3] at this
  exact ⟨a, a0, a1, a2, a3, a4, by omega⟩

theorem BF.upd (hv : validB t = true) (h0 : 0 ≤ n) (H : BF t down n fr l) {a : Int} (a0 : 0 ≤ a) (a1 : a < 2 * t.links.length) (hok : okA t down n fr a) (hn : 0 ≤ gI l (nearT t fr a))
    (hlt : gI l (farT t fr a) < 0 ∨ gI l (nearT t fr a) + costT t a < gI l (farT t fr a)) :
    BF t down n fr (l.set (farT t fr a).toNat (gI l (nearT t fr a) + costT t a)) ∧ msr (l.set (farT t fr a).toNat (gI l (nearT t fr a) + costT t a)) < msr l := by
  have hl := H.len
  have hnn := validB_head hv
  obtain ⟨b1, b2, b3, b4, b5, b6, b7⟩ := arc_nf hv fr a0 a1
  have hnear := H.bnd _ b1 b2 hn
  have hself := H.self
  have hle := H.le hv b1 b2
  have hfx := H.sign _ b3 b4
  generalize hc : gI l (nearT t fr a) + costT t a = c at *
  generalize hx : farT t fr a = x at *
  have hset : ∀ i : Int, 0 ≤ i → gI (l.set x.toNat c) i = if i = x then c else gI l i := fun i i0 => gI_set b3 (by omega) i0
  have hxn : n ≠ x := fun e => by rw [← e] at hlt; omega
  have hcnt : gI l x < 0 ∧ cntD (l.set x.toNat c) = cntD l + 1 ∨ 0 ≤ gI l x ∧ c < gI l x ∧ cntD (l.set x.toNat c) = cntD l := by
    by_cases hneg : gI l x < 0
    · exact .inl ⟨hneg, cntD_set (by omega) hneg (by omega)⟩
    · refine .inr ⟨by omega, by omega, ?_⟩
      have q1 := cntD_set (l := l.set x.toNat (-1)) (i := x.toNat) (v := c) (by simp; omega) (by rw [getD_set, if_pos ⟨rfl, by omega⟩]; omega) (by omega)
      have q2 := cntD_set (l := l.set x.toNat (-1)) (i := x.toNat) (v := gI l x) (by simp; omega) (by rw [getD_set, if_pos ⟨rfl, by omega⟩]; omega) (by omega)
      rw [List.set_set] at q1 q2
      rw [set_same (l := l) rfl] at q2
      omega
  refine ⟨⟨by simpa using hl, by rw [hset n h0, if_neg hxn]; exact hself, fun i i0 i1 => ?_, fun i i0 i1 hh => ?_, fun i i0 i1 hin hh => ?_⟩, ?_⟩
  · rw [hset i i0]; split
    · right; omega
    · exact H.sign i i0 i1
  · rw [hset i i0] at hh ⊢
    by_cases hi : i = x
    · rw [if_pos hi] at hh ⊢
      rcases hcnt with ⟨_, e⟩ | ⟨q, q2, e⟩
      · rw [e]; omega
      · have := H.bnd x b3 b4 q; rw [e]; omega
    · rw [if_neg hi] at hh ⊢
      have := H.bnd i i0 i1 hh
      rcases hcnt with ⟨_, e⟩ | ⟨_, _, e⟩ <;> rw [e] <;> omega
  · rw [hset i i0] at hh ⊢
    by_cases hi : i = x
    · subst hi
      rw [if_pos rfl]
      exact ⟨a, a0, a1, hok, hx, by rw [hset _ b1, if_neg b5]; exact hn, by rw [hset _ b1, if_neg b5]; omega⟩
    · rw [if_neg hi] at hh ⊢
      obtain ⟨e, e0, e1, e2, e3, e4, e5⟩ := H.ground i i0 i1 hin hh
      have hb := arc_nf hv fr e0 e1
      refine ⟨e, e0, e1, e2, e3, ?_, ?_⟩
      · rw [hset _ hb.1]; split
        · omega
        · exact e4
      · rw [hset _ hb.1]; split
        · rename_i he
          rw [he] at e4 e5
          omega
        · exact e5
  · have hm := msr_set (l := l) (i := x.toNat) (v := c) (by omega)
    have e1 : valB c = c.toNat := if_neg (by omega)
    have e2 : valB (l.getD x.toNat 0) = if gI l x < 0 then 4194305 else (gI l x).toNat := rfl
    rw [e1, e2] at hm
    by_cases hneg : gI l x < 0
    · rw [if_pos hneg] at hm; omega
    · rw [if_neg hneg] at hm; omega

end
end Go.Proofs.YtcnfggpcploehaaDoor
