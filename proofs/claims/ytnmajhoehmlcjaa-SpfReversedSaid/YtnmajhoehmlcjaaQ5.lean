/- Laid together: Z11, Mw, R09a, L11c, WkWa, WkWb, L11d, L11e, Z11a, Mx, WkWc, L11f, Z11b, My, L11g, Z11c. -/
import Derived.Test.YtnmajhoehmlcjaaRows
import Derived.Test.YtnmajhoehmlcjaaQ4

set_option linter.all false

/- Rows of layer 11: what they share. -/
namespace Go.Proofs.Ytnmajhoehmlcjaa
open Go.Wk Go.RowKit Go.ChangeShapes Go.WideShapes Go.ChangeAt

theorem Tryown : ownKnob Try.prog.godebug = none := by kernel_rfl
theorem Trylaid : laidOutB Try.prog = true := by kernel_rfl
theorem envInt : IntOK Try.prog env := by
  unfold env
  repeat (first | exact trivial | refine And.intro (by kernel_rfl) ?_ | (show IntOK _ _; unfold IntOK; dsimp only))
theorem shp_topo : shpO env 10 25 = some topoS := by kernel_rfl
theorem shp_int : shpO env 10 3 = some [.sc (.int .i64)] := by kernel_rfl

end Go.Proofs.Ytnmajhoehmlcjaa

/- Walks, plainly: what distances say of them; the reference's Path. -/
namespace Go.Proofs.Ytnmajhoehmlcjaa
open Go.Wk

/-- The arcs lead from one node to another; the nodes between are not overloaded; no arc is down. -/
def Pth (t : Topo) (down : List Bool) : Int → List Int → Int → Prop
  | x, [], y => x = y
  | x, a :: r, y => 0 ≤ a ∧ a < 2 * t.links.length ∧ upB down a = true ∧ tailT t a = x ∧ (r ≠ [] → overT t (headT t a) = false) ∧ Pth t down (headT t a) r y
def costP (t : Topo) (l : List Int) : Int := (l.map (costT t)).sum
theorem costP_cons (t : Topo) (a : Int) (r : List Int) : costP t (a :: r) = costT t a + costP t r := by simp [costP]
theorem costP_app (t : Topo) (a b : List Int) : costP t (a ++ b) = costP t a + costP t b := by simp [costP]

section
variable {t : Topo} {down : List Bool} {x y : Int} {l : List Int}

theorem Pth.snoc : ∀ {L : List Int} {x y : Int} {a : Int}, Pth t down x (L ++ [a]) y ↔ ∃ m, Pth t down x L m ∧ 0 ≤ a ∧ a < 2 * t.links.length ∧ upB down a = true ∧ tailT t a = m ∧ headT t a = y ∧ (L ≠ [] → overT t m = false)
  | [], x, y, a => by
    simp only [List.nil_append, Pth]
    constructor
    · rintro ⟨h1, h2, h3, h4, _, h5⟩; exact ⟨x, rfl, h1, h2, h3, h4, h5, fun h => absurd rfl h⟩
    · rintro ⟨m, rfl, h1, h2, h3, h4, h5, _⟩; exact ⟨h1, h2, h3, h4, fun h => absurd rfl h, h5⟩
  | b :: r, x, y, a => by
    simp only [List.cons_append, Pth]
    constructor
    · rintro ⟨h1, h2, h3, h4, h5, h6⟩
      obtain ⟨m, k1, k2, k3, k4, k5, k6, k7⟩ := Pth.snoc.1 h6
      have hno := h5 (by simp)
      refine ⟨m, ⟨h1, h2, h3, h4, fun _ => hno, k1⟩, k2, k3, k4, k5, k6, fun _ => ?_⟩
      cases r with
      | nil => simp only [Pth] at k1; rw [← k1]; exact hno
      | cons c q => exact k7 (by simp)
    · rintro ⟨m, ⟨h1, h2, h3, h4, h5, h6⟩, k2, k3, k4, k5, k6, k7⟩
      refine ⟨h1, h2, h3, h4, fun _ => ?_, Pth.snoc.2 ⟨m, h6, k2, k3, k4, k5, k6, fun _ => k7 (by simp)⟩⟩
      cases r with
      | nil => simp only [Pth] at h6; rw [h6]; exact k7 (by simp)
      | cons c q => exact h5 (by simp)

theorem IsDist.walk_to (hv : validB t = true) (hl : IsDist t down y false l) : ∀ (L : List Int) (x : Int), Pth t down x L y → 0 ≤ gI l x ∧ gI l x ≤ costP t L
  | [], x, h => by simp only [Pth] at h; rw [h, hl.self]; simp [costP]
  | a :: r, x, h => by
    obtain ⟨h1, h2, h3, h4, h5, h6⟩ := h
    have ih := IsDist.walk_to hv hl r _ h6
    have hok : okA t down y false a := ⟨h3, by
      simp only [nearT, cond_false]
      cases r with
      | nil => simp only [Pth] at h6; exact .inl h6
      | cons c q => exact .inr (h5 (by simp))⟩
    have := hl.close a h1 h2 hok ih.1
    simp only [nearT, farT, cond_false] at this
    rw [h4] at this
    rw [costP_cons]; omega
theorem IsDist.walk_from (hv : validB t = true) (hl : IsDist t down x true l) : ∀ (k : Nat) (L : List Int) (y : Int), L.length = k → Pth t down x L y → 0 ≤ gI l y ∧ gI l y ≤ costP t L := by
  intro k
  induction k with
  | zero =>
    intro L y hk h
    have := List.length_eq_zero_iff.1 hk
    subst this
    simp only [Pth] at h; rw [← h, hl.self]; simp [costP]
  | succ k ih =>
    intro L y hk h
    have hne : L ≠ [] := by intro e; subst e; simp at hk
    obtain ⟨M, a, rfl⟩ : ∃ M a, L = M ++ [a] := ⟨L.dropLast, L.getLast hne, (List.dropLast_concat_getLast hne).symm⟩
    obtain ⟨m, h1, h2, h3, h4, h5, h6, h7⟩ := Pth.snoc.1 h
    have i := ih M m (by simpa using hk) h1
    have hok : okA t down x true a := ⟨h4, by
      simp only [nearT, cond_true]
      rw [h5]
      cases M with
      | nil => simp only [Pth] at h1; exact .inl h1.symm
      | cons c q => exact .inr (h7 (by simp))⟩
    have := hl.close a h2 h3 hok (by simp only [nearT, cond_true]; rw [h5]; exact i.1)
    simp only [nearT, farT, cond_true] at this
    rw [h5, h6] at this
    rw [costP_app]
    have : costP t [a] = costT t a := by simp [costP]
    omega
theorem IsDist.some_to (hv : validB t = true) (hl : IsDist t down y false l) : ∀ (k : Nat) (x : Int), 0 ≤ x → x < t.nodes → 0 ≤ gI l x → gI l x ≤ k → ∃ L, Pth t down x L y ∧ costP t L = gI l x := by
  intro k
  induction k using Nat.strongRecOn with
  | _ k ih =>
    intro x x0 x1 hx hk
    by_cases hxy : x = y
    · exact ⟨[], hxy, by rw [hxy, hl.self]; rfl⟩
    · obtain ⟨a, a0, a1, a2, a3, a4, a5⟩ := hl.ground x x0 x1 hxy hx
      have hb := arc_ok hv a0 a1
      simp only [nearT, farT, cond_false] at a3 a4 a5
      obtain ⟨L, h1, h2⟩ := ih (k - 1) (by omega) (headT t a) hb.2.2.1 hb.2.2.2.1 a4 (by omega)
      rcases a2 with ⟨up, tr⟩
      simp only [nearT, cond_false] at tr
      by_cases hy : headT t a = y
      · refine ⟨[a], ⟨a0, a1, up, a3, fun h => absurd rfl h, hy⟩, ?_⟩
        rw [hy, hl.self] at a5
        have : costP t [a] = costT t a := by simp [costP]
        omega
      · refine ⟨a :: L, ⟨a0, a1, up, a3, fun _ => tr.resolve_left hy, h1⟩, ?_⟩
        rw [costP_cons]; omega
theorem IsDist.some_from (hv : validB t = true) (hl : IsDist t down x true l) : ∀ (k : Nat) (y : Int), 0 ≤ y → y < t.nodes → 0 ≤ gI l y → gI l y ≤ k → ∃ L, Pth t down x L y ∧ costP t L = gI l y := by
  intro k
  induction k using Nat.strongRecOn with
  | _ k ih =>
    intro y y0 y1 hy hk
    by_cases hxy : y = x
    · exact ⟨[], hxy.symm, by rw [hxy, hl.self]; rfl⟩
    · obtain ⟨a, a0, a1, a2, a3, a4, a5⟩ := hl.ground y y0 y1 hxy hy
      have hb := arc_ok hv a0 a1
      simp only [nearT, farT, cond_true] at a3 a4 a5
      obtain ⟨L, h1, h2⟩ := ih (k - 1) (by omega) (tailT t a) hb.1 hb.2.1 a4 (by omega)
      rcases a2 with ⟨up, tr⟩
      simp only [nearT, cond_true] at tr
      by_cases hx : tailT t a = x
      · refine ⟨[a], ⟨a0, a1, up, hx, fun h => absurd rfl h, a3⟩, ?_⟩
        rw [hx, hl.self] at a5
        have : costP t [a] = costT t a := by simp [costP]
        omega
      · refine ⟨L ++ [a], Pth.snoc.2 ⟨_, h1, a0, a1, up, rfl, a3, fun _ => tr.resolve_left hx⟩, ?_⟩
        rw [costP_app]
        have : costP t [a] = costT t a := by simp [costP]
        omega

/-- The distance from s to d is the same in both searches. -/
theorem dist_both (hv : validB t = true) {s d : Int} {a b : List Int} (s0 : 0 ≤ s) (s1 : s < t.nodes) (d0 : 0 ≤ d) (d1 : d < t.nodes) (ha : IsDist t down s true a) (hb : IsDist t down d false b) : gI a d = gI b s := by
  have sa := ha.sign d d0 d1
  have sb := hb.sign s s0 s1
  by_cases h : 0 ≤ gI a d
  · obtain ⟨L, h1, h2⟩ := ha.some_from hv (gI a d).toNat d d0 d1 h (by omega)
    have k := hb.walk_to hv L s h1
    obtain ⟨M, m1, m2⟩ := hb.some_to hv (gI b s).toNat s s0 s1 k.1 (by omega)
    have q := ha.walk_from hv M.length M d rfl m1
    omega
  · by_cases h' : 0 ≤ gI b s
    · obtain ⟨M, m1, m2⟩ := hb.some_to hv (gI b s).toNat s s0 s1 h' (by omega)
      have q := ha.walk_from hv M.length M d rfl m1
      omega
    · omega

/-! ### The reference's Path -/

def pthF (t : Topo) : Bool → Int → Int → List Int → Int × Int × Int
  | _, n, c, [] => (n, c, 0)
  | first, n, c, a :: r =>
    if !arcIn t a then (0, 0, 2) else if !decide (tailT t a = n) || (!first && overT t n) then (0, 0, 4) else pthF t false (headT t a) (c + costT t a) r
def pth9 (t : Topo) (n : Int) (l : List Int) : Int × Int × Int :=
  if validB t = true then (if n < 0 ∨ t.nodes ≤ n then (0, 0, 2) else pthF t true n 0 l) else (0, 0, 1)

theorem arcIn_b {a : Int} (hv : validB t = true) (h : arcIn t a = true) : 0 ≤ a ∧ a < 2 * t.links.length := by
  simp only [arcIn, Bool.and_eq_true, decide_eq_true_eq, arcsT, hv, cond_true] at h; exact h

theorem pthF_Pth (hv : validB t = true) : ∀ (l : List Int) (first : Bool) (n c to cost : Int), pthF t first n c l = (to, cost, 0) → (∀ a ∈ l, upB down a = true) →
    Pth t down n l to ∧ cost = c + costP t l ∧ (first = false → l ≠ [] → overT t n = false)
  | [], first, n, c, to, cost, h, _ => by
    simp only [pthF, Prod.mk.injEq] at h
    exact ⟨h.1, by simp [costP]; omega, fun _ h => absurd rfl h⟩
  | a :: r, first, n, c, to, cost, h, hup => by
    simp only [pthF] at h
    split at h
    · simp at h
    · rename_i hin
      split at h
      · simp at h
      · rename_i ht
        simp only [Bool.not_eq_true', Bool.not_eq_false] at hin
        simp only [Bool.not_eq_true, Bool.or_eq_false_iff, Bool.not_eq_false', decide_eq_true_eq, Bool.and_eq_false_iff] at ht
        obtain ⟨h1, h2, h3⟩ := pthF_Pth hv r false _ _ to cost h (fun b hb => hup b (by simp [hb]))
        obtain ⟨b0, b1⟩ := arcIn_b hv hin
        refine ⟨⟨b0, b1, hup a (by simp), ht.1, fun hr => h3 rfl hr, h1⟩, by rw [costP_cons]; omega, fun hf _ => ?_⟩
        rcases ht.2 with h | h
        · rw [hf] at h; cases h
        · exact h

theorem Pth.in (hv : validB t = true) : ∀ {l : List Int} {x y : Int}, Pth t down x l y → 0 ≤ x → x < t.nodes → 0 ≤ y ∧ y < t.nodes
  | [], x, y, h, h0, h1 => by simp only [Pth] at h; omega
  | a :: r, x, y, h, h0, h1 => by
    obtain ⟨a0, a1, _, _, _, h6⟩ := h
    have hb := arc_ok hv a0 a1
    exact Pth.in hv h6 hb.2.2.1 hb.2.2.2.1

/-- A first shortest path, as the reference's Path reads it. -/
theorem pthF_pathF (hv : validB t = true) {d : Int} (hl : IsDist t down d false l) : ∀ (k : Nat) (n c : Int) (first : Bool), 0 ≤ n → n < t.nodes → 0 ≤ gI l n → gI l n ≤ k → (first = true ∨ n = d ∨ overT t n = false) →
    pthF t first n c (pathF t down d l n) = (d, c + gI l n, 0) := by
  intro k
  induction k using Nat.strongRecOn with
  | _ k ih =>
    intro n c first h0 h1 hn hk hf
    by_cases hnd : n = d
    · rw [hnd, pathF_end, hl.self]; simp [pthF]
    · obtain ⟨a, e, a0, a1, a2, a3, a4, a5, a6, a7⟩ := nextP_some hv hl h0 h1 hn hnd
      obtain ⟨o1, o2, o3, o4⟩ := onP_iff.1 a3
      rw [pathF_step hv hl h0 h1 hn hnd e]
      simp only [pthF, arc_in hv a0 a1, Bool.not_true, Bool.false_eq_true, if_false, a2, decide_true, Bool.false_or]
      have hov : ¬ ((!first && overT t n) = true) := by
        rcases hf with h | h | h
        · rw [h]; simp
        · exact absurd h hnd
        · rw [h]; simp
      rw [if_neg hov, ih (k - 1) (by omega) _ _ _ a6 a7 a4 (by omega) (.inr o3)]
      rw [o4]
      simp only [Prod.mk.injEq, and_true, true_and]; omega

/-- Every arc of a first shortest path is up, and what follows from it on is the first shortest path from its tail. -/
theorem pathF_parts (hv : validB t = true) {d : Int} (hl : IsDist t down d false l) : ∀ (k : Nat) (n : Int), 0 ≤ n → n < t.nodes → 0 ≤ gI l n → gI l n ≤ k → ∀ i, i < (pathF t down d l n).length →
    upB down ((pathF t down d l n).getD i 0) = true ∧ 0 ≤ (pathF t down d l n).getD i 0 ∧ (pathF t down d l n).getD i 0 < 2 * t.links.length ∧ 0 ≤ gI l (tailT t ((pathF t down d l n).getD i 0)) ∧ (pathF t down d l n).drop i = pathF t down d l (tailT t ((pathF t down d l n).getD i 0)) := by
  intro k
  induction k using Nat.strongRecOn with
  | _ k ih =>
    intro n h0 h1 hn hk i hi
    by_cases hnd : n = d
    · rw [hnd, pathF_end] at hi; simp at hi
    · obtain ⟨a, e, a0, a1, a2, a3, a4, a5, a6, a7⟩ := nextP_some hv hl h0 h1 hn hnd
      obtain ⟨o1, o2, o3, o4⟩ := onP_iff.1 a3
      have hs := pathF_step hv hl h0 h1 hn hnd e
      cases i with
      | zero =>
        rw [hs]
        simp only [List.getD_cons_zero, List.drop_zero]
        refine ⟨o1, a0, a1, by rw [a2]; exact hn, by rw [a2, hs]⟩
      | succ i =>
        rw [hs] at hi ⊢
        simp only [List.getD_cons_succ, List.drop_succ_cons]
        exact ih (k - 1) (by omega) _ a6 a7 a4 (by omega) i (by simpa using hi)

end
end Go.Proofs.Ytnmajhoehmlcjaa

/- The reference of layer 9: Path. -/
namespace Go.Proofs.Ytnmajhoehmlcjaa
open Go.Wk

theorem drop_getD {l : List Int} {i : Nat} (h : i < l.length) : l.drop i = l.getD i 0 :: l.drop (i + 1) := by
  rw [List.drop_eq_getElem_cons h, List.getD_eq_getElem?_getD, List.getElem?_eq_getElem h]; rfl

theorem arcIn_not (t : Topo) (a : Int) : (decide (a < 0) || decide (arcsT t ≤ a)) = !arcIn t a := by
  unfold arcIn
  by_cases h : a < 0
  · have : ¬ 0 ≤ a := by omega
    simp [h, this]
  · have h' : 0 ≤ a := by omega
    by_cases h2 : arcsT t ≤ a
    · have : ¬ a < arcsT t := by omega
      simp [h2, this]
    · have : a < arcsT t := by omega
      simp [h, h', h2, this]
theorem pos_dec (i : Nat) : decide (0 < (i : Int)) = !decide (i = 0) := by
  by_cases h : i = 0
  · simp [h]
  · have : 0 < i := by omega
    simp [h, this]

set_option maxHeartbeats 1000000 in
theorem r_Path9 (t : Topo) (n : Int) (l : List Int) (hl : l.length ≤ 100000000) : Ctr Try.prog 19 [topoD t, iD n, intsD l] [] (.tup [.d (iD (pth9 t n l).1), .d (iD (pth9 t n l).2.1), .d (iD (pth9 t n l).2.2)]) := by
  refine spec_of envOK (enters_of Try.func19 (by kernel_rfl) (by kernel_rfl)) Try.func19 rfl rfl _ rfl (Nat.le_of_ble_eq_true rfl) rfl fun w0 => ?_
  repeat' (first
  
    | refine aw_seq ?_
    | refine aw_region ?_
    | refine aw_region_q (by kernel_rfl) (by kernel_rfl) ?_
    | refine aw_block ?_
    | refine ao_nil ?_
    | refine ao_op rfl trivial ?_
    | refine aq_nil ?_
    | refine aq_op rfl trivial ?_
    | refine at_nil ?_
    | refine at_op rfl trivial ?_
    | refine am_nil ?_
    | refine am_op rfl trivial rfl ?_
    | refine aw_skip ?_
    | refine aw_condT rfl trivial ?_
    | refine aw_condF rfl trivial ?_
    | refine aw_condD rfl trivial (fun hc => ?_) (fun hc => ?_)
    | refine aw_condN rfl trivial (fun hc => ?_) (fun hc => ?_)
    | refine aw_condNB rfl trivial (fun hc => ?_) (fun hc => ?_)
    | refine aw_cond rfl trivial (fun hc => ?_) (fun hc => ?_)
    | refine aw_ret ?_
    | refine aw_exit ?_
    | refine ao_op rfl ?_ ?_
    | refine aq_op rfl ?_ ?_
    | refine at_op rfl ?_ ?_
    | refine am_op rfl ?_ rfl ?_
    | refine ao_box rfl trivial rfl rfl rfl ?_
    | refine ao_alloc rfl rfl rfl rfl ?_
    | refine ao_store rfl rfl trivial rfl trivial rfl rfl rfl rfl rfl ?_
    | (first | refine ao_call rfl (r_Valid _) rfl ?_ ?_ | refine aq_call rfl (r_Valid _) rfl ?_ ?_)
    | (show allP _; first | trivial | exact ob1 (fun h => h) | exact ob2 (fun h => h) (fun h => h) | exact ob1 (fun h => ⟨h.1, trivial⟩) | (simp only [allP, obg, grd, allT, InR, decide_eq_true_eq, Bool.and_eq_true, Bool.not_eq_true', decide_eq_false_iff_not, List.nil_append, List.cons_append, List.append_nil, and_true, true_and]; first | omega | (intros; omega) | (simp only [Blk.len, List.length_set, List.length_append, List.length_cons, List.length_nil]; first | omega | (intros; omega)) | (refine ⟨?_, ?_⟩ <;> intros <;> first | (with_reducible assumption) | omega) | ((repeat' refine And.intro ?_ ?_) <;> (intros; first | (with_reducible assumption) | omega | (simp only [Blk.len, List.length_set, List.length_append, List.length_cons, List.length_nil]; omega))) | ((try simp only [Bool.or_eq_true, Bool.or_eq_false_iff, Bool.and_eq_true, Bool.and_eq_false_iff, decide_eq_true_eq, decide_eq_false_iff_not, Bool.not_eq_true', Bool.not_eq_false'] at *); (try simp only [Blk.len] at *); first | omega | (intros; omega)) | (simp_all; done))))
  · have e : pth9 t n l = (0, 0, 1) := by unfold pth9; rw [if_neg (by rw [hc]; simp)]
    (refine fin_ret ?_; exact ret3 (by rfl) (by rw [e]) (by rw [e]) (by rw [e]) (by rfl) (by rfl) (by rfl))
  · rename_i hv
    have hn : n < 0 ∨ t.nodes ≤ n := by simpa using hc
    have e : pth9 t n l = (0, 0, 2) := by unfold pth9; rw [if_pos hv, if_pos hn]
    (refine fin_ret ?_; exact ret3 (by rfl) (by rw [e]) (by rw [e]) (by rw [e]) (by rfl) (by rfl) (by rfl))
  rename_i hv
  have hn : ¬ (n < 0 ∨ t.nodes ≤ n) := by simpa using hc
  have e : pth9 t n l = pthF t true n 0 l := by unfold pth9; rw [if_pos hv, if_neg hn]
  rw [e]
  have hnn := validB_head hv
  refine aw_loop (ι := Nat × Int × Int) (fun s => [(10, [], .d (iD s.1)), (9, [], .d (iD s.2.2)), (1, [], .d (iD s.2.1)), (2, [], .d (intsD l)), (3, [], .ptr 0 0)]) (fun _ => [tBlk t])
    (fun s => s.1 ≤ l.length ∧ pthF t (decide (s.1 = 0)) s.2.1 s.2.2 (l.drop s.1) = pthF t true n 0 l ∧ 0 ≤ s.2.2 ∧ s.2.2 ≤ 65535 * (s.1 : Int)) (fun s => l.length - s.1) (0, n, 0) ⟨by simp, by simp, by simp, by simp⟩ (fun _ => Nat.le_of_ble_eq_true rfl) (by refine weak_to ?_ ?_ rfl rfl
                                                                                                                                                                                                                                                                   · repeat (first | exact subF_nil | refine subF_cons (by first | rfl | (simp [look]; done)) ?_)
                                                                                                                                                                                                                                                                   · repeat (first | exact subS_nil | refine subS_cons (by first | rfl | (simp; done)) ?_)) fun s hs => ?_
  obtain ⟨i, m, c⟩ := s
  obtain ⟨hi, hp, hc0, hc1⟩ := hs
  simp only at hi hp hc0 hc1 ⊢
  by_cases hil : i < l.length
  · rw [drop_getD hil, pthF] at hp
    have hcost : arcIn t (l.getD (Int.toNat (i : Int)) 0) = true → 1 ≤ costT t (l.getD (Int.toNat (i : Int)) 0) ∧ costT t (l.getD (Int.toNat (i : Int)) 0) ≤ 65535 := fun h => by
      obtain ⟨b0, b1⟩ := arcIn_b hv h
      exact (arc_ok hv b0 b1).2.2.2.2.2
    repeat' (first
    
      | refine aw_seq ?_
      | refine aw_region ?_
      | refine aw_region_q (by kernel_rfl) (by kernel_rfl) ?_
      | refine aw_block ?_
      | refine ao_nil ?_
      | refine ao_op rfl trivial ?_
      | refine aq_nil ?_
      | refine aq_op rfl trivial ?_
      | refine at_nil ?_
      | refine at_op rfl trivial ?_
      | refine am_nil ?_
      | refine am_op rfl trivial rfl ?_
      | refine aw_skip ?_
      | refine aw_condT rfl trivial ?_
      | refine aw_condF rfl trivial ?_
      | refine aw_condD rfl trivial (fun hc => ?_) (fun hc => ?_)
      | refine aw_condN rfl trivial (fun hc => ?_) (fun hc => ?_)
      | refine aw_condNB rfl trivial (fun hc => ?_) (fun hc => ?_)
      | refine aw_cond rfl trivial (fun hc => ?_) (fun hc => ?_)
      | refine aw_ret ?_
      | refine aw_exit ?_
      | refine ao_op rfl ?_ ?_
      | refine aq_op rfl ?_ ?_
      | refine at_op rfl ?_ ?_
      | refine am_op rfl ?_ rfl ?_
      | refine ao_box rfl trivial rfl rfl rfl ?_
      | refine ao_alloc rfl rfl rfl rfl ?_
      | refine ao_store rfl rfl trivial rfl trivial rfl rfl rfl rfl rfl ?_
      | (first | refine ao_call rfl (r_Arcs _) rfl ?_ ?_ | refine aq_call rfl (r_Arcs _) rfl ?_ ?_)
      | (first | refine ao_call rfl (r_Tail _ _) rfl ?_ ?_ | refine aq_call rfl (r_Tail _ _) rfl ?_ ?_)
      | (first | refine ao_call rfl (r_Head _ _) rfl ?_ ?_ | refine aq_call rfl (r_Head _ _) rfl ?_ ?_)
      | (first | refine ao_call rfl (r_Overloaded _ _) rfl ?_ ?_ | refine aq_call rfl (r_Overloaded _ _) rfl ?_ ?_)
      | (first | refine ao_call rfl (r_Cost _ _) rfl ?_ ?_ | refine aq_call rfl (r_Cost _ _) rfl ?_ ?_)
      | (show allP _; first | trivial | exact ob1 (fun h => h) | exact ob2 (fun h => h) (fun h => h) | exact ob1 (fun h => ⟨h.1, trivial⟩) | (simp only [allP, obg, grd, allT, InR, decide_eq_true_eq, Bool.and_eq_true, Bool.not_eq_true', decide_eq_false_iff_not, List.nil_append, List.cons_append, List.append_nil, and_true, true_and]; first | omega | (intros; omega) | (simp only [Blk.len, List.length_set, List.length_append, List.length_cons, List.length_nil]; first | omega | (intros; omega)) | (refine ⟨?_, ?_⟩ <;> intros <;> first | (with_reducible assumption) | omega) | ((repeat' refine And.intro ?_ ?_) <;> (intros; first | (with_reducible assumption) | omega | (simp only [Blk.len, List.length_set, List.length_append, List.length_cons, List.length_nil]; omega))) | ((try simp only [Bool.or_eq_true, Bool.or_eq_false_iff, Bool.and_eq_true, Bool.and_eq_false_iff, decide_eq_true_eq, decide_eq_false_iff_not, Bool.not_eq_true', Bool.not_eq_false'] at *); (try simp only [Blk.len] at *); first | omega | (intros; omega)) | (simp_all; done))))
    all_goals simp only [Int.toNat_natCast] at *
    · have ha : arcIn t (l.getD i 0) = false := by rw [← Bool.not_eq_true', ← arcIn_not]; exact hc
      rw [ha] at hp
      simp only [Bool.not_false, if_true] at hp
      (refine fin_ret ?_; exact ret3 (by rfl) (by rw [← hp]) (by rw [← hp]) (by rw [← hp]) (by rfl) (by rfl) (by rfl))
    · rename_i h0 h1
      have ha : arcIn t (l.getD i 0) = true := by rw [← Bool.not_eq_false', ← arcIn_not]; exact h1
      rw [pos_dec] at hc
      rw [ha, hc] at hp
      simp only [Bool.not_true, Bool.false_eq_true, if_false, if_true] at hp
      (refine fin_ret ?_; exact ret3 (by rfl) (by rw [← hp]) (by rw [← hp]) (by rw [← hp]) (by rfl) (by rfl) (by rfl))
    · rename_i h0 h1
      have ha : arcIn t (l.getD i 0) = true := by rw [← Bool.not_eq_false', ← arcIn_not]; exact h1
      have := hcost ha
      first | trivial | exact ob1 (fun h => h) | exact ob2 (fun h => h) (fun h => h) | exact ob1 (fun h => ⟨h.1, trivial⟩) | (simp only [allP, obg, grd, allT, InR, decide_eq_true_eq, Bool.and_eq_true, Bool.not_eq_true', decide_eq_false_iff_not, List.nil_append, List.cons_append, List.append_nil, and_true, true_and]; first | omega | (intros; omega) | (simp only [Blk.len, List.length_set, List.length_append, List.length_cons, List.length_nil]; first | omega | (intros; omega)) | (refine ⟨?_, ?_⟩ <;> intros <;> first | (with_reducible assumption) | omega) | ((repeat' refine And.intro ?_ ?_) <;> (intros; first | (with_reducible assumption) | omega | (simp only [Blk.len, List.length_set, List.length_append, List.length_cons, List.length_nil]; omega))) | ((try simp only [Bool.or_eq_true, Bool.or_eq_false_iff, Bool.and_eq_true, Bool.and_eq_false_iff, decide_eq_true_eq, decide_eq_false_iff_not, Bool.not_eq_true', Bool.not_eq_false'] at *); (try simp only [Blk.len] at *); first | omega | (intros; omega)) | (simp_all; done))
    · rename_i h0 h1
      have ha : arcIn t (l.getD i 0) = true := by rw [← Bool.not_eq_false', ← arcIn_not]; exact h1
      have hk := hcost ha
      rw [pos_dec] at hc
      rw [ha, hc] at hp
      simp only [Bool.not_true, Bool.false_eq_true, if_false] at hp
      refine ⟨(i + 1, headT t (l.getD i 0), c + costT t (l.getD i 0)), ⟨by simp only; omega, by simp only; rw [show decide (i + 1 = 0) = false by simp]; exact hp, by simp only; omega, by simp only; omega⟩, by simp only; omega, ?_⟩
      refine weak_to ?_ ?_ rfl rfl
      · repeat (first | exact subF_nil | refine subF_cons (by first | rfl | (simp [look]; done)) ?_)
      · repeat (first | exact subS_nil | refine subS_cons (by first | rfl | (simp; done)) ?_)
    · exfalso; omega
  · repeat' (first
    
      | refine aw_seq ?_
      | refine aw_region ?_
      | refine aw_region_q (by kernel_rfl) (by kernel_rfl) ?_
      | refine aw_block ?_
      | refine ao_nil ?_
      | refine ao_op rfl trivial ?_
      | refine aq_nil ?_
      | refine aq_op rfl trivial ?_
      | refine at_nil ?_
      | refine at_op rfl trivial ?_
      | refine am_nil ?_
      | refine am_op rfl trivial rfl ?_
      | refine aw_skip ?_
      | refine aw_condT rfl trivial ?_
      | refine aw_condF rfl trivial ?_
      | refine aw_condD rfl trivial (fun hc => ?_) (fun hc => ?_)
      | refine aw_condN rfl trivial (fun hc => ?_) (fun hc => ?_)
      | refine aw_condNB rfl trivial (fun hc => ?_) (fun hc => ?_)
      | refine aw_cond rfl trivial (fun hc => ?_) (fun hc => ?_)
      | refine aw_ret ?_
      | refine aw_exit ?_
      | refine ao_op rfl ?_ ?_
      | refine aq_op rfl ?_ ?_
      | refine at_op rfl ?_ ?_
      | refine am_op rfl ?_ rfl ?_
      | refine ao_box rfl trivial rfl rfl rfl ?_
      | refine ao_alloc rfl rfl rfl rfl ?_
      | refine ao_store rfl rfl trivial rfl trivial rfl rfl rfl rfl rfl ?_
      | (exfalso; omega)
      | (show allP _; first | trivial | exact ob1 (fun h => h) | exact ob2 (fun h => h) (fun h => h) | exact ob1 (fun h => ⟨h.1, trivial⟩) | (simp only [allP, obg, grd, allT, InR, decide_eq_true_eq, Bool.and_eq_true, Bool.not_eq_true', decide_eq_false_iff_not, List.nil_append, List.cons_append, List.append_nil, and_true, true_and]; first | omega | (intros; omega) | (simp only [Blk.len, List.length_set, List.length_append, List.length_cons, List.length_nil]; first | omega | (intros; omega)) | (refine ⟨?_, ?_⟩ <;> intros <;> first | (with_reducible assumption) | omega) | ((repeat' refine And.intro ?_ ?_) <;> (intros; first | (with_reducible assumption) | omega | (simp only [Blk.len, List.length_set, List.length_append, List.length_cons, List.length_nil]; omega))) | ((try simp only [Bool.or_eq_true, Bool.or_eq_false_iff, Bool.and_eq_true, Bool.and_eq_false_iff, decide_eq_true_eq, decide_eq_false_iff_not, Bool.not_eq_true', Bool.not_eq_false'] at *); (try simp only [Blk.len] at *); first | omega | (intros; omega)) | (simp_all; done))))
    rw [List.drop_eq_nil_of_le (by omega)] at hp
    simp only [pthF] at hp
    (refine fin_ret ?_; exact ret3 (by rfl) (by rw [← hp]) (by rw [← hp]) (by rw [← hp]) (by rfl) (by rfl) (by rfl))

end Go.Proofs.Ytnmajhoehmlcjaa

/- Laws of layer 11: least. -/
namespace Go.Proofs.Ytnmajhoehmlcjaa
open Go.Wk

theorem pthF_in : ∀ {l : List Int} {t : Topo} {first : Bool} {n c to cost : Int}, pthF t first n c l = (to, cost, 0) → ∀ a ∈ l, arcIn t a = true
  | [], _, _, _, _, _, _, _ => by simp
  | a :: r, t, first, n, c, to, cost, h => by
    simp only [pthF] at h
    split at h
    · simp at h
    · rename_i hin
      split at h
      · simp at h
      · intro b hb
        rcases List.mem_cons.1 hb with rfl | hb
        · simpa using hin
        · exact pthF_in h b hb

theorem up_ok {t : Topo} {down : List Bool} {a : Int} (hf : fitsB t down = true) (h0 : 0 ≤ a) (h1 : a < 2 * t.links.length) : down.length = 0 ∨ 0 ≤ a ∧ a < down.length := by
  simp only [fitsB, Bool.and_eq_true, Bool.or_eq_true, decide_eq_true_eq] at hf
  omega
theorem errS_ok {t : Topo} {down : List Bool} {n : Int} (hf : fitsB t down = true) (h0 : 0 ≤ n) (h1 : n < t.nodes) : errS t down n = 0 := by
  unfold errS
  rw [hf, decide_eq_false (by omega : ¬ n < 0), decide_eq_false (by omega : ¬ t.nodes ≤ n)]; rfl

theorem l_SpfLeast (t : Topo) (down : List Bool) (n : Int) (arcs : List Int) : Ctr Try.prog 5 [topoD t, boolsD down, iD n, intsD arcs] [] (.d (bD true)) := by
  refine spec_of envOK (enters_of Try.func5 (by kernel_rfl) (by kernel_rfl)) Try.func5 rfl rfl _ rfl (Nat.le_of_ble_eq_true rfl) rfl fun w0 => ?_
  repeat' (first
  
    | refine aw_seq ?_
    | refine aw_region ?_
    | refine aw_region_q (by kernel_rfl) (by kernel_rfl) ?_
    | refine aw_block ?_
    | refine ao_nil ?_
    | refine ao_op rfl trivial ?_
    | refine aq_nil ?_
    | refine aq_op rfl trivial ?_
    | refine at_nil ?_
    | refine at_op rfl trivial ?_
    | refine am_nil ?_
    | refine am_op rfl trivial rfl ?_
    | refine aw_skip ?_
    | refine aw_condT rfl trivial ?_
    | refine aw_condF rfl trivial ?_
    | refine aw_condD rfl trivial (fun hc => ?_) (fun hc => ?_)
    | refine aw_condN rfl trivial (fun hc => ?_) (fun hc => ?_)
    | refine aw_condNB rfl trivial (fun hc => ?_) (fun hc => ?_)
    | refine aw_cond rfl trivial (fun hc => ?_) (fun hc => ?_)
    | refine aw_ret ?_
    | refine aw_exit ?_
    | refine ao_op rfl ?_ ?_
    | refine aq_op rfl ?_ ?_
    | refine at_op rfl ?_ ?_
    | refine am_op rfl ?_ rfl ?_
    | refine ao_box rfl trivial rfl rfl rfl ?_
    | refine ao_alloc rfl rfl rfl rfl ?_
    | refine ao_store rfl rfl trivial rfl trivial rfl rfl rfl rfl rfl ?_
    | (first | refine ao_call rfl (l_awake) rfl ?_ ?_ | refine aq_call rfl (l_awake) rfl ?_ ?_)
    | (first | refine ao_call rfl (l_large _ _) rfl ?_ ?_ | refine aq_call rfl (l_large _ _) rfl ?_ ?_)
    | (first | refine ao_call rfl (r_Fits _ _) rfl ?_ ?_ | refine aq_call rfl (r_Fits _ _) rfl ?_ ?_)
    | (show allP _; first | trivial | exact ob1 (fun h => h) | exact ob2 (fun h => h) (fun h => h) | exact ob1 (fun h => ⟨h.1, trivial⟩) | (simp only [allP, obg, grd, allT, InR, decide_eq_true_eq, Bool.and_eq_true, Bool.not_eq_true', decide_eq_false_iff_not, List.nil_append, List.cons_append, List.append_nil, and_true, true_and]; first | omega | (intros; omega) | (simp only [Blk.len, List.length_set, List.length_append, List.length_cons, List.length_nil]; first | omega | (intros; omega)) | (refine ⟨?_, ?_⟩ <;> intros <;> first | (with_reducible assumption) | omega) | ((repeat' refine And.intro ?_ ?_) <;> (intros; first | (with_reducible assumption) | omega | (simp only [Blk.len, List.length_set, List.length_append, List.length_cons, List.length_nil]; omega))) | ((try simp only [Bool.or_eq_true, Bool.or_eq_false_iff, Bool.and_eq_true, Bool.and_eq_false_iff, decide_eq_true_eq, decide_eq_false_iff_not, Bool.not_eq_true', Bool.not_eq_false'] at *); (try simp only [Blk.len] at *); first | omega | (intros; omega)) | (simp_all; done))))
  · (refine fin_ret ?_; exact ret1 (by rfl) (by rfl) (by rfl))
  have hcs : (fitsB t down = true) ∧ arcs.length ≤ 100 := by
    simp only [Bool.or_eq_false_iff, Bool.not_eq_false', decide_eq_false_iff_not] at hc
    exact ⟨hc.1.2, by omega⟩
  obtain ⟨hf, hal⟩ := hcs
  have hv := fitsB_v hf
  have hP := r_Path9 t n arcs (by omega)
  obtain ⟨⟨to, cost, e⟩, hr⟩ : ∃ r, pth9 t n arcs = r := ⟨_, rfl⟩
  rw [hr] at hP
  simp only at hP
  by_cases he : e = 0
  · subst he
    have hn : 0 ≤ n ∧ n < t.nodes ∧ pthF t true n 0 arcs = (to, cost, 0) := by
      unfold pth9 at hr
      rw [if_pos hv] at hr
      split at hr
      · simp at hr
      · exact ⟨by omega, by omega, hr⟩
    obtain ⟨n0, n1, hpf⟩ := hn
    have hin := pthF_in hpf
    repeat' (first
    
      | refine aw_seq ?_
      | refine aw_region ?_
      | refine aw_region_q (by kernel_rfl) (by kernel_rfl) ?_
      | refine aw_block ?_
      | refine ao_nil ?_
      | refine ao_op rfl trivial ?_
      | refine aq_nil ?_
      | refine aq_op rfl trivial ?_
      | refine at_nil ?_
      | refine at_op rfl trivial ?_
      | refine am_nil ?_
      | refine am_op rfl trivial rfl ?_
      | refine aw_skip ?_
      | refine aw_condT rfl trivial ?_
      | refine aw_condF rfl trivial ?_
      | refine aw_condD rfl trivial (fun hc => ?_) (fun hc => ?_)
      | refine aw_condN rfl trivial (fun hc => ?_) (fun hc => ?_)
      | refine aw_condNB rfl trivial (fun hc => ?_) (fun hc => ?_)
      | refine aw_cond rfl trivial (fun hc => ?_) (fun hc => ?_)
      | refine aw_ret ?_
      | refine aw_exit ?_
      | refine ao_op rfl ?_ ?_
      | refine aq_op rfl ?_ ?_
      | refine at_op rfl ?_ ?_
      | refine am_op rfl ?_ rfl ?_
      | refine ao_box rfl trivial rfl rfl rfl ?_
      | refine ao_alloc rfl rfl rfl rfl ?_
      | refine ao_store rfl rfl trivial rfl trivial rfl rfl rfl rfl rfl ?_
      | refine ao_callR rfl (hP) trivial rfl rfl ?_
      | (show allP _; first | trivial | exact ob1 (fun h => h) | exact ob2 (fun h => h) (fun h => h) | exact ob1 (fun h => ⟨h.1, trivial⟩) | (simp only [allP, obg, grd, allT, InR, decide_eq_true_eq, Bool.and_eq_true, Bool.not_eq_true', decide_eq_false_iff_not, List.nil_append, List.cons_append, List.append_nil, and_true, true_and]; first | omega | (intros; omega) | (simp only [Blk.len, List.length_set, List.length_append, List.length_cons, List.length_nil]; first | omega | (intros; omega)) | (refine ⟨?_, ?_⟩ <;> intros <;> first | (with_reducible assumption) | omega) | ((repeat' refine And.intro ?_ ?_) <;> (intros; first | (with_reducible assumption) | omega | (simp only [Blk.len, List.length_set, List.length_append, List.length_cons, List.length_nil]; omega))) | ((try simp only [Bool.or_eq_true, Bool.or_eq_false_iff, Bool.and_eq_true, Bool.and_eq_false_iff, decide_eq_true_eq, decide_eq_false_iff_not, Bool.not_eq_true', Bool.not_eq_false'] at *); (try simp only [Blk.len] at *); first | omega | (intros; omega)) | (simp_all; done))))
    all_goals try (exfalso; omega)
    refine aw_loop (ι := Nat) (fun j => [(44, [], .d (iD j)), (43, [], .d (iD arcs.length)), (42, [], .d (intsD arcs)), (10, [], .d (iD cost)), (9, [], .d (iD to)), (4, [], .ptr 0 0), (1, [], .d (boolsD down)), (2, [], .d (iD n))]) (fun _ => [tBlk t])
      (fun j => j ≤ arcs.length ∧ ∀ i, i < j → upB down (arcs.getD i 0) = true) (fun j => arcs.length - j) 0 ⟨by simp, fun i hi => by omega⟩ (fun _ => Nat.le_of_ble_eq_true rfl) (by refine weak_to ?_ ?_ rfl rfl
                                                                                                                                                                                      · repeat (first | exact subF_nil | refine subF_cons (by first | rfl | (simp [look]; done)) ?_)
                                                                                                                                                                                      · repeat (first | exact subS_nil | refine subS_cons (by first | rfl | (simp; done)) ?_)) fun j hj => ?_
    obtain ⟨hj, hup⟩ := hj
    by_cases hjl : j < arcs.length
    · obtain ⟨a0, a1⟩ := arcIn_b hv (hin _ (getD_mem (d := 0) hjl))
      have hok := up_ok hf a0 a1
      repeat' (first
      
        | refine aw_seq ?_
        | refine aw_region ?_
        | refine aw_region_q (by kernel_rfl) (by kernel_rfl) ?_
        | refine aw_block ?_
        | refine ao_nil ?_
        | refine ao_op rfl trivial ?_
        | refine aq_nil ?_
        | refine aq_op rfl trivial ?_
        | refine at_nil ?_
        | refine at_op rfl trivial ?_
        | refine am_nil ?_
        | refine am_op rfl trivial rfl ?_
        | refine aw_skip ?_
        | refine aw_condT rfl trivial ?_
        | refine aw_condF rfl trivial ?_
        | refine aw_condD rfl trivial (fun hc => ?_) (fun hc => ?_)
        | refine aw_condN rfl trivial (fun hc => ?_) (fun hc => ?_)
        | refine aw_condNB rfl trivial (fun hc => ?_) (fun hc => ?_)
        | refine aw_cond rfl trivial (fun hc => ?_) (fun hc => ?_)
        | refine aw_ret ?_
        | refine aw_exit ?_
        | refine ao_op rfl ?_ ?_
        | refine aq_op rfl ?_ ?_
        | refine at_op rfl ?_ ?_
        | refine am_op rfl ?_ rfl ?_
        | refine ao_box rfl trivial rfl rfl rfl ?_
        | refine ao_alloc rfl rfl rfl rfl ?_
        | refine ao_store rfl rfl trivial rfl trivial rfl rfl rfl rfl rfl ?_
        | (first | refine ao_call rfl (r_Up down _ hok) rfl ?_ ?_ | refine aq_call rfl (r_Up down _ hok) rfl ?_ ?_)
        | (show allP _; first | trivial | exact ob1 (fun h => h) | exact ob2 (fun h => h) (fun h => h) | exact ob1 (fun h => ⟨h.1, trivial⟩) | (simp only [allP, obg, grd, allT, InR, decide_eq_true_eq, Bool.and_eq_true, Bool.not_eq_true', decide_eq_false_iff_not, List.nil_append, List.cons_append, List.append_nil, and_true, true_and]; first | omega | (intros; omega) | (simp only [Blk.len, List.length_set, List.length_append, List.length_cons, List.length_nil]; first | omega | (intros; omega)) | (refine ⟨?_, ?_⟩ <;> intros <;> first | (with_reducible assumption) | omega) | ((repeat' refine And.intro ?_ ?_) <;> (intros; first | (with_reducible assumption) | omega | (simp only [Blk.len, List.length_set, List.length_append, List.length_cons, List.length_nil]; omega))) | ((try simp only [Bool.or_eq_true, Bool.or_eq_false_iff, Bool.and_eq_true, Bool.and_eq_false_iff, decide_eq_true_eq, decide_eq_false_iff_not, Bool.not_eq_true', Bool.not_eq_false'] at *); (try simp only [Blk.len] at *); first | omega | (intros; omega)) | (simp_all; done))))
      all_goals try (exfalso; omega)
      · (refine fin_ret ?_; exact ret1 (by rfl) (by rfl) (by rfl))
      · refine ⟨j + 1, ⟨by omega, fun i hi => ?_⟩, by omega, ?_⟩
        · rcases Nat.lt_succ_iff_lt_or_eq.1 hi with h | rfl
          · exact hup i h
          · simpa using hc
        · refine weak_to ?_ ?_ rfl rfl
          · repeat (first | exact subF_nil | refine subF_cons (by first | rfl | (simp [look]; done)) ?_)
          · repeat (first | exact subS_nil | refine subS_cons (by first | rfl | (simp; done)) ?_)
    · have hall : ∀ a ∈ arcs, upB down a = true := fun a ha => by
        obtain ⟨k, hk, rfl⟩ := List.mem_iff_getElem.1 ha
        have := hup k (by omega)
        simpa [List.getD_eq_getElem?_getD, hk] using this
      obtain ⟨hw, hcost, _⟩ := pthF_Pth hv arcs true n 0 to cost hpf hall
      obtain ⟨t0, t1⟩ := hw.in hv n0 n1
      have herr := errS_ok hf t0 t1
      have hI := distL_is (fr := false) herr
      have hlen := hI.len
      have hwt := hI.walk_to hv arcs n hw
      have hD := c_Dist t down to
      rw [herr] at hD
      simp only [gI] at hwt
      generalize distL t down to false = l at *
      repeat' (first
      
        | refine aw_seq ?_
        | refine aw_region ?_
        | refine aw_region_q (by kernel_rfl) (by kernel_rfl) ?_
        | refine aw_block ?_
        | refine ao_nil ?_
        | refine ao_op rfl trivial ?_
        | refine aq_nil ?_
        | refine aq_op rfl trivial ?_
        | refine at_nil ?_
        | refine at_op rfl trivial ?_
        | refine am_nil ?_
        | refine am_op rfl trivial rfl ?_
        | refine aw_skip ?_
        | refine aw_condT rfl trivial ?_
        | refine aw_condF rfl trivial ?_
        | refine aw_condD rfl trivial (fun hc => ?_) (fun hc => ?_)
        | refine aw_condN rfl trivial (fun hc => ?_) (fun hc => ?_)
        | refine aw_condNB rfl trivial (fun hc => ?_) (fun hc => ?_)
        | refine aw_cond rfl trivial (fun hc => ?_) (fun hc => ?_)
        | refine aw_ret ?_
        | refine aw_exit ?_
        | refine ao_op rfl ?_ ?_
        | refine aq_op rfl ?_ ?_
        | refine at_op rfl ?_ ?_
        | refine am_op rfl ?_ rfl ?_
        | refine ao_box rfl trivial rfl rfl rfl ?_
        | refine ao_alloc rfl rfl rfl rfl ?_
        | refine ao_store rfl rfl trivial rfl trivial rfl rfl rfl rfl rfl ?_
        | refine ao_callR rfl (hD) trivial rfl rfl ?_
        | (exfalso; omega)
        | (show allP _; first | trivial | exact ob1 (fun h => h) | exact ob2 (fun h => h) (fun h => h) | exact ob1 (fun h => ⟨h.1, trivial⟩) | (simp only [allP, obg, grd, allT, InR, decide_eq_true_eq, Bool.and_eq_true, Bool.not_eq_true', decide_eq_false_iff_not, List.nil_append, List.cons_append, List.append_nil, and_true, true_and]; first | omega | (intros; omega) | (simp only [Blk.len, List.length_set, List.length_append, List.length_cons, List.length_nil]; first | omega | (intros; omega)) | (refine ⟨?_, ?_⟩ <;> intros <;> first | (with_reducible assumption) | omega) | ((repeat' refine And.intro ?_ ?_) <;> (intros; first | (with_reducible assumption) | omega | (simp only [Blk.len, List.length_set, List.length_append, List.length_cons, List.length_nil]; omega))) | ((try simp only [Bool.or_eq_true, Bool.or_eq_false_iff, Bool.and_eq_true, Bool.and_eq_false_iff, decide_eq_true_eq, decide_eq_false_iff_not, Bool.not_eq_true', Bool.not_eq_false'] at *); (try simp only [Blk.len] at *); first | omega | (intros; omega)) | (simp_all; done))))
      (refine fin_ret ?_; exact ret1 (by rfl) (by (simp [Blk.len, hlen]; first | omega | (simp at hwt; omega))) (by rfl))
  · repeat' (first
    
      | refine aw_seq ?_
      | refine aw_region ?_
      | refine aw_region_q (by kernel_rfl) (by kernel_rfl) ?_
      | refine aw_block ?_
      | refine ao_nil ?_
      | refine ao_op rfl trivial ?_
      | refine aq_nil ?_
      | refine aq_op rfl trivial ?_
      | refine at_nil ?_
      | refine at_op rfl trivial ?_
      | refine am_nil ?_
      | refine am_op rfl trivial rfl ?_
      | refine aw_skip ?_
      | refine aw_condT rfl trivial ?_
      | refine aw_condF rfl trivial ?_
      | refine aw_condD rfl trivial (fun hc => ?_) (fun hc => ?_)
      | refine aw_condN rfl trivial (fun hc => ?_) (fun hc => ?_)
      | refine aw_condNB rfl trivial (fun hc => ?_) (fun hc => ?_)
      | refine aw_cond rfl trivial (fun hc => ?_) (fun hc => ?_)
      | refine aw_ret ?_
      | refine aw_exit ?_
      | refine ao_op rfl ?_ ?_
      | refine aq_op rfl ?_ ?_
      | refine at_op rfl ?_ ?_
      | refine am_op rfl ?_ rfl ?_
      | refine ao_box rfl trivial rfl rfl rfl ?_
      | refine ao_alloc rfl rfl rfl rfl ?_
      | refine ao_store rfl rfl trivial rfl trivial rfl rfl rfl rfl rfl ?_
      | refine ao_callR rfl (hP) trivial rfl rfl ?_
      | (show allP _; first | trivial | exact ob1 (fun h => h) | exact ob2 (fun h => h) (fun h => h) | exact ob1 (fun h => ⟨h.1, trivial⟩) | (simp only [allP, obg, grd, allT, InR, decide_eq_true_eq, Bool.and_eq_true, Bool.not_eq_true', decide_eq_false_iff_not, List.nil_append, List.cons_append, List.append_nil, and_true, true_and]; first | omega | (intros; omega) | (simp only [Blk.len, List.length_set, List.length_append, List.length_cons, List.length_nil]; first | omega | (intros; omega)) | (refine ⟨?_, ?_⟩ <;> intros <;> first | (with_reducible assumption) | omega) | ((repeat' refine And.intro ?_ ?_) <;> (intros; first | (with_reducible assumption) | omega | (simp only [Blk.len, List.length_set, List.length_append, List.length_cons, List.length_nil]; omega))) | ((try simp only [Bool.or_eq_true, Bool.or_eq_false_iff, Bool.and_eq_true, Bool.and_eq_false_iff, decide_eq_true_eq, decide_eq_false_iff_not, Bool.not_eq_true', Bool.not_eq_false'] at *); (try simp only [Blk.len] at *); first | omega | (intros; omega)) | (simp_all; done))))
    · (refine fin_ret ?_; exact ret1 (by rfl) (by rfl) (by rfl))
    · exact absurd (by assumption) he
end Go.Proofs.Ytnmajhoehmlcjaa

/- A slice of the call's own, cut at its head. -/
namespace Go.Wk
open Go.RowKit

section
variable {P : Program} {env : Env} {w0 : Base} {n : Nat} {l0 : List Oper} {K : Fr → List Blk → Prop} {l : List Oper} {F : Fr} {S : List Blk}
theorem ao_slLo {d : Nat} {ty : TypeId} {pos : String} {after : Array Edge} {gd : Option (Nat × Bool)} {g : List Bool} {T e : TypeId} {s by_ : Nat} {z : Value} {te : TI} {x lo : Operand} {k : IntKind} {m : Int} {ps qs : List Prop} {nm : Nat} {blk : Blk}
    (hg : gof F l0 gd = some g) (hT : ti? env T = some ⟨.slice e, s, by_, z⟩) (he : ti? env e = some te) (hx : rd F g x = some (.own nm, ps)) (hps : allP ps) (hlo : rd F g lo = some (.d (.int k m), qs)) (hqs : allP qs)
    (hb : nthF S nm = some blk) (hsz : Nat.beq blk.esz te.size = true) (h0 : allT g → 0 ≤ m ∧ m < blk.len) (hd : Nat.blt d n = true) (kk : AO P env w0 n l0 K l ((d, g, .sl nm m.toNat (blk.len - m.toNat)) :: F) S) :
    AO P env w0 n l0 K (⟨some d, .slice T x (some lo) none none, ty, pos, after, gd⟩ :: l) F S := by
  intro hE ρ a w hr
  have hdn : d < n := Nat.le_of_ble_eq_true hd
  obtain ⟨hw1, hw2⟩ := gof_wanted (o := ⟨some d, .slice T x (some lo) none none, ty, pos, after, gd⟩) hr.fr hg
  rw [nthF_eq] at hb
  by_cases hall : allT g
  · obtain ⟨m0, m1⟩ := h0 hall
    have ru := rd_sound hr.fr hx hps hall
    have rl := rd_sound hr.fr hlo hqs hall
    have hl' : a.eval lo = .int k m := by
      generalize a.eval lo = u at rl
      cases rl with | d h => cases h; rfl
    obtain ⟨dd, hdd, hk⟩ := (hE.get hT).desc
    have := desc_slice hk; subst this
    have hsz' := Nat.eq_of_beq_eq_true hsz
    have hm : ((m.toNat : Nat) : Int) = m := Int.toNat_of_nonneg m0
    generalize hu : a.eval x = u at ru
    cases ru with
    | ownNil hbn hs => simp [shape, hb] at hs; omega
    | @own _ b esz len cap hbn hs hc hcap =>
      have hz : blk.esz = esz ∧ blk.len = len := by simp [shape, hb] at hs; exact hs
      obtain ⟨rfl, rfl⟩ := hz
      have run : ∀ w', (Instr.sliceAt T (.slice (some ⟨b, 0, none⟩) blk.len cap) (some (.int k m)) none none).run P w' = .ok (.slice (some ⟨b, m.toNat * blk.esz, none⟩) (blk.len - m.toNat) (cap - m.toNat)) w' := by
        intro w'
        have hs2 := run_sizeOf (hE.get he) w'
        have hle : m ≤ (blk.len : Int) := by omega
        have hne : ¬ cap = m.toNat := by omega
        have hne2 : ¬ cap - m.toNat = 0 := by omega
        simp [Instr.sliceAt, Instr.slice, run_underlying hdd, Instr.sliceBounds, run_sliceBound, hs2, m0, hle, hne, hne2, add_off, hsz']
      refine wpList_quiet (val := .slice (some ⟨b, m.toNat * blk.esz, none⟩) (blk.len - m.toNat) (cap - m.toNat)) (hw1 hall) (fun w' he' => quiet_run ?_) fun w' he' => kk hE ρ _ w' (Rel.ext ⟨hr.fr.put hdn ⟨fun _ => ?_, fun h => absurd hall h⟩, hr.mem⟩ he')
      · simp only [execOp, hu, Option.map, hl']
        exact run_v (run w')
      · refine .sl (esz := blk.esz) (n := blk.len) hbn (by simp [shape, hb]) (by omega) (by omega) ?_
        rw [show m.toNat + (cap - m.toNat) = cap by omega]
        exact hcap
  · exact wpList_skip (hw2 hall) (kk hE ρ _ w ⟨hr.fr.put hdn ⟨fun h => absurd h hall, fun _ => rfl⟩, hr.mem⟩)
end
end Go.Wk

/- A call with own blocks among operations that draw their order. -/
namespace Go.Wk
open Go.RowKit

section
variable {P : Program} {env : Env} {w0 : Base} {n : Nat} {l0 : List Oper} {K : Fr → List Blk → Prop} {F : Fr} {S : List Blk}
theorem ax_callR {N : List Nat} {o : Oper} {d : Nat} {f : FuncId} {ds : List D} {os : List Prop} {rS : List Blk} {rv : V} (h : isCall F S o n = some (d, f, ds, os)) (sp : Ctr P f ds rS rv) (ho : allP os) {rv' : V} {S' : List Blk} (hv : shiftO (lenO S) rv = some rv') (hS : appSO (lenO S) S rS = some S')
    (k : K ((d, [], rv') :: F) S') : AX P env w0 n l0 N o K F S := by
  intro hE Q ρ a w hr hN KK hKK
  rw [shiftO_eq] at hv; cases hv
  rw [appSO_eq] at hS; cases hS
  rw [lenO_eq, appS_eq] at k
  unfold isCall at h
  split at h
  · rename_i d' c hd hg hop
    split at h
    · rename_i f' p hc
      split at h
      · rename_i ds' q hq
        cases hn : Nat.blt d' n with
        | false => simp [hn] at h
        | true =>
          simp [hn] at h
          obtain ⟨rfl, rfl, rfl, rfl⟩ := h
          obtain ⟨hp, hq'⟩ := allP_append ho
          obtain ⟨x, hx, hxv⟩ := calleeF_sound (g := []) hr.fr trivial hc hp
          obtain ⟨cal, args, ts⟩ := c
          simp only at hx; subst hx
          rw [if_pos (wanted_none hg _)]
          unfold Oper.wp
          rw [run_call sp.1 hop hxv]
          have hda := dargs_sound hr.fr hr.mem (g := []) trivial hq hq'
          have := sp.2 w _ hda
          have harr : (args.toList.map a.eval).toArray = args.map a.eval := by apply Array.ext'; simp
          rw [harr] at this
          refine this.mono ?_
          rintro e w'' ⟨v, ρr, rfl, hout⟩
          rw [hd]
          have hrel := out_rel hr hout (Nat.le_of_ble_eq_true hn)
          exact hKK _ _ _ _ w'' hrel (fun m hm => by have := hN m hm; simp; omega) (Sm.to_ext hout.ext N) hout.ext.size (fun m hm => comb_lo _ _ (hN m hm)) k
      · simp at h
    · simp at h
  · simp at h
end
end Go.Wk

/- Laws of layer 11: witness. -/
namespace Go.Proofs.Ytnmajhoehmlcjaa
open Go.Wk

theorem drop_le (p : List Int) (i : Nat) : DLe (.arr 1 ((Blk.ints .i64 p).len - i) (fun j => (Blk.ints .i64 p).get (i + j))) (intsD (p.drop i)) := by
  unfold intsD
  rw [show (p.drop i).length = (Blk.ints .i64 p).len - i by simp [Blk.len]]
  refine DLe.arr fun j hj => ?_
  simp [Blk.get, List.getD_eq_getElem?_getD]

set_option maxHeartbeats 1000000 in
theorem l_SpfWitness (t : Topo) (down : List Bool) (s d : Int) : Ctr Try.prog 6 [topoD t, boolsD down, .agg [iD s, iD d]] [] (.d (bD true)) := by
  refine spec_of envOK (enters_of Try.func6 (by kernel_rfl) (by kernel_rfl)) Try.func6 rfl rfl _ rfl (Nat.le_of_ble_eq_true rfl) rfl fun w0 => ?_
  by_cases he : errP t down s d = 0
  · obtain ⟨herr, s0, s1, sn⟩ := errP_0 he
    obtain ⟨hf, d0, d1⟩ := errS_0 herr
    have hv := fitsB_v hf
    have hI := distL_is (fr := false) herr
    have hbd := distL_bnd (fr := false) herr
    have hll := hI.len
    have hpl : pathL t down s d = pathF t down d (distL t down d false) s := by unfold pathL; rw [if_pos he]
    have hplen := pathL_len t down s d
    have hD := c_Dist t down d
    have hP := c_Path t down s d
    rw [herr] at hD
    rw [he] at hP
    have h9 : pth9 t s (pathL t down s d) = (d, gI (distL t down d false) s, 0) := by
      unfold pth9
      rw [if_pos hv, if_neg (by omega), hpl, pthF_pathF hv hI (gI (distL t down d false) s).toNat s 0 true s0 s1 sn (by omega) (.inl rfl)]
      simp
    have hR := r_Path9 t s (pathL t down s d) (by omega)
    rw [h9] at hR
    simp only at hR
    have hparts := pathF_parts hv hI (gI (distL t down d false) s).toNat s s0 s1 sn (by omega)
    rw [← hpl] at hparts
    have hnext : ∀ a : Int, 0 ≤ a → a < 2 * t.links.length → 0 ≤ gI (distL t down d false) (tailT t a) → errP t down (tailT t a) d = 0 ∧ pathL t down (tailT t a) d = pathF t down d (distL t down d false) (tailT t a) := fun a a0 a1 hn => by
      have hb := arc_ok hv a0 a1
      have : errP t down (tailT t a) d = 0 := by
        unfold errP
        rw [if_pos herr, decide_eq_false (by omega : ¬ tailT t a < 0), decide_eq_false (by omega : ¬ t.nodes ≤ tailT t a), if_neg (by omega)]; rfl
      exact ⟨this, by unfold pathL; rw [if_pos this]⟩
    generalize distL t down d false = l at *
    generalize pathL t down s d = p at *
    simp only [gI] at hR
    repeat' (first
    
      | refine aw_seq ?_
      | refine aw_region ?_
      | refine aw_region_q (by kernel_rfl) (by kernel_rfl) ?_
      | refine aw_block ?_
      | refine ao_nil ?_
      | refine ao_op rfl trivial ?_
      | refine aq_nil ?_
      | refine aq_op rfl trivial ?_
      | refine at_nil ?_
      | refine at_op rfl trivial ?_
      | refine am_nil ?_
      | refine am_op rfl trivial rfl ?_
      | refine aw_skip ?_
      | refine aw_condT rfl trivial ?_
      | refine aw_condF rfl trivial ?_
      | refine aw_condD rfl trivial (fun hc => ?_) (fun hc => ?_)
      | refine aw_condN rfl trivial (fun hc => ?_) (fun hc => ?_)
      | refine aw_condNB rfl trivial (fun hc => ?_) (fun hc => ?_)
      | refine aw_cond rfl trivial (fun hc => ?_) (fun hc => ?_)
      | refine aw_ret ?_
      | refine aw_exit ?_
      | refine ao_op rfl ?_ ?_
      | refine aq_op rfl ?_ ?_
      | refine at_op rfl ?_ ?_
      | refine am_op rfl ?_ rfl ?_
      | refine ao_box rfl trivial rfl rfl rfl ?_
      | refine ao_alloc rfl rfl rfl rfl ?_
      | refine ao_store rfl rfl trivial rfl trivial rfl rfl rfl rfl rfl ?_
      | (first | refine ao_call rfl (l_awake) rfl ?_ ?_ | refine aq_call rfl (l_awake) rfl ?_ ?_)
      | (first | refine ao_call rfl (l_large _ _) rfl ?_ ?_ | refine aq_call rfl (l_large _ _) rfl ?_ ?_)
      | refine ao_callR rfl (hP) trivial rfl rfl ?_
      | refine ao_callR rfl (hD) trivial rfl rfl ?_
      | refine ao_callR rfl (hR) trivial rfl rfl ?_
      | (show allP _; first | trivial | exact ob1 (fun h => h) | exact ob2 (fun h => h) (fun h => h) | exact ob1 (fun h => ⟨h.1, trivial⟩) | (simp only [allP, obg, grd, allT, InR, decide_eq_true_eq, Bool.and_eq_true, Bool.not_eq_true', decide_eq_false_iff_not, List.nil_append, List.cons_append, List.append_nil, and_true, true_and]; first | omega | (intros; omega) | (simp only [Blk.len, List.length_set, List.length_append, List.length_cons, List.length_nil]; first | omega | (intros; omega)) | (refine ⟨?_, ?_⟩ <;> intros <;> first | (with_reducible assumption) | omega) | ((repeat' refine And.intro ?_ ?_) <;> (intros; first | (with_reducible assumption) | omega | (simp only [Blk.len, List.length_set, List.length_append, List.length_cons, List.length_nil]; omega))) | ((try simp only [Bool.or_eq_true, Bool.or_eq_false_iff, Bool.and_eq_true, Bool.and_eq_false_iff, decide_eq_true_eq, decide_eq_false_iff_not, Bool.not_eq_true', Bool.not_eq_false'] at *); (try simp only [Blk.len] at *); first | omega | (intros; omega)) | (simp_all; done))))
    · (refine fin_ret ?_; exact ret1 (by rfl) (by rfl) (by rfl))
    · simp [Blk.len, hll] at hc
    refine aw_loop (ι := Nat) (fun i => [(85, [], .d (iD i)), (84, [], .d (iD p.length)), (83, [], .own 2), (7, [], .own 2), (5, [], .ptr 1 0), (3, [], .ptr 0 0), (1, [], .d (boolsD down))]) (fun _ => [tBlk t, .cells [.d (iD s), .d (iD d)], .ints .i64 p, .ints .i64 l])
      (fun i => i ≤ p.length) (fun i => p.length - i) 0 (by simp) (fun _ => Nat.le_of_ble_eq_true rfl) (by refine weak_to ?_ ?_ rfl rfl
                                                                                                           · repeat (first | exact subF_nil | refine subF_cons (by first | rfl | (simp [look]; done)) ?_)
                                                                                                           · repeat (first | exact subS_nil | refine subS_cons (by first | rfl | (simp; done)) ?_)) fun i hi => ?_
    by_cases hil : i < p.length
    · obtain ⟨up, a0, a1, hn, hdrop⟩ := hparts i hil
      obtain ⟨e1, e2⟩ := hnext _ a0 a1 hn
      have hok := up_ok hf a0 a1
      have hP2 : Ctr Try.prog 16 [topoD t, boolsD down, iD (tailT t (p.getD (Int.toNat (i : Int)) 0)), iD d] [.ints .i64 (p.drop i)] (.tup [.own 0, .d (iD 0)]) := by
        have := c_Path t down (tailT t (p.getD i 0)) d
        rw [e1, e2, ← hdrop] at this
        exact this
      have hS := (r_SameInts (p.drop i) (p.drop i) (by simp; omega)).args (ds' := [intsD (p.drop i), .arr 1 ((Blk.ints .i64 p).len - i) (fun j => (Blk.ints .i64 p).get (i + j))]) ⟨DLe.refl _, drop_le p i, trivial⟩
      have hb : allT [!(!decide ((0 : Int) = 0) || !upB down (p.getD (Int.toNat (i : Int)) 0))] → 0 ≤ (i : Int) ∧ (i : Int) < (Blk.ints .i64 p).len := fun _ => ⟨by omega, by simp [Blk.len]; omega⟩
      repeat' (first
        | refine aw_region_n (l0 := [_, _, _, _, _, _, _, _, _, _, _, _, _]) [] (by kernel_rfl) (by simp) ?_
        | refine aw_seq ?_
        | refine aw_region ?_
        | refine aw_region_q (by kernel_rfl) (by kernel_rfl) ?_
        | refine aw_block ?_
        | refine ao_nil ?_
        | refine ao_op rfl trivial ?_
        | refine aq_nil ?_
        | refine aq_op rfl trivial ?_
        | refine at_nil ?_
        | refine at_op rfl trivial ?_
        | refine am_nil ?_
        | refine am_op rfl trivial rfl ?_
        | refine aw_skip ?_
        | refine aw_condT rfl trivial ?_
        | refine aw_condF rfl trivial ?_
        | refine aw_condD rfl trivial (fun hc => ?_) (fun hc => ?_)
        | refine aw_condN rfl trivial (fun hc => ?_) (fun hc => ?_)
        | refine aw_condNB rfl trivial (fun hc => ?_) (fun hc => ?_)
        | refine aw_cond rfl trivial (fun hc => ?_) (fun hc => ?_)
        | refine aw_ret ?_
        | refine aw_exit ?_
        | refine ao_op rfl ?_ ?_
        | refine aq_op rfl ?_ ?_
        | refine at_op rfl ?_ ?_
        | refine am_op rfl ?_ rfl ?_
        | refine ao_box rfl trivial rfl rfl rfl ?_
        | refine ao_alloc rfl rfl rfl rfl ?_
        | refine ao_store rfl rfl trivial rfl trivial rfl rfl rfl rfl rfl ?_
            
        | (show allP _; first | trivial | exact ob1 (fun h => h) | exact ob2 (fun h => h) (fun h => h) | exact ob1 (fun h => ⟨h.1, trivial⟩) | (simp only [allP, obg, grd, allT, InR, decide_eq_true_eq, Bool.and_eq_true, Bool.not_eq_true', decide_eq_false_iff_not, List.nil_append, List.cons_append, List.append_nil, and_true, true_and]; first | omega | (intros; omega) | (simp only [Blk.len, List.length_set, List.length_append, List.length_cons, List.length_nil]; first | omega | (intros; omega)) | (refine ⟨?_, ?_⟩ <;> intros <;> first | (with_reducible assumption) | omega) | ((repeat' refine And.intro ?_ ?_) <;> (intros; first | (with_reducible assumption) | omega | (simp only [Blk.len, List.length_set, List.length_append, List.length_cons, List.length_nil]; omega))) | ((try simp only [Bool.or_eq_true, Bool.or_eq_false_iff, Bool.and_eq_true, Bool.and_eq_false_iff, decide_eq_true_eq, decide_eq_false_iff_not, Bool.not_eq_true', Bool.not_eq_false'] at *); (try simp only [Blk.len] at *); first | omega | (intros; omega)) | (simp_all; done))))
      all_goals try (exfalso; omega)
      refine an_q 0 (by kernel_rfl) (by kernel_rfl) rfl rfl (by first | trivial | exact ob1 (fun h => h) | exact ob2 (fun h => h) (fun h => h) | exact ob1 (fun h => ⟨h.1, trivial⟩) | (simp only [allP, obg, grd, allT, InR, decide_eq_true_eq, Bool.and_eq_true, Bool.not_eq_true', decide_eq_false_iff_not, List.nil_append, List.cons_append, List.append_nil, and_true, true_and]; first | omega | (intros; omega) | (simp only [Blk.len, List.length_set, List.length_append, List.length_cons, List.length_nil]; first | omega | (intros; omega)) | (refine ⟨?_, ?_⟩ <;> intros <;> first | (with_reducible assumption) | omega) | ((repeat' refine And.intro ?_ ?_) <;> (intros; first | (with_reducible assumption) | omega | (simp only [Blk.len, List.length_set, List.length_append, List.length_cons, List.length_nil]; omega))) | ((try simp only [Bool.or_eq_true, Bool.or_eq_false_iff, Bool.and_eq_true, Bool.and_eq_false_iff, decide_eq_true_eq, decide_eq_false_iff_not, Bool.not_eq_true', Bool.not_eq_false'] at *); (try simp only [Blk.len] at *); first | omega | (intros; omega)) | (simp_all; done))) (by kernel_rfl) ?_
      refine an_q 1 (by kernel_rfl) (by kernel_rfl) rfl rfl (by first | trivial | exact ob1 (fun h => h) | exact ob2 (fun h => h) (fun h => h) | exact ob1 (fun h => ⟨h.1, trivial⟩) | (simp only [allP, obg, grd, allT, InR, decide_eq_true_eq, Bool.and_eq_true, Bool.not_eq_true', decide_eq_false_iff_not, List.nil_append, List.cons_append, List.append_nil, and_true, true_and]; first | omega | (intros; omega) | (simp only [Blk.len, List.length_set, List.length_append, List.length_cons, List.length_nil]; first | omega | (intros; omega)) | (refine ⟨?_, ?_⟩ <;> intros <;> first | (with_reducible assumption) | omega) | ((repeat' refine And.intro ?_ ?_) <;> (intros; first | (with_reducible assumption) | omega | (simp only [Blk.len, List.length_set, List.length_append, List.length_cons, List.length_nil]; omega))) | ((try simp only [Bool.or_eq_true, Bool.or_eq_false_iff, Bool.and_eq_true, Bool.and_eq_false_iff, decide_eq_true_eq, decide_eq_false_iff_not, Bool.not_eq_true', Bool.not_eq_false'] at *); (try simp only [Blk.len] at *); first | omega | (intros; omega)) | (simp_all; done))) (by kernel_rfl) ?_
      refine an_q 2 (by kernel_rfl) (by kernel_rfl) rfl rfl (by first | trivial | exact ob1 (fun h => h) | exact ob2 (fun h => h) (fun h => h) | exact ob1 (fun h => ⟨h.1, trivial⟩) | (simp only [allP, obg, grd, allT, InR, decide_eq_true_eq, Bool.and_eq_true, Bool.not_eq_true', decide_eq_false_iff_not, List.nil_append, List.cons_append, List.append_nil, and_true, true_and]; first | omega | (intros; omega) | (simp only [Blk.len, List.length_set, List.length_append, List.length_cons, List.length_nil]; first | omega | (intros; omega)) | (refine ⟨?_, ?_⟩ <;> intros <;> first | (with_reducible assumption) | omega) | ((repeat' refine And.intro ?_ ?_) <;> (intros; first | (with_reducible assumption) | omega | (simp only [Blk.len, List.length_set, List.length_append, List.length_cons, List.length_nil]; omega))) | ((try simp only [Bool.or_eq_true, Bool.or_eq_false_iff, Bool.and_eq_true, Bool.and_eq_false_iff, decide_eq_true_eq, decide_eq_false_iff_not, Bool.not_eq_true', Bool.not_eq_false'] at *); (try simp only [Blk.len] at *); first | omega | (intros; omega)) | (simp_all; done))) (by kernel_rfl) ?_
      refine an_q 3 (by kernel_rfl) (by kernel_rfl) rfl rfl (by first | trivial | exact ob1 (fun h => h) | exact ob2 (fun h => h) (fun h => h) | exact ob1 (fun h => ⟨h.1, trivial⟩) | (simp only [allP, obg, grd, allT, InR, decide_eq_true_eq, Bool.and_eq_true, Bool.not_eq_true', decide_eq_false_iff_not, List.nil_append, List.cons_append, List.append_nil, and_true, true_and]; first | omega | (intros; omega) | (simp only [Blk.len, List.length_set, List.length_append, List.length_cons, List.length_nil]; first | omega | (intros; omega)) | (refine ⟨?_, ?_⟩ <;> intros <;> first | (with_reducible assumption) | omega) | ((repeat' refine And.intro ?_ ?_) <;> (intros; first | (with_reducible assumption) | omega | (simp only [Blk.len, List.length_set, List.length_append, List.length_cons, List.length_nil]; omega))) | ((try simp only [Bool.or_eq_true, Bool.or_eq_false_iff, Bool.and_eq_true, Bool.and_eq_false_iff, decide_eq_true_eq, decide_eq_false_iff_not, Bool.not_eq_true', Bool.not_eq_false'] at *); (try simp only [Blk.len] at *); first | omega | (intros; omega)) | (simp_all; done))) (by kernel_rfl) ?_
      refine an_q 5 (by kernel_rfl) (by kernel_rfl) rfl rfl (by first | trivial | exact ob1 (fun h => h) | exact ob2 (fun h => h) (fun h => h) | exact ob1 (fun h => ⟨h.1, trivial⟩) | (simp only [allP, obg, grd, allT, InR, decide_eq_true_eq, Bool.and_eq_true, Bool.not_eq_true', decide_eq_false_iff_not, List.nil_append, List.cons_append, List.append_nil, and_true, true_and]; first | omega | (intros; omega) | (simp only [Blk.len, List.length_set, List.length_append, List.length_cons, List.length_nil]; first | omega | (intros; omega)) | (refine ⟨?_, ?_⟩ <;> intros <;> first | (with_reducible assumption) | omega) | ((repeat' refine And.intro ?_ ?_) <;> (intros; first | (with_reducible assumption) | omega | (simp only [Blk.len, List.length_set, List.length_append, List.length_cons, List.length_nil]; omega))) | ((try simp only [Bool.or_eq_true, Bool.or_eq_false_iff, Bool.and_eq_true, Bool.and_eq_false_iff, decide_eq_true_eq, decide_eq_false_iff_not, Bool.not_eq_true', Bool.not_eq_false'] at *); (try simp only [Blk.len] at *); first | omega | (intros; omega)) | (simp_all; done))) (by kernel_rfl) ?_
      refine an_q 6 (by kernel_rfl) (by kernel_rfl) rfl rfl (by first | trivial | exact ob1 (fun h => h) | exact ob2 (fun h => h) (fun h => h) | exact ob1 (fun h => ⟨h.1, trivial⟩) | (simp only [allP, obg, grd, allT, InR, decide_eq_true_eq, Bool.and_eq_true, Bool.not_eq_true', decide_eq_false_iff_not, List.nil_append, List.cons_append, List.append_nil, and_true, true_and]; first | omega | (intros; omega) | (simp only [Blk.len, List.length_set, List.length_append, List.length_cons, List.length_nil]; first | omega | (intros; omega)) | (refine ⟨?_, ?_⟩ <;> intros <;> first | (with_reducible assumption) | omega) | ((repeat' refine And.intro ?_ ?_) <;> (intros; first | (with_reducible assumption) | omega | (simp only [Blk.len, List.length_set, List.length_append, List.length_cons, List.length_nil]; omega))) | ((try simp only [Bool.or_eq_true, Bool.or_eq_false_iff, Bool.and_eq_true, Bool.and_eq_false_iff, decide_eq_true_eq, decide_eq_false_iff_not, Bool.not_eq_true', Bool.not_eq_false'] at *); (try simp only [Blk.len] at *); first | omega | (intros; omega)) | (simp_all; done))) (by kernel_rfl) ?_
      refine an_1 4 (by kernel_rfl) rfl ?_
      refine ax_call rfl (r_Tail _ _) rfl (by first | trivial | exact ob1 (fun h => h) | exact ob2 (fun h => h) (fun h => h) | exact ob1 (fun h => ⟨h.1, trivial⟩) | (simp only [allP, obg, grd, allT, InR, decide_eq_true_eq, Bool.and_eq_true, Bool.not_eq_true', decide_eq_false_iff_not, List.nil_append, List.cons_append, List.append_nil, and_true, true_and]; first | omega | (intros; omega) | (simp only [Blk.len, List.length_set, List.length_append, List.length_cons, List.length_nil]; first | omega | (intros; omega)) | (refine ⟨?_, ?_⟩ <;> intros <;> first | (with_reducible assumption) | omega) | ((repeat' refine And.intro ?_ ?_) <;> (intros; first | (with_reducible assumption) | omega | (simp only [Blk.len, List.length_set, List.length_append, List.length_cons, List.length_nil]; omega))) | ((try simp only [Bool.or_eq_true, Bool.or_eq_false_iff, Bool.and_eq_true, Bool.and_eq_false_iff, decide_eq_true_eq, decide_eq_false_iff_not, Bool.not_eq_true', Bool.not_eq_false'] at *); (try simp only [Blk.len] at *); first | omega | (intros; omega)) | (simp_all; done))) ?_
      refine an_1 7 (by kernel_rfl) rfl ?_
      refine ax_callR rfl (hP2) trivial rfl rfl ?_
      refine an_q 8 (by kernel_rfl) (by kernel_rfl) rfl rfl (by first | trivial | exact ob1 (fun h => h) | exact ob2 (fun h => h) (fun h => h) | exact ob1 (fun h => ⟨h.1, trivial⟩) | (simp only [allP, obg, grd, allT, InR, decide_eq_true_eq, Bool.and_eq_true, Bool.not_eq_true', decide_eq_false_iff_not, List.nil_append, List.cons_append, List.append_nil, and_true, true_and]; first | omega | (intros; omega) | (simp only [Blk.len, List.length_set, List.length_append, List.length_cons, List.length_nil]; first | omega | (intros; omega)) | (refine ⟨?_, ?_⟩ <;> intros <;> first | (with_reducible assumption) | omega) | ((repeat' refine And.intro ?_ ?_) <;> (intros; first | (with_reducible assumption) | omega | (simp only [Blk.len, List.length_set, List.length_append, List.length_cons, List.length_nil]; omega))) | ((try simp only [Bool.or_eq_true, Bool.or_eq_false_iff, Bool.and_eq_true, Bool.and_eq_false_iff, decide_eq_true_eq, decide_eq_false_iff_not, Bool.not_eq_true', Bool.not_eq_false'] at *); (try simp only [Blk.len] at *); first | omega | (intros; omega)) | (simp_all; done))) (by kernel_rfl) ?_
      refine an_q 9 (by kernel_rfl) (by kernel_rfl) rfl rfl (by first | trivial | exact ob1 (fun h => h) | exact ob2 (fun h => h) (fun h => h) | exact ob1 (fun h => ⟨h.1, trivial⟩) | (simp only [allP, obg, grd, allT, InR, decide_eq_true_eq, Bool.and_eq_true, Bool.not_eq_true', decide_eq_false_iff_not, List.nil_append, List.cons_append, List.append_nil, and_true, true_and]; first | omega | (intros; omega) | (simp only [Blk.len, List.length_set, List.length_append, List.length_cons, List.length_nil]; first | omega | (intros; omega)) | (refine ⟨?_, ?_⟩ <;> intros <;> first | (with_reducible assumption) | omega) | ((repeat' refine And.intro ?_ ?_) <;> (intros; first | (with_reducible assumption) | omega | (simp only [Blk.len, List.length_set, List.length_append, List.length_cons, List.length_nil]; omega))) | ((try simp only [Bool.or_eq_true, Bool.or_eq_false_iff, Bool.and_eq_true, Bool.and_eq_false_iff, decide_eq_true_eq, decide_eq_false_iff_not, Bool.not_eq_true', Bool.not_eq_false'] at *); (try simp only [Blk.len] at *); first | omega | (intros; omega)) | (simp_all; done))) (by kernel_rfl) ?_
      refine an_q 10 (by kernel_rfl) (by kernel_rfl) rfl rfl (by first | trivial | exact ob1 (fun h => h) | exact ob2 (fun h => h) (fun h => h) | exact ob1 (fun h => ⟨h.1, trivial⟩) | (simp only [allP, obg, grd, allT, InR, decide_eq_true_eq, Bool.and_eq_true, Bool.not_eq_true', decide_eq_false_iff_not, List.nil_append, List.cons_append, List.append_nil, and_true, true_and]; first | omega | (intros; omega) | (simp only [Blk.len, List.length_set, List.length_append, List.length_cons, List.length_nil]; first | omega | (intros; omega)) | (refine ⟨?_, ?_⟩ <;> intros <;> first | (with_reducible assumption) | omega) | ((repeat' refine And.intro ?_ ?_) <;> (intros; first | (with_reducible assumption) | omega | (simp only [Blk.len, List.length_set, List.length_append, List.length_cons, List.length_nil]; omega))) | ((try simp only [Bool.or_eq_true, Bool.or_eq_false_iff, Bool.and_eq_true, Bool.and_eq_false_iff, decide_eq_true_eq, decide_eq_false_iff_not, Bool.not_eq_true', Bool.not_eq_false'] at *); (try simp only [Blk.len] at *); first | omega | (intros; omega)) | (simp_all; done))) (by kernel_rfl) ?_
      refine an_q 11 (by kernel_rfl) (by kernel_rfl) rfl rfl (by first | trivial | exact ob1 (fun h => h) | exact ob2 (fun h => h) (fun h => h) | exact ob1 (fun h => ⟨h.1, trivial⟩) | (simp only [allP, obg, grd, allT, InR, decide_eq_true_eq, Bool.and_eq_true, Bool.not_eq_true', decide_eq_false_iff_not, List.nil_append, List.cons_append, List.append_nil, and_true, true_and]; first | omega | (intros; omega) | (simp only [Blk.len, List.length_set, List.length_append, List.length_cons, List.length_nil]; first | omega | (intros; omega)) | (refine ⟨?_, ?_⟩ <;> intros <;> first | (with_reducible assumption) | omega) | ((repeat' refine And.intro ?_ ?_) <;> (intros; first | (with_reducible assumption) | omega | (simp only [Blk.len, List.length_set, List.length_append, List.length_cons, List.length_nil]; omega))) | ((try simp only [Bool.or_eq_true, Bool.or_eq_false_iff, Bool.and_eq_true, Bool.and_eq_false_iff, decide_eq_true_eq, decide_eq_false_iff_not, Bool.not_eq_true', Bool.not_eq_false'] at *); (try simp only [Blk.len] at *); first | omega | (intros; omega)) | (simp_all; done))) (by kernel_rfl) ?_
      refine an_q 12 (by kernel_rfl) (by kernel_rfl) rfl rfl (by first | trivial | exact ob1 (fun h => h) | exact ob2 (fun h => h) (fun h => h) | exact ob1 (fun h => ⟨h.1, trivial⟩) | (simp only [allP, obg, grd, allT, InR, decide_eq_true_eq, Bool.and_eq_true, Bool.not_eq_true', decide_eq_false_iff_not, List.nil_append, List.cons_append, List.append_nil, and_true, true_and]; first | omega | (intros; omega) | (simp only [Blk.len, List.length_set, List.length_append, List.length_cons, List.length_nil]; first | omega | (intros; omega)) | (refine ⟨?_, ?_⟩ <;> intros <;> first | (with_reducible assumption) | omega) | ((repeat' refine And.intro ?_ ?_) <;> (intros; first | (with_reducible assumption) | omega | (simp only [Blk.len, List.length_set, List.length_append, List.length_cons, List.length_nil]; omega))) | ((try simp only [Bool.or_eq_true, Bool.or_eq_false_iff, Bool.and_eq_true, Bool.and_eq_false_iff, decide_eq_true_eq, decide_eq_false_iff_not, Bool.not_eq_true', Bool.not_eq_false'] at *); (try simp only [Blk.len] at *); first | omega | (intros; omega)) | (simp_all; done))) (by kernel_rfl) ?_
      refine an_nil (by kernel_rfl) ?_
      repeat' (first
      
        | refine aw_seq ?_
        | refine aw_region ?_
        | refine aw_region_q (by kernel_rfl) (by kernel_rfl) ?_
        | refine aw_block ?_
        | refine ao_nil ?_
        | refine ao_op rfl trivial ?_
        | refine aq_nil ?_
        | refine aq_op rfl trivial ?_
        | refine at_nil ?_
        | refine at_op rfl trivial ?_
        | refine am_nil ?_
        | refine am_op rfl trivial rfl ?_
        | refine aw_skip ?_
        | refine aw_condT rfl trivial ?_
        | refine aw_condF rfl trivial ?_
        | refine aw_condD rfl trivial (fun hc => ?_) (fun hc => ?_)
        | refine aw_condN rfl trivial (fun hc => ?_) (fun hc => ?_)
        | refine aw_condNB rfl trivial (fun hc => ?_) (fun hc => ?_)
        | refine aw_cond rfl trivial (fun hc => ?_) (fun hc => ?_)
        | refine aw_ret ?_
        | refine aw_exit ?_
        | refine ao_op rfl ?_ ?_
        | refine aq_op rfl ?_ ?_
        | refine at_op rfl ?_ ?_
        | refine am_op rfl ?_ rfl ?_
        | refine ao_box rfl trivial rfl rfl rfl ?_
        | refine ao_alloc rfl rfl rfl rfl ?_
        | refine ao_store rfl rfl trivial rfl trivial rfl rfl rfl rfl rfl ?_
        | (first | refine ao_call rfl (r_Up down _ hok) rfl ?_ ?_ | refine aq_call rfl (r_Up down _ hok) rfl ?_ ?_)
        | refine ao_slLo rfl rfl rfl rfl (by first | trivial | exact ob1 (fun h => h)) rfl (by first | trivial | exact ob1 (fun h => h)) rfl rfl (fun _ => ⟨by omega, by simp [Blk.len]; omega⟩) rfl ?_
        | (first | refine ao_call rfl (hS) rfl ?_ ?_ | refine aq_call rfl (hS) rfl ?_ ?_)
        | (show allP _; first | trivial | exact ob1 (fun h => h) | exact ob2 (fun h => h) (fun h => h) | exact ob1 (fun h => ⟨h.1, trivial⟩) | (simp only [allP, obg, grd, allT, InR, decide_eq_true_eq, Bool.and_eq_true, Bool.not_eq_true', decide_eq_false_iff_not, List.nil_append, List.cons_append, List.append_nil, and_true, true_and]; first | omega | (intros; omega) | (simp only [Blk.len, List.length_set, List.length_append, List.length_cons, List.length_nil]; first | omega | (intros; omega)) | (refine ⟨?_, ?_⟩ <;> intros <;> first | (with_reducible assumption) | omega) | ((repeat' refine And.intro ?_ ?_) <;> (intros; first | (with_reducible assumption) | omega | (simp only [Blk.len, List.length_set, List.length_append, List.length_cons, List.length_nil]; omega))) | ((try simp only [Bool.or_eq_true, Bool.or_eq_false_iff, Bool.and_eq_true, Bool.and_eq_false_iff, decide_eq_true_eq, decide_eq_false_iff_not, Bool.not_eq_true', Bool.not_eq_false'] at *); (try simp only [Blk.len] at *); first | omega | (intros; omega)) | (simp_all; done))))
      · exfalso
        simp only [Int.toNat_natCast, up] at hc
        simp at hc
      · refine ⟨i + 1, by omega, by omega, ?_⟩
        refine weak_to ?_ ?_ rfl rfl
        · repeat (first | exact subF_nil | refine subF_cons (by first | rfl | (simp [look]; done)) ?_)
        · repeat (first | exact subS_nil | refine subS_cons (by first | rfl | (simp; done)) ?_)
    · repeat' (first
      
        | refine aw_seq ?_
        | refine aw_region ?_
        | refine aw_region_q (by kernel_rfl) (by kernel_rfl) ?_
        | refine aw_block ?_
        | refine ao_nil ?_
        | refine ao_op rfl trivial ?_
        | refine aq_nil ?_
        | refine aq_op rfl trivial ?_
        | refine at_nil ?_
        | refine at_op rfl trivial ?_
        | refine am_nil ?_
        | refine am_op rfl trivial rfl ?_
        | refine aw_skip ?_
        | refine aw_condT rfl trivial ?_
        | refine aw_condF rfl trivial ?_
        | refine aw_condD rfl trivial (fun hc => ?_) (fun hc => ?_)
        | refine aw_condN rfl trivial (fun hc => ?_) (fun hc => ?_)
        | refine aw_condNB rfl trivial (fun hc => ?_) (fun hc => ?_)
        | refine aw_cond rfl trivial (fun hc => ?_) (fun hc => ?_)
        | refine aw_ret ?_
        | refine aw_exit ?_
        | refine ao_op rfl ?_ ?_
        | refine aq_op rfl ?_ ?_
        | refine at_op rfl ?_ ?_
        | refine am_op rfl ?_ rfl ?_
        | refine ao_box rfl trivial rfl rfl rfl ?_
        | refine ao_alloc rfl rfl rfl rfl ?_
        | refine ao_store rfl rfl trivial rfl trivial rfl rfl rfl rfl rfl ?_
        | (exfalso; omega)
        | (show allP _; first | trivial | exact ob1 (fun h => h) | exact ob2 (fun h => h) (fun h => h) | exact ob1 (fun h => ⟨h.1, trivial⟩) | (simp only [allP, obg, grd, allT, InR, decide_eq_true_eq, Bool.and_eq_true, Bool.not_eq_true', decide_eq_false_iff_not, List.nil_append, List.cons_append, List.append_nil, and_true, true_and]; first | omega | (intros; omega) | (simp only [Blk.len, List.length_set, List.length_append, List.length_cons, List.length_nil]; first | omega | (intros; omega)) | (refine ⟨?_, ?_⟩ <;> intros <;> first | (with_reducible assumption) | omega) | ((repeat' refine And.intro ?_ ?_) <;> (intros; first | (with_reducible assumption) | omega | (simp only [Blk.len, List.length_set, List.length_append, List.length_cons, List.length_nil]; omega))) | ((try simp only [Bool.or_eq_true, Bool.or_eq_false_iff, Bool.and_eq_true, Bool.and_eq_false_iff, decide_eq_true_eq, decide_eq_false_iff_not, Bool.not_eq_true', Bool.not_eq_false'] at *); (try simp only [Blk.len] at *); first | omega | (intros; omega)) | (simp_all; done))))
      (refine fin_ret ?_; exact ret1 (by rfl) (by rfl) (by rfl))
  · repeat' (first
    
      | refine aw_seq ?_
      | refine aw_region ?_
      | refine aw_region_q (by kernel_rfl) (by kernel_rfl) ?_
      | refine aw_block ?_
      | refine ao_nil ?_
      | refine ao_op rfl trivial ?_
      | refine aq_nil ?_
      | refine aq_op rfl trivial ?_
      | refine at_nil ?_
      | refine at_op rfl trivial ?_
      | refine am_nil ?_
      | refine am_op rfl trivial rfl ?_
      | refine aw_skip ?_
      | refine aw_condT rfl trivial ?_
      | refine aw_condF rfl trivial ?_
      | refine aw_condD rfl trivial (fun hc => ?_) (fun hc => ?_)
      | refine aw_condN rfl trivial (fun hc => ?_) (fun hc => ?_)
      | refine aw_condNB rfl trivial (fun hc => ?_) (fun hc => ?_)
      | refine aw_cond rfl trivial (fun hc => ?_) (fun hc => ?_)
      | refine aw_ret ?_
      | refine aw_exit ?_
      | refine ao_op rfl ?_ ?_
      | refine aq_op rfl ?_ ?_
      | refine at_op rfl ?_ ?_
      | refine am_op rfl ?_ rfl ?_
      | refine ao_box rfl trivial rfl rfl rfl ?_
      | refine ao_alloc rfl rfl rfl rfl ?_
      | refine ao_store rfl rfl trivial rfl trivial rfl rfl rfl rfl rfl ?_
      | (first | refine ao_call rfl (l_awake) rfl ?_ ?_ | refine aq_call rfl (l_awake) rfl ?_ ?_)
      | (first | refine ao_call rfl (l_large _ _) rfl ?_ ?_ | refine aq_call rfl (l_large _ _) rfl ?_ ?_)
      | refine ao_callR rfl (c_Path _ _ _ _) trivial rfl rfl ?_
      | (show allP _; first | trivial | exact ob1 (fun h => h) | exact ob2 (fun h => h) (fun h => h) | exact ob1 (fun h => ⟨h.1, trivial⟩) | (simp only [allP, obg, grd, allT, InR, decide_eq_true_eq, Bool.and_eq_true, Bool.not_eq_true', decide_eq_false_iff_not, List.nil_append, List.cons_append, List.append_nil, and_true, true_and]; first | omega | (intros; omega) | (simp only [Blk.len, List.length_set, List.length_append, List.length_cons, List.length_nil]; first | omega | (intros; omega)) | (refine ⟨?_, ?_⟩ <;> intros <;> first | (with_reducible assumption) | omega) | ((repeat' refine And.intro ?_ ?_) <;> (intros; first | (with_reducible assumption) | omega | (simp only [Blk.len, List.length_set, List.length_append, List.length_cons, List.length_nil]; omega))) | ((try simp only [Bool.or_eq_true, Bool.or_eq_false_iff, Bool.and_eq_true, Bool.and_eq_false_iff, decide_eq_true_eq, decide_eq_false_iff_not, Bool.not_eq_true', Bool.not_eq_false'] at *); (try simp only [Blk.len] at *); first | omega | (intros; omega)) | (simp_all; done))))
    · (refine fin_ret ?_; exact ret1 (by rfl) (by rfl) (by rfl))
    · (refine fin_ret ?_; exact ret1 (by rfl) (by (simp [Blk.len, pathL, he])) (by rfl))
    · exact absurd (by assumption) he

end Go.Proofs.Ytnmajhoehmlcjaa

/- Laws of layer 11: both. -/
namespace Go.Proofs.Ytnmajhoehmlcjaa
open Go.Wk

set_option maxHeartbeats 1000000 in
theorem l_SpfBoth (t : Topo) (down : List Bool) : Ctr Try.prog 9 [topoD t, boolsD down] [] (.d (bD true)) := by
  refine spec_of envOK (enters_of Try.func9 (by kernel_rfl) (by kernel_rfl)) Try.func9 rfl rfl _ rfl (Nat.le_of_ble_eq_true rfl) rfl fun w0 => ?_
  repeat' (first
  
    | refine aw_seq ?_
    | refine aw_region ?_
    | refine aw_region_q (by kernel_rfl) (by kernel_rfl) ?_
    | refine aw_block ?_
    | refine ao_nil ?_
    | refine ao_op rfl trivial ?_
    | refine aq_nil ?_
    | refine aq_op rfl trivial ?_
    | refine at_nil ?_
    | refine at_op rfl trivial ?_
    | refine am_nil ?_
    | refine am_op rfl trivial rfl ?_
    | refine aw_skip ?_
    | refine aw_condT rfl trivial ?_
    | refine aw_condF rfl trivial ?_
    | refine aw_condD rfl trivial (fun hc => ?_) (fun hc => ?_)
    | refine aw_condN rfl trivial (fun hc => ?_) (fun hc => ?_)
    | refine aw_condNB rfl trivial (fun hc => ?_) (fun hc => ?_)
    | refine aw_cond rfl trivial (fun hc => ?_) (fun hc => ?_)
    | refine aw_ret ?_
    | refine aw_exit ?_
    | refine ao_op rfl ?_ ?_
    | refine aq_op rfl ?_ ?_
    | refine at_op rfl ?_ ?_
    | refine am_op rfl ?_ rfl ?_
    | refine ao_box rfl trivial rfl rfl rfl ?_
    | refine ao_alloc rfl rfl rfl rfl ?_
    | refine ao_store rfl rfl trivial rfl trivial rfl rfl rfl rfl rfl ?_
    | (first | refine ao_call rfl (l_awake) rfl ?_ ?_ | refine aq_call rfl (l_awake) rfl ?_ ?_)
    | (first | refine ao_call rfl (l_large _ _) rfl ?_ ?_ | refine aq_call rfl (l_large _ _) rfl ?_ ?_)
    | (first | refine ao_call rfl (r_Fits _ _) rfl ?_ ?_ | refine aq_call rfl (r_Fits _ _) rfl ?_ ?_)
    | (show allP _; first | trivial | exact ob1 (fun h => h) | exact ob2 (fun h => h) (fun h => h) | exact ob1 (fun h => ⟨h.1, trivial⟩) | (simp only [allP, obg, grd, allT, InR, decide_eq_true_eq, Bool.and_eq_true, Bool.not_eq_true', decide_eq_false_iff_not, List.nil_append, List.cons_append, List.append_nil, and_true, true_and]; first | omega | (intros; omega) | (simp only [Blk.len, List.length_set, List.length_append, List.length_cons, List.length_nil]; first | omega | (intros; omega)) | (refine ⟨?_, ?_⟩ <;> intros <;> first | (with_reducible assumption) | omega) | ((repeat' refine And.intro ?_ ?_) <;> (intros; first | (with_reducible assumption) | omega | (simp only [Blk.len, List.length_set, List.length_append, List.length_cons, List.length_nil]; omega))) | ((try simp only [Bool.or_eq_true, Bool.or_eq_false_iff, Bool.and_eq_true, Bool.and_eq_false_iff, decide_eq_true_eq, decide_eq_false_iff_not, Bool.not_eq_true', Bool.not_eq_false'] at *); (try simp only [Blk.len] at *); first | omega | (intros; omega)) | (simp_all; done))))
  · (refine fin_ret ?_; exact ret1 (by rfl) (by rfl) (by rfl))
  have hf : fitsB t down = true := by
    simp only [Bool.or_eq_false_iff, Bool.not_eq_false', decide_eq_false_iff_not] at hc
    exact hc.1.2
  have hv := fitsB_v hf
  have hnn := validB_head hv
  refine aw_loop (ι := Nat) (fun i => [(29, [], .d (iD i)), (28, [], .d (iD t.nodes)), (2, [], .ptr 0 0), (1, [], .d (boolsD down))]) (fun _ => [tBlk t])
    (fun i => i ≤ t.nodes.toNat) (fun i => t.nodes.toNat - i) 0 (by simp) (fun _ => Nat.le_of_ble_eq_true rfl) (by refine weak_to ?_ ?_ rfl rfl
                                                                                                                   · repeat (first | exact subF_nil | refine subF_cons (by first | rfl | (simp [look]; done)) ?_)
                                                                                                                   · repeat (first | exact subS_nil | refine subS_cons (by first | rfl | (simp; done)) ?_)) fun i hi => ?_
  by_cases hil : (i : Int) < t.nodes
  · have es := errS_ok hf (by omega : (0 : Int) ≤ i) hil
    have hA := distL_is (fr := true) es
    have hF := c_From t down i
    rw [es] at hF
    have hal := hA.len
    generalize ha : distL t down i true = a at *
    repeat' (first
    
      | refine aw_seq ?_
      | refine aw_region ?_
      | refine aw_region_q (by kernel_rfl) (by kernel_rfl) ?_
      | refine aw_block ?_
      | refine ao_nil ?_
      | refine ao_op rfl trivial ?_
      | refine aq_nil ?_
      | refine aq_op rfl trivial ?_
      | refine at_nil ?_
      | refine at_op rfl trivial ?_
      | refine am_nil ?_
      | refine am_op rfl trivial rfl ?_
      | refine aw_skip ?_
      | refine aw_condT rfl trivial ?_
      | refine aw_condF rfl trivial ?_
      | refine aw_condD rfl trivial (fun hc => ?_) (fun hc => ?_)
      | refine aw_condN rfl trivial (fun hc => ?_) (fun hc => ?_)
      | refine aw_condNB rfl trivial (fun hc => ?_) (fun hc => ?_)
      | refine aw_cond rfl trivial (fun hc => ?_) (fun hc => ?_)
      | refine aw_ret ?_
      | refine aw_exit ?_
      | refine ao_op rfl ?_ ?_
      | refine aq_op rfl ?_ ?_
      | refine at_op rfl ?_ ?_
      | refine am_op rfl ?_ rfl ?_
      | refine ao_box rfl trivial rfl rfl rfl ?_
      | refine ao_alloc rfl rfl rfl rfl ?_
      | refine ao_store rfl rfl trivial rfl trivial rfl rfl rfl rfl rfl ?_
      | (exfalso; omega)
      | refine ao_callR rfl (hF) trivial rfl rfl ?_
      | (show allP _; first | trivial | exact ob1 (fun h => h) | exact ob2 (fun h => h) (fun h => h) | exact ob1 (fun h => ⟨h.1, trivial⟩) | (simp only [allP, obg, grd, allT, InR, decide_eq_true_eq, Bool.and_eq_true, Bool.not_eq_true', decide_eq_false_iff_not, List.nil_append, List.cons_append, List.append_nil, and_true, true_and]; first | omega | (intros; omega) | (simp only [Blk.len, List.length_set, List.length_append, List.length_cons, List.length_nil]; first | omega | (intros; omega)) | (refine ⟨?_, ?_⟩ <;> intros <;> first | (with_reducible assumption) | omega) | ((repeat' refine And.intro ?_ ?_) <;> (intros; first | (with_reducible assumption) | omega | (simp only [Blk.len, List.length_set, List.length_append, List.length_cons, List.length_nil]; omega))) | ((try simp only [Bool.or_eq_true, Bool.or_eq_false_iff, Bool.and_eq_true, Bool.and_eq_false_iff, decide_eq_true_eq, decide_eq_false_iff_not, Bool.not_eq_true', Bool.not_eq_false'] at *); (try simp only [Blk.len] at *); first | omega | (intros; omega)) | (simp_all; done))))
    · simp [Blk.len, hal] at hc
    refine aw_loop (ι := Nat) (fun j => [(50, [], .d (iD j)), (49, [], .d (iD t.nodes)), (6, [], .own 1), (5, [], .d (iD i)), (29, [], .d (iD i)), (28, [], .d (iD t.nodes)), (2, [], .ptr 0 0), (1, [], .d (boolsD down))]) (fun _ => [tBlk t, .ints .i64 a])
      (fun j => j ≤ t.nodes.toNat) (fun j => t.nodes.toNat - j) 0 (by simp) (fun _ => Nat.le_of_ble_eq_true rfl) (by refine weak_to ?_ ?_ rfl rfl
                                                                                                                     · repeat (first | exact subF_nil | refine subF_cons (by first | rfl | (simp [look]; done)) ?_)
                                                                                                                     · repeat (first | exact subS_nil | refine subS_cons (by first | rfl | (simp; done)) ?_)) fun j hj => ?_
    by_cases hjl : (j : Int) < t.nodes
    · have es2 := errS_ok hf (by omega : (0 : Int) ≤ j) hjl
      have hB := distL_is (fr := false) es2
      have hbth := dist_both hv (by omega) hil (by omega) hjl hA hB
      have hD := c_Dist t down j
      rw [es2] at hD
      have hbl := hB.len
      generalize distL t down j false = b at *
      simp only [gI] at hbth
      repeat' (first
      
        | refine aw_seq ?_
        | refine aw_region ?_
        | refine aw_region_q (by kernel_rfl) (by kernel_rfl) ?_
        | refine aw_block ?_
        | refine ao_nil ?_
        | refine ao_op rfl trivial ?_
        | refine aq_nil ?_
        | refine aq_op rfl trivial ?_
        | refine at_nil ?_
        | refine at_op rfl trivial ?_
        | refine am_nil ?_
        | refine am_op rfl trivial rfl ?_
        | refine aw_skip ?_
        | refine aw_condT rfl trivial ?_
        | refine aw_condF rfl trivial ?_
        | refine aw_condD rfl trivial (fun hc => ?_) (fun hc => ?_)
        | refine aw_condN rfl trivial (fun hc => ?_) (fun hc => ?_)
        | refine aw_condNB rfl trivial (fun hc => ?_) (fun hc => ?_)
        | refine aw_cond rfl trivial (fun hc => ?_) (fun hc => ?_)
        | refine aw_ret ?_
        | refine aw_exit ?_
        | refine ao_op rfl ?_ ?_
        | refine aq_op rfl ?_ ?_
        | refine at_op rfl ?_ ?_
        | refine am_op rfl ?_ rfl ?_
        | refine ao_box rfl trivial rfl rfl rfl ?_
        | refine ao_alloc rfl rfl rfl rfl ?_
        | refine ao_store rfl rfl trivial rfl trivial rfl rfl rfl rfl rfl ?_
        | (exfalso; omega)
        | refine ao_callR rfl (hD) trivial rfl rfl ?_
        | (show allP _; first | trivial | exact ob1 (fun h => h) | exact ob2 (fun h => h) (fun h => h) | exact ob1 (fun h => ⟨h.1, trivial⟩) | (simp only [allP, obg, grd, allT, InR, decide_eq_true_eq, Bool.and_eq_true, Bool.not_eq_true', decide_eq_false_iff_not, List.nil_append, List.cons_append, List.append_nil, and_true, true_and]; first | omega | (intros; omega) | (simp only [Blk.len, List.length_set, List.length_append, List.length_cons, List.length_nil]; first | omega | (intros; omega)) | (refine ⟨?_, ?_⟩ <;> intros <;> first | (with_reducible assumption) | omega) | ((repeat' refine And.intro ?_ ?_) <;> (intros; first | (with_reducible assumption) | omega | (simp only [Blk.len, List.length_set, List.length_append, List.length_cons, List.length_nil]; omega))) | ((try simp only [Bool.or_eq_true, Bool.or_eq_false_iff, Bool.and_eq_true, Bool.and_eq_false_iff, decide_eq_true_eq, decide_eq_false_iff_not, Bool.not_eq_true', Bool.not_eq_false'] at *); (try simp only [Blk.len] at *); first | omega | (intros; omega)) | (simp_all; done))))
      · exfalso
        have hbl' : ((Blk.ints .i64 b).len : Int) = t.nodes := hbl
        rw [hbl', hbth, decide_eq_true rfl, decide_eq_true rfl, decide_eq_true rfl] at hc
        cases hc
      · refine ⟨j + 1, by omega, by omega, ?_⟩
        refine weak_to ?_ ?_ rfl rfl
        · repeat (first | exact subF_nil | refine subF_cons (by first | rfl | (simp [look]; done)) ?_)
        · repeat (first | exact subS_nil | refine subS_cons (by first | rfl | (simp; done)) ?_)
    · repeat' (first
      
        | refine aw_seq ?_
        | refine aw_region ?_
        | refine aw_region_q (by kernel_rfl) (by kernel_rfl) ?_
        | refine aw_block ?_
        | refine ao_nil ?_
        | refine ao_op rfl trivial ?_
        | refine aq_nil ?_
        | refine aq_op rfl trivial ?_
        | refine at_nil ?_
        | refine at_op rfl trivial ?_
        | refine am_nil ?_
        | refine am_op rfl trivial rfl ?_
        | refine aw_skip ?_
        | refine aw_condT rfl trivial ?_
        | refine aw_condF rfl trivial ?_
        | refine aw_condD rfl trivial (fun hc => ?_) (fun hc => ?_)
        | refine aw_condN rfl trivial (fun hc => ?_) (fun hc => ?_)
        | refine aw_condNB rfl trivial (fun hc => ?_) (fun hc => ?_)
        | refine aw_cond rfl trivial (fun hc => ?_) (fun hc => ?_)
        | refine aw_ret ?_
        | refine aw_exit ?_
        | refine ao_op rfl ?_ ?_
        | refine aq_op rfl ?_ ?_
        | refine at_op rfl ?_ ?_
        | refine am_op rfl ?_ rfl ?_
        | refine ao_box rfl trivial rfl rfl rfl ?_
        | refine ao_alloc rfl rfl rfl rfl ?_
        | refine ao_store rfl rfl trivial rfl trivial rfl rfl rfl rfl rfl ?_
        | (exfalso; omega)
        | (show allP _; first | trivial | exact ob1 (fun h => h) | exact ob2 (fun h => h) (fun h => h) | exact ob1 (fun h => ⟨h.1, trivial⟩) | (simp only [allP, obg, grd, allT, InR, decide_eq_true_eq, Bool.and_eq_true, Bool.not_eq_true', decide_eq_false_iff_not, List.nil_append, List.cons_append, List.append_nil, and_true, true_and]; first | omega | (intros; omega) | (simp only [Blk.len, List.length_set, List.length_append, List.length_cons, List.length_nil]; first | omega | (intros; omega)) | (refine ⟨?_, ?_⟩ <;> intros <;> first | (with_reducible assumption) | omega) | ((repeat' refine And.intro ?_ ?_) <;> (intros; first | (with_reducible assumption) | omega | (simp only [Blk.len, List.length_set, List.length_append, List.length_cons, List.length_nil]; omega))) | ((try simp only [Bool.or_eq_true, Bool.or_eq_false_iff, Bool.and_eq_true, Bool.and_eq_false_iff, decide_eq_true_eq, decide_eq_false_iff_not, Bool.not_eq_true', Bool.not_eq_false'] at *); (try simp only [Blk.len] at *); first | omega | (intros; omega)) | (simp_all; done))))
      refine ⟨i + 1, by omega, by omega, ?_⟩
      refine weak_to ?_ ?_ rfl rfl
      · repeat (first | exact subF_nil | refine subF_cons (by first | rfl | (simp [look]; done)) ?_)
      · repeat (first | exact subS_nil | refine subS_cons (by first | rfl | (simp; done)) ?_)
  · repeat' (first
    
      | refine aw_seq ?_
      | refine aw_region ?_
      | refine aw_region_q (by kernel_rfl) (by kernel_rfl) ?_
      | refine aw_block ?_
      | refine ao_nil ?_
      | refine ao_op rfl trivial ?_
      | refine aq_nil ?_
      | refine aq_op rfl trivial ?_
      | refine at_nil ?_
      | refine at_op rfl trivial ?_
      | refine am_nil ?_
      | refine am_op rfl trivial rfl ?_
      | refine aw_skip ?_
      | refine aw_condT rfl trivial ?_
      | refine aw_condF rfl trivial ?_
      | refine aw_condD rfl trivial (fun hc => ?_) (fun hc => ?_)
      | refine aw_condN rfl trivial (fun hc => ?_) (fun hc => ?_)
      | refine aw_condNB rfl trivial (fun hc => ?_) (fun hc => ?_)
      | refine aw_cond rfl trivial (fun hc => ?_) (fun hc => ?_)
      | refine aw_ret ?_
      | refine aw_exit ?_
      | refine ao_op rfl ?_ ?_
      | refine aq_op rfl ?_ ?_
      | refine at_op rfl ?_ ?_
      | refine am_op rfl ?_ rfl ?_
      | refine ao_box rfl trivial rfl rfl rfl ?_
      | refine ao_alloc rfl rfl rfl rfl ?_
      | refine ao_store rfl rfl trivial rfl trivial rfl rfl rfl rfl rfl ?_
      | (exfalso; omega)
      | (show allP _; first | trivial | exact ob1 (fun h => h) | exact ob2 (fun h => h) (fun h => h) | exact ob1 (fun h => ⟨h.1, trivial⟩) | (simp only [allP, obg, grd, allT, InR, decide_eq_true_eq, Bool.and_eq_true, Bool.not_eq_true', decide_eq_false_iff_not, List.nil_append, List.cons_append, List.append_nil, and_true, true_and]; first | omega | (intros; omega) | (simp only [Blk.len, List.length_set, List.length_append, List.length_cons, List.length_nil]; first | omega | (intros; omega)) | (refine ⟨?_, ?_⟩ <;> intros <;> first | (with_reducible assumption) | omega) | ((repeat' refine And.intro ?_ ?_) <;> (intros; first | (with_reducible assumption) | omega | (simp only [Blk.len, List.length_set, List.length_append, List.length_cons, List.length_nil]; omega))) | ((try simp only [Bool.or_eq_true, Bool.or_eq_false_iff, Bool.and_eq_true, Bool.and_eq_false_iff, decide_eq_true_eq, decide_eq_false_iff_not, Bool.not_eq_true', Bool.not_eq_false'] at *); (try simp only [Blk.len] at *); first | omega | (intros; omega)) | (simp_all; done))))
    (refine fin_ret ?_; exact ret1 (by rfl) (by rfl) (by rfl))
end Go.Proofs.Ytnmajhoehmlcjaa

/- The seat's row kit with the later laws. -/

/- A mask with one arc more, plainly. -/
namespace Go.Proofs.Ytnmajhoehmlcjaa
open Go.Wk

def moreL (t : Topo) (down : List Bool) (a : Int) : List Bool := (down ++ (List.replicate (2 * (t.links.length : Int)).toNat false).drop down.length).set a.toNat true

section
variable {t : Topo} {down : List Bool} {a d : Int} {x y : List Int}

theorem fits_len (hf : fitsB t down = true) : down.length = 0 ∨ (down.length : Int) = 2 * t.links.length := by
  simp only [fitsB, Bool.and_eq_true, Bool.or_eq_true, decide_eq_true_eq] at hf
  exact hf.2
theorem more_len (hf : fitsB t down = true) : ((moreL t down a).length : Int) = 2 * t.links.length := by
  have := fits_len hf
  simp [moreL]; omega
theorem more_fits (hf : fitsB t down = true) : fitsB t (moreL t down a) = true := by
  simp only [fitsB, fitsB_v hf, more_len hf, decide_true, Bool.or_true, Bool.and_true]
theorem more_get (hf : fitsB t down = true) {b : Int} (a0 : 0 ≤ a) (a1 : a < 2 * t.links.length) (b0 : 0 ≤ b) (b1 : b < 2 * t.links.length) : (moreL t down a).getD b.toNat false = (decide (b = a) || (!decide (down.length = 0) && down.getD b.toNat false)) := by
  have hl := fits_len hf
  unfold moreL
  simp only [List.getD_eq_getElem?_getD]
  by_cases h : b = a
  · subst h
    rw [List.getElem?_set_self (by simp; omega)]
    simp
  · rw [List.getElem?_set_ne (by omega), decide_eq_false h, Bool.false_or]
    rcases hl with hl | hl
    · have : down = [] := List.eq_nil_of_length_eq_zero hl
      subst this
      simp
      rw [List.getElem?_replicate]
      split <;> rfl
    · rw [List.getElem?_append_left (by omega)]
      rw [decide_eq_false (by omega)]
      rfl
theorem more_up (hf : fitsB t down = true) {b : Int} (a0 : 0 ≤ a) (a1 : a < 2 * t.links.length) (b0 : 0 ≤ b) (b1 : b < 2 * t.links.length) : upB (moreL t down a) b = (upB down b && !decide (b = a)) := by
  have hl := more_len (a := a) hf
  unfold upB
  rw [more_get hf a0 a1 b0 b1, decide_eq_false (by omega)]
  cases decide (down.length = 0) <;> cases decide (b = a) <;> simp

theorem Pth.less (hf : fitsB t down = true) (a0 : 0 ≤ a) (a1 : a < 2 * t.links.length) : ∀ {L : List Int} {p q : Int}, Pth t (moreL t down a) p L q → Pth t down p L q
  | [], _, _, h => h
  | b :: r, _, _, ⟨h0, h1, h2, h3, h4, h5⟩ => ⟨h0, h1, by rw [more_up hf a0 a1 h0 h1] at h2; simp at h2; exact h2.1, h3, h4, Pth.less hf a0 a1 h5⟩

theorem more_ge (hf : fitsB t down = true) (a0 : 0 ≤ a) (a1 : a < 2 * t.links.length) (hx : IsDist t down d false x) (hy : IsDist t (moreL t down a) d false y) {n : Int} (n0 : 0 ≤ n) (n1 : n < t.nodes) (h : 0 ≤ gI y n) : 0 ≤ gI x n ∧ gI x n ≤ gI y n := by
  obtain ⟨L, hL, hc⟩ := hy.some_to (fitsB_v hf) (gI y n).toNat n n0 n1 h (by omega)
  have := hx.walk_to (fitsB_v hf) L n (Pth.less hf a0 a1 hL)
  rw [hc] at this
  exact this

theorem more_same (hf : fitsB t down = true) (a0 : 0 ≤ a) (a1 : a < 2 * t.links.length) (hx : IsDist t down d false x) (hy : IsDist t (moreL t down a) d false y) (hon : onR t down x a d = false) : y = x := by
  refine hy.unique (fitsB_v hf) ⟨hx.len, hx.self, hx.sign, fun b b0 b1 hb hn => ?_, fun i i0 i1 hne hi => ?_⟩
  · refine hx.close b b0 b1 ⟨?_, hb.2⟩ hn
    have := hb.1
    rw [more_up hf a0 a1 b0 b1] at this
    simp at this; exact this.1
  · obtain ⟨b, b0, b1, b2, b3, b4, b5⟩ := hx.ground i i0 i1 hne hi
    have hba : b ≠ a := by
      rintro rfl
      have h2 := b2.2
      simp only [nearT, farT, cond_false] at b3 b4 b5 h2
      have : onR t down x b d = true := by
        simp only [onR, transB, b2.1, b3, decide_eq_false hne, decide_eq_true b4, decide_eq_true b5, Bool.not_false, Bool.and_true, Bool.true_and, Bool.or_eq_true, decide_eq_true_eq, Bool.not_eq_true']
        exact h2
      rw [hon] at this; cases this
    exact ⟨b, b0, b1, ⟨by rw [more_up hf a0 a1 b0 b1, b2.1, decide_eq_false hba]; rfl, b2.2⟩, b3, b4, b5⟩
end
end Go.Proofs.Ytnmajhoehmlcjaa

/- The builtin copy into a row of the call's own. -/
namespace Go.Wk
open Go.RowKit

/-- A row behind a copy of the whole of yb. -/
def copyB (blk yb : Blk) : Option Blk :=
  match blk, yb with
  | .bools xs, .row 1 n get => some (.bools ((List.range n).map (fun i => match get i with | [.bool b] => b | _ => false) ++ xs.drop n))
  | _, _ => none

section
variable {P : Program} {env : Env} {w0 : Base} {n : Nat} {l0 : List Oper} {K : Fr → List Blk → Prop} {l : List Oper} {F : Fr} {S : List Blk}

theorem run_copy_all {w : World} {t tx ty e : TypeId} {i : TypeInfo} (ht : P.underlying t = some (.slice e)) (hi : P.info? e = some i) {g sLen sCap : Nat} {x : Value} {m : Nat} {news : List Value} (hs : Src P i.size tx x m news w)
    (hroom : m ≤ sLen) {cur : Array Value} {et : TypeId} (hg : w.heap[g]? = some (.cells cur et (0, 0))) (hfit : news.length ≤ cur.size) :
    (Builtin.copy_ #[t, tx] ty #[.slice (some ⟨g, 0, none⟩) sLen sCap, x]).run P w = .ok (goInt m) (w.setRow g (news ++ cur.toList.drop news.length).toArray) := by
  have hst := run_storeCells_at P g 0 et news 0 cur w hg (by simpa using hfit) hs.one
  simp only [Nat.add_zero, Nat.zero_add, List.take_zero, List.nil_append] at hst
  have hmin : Nat.min m sLen = m := Nat.min_eq_left hroom
  simp [Builtin.copy_, run_underlying ht, sizeOf, typeInfo, hi, hs.len, hmin, hs.cells, hst]

theorem steps_copy {d : Nat} {s x : Operand} {t tx ty e e' : TypeId} {pos : String} {after : Array Edge} {g : Option (Nat × Bool)} {te : TI} {i1 i2 j1 j2 : Nat} {z1 z2 : Value} {nm : Nat} {xv : V} {ps qs : List Prop} {blk yb blk' : Blk} {S' : List Blk}
    (hT : TIok P t ⟨.slice e, i1, i2, z1⟩) (hTx : TIok P tx ⟨.slice e', j1, j2, z2⟩) (he : TIok P e te)
    (hs : rd F [] s = some (.own nm, ps)) (hps : allP ps) (hx : rd F [] x = some (xv, qs)) (hqs : allP qs) (hblk : nthF S nm = some blk) (hrow : blk.isRow = true) (hy : srcB S xv = some yb) (hyr : yb.isRow = true) (h1 : yb.ones)
    (hsz : Nat.beq yb.esz te.size = true) (hpos : Nat.blt 0 te.size = true) (hesz : blk.esz = te.size) (hpl : 0 < blk.len) (hle : yb.len ≤ blk.len)
    (hrow' : blk'.isRow = true) (b1 : blk'.esz = blk.esz) (b2 : blk'.len = blk.len) (b3 : ∀ i, i < blk.len → blk'.get i = if i < yb.len then yb.get i else blk.get i)
    (hS : setO S nm blk' = some S') (hd : Nat.blt d n = true) :
    StepsTo P n ⟨some d, .call ⟨.builtin .copy, #[s, x], #[t, tx]⟩, ty, pos, after, g⟩ F S ((d, [], .d (.int .i64 yb.len)) :: F) S' := by
  intro w0 ρ a w hr
  rw [nthF_eq] at hblk
  obtain ⟨rfl, hn⟩ := setO_eq hS
  have hsz' := Nat.eq_of_beq_eq_true hsz
  have hpos' : 0 < te.size := Nat.le_of_ble_eq_true hpos
  have hus := rd_sound hr.fr hs hps trivial
  have hux := rd_sound hr.fr hx hqs trivial
  have hlies := srcB_lies hr.mem hy hyr hux
  obtain ⟨dt, hdt, hkt⟩ := hT.desc
  have := desc_slice hkt; subst this
  obtain ⟨dx, hdx, hkx⟩ := hTx.desc
  have := desc_slice hkx; subst this
  obtain ⟨i, hi, hisz, _, _⟩ := he.info
  obtain ⟨news, hsrc, hnews⟩ := lies_src (P := P) hlies h1 hdx hsz' hpos'
  generalize hse : a.eval s = sv at hus
  cases hus with
  | ownNil hb hsh => simp [shape, hblk] at hsh; omega
  | @own _ b esz len cap hbρ hsh hc hcap =>
  have hs' : blk.esz = esz ∧ blk.len = len := by simp [shape, hblk] at hsh; exact hsh
  obtain ⟨rfl, rfl⟩ := hs'
  rcases (hr.mem.blk nm _ hblk).row hrow with ⟨hn0, _⟩ | ⟨b', cur, ct, k1, k2, k3, k4, k5⟩
  · rw [hbρ] at hn0; cases hn0
  rw [hbρ] at k1; cases k1
  have hnl : news.length = yb.len * te.size := hsrc.newsLen
  have hmul : yb.len * te.size ≤ blk.len * te.size := Nat.mul_le_mul_right _ hle
  have hfit : news.length ≤ cur.size := by rw [hesz] at k3; omega
  have hrun := run_copy_all (P := P) (ty := ty) hdt hi (by rw [hisz]; exact hsrc) hle (sCap := cap) k2 hfit
  have hszc : (news ++ cur.toList.drop news.length).toArray.size = cur.size := by simp; omega
  have hmv := moves_write (ρ := ρ) hn hbρ k2 hszc (blk' := blk') hblk b1 b2
  have hcell : ∀ m : Nat, (news ++ cur.toList.drop news.length).toArray[m]? = if m < news.length then news[m]? else cur[m]? := by
    intro m
    rw [List.getElem?_toArray, List.getElem?_append]
    split
    · rfl
    · rw [List.getElem?_drop]; simp; congr 1; omega
  have hrunop : (execOp a.eval ⟨some d, .call ⟨.builtin .copy, #[s, x], #[t, tx]⟩, ty, pos, after, g⟩).run P w = .ok (.value (goInt yb.len)) (w.setRow b (news ++ cur.toList.drop news.length).toArray) := by
    simp only [execOp, resolve, List.map_toArray, List.map_cons, List.map_nil, pure_bind, invoke, builtin, hse]
    exact run_v hrun
  refine ⟨_, _, ρ, _, hrunop, put_new hr hmv (mem_write hr.mem hn hbρ k2 hszc hblk (fun cs he => by subst he; simp [Blk.isRow] at hrow) b1 b2 ?_) (Nat.le_of_ble_eq_true hd) (.d (.int _ _)), .inl ⟨_, rfl, rfl⟩⟩
  have key : (ρ nm = none ∧ blk'.len = 0) ∨ ∃ b0 c ty, ρ nm = some b0 ∧ (w.setRow b (news ++ cur.toList.drop news.length).toArray).heap[b0]? = some (.cells c ty (0, 0)) ∧ blk'.len * blk'.esz ≤ c.size ∧ (∀ i, i < blk'.len → (blk'.get i).length = blk'.esz) ∧
      ∀ (k j : Nat) y, k < blk'.len → (blk'.get k)[j]? = some y → ∃ v, c[k * blk'.esz + j]? = some v ∧ RelD (Rr (S.set nm blk') ρ (w.setRow b (news ++ cur.toList.drop news.length).toArray)) (w.setRow b (news ++ cur.toList.drop news.length).toArray) v y := by
    refine .inr ⟨b, _, ct, hbρ, setRow_heap w b cur _ ct _ k2, by rw [hszc, b1, b2]; exact k3, fun k hk => ?_, fun k j y hk hy => ?_⟩
    · rw [b2] at hk
      rw [b3 k hk, b1]
      split
      · rename_i h; rw [lies_len hlies k h, hsz', hesz]
      · exact k4 k hk
    · rw [b2] at hk
      rw [b3 k hk] at hy
      rw [b1, hcell]
      split at hy
      · rename_i h
        obtain ⟨v, hv, hrv⟩ := hnews k j y h hy
        rw [hsz'] at hv
        rw [hesz, if_pos (List.getElem?_eq_some_iff.1 hv).1]
        exact ⟨v, hv, hmv.d hrv⟩
      · rename_i h
        obtain ⟨v, hv, hrv⟩ := k5 k j y hk hy
        have hge : yb.len * te.size ≤ k * te.size := Nat.mul_le_mul_right _ (by omega)
        refine ⟨v, ?_, hmv.d hrv⟩
        rw [if_neg (by rw [hnl, hesz]; omega)]
        exact hv
  cases blk' <;> first | (simp [Blk.isRow] at hrow'; done) | exact key

theorem ao_copy {d : Nat} {s x : Operand} {t tx ty e e' : TypeId} {pos : String} {after : Array Edge} {te : TI} {i1 i2 j1 j2 : Nat} {z1 z2 : Value} {nm : Nat} {xv : V} {ps qs : List Prop} {blk yb : Blk} (blk' : Blk) {S' : List Blk}
    (hT : ti? env t = some ⟨.slice e, i1, i2, z1⟩) (hTx : ti? env tx = some ⟨.slice e', j1, j2, z2⟩) (he : ti? env e = some te)
    (hs : rd F [] s = some (.own nm, ps)) (hps : allP ps) (hx : rd F [] x = some (xv, qs)) (hqs : allP qs) (hblk : nthF S nm = some blk) (hrow : blk.isRow = true) (hy : srcB S xv = some yb) (hyr : yb.isRow = true) (h1 : yb.ones)
    (hsz : Nat.beq yb.esz te.size = true) (hpos : Nat.blt 0 te.size = true) (hesz : blk.esz = te.size) (hpl : 0 < blk.len) (hle : yb.len ≤ blk.len)
    (hrow' : blk'.isRow = true) (b1 : blk'.esz = blk.esz) (b2 : blk'.len = blk.len) (b3 : ∀ i, i < blk.len → blk'.get i = if i < yb.len then yb.get i else blk.get i)
    (hS : setO S nm blk' = some S') (hd : Nat.blt d n = true) (k : AO P env w0 n l0 K l ((d, [], .d (.int .i64 yb.len)) :: F) S') :
    AO P env w0 n l0 K (⟨some d, .call ⟨.builtin .copy, #[s, x], #[t, tx]⟩, ty, pos, after, none⟩ :: l) F S :=
  ao_steps rfl (fun hE => steps_copy (hE.get hT) (hE.get hTx) (hE.get he) hs hps hx hqs hblk hrow hy hyr h1 hsz hpos hesz hpl hle hrow' b1 b2 b3 hS hd) k
end
end Go.Wk

/- Laws of layer 11: monotone. -/
namespace Go.Proofs.Ytnmajhoehmlcjaa
open Go.Wk

section
variable {P : Program} {env : Env} {w0 : Base} {n : Nat} {l0 : List Oper} {K : Fr → List Blk → Prop} {l : List Oper} {F : Fr} {S : List Blk}
theorem ao_copyB {d : Nat} {s x : Operand} {t tx ty e e' : TypeId} {pos : String} {after : Array Edge} {te : TI} {i1 i2 j1 j2 : Nat} {z1 z2 : Value} {nm : Nat} {xs ys : List Bool} {ps qs : List Prop} {S' : List Blk}
    (hT : ti? env t = some ⟨.slice e, i1, i2, z1⟩) (hTx : ti? env tx = some ⟨.slice e', j1, j2, z2⟩) (he : ti? env e = some te)
    (hs : rd F [] s = some (.own nm, ps)) (hps : allP ps) (hx : rd F [] x = some (.d (boolsD ys), qs)) (hqs : allP qs) (hblk : nthF S nm = some (.bools xs))
    (hsz : Nat.beq 1 te.size = true) (hpos : Nat.blt 0 te.size = true) (hesz : 1 = te.size) (hpl : 0 < xs.length) (hle : ys.length ≤ xs.length)
    (hS : setO S nm (.bools (ys ++ xs.drop ys.length)) = some S') (hd : Nat.blt d n = true) (k : AO P env w0 n l0 K l ((d, [], .d (.int .i64 ys.length)) :: F) S') :
    AO P env w0 n l0 K (⟨some d, .call ⟨.builtin .copy, #[s, x], #[t, tx]⟩, ty, pos, after, none⟩ :: l) F S :=
  ao_copy (.bools (ys ++ xs.drop ys.length)) hT hTx he hs hps hx hqs hblk rfl (yb := .row 1 ys.length fun i => [.bool (ys.getD i false)]) rfl rfl (fun i hi x hx => by simp [Blk.get] at hx; subst hx; rfl) hsz hpos hesz hpl hle rfl rfl
    (by simp [Blk.len]; omega) (fun i hi => by
      simp only [Blk.get, Blk.len, List.getD_eq_getElem?_getD]
      split
      · rename_i h; rw [List.getElem?_append_left h]
      · rename_i h; rw [List.getElem?_append_right (by omega), List.getElem?_drop]; congr 4; omega) hS hd k
end

set_option maxHeartbeats 1000000 in
theorem l_SpfMonotone (t : Topo) (down : List Bool) (a d : Int) : Ctr Try.prog 7 [topoD t, boolsD down, iD a, iD d] [] (.d (bD true)) := by
  refine spec_of envOK (enters_of Try.func7 (by kernel_rfl) (by kernel_rfl)) Try.func7 rfl rfl _ rfl (Nat.le_of_ble_eq_true rfl) rfl fun w0 => ?_
  repeat' (first
  
    | refine aw_seq ?_
    | refine aw_region ?_
    | refine aw_region_q (by kernel_rfl) (by kernel_rfl) ?_
    | refine aw_block ?_
    | refine ao_nil ?_
    | refine ao_op rfl trivial ?_
    | refine aq_nil ?_
    | refine aq_op rfl trivial ?_
    | refine at_nil ?_
    | refine at_op rfl trivial ?_
    | refine am_nil ?_
    | refine am_op rfl trivial rfl ?_
    | refine aw_skip ?_
    | refine aw_condT rfl trivial ?_
    | refine aw_condF rfl trivial ?_
    | refine aw_condD rfl trivial (fun hc => ?_) (fun hc => ?_)
    | refine aw_condN rfl trivial (fun hc => ?_) (fun hc => ?_)
    | refine aw_condNB rfl trivial (fun hc => ?_) (fun hc => ?_)
    | refine aw_cond rfl trivial (fun hc => ?_) (fun hc => ?_)
    | refine aw_ret ?_
    | refine aw_exit ?_
    | refine ao_op rfl ?_ ?_
    | refine aq_op rfl ?_ ?_
    | refine at_op rfl ?_ ?_
    | refine am_op rfl ?_ rfl ?_
    | refine ao_box rfl trivial rfl rfl rfl ?_
    | refine ao_alloc rfl rfl rfl rfl ?_
    | refine ao_store rfl rfl trivial rfl trivial rfl rfl rfl rfl rfl ?_
    | (first | refine ao_call rfl (l_awake) rfl ?_ ?_ | refine aq_call rfl (l_awake) rfl ?_ ?_)
    | (first | refine ao_call rfl (l_large _ _) rfl ?_ ?_ | refine aq_call rfl (l_large _ _) rfl ?_ ?_)
    | (first | refine ao_call rfl (r_Fits _ _) rfl ?_ ?_ | refine aq_call rfl (r_Fits _ _) rfl ?_ ?_)
    | (show allP _; first | trivial | exact ob1 (fun h => h) | exact ob2 (fun h => h) (fun h => h) | exact ob1 (fun h => ⟨h.1, trivial⟩) | (simp only [allP, obg, grd, allT, InR, decide_eq_true_eq, Bool.and_eq_true, Bool.not_eq_true', decide_eq_false_iff_not, List.nil_append, List.cons_append, List.append_nil, and_true, true_and]; first | omega | (intros; omega) | (simp only [Blk.len, List.length_set, List.length_append, List.length_cons, List.length_nil]; first | omega | (intros; omega)) | (refine ⟨?_, ?_⟩ <;> intros <;> first | (with_reducible assumption) | omega) | ((repeat' refine And.intro ?_ ?_) <;> (intros; first | (with_reducible assumption) | omega | (simp only [Blk.len, List.length_set, List.length_append, List.length_cons, List.length_nil]; omega))) | ((try simp only [Bool.or_eq_true, Bool.or_eq_false_iff, Bool.and_eq_true, Bool.and_eq_false_iff, decide_eq_true_eq, decide_eq_false_iff_not, Bool.not_eq_true', Bool.not_eq_false'] at *); (try simp only [Blk.len] at *); first | omega | (intros; omega)) | (simp_all; done))))
  · simp only [allP, obg, grd, allT, InR, List.nil_append, List.cons_append, List.append_nil, and_true, Bool.not_eq_true', Bool.or_eq_false_iff, decide_eq_false_iff_not]
    exact ⟨fun h => h, fun h => by omega⟩
  · (refine fin_ret ?_; exact ret1 (by rfl) (by rfl) (by rfl))
  have hf : fitsB t down = true ∧ 0 ≤ a ∧ a < 2 * t.links.length ∧ 0 ≤ d ∧ d < t.nodes := by
    simp only [Bool.or_eq_false_iff, Bool.not_eq_false', decide_eq_false_iff_not] at hc
    refine ⟨?_, ?_, ?_, ?_, ?_⟩
    all_goals first | omega | simp_all
  obtain ⟨hf, a0, a1, d0, d1⟩ := hf
  have hv := fitsB_v hf
  have hnn := validB_head hv
  have es := errS_ok hf d0 d1
  have hA := distL_is (fr := false) es
  have hD := c_Dist t down d
  rw [es] at hD
  have hal := hA.len
  have hll := fits_len hf
  have hidx : a < (Blk.bools (down ++ (List.replicate (2 * (t.links.length : Int)).toNat false).drop down.length)).len := by simp [Blk.len]; omega
  have es2 := errS_ok (more_fits (a := a) hf) d0 d1
  have hB := distL_is (fr := false) es2
  have hD2 := c_Dist t (moreL t down a) d
  rw [es2] at hD2
  have hbl := hB.len
  have hR := r_Dist t down d
  rw [es] at hR
  have hbd := distL_bnd (fr := false) es
  have hO := r_On t down (distL t down d false) a d hf a0 a1 hal fun i i0 i1 => ⟨hbd i i0 i1, by have := hA.sign i i0 i1; omega⟩
  have hge := fun (n : Int) n0 n1 => more_ge (n := n) hf a0 a1 hA hB n0 n1
  have hsame := more_same hf a0 a1 hA hB
  repeat' (first
  
    | refine aw_seq ?_
    | refine aw_region ?_
    | refine aw_region_q (by kernel_rfl) (by kernel_rfl) ?_
    | refine aw_block ?_
    | refine ao_nil ?_
    | refine ao_op rfl trivial ?_
    | refine aq_nil ?_
    | refine aq_op rfl trivial ?_
    | refine at_nil ?_
    | refine at_op rfl trivial ?_
    | refine am_nil ?_
    | refine am_op rfl trivial rfl ?_
    | refine aw_skip ?_
    | refine aw_condT rfl trivial ?_
    | refine aw_condF rfl trivial ?_
    | refine aw_condD rfl trivial (fun hc => ?_) (fun hc => ?_)
    | refine aw_condN rfl trivial (fun hc => ?_) (fun hc => ?_)
    | refine aw_condNB rfl trivial (fun hc => ?_) (fun hc => ?_)
    | refine aw_cond rfl trivial (fun hc => ?_) (fun hc => ?_)
    | refine aw_ret ?_
    | refine aw_exit ?_
    | refine ao_op rfl ?_ ?_
    | refine aq_op rfl ?_ ?_
    | refine at_op rfl ?_ ?_
    | refine am_op rfl ?_ rfl ?_
    | refine ao_box rfl trivial rfl rfl rfl ?_
    | refine ao_alloc rfl rfl rfl rfl ?_
    | refine ao_store rfl rfl trivial rfl trivial rfl rfl rfl rfl rfl ?_
    | refine ao_make rfl rfl rfl rfl trivial rfl trivial (by first | omega | (dsimp only; omega)) (by first | omega | (dsimp only; omega)) (by first | omega | (dsimp only; omega)) rfl rfl rfl ?_
    | refine ao_copyB rfl rfl rfl rfl trivial rfl trivial rfl rfl rfl rfl ((by simp; omega)) ((by simp; omega)) rfl rfl ?_
    | refine ao_store_ep rfl rfl trivial rfl trivial rfl rfl rfl rfl rfl rfl ?_
    | refine ao_callR rfl (hD) trivial rfl rfl ?_
    | refine ao_callR rfl (hD2) trivial rfl rfl ?_
    | refine ao_callR rfl (hR) trivial rfl rfl ?_
    | (first | refine ao_call rfl (hO) rfl ?_ ?_ | refine aq_call rfl (hO) rfl ?_ ?_)
    | (show allP _; first | trivial | exact ob1 (fun h => h) | exact ob2 (fun h => h) (fun h => h) | exact ob1 (fun h => ⟨h.1, trivial⟩) | (simp only [allP, obg, grd, allT, InR, decide_eq_true_eq, Bool.and_eq_true, Bool.not_eq_true', decide_eq_false_iff_not, List.nil_append, List.cons_append, List.append_nil, and_true, true_and]; first | omega | (intros; omega) | (simp only [Blk.len, List.length_set, List.length_append, List.length_cons, List.length_nil]; first | omega | (intros; omega)) | (refine ⟨?_, ?_⟩ <;> intros <;> first | (with_reducible assumption) | omega) | ((repeat' refine And.intro ?_ ?_) <;> (intros; first | (with_reducible assumption) | omega | (simp only [Blk.len, List.length_set, List.length_append, List.length_cons, List.length_nil]; omega))) | ((try simp only [Bool.or_eq_true, Bool.or_eq_false_iff, Bool.and_eq_true, Bool.and_eq_false_iff, decide_eq_true_eq, decide_eq_false_iff_not, Bool.not_eq_true', Bool.not_eq_false'] at *); (try simp only [Blk.len] at *); first | omega | (intros; omega)) | (simp_all; done))))
  · exfalso
    simp [Blk.len, hal, hbl] at hc
  generalize distL t down d false = x at *
  generalize distL t (moreL t down a) d false = y at *
  refine aw_loop (ι := Nat) (fun i => [(111, [], .d (iD i)), (110, [], .d (iD x.length)), (10, [], .own 2), (12, [], .own 3), (16, [], .d (bD (onR t down x a d)))]) (fun _ => [tBlk t, .bools (moreL t down a), .ints .i64 x, .ints .i64 y])
    (fun i => i ≤ x.length) (fun i => x.length - i) 0 (by simp) (fun _ => Nat.le_of_ble_eq_true rfl) (by refine weak_to ?_ ?_ rfl rfl
                                                                                                         · repeat (first | exact subF_nil | refine subF_cons (by first | rfl | (simp [look]; done)) ?_)
                                                                                                         · repeat (first | exact subS_nil | refine subS_cons (by first | rfl | (simp; done)) ?_)) fun i hi => ?_
  by_cases hil : i < x.length
  · have hg := hge i (by omega) (by omega)
    have hs1 := hA.sign i (by omega) (by omega)
    simp only [gI] at hg hs1
    have hbi : (i : Int) < (Blk.ints .i64 x).len := by simp [Blk.len]; omega
    have hbj : (i : Int) < (Blk.ints .i64 y).len := by simp [Blk.len]; omega
    repeat' (first
    
      | refine aw_seq ?_
      | refine aw_region ?_
      | refine aw_region_q (by kernel_rfl) (by kernel_rfl) ?_
      | refine aw_block ?_
      | refine ao_nil ?_
      | refine ao_op rfl trivial ?_
      | refine aq_nil ?_
      | refine aq_op rfl trivial ?_
      | refine at_nil ?_
      | refine at_op rfl trivial ?_
      | refine am_nil ?_
      | refine am_op rfl trivial rfl ?_
      | refine aw_skip ?_
      | refine aw_condT rfl trivial ?_
      | refine aw_condF rfl trivial ?_
      | refine aw_condD rfl trivial (fun hc => ?_) (fun hc => ?_)
      | refine aw_condN rfl trivial (fun hc => ?_) (fun hc => ?_)
      | refine aw_condNB rfl trivial (fun hc => ?_) (fun hc => ?_)
      | refine aw_cond rfl trivial (fun hc => ?_) (fun hc => ?_)
      | refine aw_ret ?_
      | refine aw_exit ?_
      | refine ao_op rfl ?_ ?_
      | refine aq_op rfl ?_ ?_
      | refine at_op rfl ?_ ?_
      | refine am_op rfl ?_ rfl ?_
      | refine ao_box rfl trivial rfl rfl rfl ?_
      | refine ao_alloc rfl rfl rfl rfl ?_
      | refine ao_store rfl rfl trivial rfl trivial rfl rfl rfl rfl rfl ?_
      | (exfalso; omega)
      | (show allP _; first | trivial | exact ob1 (fun h => h) | exact ob2 (fun h => h) (fun h => h) | exact ob1 (fun h => ⟨h.1, trivial⟩) | (simp only [allP, obg, grd, allT, InR, decide_eq_true_eq, Bool.and_eq_true, Bool.not_eq_true', decide_eq_false_iff_not, List.nil_append, List.cons_append, List.append_nil, and_true, true_and]; first | omega | (intros; omega) | (simp only [Blk.len, List.length_set, List.length_append, List.length_cons, List.length_nil]; first | omega | (intros; omega)) | (refine ⟨?_, ?_⟩ <;> intros <;> first | (with_reducible assumption) | omega) | ((repeat' refine And.intro ?_ ?_) <;> (intros; first | (with_reducible assumption) | omega | (simp only [Blk.len, List.length_set, List.length_append, List.length_cons, List.length_nil]; omega))) | ((try simp only [Bool.or_eq_true, Bool.or_eq_false_iff, Bool.and_eq_true, Bool.and_eq_false_iff, decide_eq_true_eq, decide_eq_false_iff_not, Bool.not_eq_true', Bool.not_eq_false'] at *); (try simp only [Blk.len] at *); first | omega | (intros; omega)) | (simp_all; done))))
    · exfalso
      have hsm : onR t down x a d = false → x.getD (Int.toNat (i : Int)) 0 = y.getD (Int.toNat (i : Int)) 0 := fun h => by rw [hsame h]
      generalize x.getD (Int.toNat (i : Int)) 0 = p at *
      generalize y.getD (Int.toNat (i : Int)) 0 = q at *
      simp only [Bool.or_eq_true, Bool.and_eq_true, decide_eq_true_eq, Bool.not_eq_true', decide_eq_false_iff_not] at hc
      rcases hc with (hc | hc) | ⟨hc, hc2⟩
      · omega
      · omega
      · exact hc2 (hsm hc)
    · refine ⟨i + 1, by omega, by omega, ?_⟩
      refine weak_to ?_ ?_ rfl rfl
      · repeat (first | exact subF_nil | refine subF_cons (by first | rfl | (simp [look]; done)) ?_)
      · repeat (first | exact subS_nil | refine subS_cons (by first | rfl | (simp; done)) ?_)
  · repeat' (first
    
      | refine aw_seq ?_
      | refine aw_region ?_
      | refine aw_region_q (by kernel_rfl) (by kernel_rfl) ?_
      | refine aw_block ?_
      | refine ao_nil ?_
      | refine ao_op rfl trivial ?_
      | refine aq_nil ?_
      | refine aq_op rfl trivial ?_
      | refine at_nil ?_
      | refine at_op rfl trivial ?_
      | refine am_nil ?_
      | refine am_op rfl trivial rfl ?_
      | refine aw_skip ?_
      | refine aw_condT rfl trivial ?_
      | refine aw_condF rfl trivial ?_
      | refine aw_condD rfl trivial (fun hc => ?_) (fun hc => ?_)
      | refine aw_condN rfl trivial (fun hc => ?_) (fun hc => ?_)
      | refine aw_condNB rfl trivial (fun hc => ?_) (fun hc => ?_)
      | refine aw_cond rfl trivial (fun hc => ?_) (fun hc => ?_)
      | refine aw_ret ?_
      | refine aw_exit ?_
      | refine ao_op rfl ?_ ?_
      | refine aq_op rfl ?_ ?_
      | refine at_op rfl ?_ ?_
      | refine am_op rfl ?_ rfl ?_
      | refine ao_box rfl trivial rfl rfl rfl ?_
      | refine ao_alloc rfl rfl rfl rfl ?_
      | refine ao_store rfl rfl trivial rfl trivial rfl rfl rfl rfl rfl ?_
      | (exfalso; omega)
      | (show allP _; first | trivial | exact ob1 (fun h => h) | exact ob2 (fun h => h) (fun h => h) | exact ob1 (fun h => ⟨h.1, trivial⟩) | (simp only [allP, obg, grd, allT, InR, decide_eq_true_eq, Bool.and_eq_true, Bool.not_eq_true', decide_eq_false_iff_not, List.nil_append, List.cons_append, List.append_nil, and_true, true_and]; first | omega | (intros; omega) | (simp only [Blk.len, List.length_set, List.length_append, List.length_cons, List.length_nil]; first | omega | (intros; omega)) | (refine ⟨?_, ?_⟩ <;> intros <;> first | (with_reducible assumption) | omega) | ((repeat' refine And.intro ?_ ?_) <;> (intros; first | (with_reducible assumption) | omega | (simp only [Blk.len, List.length_set, List.length_append, List.length_cons, List.length_nil]; omega))) | ((try simp only [Bool.or_eq_true, Bool.or_eq_false_iff, Bool.and_eq_true, Bool.and_eq_false_iff, decide_eq_true_eq, decide_eq_false_iff_not, Bool.not_eq_true', Bool.not_eq_false'] at *); (try simp only [Blk.len] at *); first | omega | (intros; omega)) | (simp_all; done))))
    (refine fin_ret ?_; exact ret1 (by rfl) (by rfl) (by rfl))
end Go.Proofs.Ytnmajhoehmlcjaa

/- The seat's row kit with the law on masks. -/

/- The reversed topology, plainly. -/
namespace Go.Proofs.Ytnmajhoehmlcjaa
open Go.Wk

def swapL (l : Lk) : Lk := ⟨l.a, l.b, l.c1, l.c0, l.cap, l.delay, l.grp⟩
def revT (t : Topo) : Topo := ⟨t.nodes, t.overload, t.links.map swapL⟩
def oth (a : Int) : Int := if a % 2 = 0 then a + 1 else a - 1
def Mk (t : Topo) (down mask : List Bool) : Prop :=
  mask.length = 2 * t.links.length ∧ ∀ k : Nat, k < t.links.length → mask.getD (2 * k) false = !upB down (2 * k + 1) ∧ mask.getD (2 * k + 1) false = !upB down (2 * k)

section
variable {t : Topo} {down mask : List Bool} {s : Int} {x : List Int}

theorem swap_proper (l : Lk) (n : Int) : properB (swapL l) n = properB l n := by
  unfold properB swapL
  simp only
  cases insideB l.c0 1 65535 <;> cases insideB l.c1 1 65535 <;> simp
theorem rev_len : (revT t).links.length = t.links.length := by simp [revT]
theorem rev_valid : validB (revT t) = validB t := by
  have h : (revT t).links.all (fun l => properB l (revT t).nodes) = t.links.all (fun l => properB l t.nodes) := by
    show (t.links.map swapL).all (fun l => properB l t.nodes) = _
    rw [List.all_map]
    congr 1
    funext l
    exact swap_proper l _
  unfold validB
  rw [h]
  simp only [badHead, rev_len]
  rfl
theorem rev_getD (k : Nat) : (revT t).links.getD k default = swapL (t.links.getD k default) := by
  simp only [revT, List.getD_eq_getElem?_getD, List.getElem?_map]
  cases t.links[k]? <;> rfl
theorem oth_in {a : Int} {n : Nat} (a0 : 0 ≤ a) (a1 : a < 2 * n) : 0 ≤ oth a ∧ oth a < 2 * n := by unfold oth; split <;> omega
theorem oth_oth (a : Int) : oth (oth a) = a := by unfold oth; split <;> split <;> omega
theorem oth_half (a : Int) : oth a / 2 = a / 2 := by unfold oth; split <;> omega
theorem oth_even (a : Int) : decide (oth a % 2 = 0) = !decide (a % 2 = 0) := by
  unfold oth
  split
  · rename_i h; rw [decide_eq_true h, decide_eq_false (by omega)]; rfl
  · rename_i h; rw [decide_eq_false h, decide_eq_true (by omega)]; rfl
theorem rev_lk (a : Int) : lkAt (revT t) (oth a) = swapL (lkAt t a) := by
  unfold lkAt
  rw [oth_half, rev_getD]
theorem rev_arc (hv : validB t = true) {a : Int} (a0 : 0 ≤ a) (a1 : a < 2 * t.links.length) :
    tailT (revT t) (oth a) = headT t a ∧ headT (revT t) (oth a) = tailT t a ∧ costT (revT t) (oth a) = costT t a := by
  have h1 := arc_in hv a0 a1
  have ho := oth_in a0 a1
  have h2 : arcIn (revT t) (oth a) = true := arc_in (by rw [rev_valid]; exact hv) ho.1 (by rw [rev_len]; exact ho.2)
  unfold tailT headT costT
  rw [h1, h2, oth_even, rev_lk]
  cases decide (a % 2 = 0) <;> exact ⟨rfl, rfl, rfl⟩
theorem rev_over (n : Int) : overT (revT t) n = overT t n := by
  unfold overT
  rw [rev_valid]
  rfl
theorem rev_up (hm : Mk t down mask) {a : Int} (a0 : 0 ≤ a) (a1 : a < 2 * t.links.length) : upB mask (oth a) = upB down a := by
  obtain ⟨hl, hk⟩ := hm
  have h := hk (a / 2).toNat (by omega)
  have e : (((a / 2).toNat : Nat) : Int) = a / 2 := by omega
  rw [e] at h
  unfold upB
  rw [decide_eq_false (by omega : ¬ mask.length = 0), Bool.false_or]
  by_cases hp : a % 2 = 0
  · have e1 : (oth a).toNat = 2 * (a / 2).toNat + 1 := by unfold oth; rw [if_pos hp]; omega
    have e2 : 2 * (a / 2) = a := by omega
    rw [e1, h.2, Bool.not_not, e2]
    rfl
  · have e1 : (oth a).toNat = 2 * (a / 2).toNat := by unfold oth; rw [if_neg hp]; omega
    have e2 : 2 * (a / 2) + 1 = a := by omega
    rw [e1, h.1, Bool.not_not, e2]
    rfl
theorem rev_fits (hf : fitsB t down = true) (hm : Mk t down mask) : fitsB (revT t) mask = true := by
  have : (mask.length : Int) = 2 * (revT t).links.length := by rw [rev_len, hm.1]; omega
  simp only [fitsB, rev_valid, fitsB_v hf, this, decide_true, Bool.or_true, Bool.and_true]
theorem rev_err (hf : fitsB t down = true) (hm : Mk t down mask) : errS (revT t) mask s = errS t down s := by
  unfold errS
  rw [rev_fits hf hm, hf]
  rfl
theorem rev_ok (hv : validB t = true) (hm : Mk t down mask) {a : Int} (a0 : 0 ≤ a) (a1 : a < 2 * t.links.length) : okA (revT t) mask s false (oth a) ↔ okA t down s true a := by
  obtain ⟨_, h2, _⟩ := rev_arc hv a0 a1
  unfold okA
  simp only [nearT, cond_false, cond_true, h2, rev_up hm a0 a1, rev_over]
theorem rev_is (hv : validB t = true) (hm : Mk t down mask) (hx : IsDist t down s true x) : IsDist (revT t) mask s false x := by
  refine ⟨hx.len, hx.self, hx.sign, fun b b0 b1 hb hn => ?_, fun i i0 i1 hne hi => ?_⟩
  · rw [rev_len] at b1
    have ha := oth_in b0 b1
    have hr := rev_arc hv ha.1 ha.2
    rw [← oth_oth b] at hb hn ⊢
    have := hx.close (oth b) ha.1 ha.2 ((rev_ok hv hm ha.1 ha.2).1 hb)
    simp only [nearT, farT, cond_false, cond_true, hr.1, hr.2.1, hr.2.2] at this hn ⊢
    exact this hn
  · obtain ⟨a, a0, a1, a2, a3, a4, a5⟩ := hx.ground i i0 i1 hne hi
    have ho := oth_in a0 a1
    have hr := rev_arc hv a0 a1
    refine ⟨oth a, ho.1, by rw [rev_len]; exact ho.2, (rev_ok hv hm a0 a1).2 a2, ?_⟩
    simp only [nearT, farT, cond_false, cond_true, hr.1, hr.2.1, hr.2.2] at a3 a4 a5 ⊢
    exact ⟨a3, a4, a5⟩
theorem rev_dist (hf : fitsB t down = true) (hm : Mk t down mask) : distL (revT t) mask s false = distL t down s true := by
  by_cases he : errS t down s = 0
  · have he2 : errS (revT t) mask s = 0 := by rw [rev_err hf hm, he]
    exact (distL_is (fr := false) he2).unique (by rw [rev_valid]; exact fitsB_v hf) (rev_is (fitsB_v hf) hm (distL_is (fr := true) he))
  · unfold distL
    rw [rev_err hf hm]
    simp [he]
end
end Go.Proofs.Ytnmajhoehmlcjaa

/- Laws of layer 11: reversed. -/
namespace Go.Proofs.Ytnmajhoehmlcjaa
open Go.Wk

theorem links_ones (ls : List Lk) : (Blk.row 7 ls.length fun i => lkD (ls.getD i default)).ones := by
  intro i hi x hx
  simp only [lkD, List.mem_cons, List.not_mem_nil, or_false] at hx
  rcases hx with rfl | rfl | rfl | rfl | rfl | rfl | rfl <;> rfl

def revG (t : Topo) (i k : Nat) : List D := lkD (if k < i then swapL (t.links.getD k default) else t.links.getD k default)
theorem revG_end (t : Topo) : topoD (revT t) = .agg [.int .i64 t.nodes, boolsD t.overload, .arr 7 t.links.length (revG t t.links.length)] := by
  have h : linksD (revT t).links = .arr 7 t.links.length (revG t t.links.length) := by
    unfold linksD
    rw [rev_len]
    congr 1
    funext k
    rw [rev_getD]
    unfold revG
    split
    · rfl
    · rename_i h
      rw [List.getD_eq_getElem?_getD, List.getElem?_eq_none (by omega)]; rfl
  unfold topoD
  rw [h]
  rfl
theorem revG_step (t : Topo) (i k : Nat) : (if k = i then [D.int .i64 (t.links.getD i default).a, .int .i64 (t.links.getD i default).b, .int .i64 (t.links.getD i default).c1, .int .i64 (t.links.getD i default).c0, .int .i64 (t.links.getD i default).cap, .int .i64 (t.links.getD i default).delay, .int .i64 (t.links.getD i default).grp] else revG t i k) = revG t (i + 1) k := by
  split
  · rename_i h; subst h
    unfold revG
    rw [if_pos (by omega)]; rfl
  · unfold revG
    by_cases h : k < i
    · rw [if_pos h, if_pos (by omega)]
    · rw [if_neg h, if_neg (by omega)]

set_option maxHeartbeats 1000000 in
theorem l_SpfReversed (t : Topo) (down : List Bool) (s : Int) : Ctr Try.prog 10 [topoD t, boolsD down, iD s] [] (.d (bD true)) := by
  refine spec_of envOK (enters_of Try.func10 (by kernel_rfl) (by kernel_rfl)) Try.func10 rfl rfl _ rfl (Nat.le_of_ble_eq_true rfl) rfl fun w0 => ?_
  repeat' (first
  
    | refine aw_seq ?_
    | refine aw_region ?_
    | refine aw_region_q (by kernel_rfl) (by kernel_rfl) ?_
    | refine aw_block ?_
    | refine ao_nil ?_
    | refine ao_op rfl trivial ?_
    | refine aq_nil ?_
    | refine aq_op rfl trivial ?_
    | refine at_nil ?_
    | refine at_op rfl trivial ?_
    | refine am_nil ?_
    | refine am_op rfl trivial rfl ?_
    | refine aw_skip ?_
    | refine aw_condT rfl trivial ?_
    | refine aw_condF rfl trivial ?_
    | refine aw_condD rfl trivial (fun hc => ?_) (fun hc => ?_)
    | refine aw_condN rfl trivial (fun hc => ?_) (fun hc => ?_)
    | refine aw_condNB rfl trivial (fun hc => ?_) (fun hc => ?_)
    | refine aw_cond rfl trivial (fun hc => ?_) (fun hc => ?_)
    | refine aw_ret ?_
    | refine aw_exit ?_
    | refine ao_op rfl ?_ ?_
    | refine aq_op rfl ?_ ?_
    | refine at_op rfl ?_ ?_
    | refine am_op rfl ?_ rfl ?_
    | refine ao_box rfl trivial rfl rfl rfl ?_
    | refine ao_alloc rfl rfl rfl rfl ?_
    | refine ao_store rfl rfl trivial rfl trivial rfl rfl rfl rfl rfl ?_
    | (first | refine ao_call rfl (l_awake) rfl ?_ ?_ | refine aq_call rfl (l_awake) rfl ?_ ?_)
    | (first | refine ao_call rfl (l_large _ _) rfl ?_ ?_ | refine aq_call rfl (l_large _ _) rfl ?_ ?_)
    | (first | refine ao_call rfl (r_Fits _ _) rfl ?_ ?_ | refine aq_call rfl (r_Fits _ _) rfl ?_ ?_)
    | (show allP _; first | trivial | exact ob1 (fun h => h) | exact ob2 (fun h => h) (fun h => h) | exact ob1 (fun h => ⟨h.1, trivial⟩) | (simp only [allP, obg, grd, allT, InR, decide_eq_true_eq, Bool.and_eq_true, Bool.not_eq_true', decide_eq_false_iff_not, List.nil_append, List.cons_append, List.append_nil, and_true, true_and]; first | omega | (intros; omega) | (simp only [Blk.len, List.length_set, List.length_append, List.length_cons, List.length_nil]; first | omega | (intros; omega)) | (refine ⟨?_, ?_⟩ <;> intros <;> first | (with_reducible assumption) | omega) | ((repeat' refine And.intro ?_ ?_) <;> (intros; first | (with_reducible assumption) | omega | (simp only [Blk.len, List.length_set, List.length_append, List.length_cons, List.length_nil]; omega))) | ((try simp only [Bool.or_eq_true, Bool.or_eq_false_iff, Bool.and_eq_true, Bool.and_eq_false_iff, decide_eq_true_eq, decide_eq_false_iff_not, Bool.not_eq_true', Bool.not_eq_false'] at *); (try simp only [Blk.len] at *); first | omega | (intros; omega)) | (simp_all; done))))
  · (refine fin_ret ?_; exact ret1 (by rfl) (by rfl) (by rfl))
  have hf : fitsB t down = true ∧ t.links.length ≤ 40 := by
    simp only [Bool.or_eq_false_iff, Bool.not_eq_false', decide_eq_false_iff_not] at hc
    exact ⟨hc.2, by omega⟩
  obtain ⟨hf, hl40⟩ := hf
  have hv := fitsB_v hf
  have hnn := validB_head hv
  repeat' (first
  
    | refine aw_seq ?_
    | refine aw_region ?_
    | refine aw_region_q (by kernel_rfl) (by kernel_rfl) ?_
    | refine aw_block ?_
    | refine ao_nil ?_
    | refine ao_op rfl trivial ?_
    | refine aq_nil ?_
    | refine aq_op rfl trivial ?_
    | refine at_nil ?_
    | refine at_op rfl trivial ?_
    | refine am_nil ?_
    | refine am_op rfl trivial rfl ?_
    | refine aw_skip ?_
    | refine aw_condT rfl trivial ?_
    | refine aw_condF rfl trivial ?_
    | refine aw_condD rfl trivial (fun hc => ?_) (fun hc => ?_)
    | refine aw_condN rfl trivial (fun hc => ?_) (fun hc => ?_)
    | refine aw_condNB rfl trivial (fun hc => ?_) (fun hc => ?_)
    | refine aw_cond rfl trivial (fun hc => ?_) (fun hc => ?_)
    | refine aw_ret ?_
    | refine aw_exit ?_
    | refine ao_op rfl ?_ ?_
    | refine aq_op rfl ?_ ?_
    | refine at_op rfl ?_ ?_
    | refine am_op rfl ?_ rfl ?_
    | refine ao_box rfl trivial rfl rfl rfl ?_
    | refine ao_alloc rfl rfl rfl rfl ?_
    | refine ao_store rfl rfl trivial rfl trivial rfl rfl rfl rfl rfl ?_
    | refine ao_lit rfl rfl rfl rfl trivial rfl rfl rfl rfl rfl rfl ?_
    | refine ao_app rfl rfl rfl rfl trivial rfl trivial rfl rfl (links_ones t.links) rfl rfl rfl rfl rfl (by (simp [Blk.len]; omega)) rfl rfl rfl ?_
    | refine ao_make rfl rfl rfl rfl trivial rfl trivial (by first | omega | (dsimp only; omega)) (by first | omega | (dsimp only; omega)) (by first | omega | (dsimp only; omega)) rfl rfl rfl ?_
    | (show allP _; first | trivial | exact ob1 (fun h => h) | exact ob2 (fun h => h) (fun h => h) | exact ob1 (fun h => ⟨h.1, trivial⟩) | (simp only [allP, obg, grd, allT, InR, decide_eq_true_eq, Bool.and_eq_true, Bool.not_eq_true', decide_eq_false_iff_not, List.nil_append, List.cons_append, List.append_nil, and_true, true_and]; first | omega | (intros; omega) | (simp only [Blk.len, List.length_set, List.length_append, List.length_cons, List.length_nil]; first | omega | (intros; omega)) | (refine ⟨?_, ?_⟩ <;> intros <;> first | (with_reducible assumption) | omega) | ((repeat' refine And.intro ?_ ?_) <;> (intros; first | (with_reducible assumption) | omega | (simp only [Blk.len, List.length_set, List.length_append, List.length_cons, List.length_nil]; omega))) | ((try simp only [Bool.or_eq_true, Bool.or_eq_false_iff, Bool.and_eq_true, Bool.and_eq_false_iff, decide_eq_true_eq, decide_eq_false_iff_not, Bool.not_eq_true', Bool.not_eq_false'] at *); (try simp only [Blk.len] at *); first | omega | (intros; omega)) | (simp_all; done))))
  refine aw_loop (ι := List Bool × Nat) (fun s' => [(40, [], .d (iD s'.2)), (39, [], .d (iD t.links.length)), (38, [], .d (linksD t.links)), (8, [], .own 3), (7, [], .ptr 1 0), (3, [], .ptr 0 0), (1, [], .d (boolsD down)), (2, [], .d (iD s))])
    (fun s' => [tBlk t, .cells [.d (iD t.nodes), .d (boolsD t.overload), .own 2], .row 7 t.links.length (revG t s'.2), .bools s'.1])
    (fun s' => s'.1.length = 2 * t.links.length ∧ s'.2 ≤ t.links.length ∧ ∀ k : Nat, k < s'.2 → s'.1.getD (2 * k) false = !upB down (2 * k + 1) ∧ s'.1.getD (2 * k + 1) false = !upB down (2 * k)) (fun s' => t.links.length - s'.2) (List.replicate (2 * (t.links.length : Int)).toNat false, 0) ⟨by simp; omega, by simp, fun k hk => by simp at hk⟩ (fun _ => Nat.le_of_ble_eq_true rfl)
    (by
      refine Weak.trans (weak_row (nm := 2) (e := 7) (g' := revG t 0) rfl (fun k hk => ?_) rfl) ?_ (Nat.le_of_ble_eq_true rfl)
      · simp [revG]
      · refine weak_to ?_ ?_ rfl rfl
        · repeat (first | exact subF_nil | refine subF_cons (by first | rfl | (simp [look]; done)) ?_)
        · repeat (first | exact subS_nil | refine subS_cons (by first | rfl | (simp only [List.length_nil, Nat.zero_add]; done) | (simp; done)) ?_)) fun s' hs => ?_
  obtain ⟨mask, i⟩ := s'
  obtain ⟨hml, hi, hm⟩ := hs
  simp only at hml hi hm ⊢
  by_cases hil : i < t.links.length
  · have hu1 := up_ok (a := 2 * (i : Int) + 1) hf (by omega) (by omega)
    have hu0 := up_ok (a := 2 * (i : Int)) hf (by omega) (by omega)
    repeat' (first
    
      | refine aw_seq ?_
      | refine aw_region ?_
      | refine aw_region_q (by kernel_rfl) (by kernel_rfl) ?_
      | refine aw_block ?_
      | refine ao_nil ?_
      | refine ao_op rfl trivial ?_
      | refine aq_nil ?_
      | refine aq_op rfl trivial ?_
      | refine at_nil ?_
      | refine at_op rfl trivial ?_
      | refine am_nil ?_
      | refine am_op rfl trivial rfl ?_
      | refine aw_skip ?_
      | refine aw_condT rfl trivial ?_
      | refine aw_condF rfl trivial ?_
      | refine aw_condD rfl trivial (fun hc => ?_) (fun hc => ?_)
      | refine aw_condN rfl trivial (fun hc => ?_) (fun hc => ?_)
      | refine aw_condNB rfl trivial (fun hc => ?_) (fun hc => ?_)
      | refine aw_cond rfl trivial (fun hc => ?_) (fun hc => ?_)
      | refine aw_ret ?_
      | refine aw_exit ?_
      | refine ao_op rfl ?_ ?_
      | refine aq_op rfl ?_ ?_
      | refine at_op rfl ?_ ?_
      | refine am_op rfl ?_ rfl ?_
      | refine ao_box rfl trivial rfl rfl rfl ?_
      | refine ao_alloc rfl rfl rfl rfl ?_
      | refine ao_store rfl rfl trivial rfl trivial rfl rfl rfl rfl rfl ?_
      | (exfalso; omega)
      | refine ao_store_ep rfl rfl trivial rfl trivial rfl rfl rfl rfl rfl rfl ?_
      | (first | refine ao_call rfl (r_Up down _ hu1) rfl ?_ ?_ | refine aq_call rfl (r_Up down _ hu1) rfl ?_ ?_)
      | (first | refine ao_call rfl (r_Up down _ hu0) rfl ?_ ?_ | refine aq_call rfl (r_Up down _ hu0) rfl ?_ ?_)
      | (show allP _; first | trivial | exact ob1 (fun h => h) | exact ob2 (fun h => h) (fun h => h) | exact ob1 (fun h => ⟨h.1, trivial⟩) | (simp only [allP, obg, grd, allT, InR, decide_eq_true_eq, Bool.and_eq_true, Bool.not_eq_true', decide_eq_false_iff_not, List.nil_append, List.cons_append, List.append_nil, and_true, true_and]; first | omega | (intros; omega) | (simp only [Blk.len, List.length_set, List.length_append, List.length_cons, List.length_nil]; first | omega | (intros; omega)) | (refine ⟨?_, ?_⟩ <;> intros <;> first | (with_reducible assumption) | omega) | ((repeat' refine And.intro ?_ ?_) <;> (intros; first | (with_reducible assumption) | omega | (simp only [Blk.len, List.length_set, List.length_append, List.length_cons, List.length_nil]; omega))) | ((try simp only [Bool.or_eq_true, Bool.or_eq_false_iff, Bool.and_eq_true, Bool.and_eq_false_iff, decide_eq_true_eq, decide_eq_false_iff_not, Bool.not_eq_true', Bool.not_eq_false'] at *); (try simp only [Blk.len] at *); first | omega | (intros; omega)) | (simp_all; done))))
    have e0 : (2 * (i : Int)).toNat = 2 * i := by omega
    have e1 : (2 * (i : Int) + 1).toNat = 2 * i + 1 := by omega
    rw [e0, e1]
    refine ⟨((mask.set (2 * i) (!upB down (2 * i + 1))).set (2 * i + 1) (!upB down (2 * i)), i + 1), ⟨by simp; omega, by simp only; omega, fun k hk => ?_⟩, by simp only; omega, ?_⟩
    · simp only [List.getD_eq_getElem?_getD]
      by_cases hki : k = i
      · subst hki
        rw [List.getElem?_set_ne (by omega), List.getElem?_set_self (by omega), List.getElem?_set_self (by simp; omega)]
        exact ⟨rfl, rfl⟩
      · rw [List.getElem?_set_ne (by omega), List.getElem?_set_ne (by omega), List.getElem?_set_ne (by omega), List.getElem?_set_ne (by omega)]
        have := hm k (by simp only at hk; omega)
        simpa only [List.getD_eq_getElem?_getD] using this
    · refine Weak.trans (weak_row (nm := 2) (e := 7) (m := t.links.length) (g' := revG t (i + 1)) rfl (fun k hk => ?_) rfl) (by refine weak_to ?_ ?_ rfl rfl
                                                                                                                                · repeat (first | exact subF_nil | refine subF_cons (by first | rfl | (simp [look]; done)) ?_)
                                                                                                                                · repeat (first | exact subS_nil | refine subS_cons (by first | rfl | (simp; done)) ?_)) (Nat.le_of_ble_eq_true rfl)
      rw [← revG_step]
      rw [show Int.toNat (i : Int) = i from rfl]
      by_cases hki : k = i
      · subst hki
        rw [if_pos rfl, if_pos rfl]
        unfold revG
        rw [if_neg (Nat.lt_irrefl _)]
        rfl
      · rw [if_neg hki, if_neg hki]
  · have hin : i = t.links.length := by omega
    subst hin
    have hMk : Mk t down mask := ⟨hml, hm⟩
    have hF := c_From t down s
    have hD := c_Dist (revT t) mask s
    rw [revG_end, rev_dist hf hMk, rev_err hf hMk] at hD
    have hlen : (distL t down s true).length ≤ 64 := by
      unfold distL
      split
      · rename_i he
        have := (distL_is (fr := true) he).len
        unfold distL at this
        rw [if_pos he] at this
        omega
      · simp
    have hS := r_SameInts (distL t down s true) (distL t down s true) (by omega)
    generalize distL t down s true = x at *
    generalize errS t down s = e at *
    repeat' (first
    
      | refine aw_seq ?_
      | refine aw_region ?_
      | refine aw_region_q (by kernel_rfl) (by kernel_rfl) ?_
      | refine aw_block ?_
      | refine ao_nil ?_
      | refine ao_op rfl trivial ?_
      | refine aq_nil ?_
      | refine aq_op rfl trivial ?_
      | refine at_nil ?_
      | refine at_op rfl trivial ?_
      | refine am_nil ?_
      | refine am_op rfl trivial rfl ?_
      | refine aw_skip ?_
      | refine aw_condT rfl trivial ?_
      | refine aw_condF rfl trivial ?_
      | refine aw_condD rfl trivial (fun hc => ?_) (fun hc => ?_)
      | refine aw_condN rfl trivial (fun hc => ?_) (fun hc => ?_)
      | refine aw_condNB rfl trivial (fun hc => ?_) (fun hc => ?_)
      | refine aw_cond rfl trivial (fun hc => ?_) (fun hc => ?_)
      | refine aw_ret ?_
      | refine aw_exit ?_
      | refine ao_op rfl ?_ ?_
      | refine aq_op rfl ?_ ?_
      | refine at_op rfl ?_ ?_
      | refine am_op rfl ?_ rfl ?_
      | refine ao_box rfl trivial rfl rfl rfl ?_
      | refine ao_alloc rfl rfl rfl rfl ?_
      | refine ao_store rfl rfl trivial rfl trivial rfl rfl rfl rfl rfl ?_
      | (exfalso; omega)
      | refine ao_callR rfl (hF) trivial rfl rfl ?_
      | refine ao_callR rfl (hD) trivial rfl rfl ?_
      | (first | refine ao_call rfl (hS) rfl ?_ ?_ | refine aq_call rfl (hS) rfl ?_ ?_)
      | (show allP _; first | trivial | exact ob1 (fun h => h) | exact ob2 (fun h => h) (fun h => h) | exact ob1 (fun h => ⟨h.1, trivial⟩) | (simp only [allP, obg, grd, allT, InR, decide_eq_true_eq, Bool.and_eq_true, Bool.not_eq_true', decide_eq_false_iff_not, List.nil_append, List.cons_append, List.append_nil, and_true, true_and]; first | omega | (intros; omega) | (simp only [Blk.len, List.length_set, List.length_append, List.length_cons, List.length_nil]; first | omega | (intros; omega)) | (refine ⟨?_, ?_⟩ <;> intros <;> first | (with_reducible assumption) | omega) | ((repeat' refine And.intro ?_ ?_) <;> (intros; first | (with_reducible assumption) | omega | (simp only [Blk.len, List.length_set, List.length_append, List.length_cons, List.length_nil]; omega))) | ((try simp only [Bool.or_eq_true, Bool.or_eq_false_iff, Bool.and_eq_true, Bool.and_eq_false_iff, decide_eq_true_eq, decide_eq_false_iff_not, Bool.not_eq_true', Bool.not_eq_false'] at *); (try simp only [Blk.len] at *); first | omega | (intros; omega)) | (simp_all; done))))
    (refine fin_ret ?_; exact ret1 (by rfl) (by (rw [decide_eq_true rfl, decide_eq_true rfl]; rfl)) (by rfl))
end Go.Proofs.Ytnmajhoehmlcjaa

/- The seat's row kit with the law on the reversed topology. -/
