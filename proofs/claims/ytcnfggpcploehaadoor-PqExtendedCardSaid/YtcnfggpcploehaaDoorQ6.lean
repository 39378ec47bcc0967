/- Laid together: Mo, L26, L26a, R09b, R26a, Mt, L26b, L26c, L26d, WkYb, Z26. -/
import Derived.LaidLaws
import Derived.LaidMore
import Derived.MakeChecks
import Derived.Shelf.Spec.TrailingZeros
import Derived.ProofKit
import Derived.OpenShut
import Derived.Stop.Joined
import Derived.Test.YtcnfggpcploehaaDoorRows
import Derived.Test.YtcnfggpcploehaaDoorTie
import Derived.Test.YtcnfggpcploehaaDoorCards
import Derived.Test.YtcnfggpcploehaaDoorQ5

set_option linter.all false

/- The data of the program, out of what an argument reads as. -/
namespace Go.Wk
set_option maxRecDepth 10000

theorem fit_int {k : IntKind} {x : D} (h : (Sc.int k).fit x) : ∃ n, x = .int k n ∧ (Lit.int k n).wf = true := by
  cases x <;> first | exact h.elim | (obtain ⟨rfl, hw⟩ := h; exact ⟨_, rfl, hw⟩)
theorem fit_bool {x : D} (h : Sc.bool.fit x) : ∃ b, x = .bool b := by
  cases x <;> first | exact h.elim | exact ⟨_, rfl⟩
theorem fitL_get : ∀ {es : List Sc} {xs : List D}, fitL es xs → xs.length = es.length ∧ ∀ (i : Nat) s x, es[i]? = some s → xs[i]? = some x → s.fit x
  | [], [], _ => by simp
  | [], _ :: _, h => h.elim
  | _ :: _, [], h => h.elim
  | s :: r, x :: q, h => by
    obtain ⟨h1, h2⟩ := fitL_get h.2
    refine ⟨by simp [h1], fun i a b ha hb => ?_⟩
    cases i with
    | zero => simp at ha hb; subst ha hb; exact h.1
    | succ i => exact h2 i a b (by simpa using ha) (by simpa using hb)
theorem fitS_get : ∀ {es : List Shp} {xs : List D}, fitS es xs → xs.length = es.length ∧ ∀ (i : Nat) s x, es[i]? = some s → xs[i]? = some x → s.fit x
  | [], [], _ => by simp
  | [], _ :: _, h => h.elim
  | _ :: _, [], h => h.elim
  | s :: r, x :: q, h => by
    obtain ⟨h1, h2⟩ := fitS_get h.2
    refine ⟨by simp [h1], fun i a b ha hb => ?_⟩
    cases i with
    | zero => simp at ha hb; subst ha hb; exact h.1
    | succ i => exact h2 i a b (by simpa using ha) (by simpa using hb)
theorem fit_sl {es : List Sc} {x : D} (h : (Shp.sl es).fit x) : ∃ n get, x = .arr es.length n get ∧ n ≤ maxLen ∧ ∀ i, i < n → fitL es (get i) := by
  cases x <;> first | exact h.elim | (obtain ⟨rfl, h1, h2⟩ := h; exact ⟨_, _, rfl, h1, h2⟩)

theorem getD_map {α : Type} {n : Nat} {f : Nat → α} {d : α} {i : Nat} (hi : i < n) : ((List.range n).map f).getD i d = f i := by
  simp [List.getD_eq_getElem?_getD, hi]

theorem open_bools {x : D} (h : (Shp.sl [.bool]).fit x) : ∃ bs : List Bool, DLe x (boolsD bs) ∧ bs.length ≤ maxLen := by
  obtain ⟨n, get, rfl, hn, hf⟩ := fit_sl h
  have key : ∀ i, i < n → ∃ b, get i = [.bool b] := fun i hi => by
    have := hf i hi
    match get i, this with
    | [x], h => obtain ⟨b, rfl⟩ := fit_bool h.1; exact ⟨b, rfl⟩
  refine ⟨(List.range n).map fun i => if h : i < n then (key i h).choose else false, ?_, by simpa using hn⟩
  unfold boolsD
  rw [show ((List.range n).map fun i => if h : i < n then (key i h).choose else false).length = n by simp]
  refine DLe.arr fun i hi => ?_
  rw [getD_map hi, dif_pos hi]
  exact (key i hi).choose_spec
theorem open_ints {x : D} (h : (Shp.sl [.int .i64]).fit x) : ∃ xs : List Int, DLe x (intsD xs) ∧ xs.length ≤ maxLen ∧ ∀ y ∈ xs, (Lit.int .i64 y).wf = true := by
  obtain ⟨n, get, rfl, hn, hf⟩ := fit_sl h
  have key : ∀ i, i < n → ∃ b, get i = [.int .i64 b] ∧ (Lit.int .i64 b).wf = true := fun i hi => by
    have := hf i hi
    match get i, this with
    | [x], h => obtain ⟨b, rfl, hw⟩ := fit_int h.1; exact ⟨b, rfl, hw⟩
  refine ⟨(List.range n).map fun i => if h : i < n then (key i h).choose else 0, ?_, by simpa using hn, fun y hy => ?_⟩
  · unfold intsD
    rw [show ((List.range n).map fun i => if h : i < n then (key i h).choose else 0).length = n by simp]
    refine DLe.arr fun i hi => ?_
    rw [getD_map hi, dif_pos hi]
    exact (key i hi).choose_spec.1
  · obtain ⟨i, hi, rfl⟩ := List.mem_map.1 hy
    rw [dif_pos (List.mem_range.1 hi)]
    exact (key i (List.mem_range.1 hi)).choose_spec.2
theorem open_links {x : D} (h : (Shp.sl [.int .i64, .int .i64, .int .i64, .int .i64, .int .i64, .int .i64, .int .i64]).fit x) : ∃ ls : List Lk, DLe x (linksD ls) ∧ ls.length ≤ maxLen := by
  obtain ⟨n, get, rfl, hn, hf⟩ := fit_sl h
  have key : ∀ i, i < n → ∃ l : Lk, get i = lkD l := fun i hi => by
    have := hf i hi
    match get i, this with
    | [x0, x1, x2, x3, x4, x5, x6], ⟨h0, h1, h2, h3, h4, h5, h6, _⟩ =>
      obtain ⟨a0, rfl, _⟩ := fit_int h0
      obtain ⟨a1, rfl, _⟩ := fit_int h1
      obtain ⟨a2, rfl, _⟩ := fit_int h2
      obtain ⟨a3, rfl, _⟩ := fit_int h3
      obtain ⟨a4, rfl, _⟩ := fit_int h4
      obtain ⟨a5, rfl, _⟩ := fit_int h5
      obtain ⟨a6, rfl, _⟩ := fit_int h6
      exact ⟨⟨a0, a1, a2, a3, a4, a5, a6⟩, rfl⟩
  refine ⟨(List.range n).map fun i => if h : i < n then (key i h).choose else default, ?_, by simpa using hn⟩
  unfold linksD
  rw [show ((List.range n).map fun i => if h : i < n then (key i h).choose else default).length = n by simp]
  refine DLe.arr fun i hi => ?_
  rw [getD_map hi, dif_pos hi]
  exact (key i hi).choose_spec

abbrev topoS : List Shp := [.sc (.int .i64), .sl [.bool], .sl [.int .i64, .int .i64, .int .i64, .int .i64, .int .i64, .int .i64, .int .i64]]
theorem open_topo {ds : List D} (h : fitS topoS ds) : ∃ t : Topo, DLe (.agg ds) (topoD t) := by
  match ds, h with
  | [x0, x1, x2], ⟨h0, h1, h2, _⟩ =>
    obtain ⟨n, rfl, _⟩ := fit_int h0
    obtain ⟨bs, hb, _⟩ := open_bools h1
    obtain ⟨ls, hl, _⟩ := open_links h2
    exact ⟨⟨n, bs, ls⟩, DLe.agg ⟨DLe.refl _, hb, hl, trivial⟩⟩

abbrev queryS : List Shp := [.sc (.int .i64), .sl [.bool], .sl [.int .i64, .int .i64, .int .i64, .int .i64, .int .i64, .int .i64, .int .i64], .sl [.bool], .sc (.int .i64), .sc (.int .i64)]
def qD (t : Topo) (down : List Bool) (x y : Int) : D := .agg [.int .i64 t.nodes, boolsD t.overload, linksD t.links, boolsD down, .int .i64 x, .int .i64 y]
theorem open_query {ds : List D} (h : fitS queryS ds) : ∃ (t : Topo) (down : List Bool) (x y : Int), DLe (.agg ds) (qD t down x y) ∧ (Lit.int .i64 x).wf = true ∧ (Lit.int .i64 y).wf = true := by
  match ds, h with
  | [x0, x1, x2, x3, x4, x5], ⟨h0, h1, h2, h3, h4, h5, _⟩ =>
    obtain ⟨n, rfl, _⟩ := fit_int h0
    obtain ⟨bs, hb, _⟩ := open_bools h1
    obtain ⟨ls, hl, _⟩ := open_links h2
    obtain ⟨ds, hd, _⟩ := open_bools h3
    obtain ⟨x, rfl, hx⟩ := fit_int h4
    obtain ⟨y, rfl, hy⟩ := fit_int h5
    exact ⟨⟨n, bs, ls⟩, ds, x, y, DLe.agg ⟨DLe.refl _, hb, hl, hd, DLe.refl _, DLe.refl _, trivial⟩, hx, hy⟩

theorem open_pair {ds : List D} (h : fitS [.sc (.int .i64), .sc (.int .i64)] ds) : ∃ a b : Int, ds = [.int .i64 a, .int .i64 b] := by
  match ds, h with
  | [x0, x1], ⟨h0, h1, _⟩ =>
    obtain ⟨a, rfl, _⟩ := fit_int h0
    obtain ⟨b, rfl, _⟩ := fit_int h1
    exact ⟨a, b, rfl⟩

theorem relDs_nil {R : Nat → Prop} {w : World} : RelDs R w [] [] := ⟨rfl, fun i v x h => by simp at h⟩
theorem relDs_cons {R : Nat → Prop} {w : World} {v : Value} {x : D} {vs : List Value} {xs : List D} (h : RelD R w v x) (k : RelDs R w vs xs) : RelDs R w (v :: vs) (x :: xs) := by
  refine ⟨by simp [k.1], fun i u y hu hy => ?_⟩
  cases i with
  | zero => simp at hu hy; subst hu hy; exact h
  | succ i => exact k.2 i u y (by simpa using hu) (by simpa using hy)

end Go.Wk

/- Laws of layer 26: the example. -/
namespace Go.Proofs.YtcnfggpcploehaaDoor
set_option maxRecDepth 10000
open Go.Wk

def sqM : List Bool := [true, true, false, false, false, false, false, false]
theorem l26_square : Ctr Tryd.prog 28 [] [] (.tup [.d (sqD nilD), .d (boolsD sqM)]) := by
  refine spec_data envOK (Go.Wk.enters_of Tryd.func28 (by kernel_rfl) (by kernel_rfl)) Tryd.func28 rfl rfl _ rfl (Nat.le_of_ble_eq_true rfl) rfl fun w0 => ?_
  repeat' (first
  
    |refine zA ?_|refine zB ?_|refine zC (by kernel_rfl) (by kernel_rfl) ?_|refine zD ?_|refine zE ?_|refine zF rfl trivial ?_|refine zG ?_|refine zH rfl trivial ?_|refine zI ?_|refine zJ rfl trivial ?_|refine zK ?_|refine zL rfl trivial rfl ?_|refine zM ?_|refine zN rfl trivial ?_|refine zO rfl trivial ?_|refine zP rfl trivial (fun hc => ?_) (fun hc => ?_)|refine zQ rfl trivial (fun hc => ?_) (fun hc => ?_)|refine zR rfl trivial (fun hc => ?_) (fun hc => ?_)|refine zS rfl trivial (fun hc => ?_) (fun hc => ?_)|refine zT ?_|refine zU ?_|refine zF rfl ?_ ?_|refine zH rfl ?_ ?_|refine zJ rfl ?_ ?_|refine zL rfl ?_ rfl ?_|refine zV rfl trivial rfl rfl rfl ?_|refine zW rfl rfl rfl rfl ?_|refine zX rfl rfl trivial rfl trivial rfl rfl rfl rfl rfl ?_
  
    |(show allP _; first | trivial | exact ob1 (fun h => h) | exact ob2 (fun h => h) (fun h => h) | exact ob1 (fun h => ⟨h.1, trivial⟩) | (simp only [obS]; first | omega | (intros; omega) | (simp only [obL]; first | omega | (intros; omega)) | (refine ⟨?_, ?_⟩ <;> intros <;> first | (with_reducible assumption) | omega) | ((repeat' refine And.intro ?_ ?_) <;> (intros; first | (with_reducible assumption) | omega | (simp only [obL]; omega))) | ((try simp only [obB] at *); (try simp only [Blk.len] at *); first | omega | (intros; omega)) | (simp_all; done))))
  refine aw_weak (weak_nilc (hn := 1) (j := 2) (.row 7 0 (fun k => lkD (sqL k))) rfl rfl rfl rfl rfl rfl rfl rfl) (Nat.le_of_ble_eq_true rfl) ?_
  refine aw_loop (ι := Nat) (fun i => [(5, [], .d (iD i)), (2, [], .ptr 1 0), (0, [], .ptr 0 0)]) (fun i => [.cells [.d (iD 0), .nil, .nil], .cells [.d (iD 4), .nil, .own 2], .row 7 i (fun k => lkD (sqL k))])
    (fun i => i ≤ 4) (fun i => 4 - i) 0 (by omega) (fun _ => Nat.le_of_ble_eq_true rfl) (by refine weak_to ?_ ?_ rfl rfl
                                                                                            · repeat (first | exact subF_nil | refine subF_cons (by first | rfl | (simp [look]; done)) ?_)
                                                                                            · repeat (first | exact subS_nil | refine subS_cons (by first | rfl | (simp; done)) ?_)) fun i hi => ?_
  repeat' (first
  
    |refine zA ?_|refine zB ?_|refine zC (by kernel_rfl) (by kernel_rfl) ?_|refine zD ?_|refine zE ?_|refine zF rfl trivial ?_|refine zG ?_|refine zH rfl trivial ?_|refine zI ?_|refine zJ rfl trivial ?_|refine zK ?_|refine zL rfl trivial rfl ?_|refine zM ?_|refine zN rfl trivial ?_|refine zO rfl trivial ?_|refine zP rfl trivial (fun hc => ?_) (fun hc => ?_)|refine zQ rfl trivial (fun hc => ?_) (fun hc => ?_)|refine zR rfl trivial (fun hc => ?_) (fun hc => ?_)|refine zS rfl trivial (fun hc => ?_) (fun hc => ?_)|refine zT ?_|refine zU ?_|refine zF rfl ?_ ?_|refine zH rfl ?_ ?_|refine zJ rfl ?_ ?_|refine zL rfl ?_ rfl ?_|refine zV rfl trivial rfl rfl rfl ?_|refine zW rfl rfl rfl rfl ?_|refine zX rfl rfl trivial rfl trivial rfl rfl rfl rfl rfl ?_
    | refine ao_lit rfl rfl rfl rfl trivial rfl rfl rfl rfl rfl rfl ?_
    | refine ao_app rfl rfl rfl rfl trivial rfl trivial rfl rfl (litB_ones rfl) rfl rfl rfl rfl rfl (by simp [Blk.len]; omega) rfl rfl rfl ?_
    |(show allP _; first | trivial | exact ob1 (fun h => h) | exact ob2 (fun h => h) (fun h => h) | exact ob1 (fun h => ⟨h.1, trivial⟩) | (simp only [obS]; first | omega | (intros; omega) | (simp only [obL]; first | omega | (intros; omega)) | (refine ⟨?_, ?_⟩ <;> intros <;> first | (with_reducible assumption) | omega) | ((repeat' refine And.intro ?_ ?_) <;> (intros; first | (with_reducible assumption) | omega | (simp only [obL]; omega))) | ((try simp only [obB] at *); (try simp only [Blk.len] at *); first | omega | (intros; omega)) | (simp_all; done))))
  · refine ⟨i + 1, by omega, by omega, ?_⟩
    refine Weak.trans (weak_row (nm := 2) (e := 7) (m := i + 1) (g' := fun k => lkD (sqL k)) rfl (fun k hk => ?_) rfl) (by refine weak_to ?_ ?_ rfl rfl
                                                                                                                           · repeat (first | exact subF_nil | refine subF_cons (by first | rfl | (simp [look]; done)) ?_)
                                                                                                                           · repeat (first | exact subS_nil | refine subS_cons (by first | rfl | (simp; done)) ?_)) (Nat.le_of_ble_eq_true rfl)
    by_cases h : k < i
    · simp [h]
    · have : k = i := by omega
      subst this
      simp [lkD, sqL]
  · have h4 : i = 4 := by omega
    subst h4
    exact ⟨.inr rfl, _, rfl, _, rfl, ⟨⟨rfl, rfl⟩, rfl, ⟨_, rfl, rfl, fun k hk x hx => by simp [lkD] at hx; rcases hx with rfl | rfl | rfl | rfl | rfl | rfl | rfl <;> rfl, rfl⟩, trivial⟩, ⟨_, rfl, rfl, trivial, rfl⟩, trivial⟩

theorem setL_of {q r : Nat → Bool} (h : ∀ k, k < 64 → q k = r k) : setL q = setL r := List.filter_congr fun k hk => h k (by simpa using hk)
theorem sq_is {q r : Nat → Bool} (hq : ∀ k, q k = true → (k : Int) < sqT.nodes) (hr : ∀ k, k < 64 → 4 ≤ k → r k = false) (h : q 0 = r 0 ∧ q 1 = r 1 ∧ q 2 = r 2 ∧ q 3 = r 3) : setL q = setL r := setL_of fun k hk => by
  by_cases h4 : 4 ≤ k
  · rw [hr k hk h4]
    cases hqk : q k with
    | false => rfl
    | true => have : (k : Int) < 4 := hq k hqk; omega
  · have : k = 0 ∨ k = 1 ∨ k = 2 ∨ k = 3 := by omega
    rcases this with rfl | rfl | rfl | rfl
    · exact h.1
    · exact h.2.1
    · exact h.2.2.1
    · exact h.2.2.2
theorem s_e (d : Int) (h : d = 0 ∨ d = 1 ∨ d = 2 ∨ d = 3) : errS sqT sqM d = 0 := by rcases h with rfl | rfl | rfl | rfl <;> kernel_rfl
theorem s_f0 : distL sqT [] 0 true = [0, 1, 2, 1] := distL_chk (by kernel_rfl) (by kernel_rfl)
theorem s_f1 : distL sqT [] 1 true = [1, 0, 1, 2] := distL_chk (by kernel_rfl) (by kernel_rfl)
theorem s_f2 : distL sqT [] 2 true = [2, 1, 0, 1] := distL_chk (by kernel_rfl) (by kernel_rfl)
theorem s_f3 : distL sqT [] 3 true = [1, 2, 1, 0] := distL_chk (by kernel_rfl) (by kernel_rfl)
theorem s_g0 : distL sqT [] 0 false = [0, 1, 2, 1] := distL_chk (by kernel_rfl) (by kernel_rfl)
theorem s_g1 : distL sqT [] 1 false = [1, 0, 1, 2] := distL_chk (by kernel_rfl) (by kernel_rfl)
theorem s_g2 : distL sqT [] 2 false = [2, 1, 0, 1] := distL_chk (by kernel_rfl) (by kernel_rfl)
theorem s_g3 : distL sqT [] 3 false = [1, 2, 1, 0] := distL_chk (by kernel_rfl) (by kernel_rfl)
theorem pQ_val {t : Topo} {down : List Bool} {f g : List Int} {n z : Int} {k : Nat} (hk : (k : Int) = z) (hf : distL t [] n true = f) (hg : distL t [] z false = g) : pQ t down n k = (decide (z < t.nodes) && (decide (0 ≤ gI f z) && !(fitsB t down && decide (0 ≤ n) && decide (n < t.nodes) && decide (0 ≤ z) && decide (z < t.nodes) && usesL t down f g n z))) := by
  subst hk; rw [← hf, ← hg]; rfl
theorem qQ_val {t : Topo} {down : List Bool} {f g : List Int} {n z : Int} {k : Nat} (hk : (k : Int) = z) (hf : distL t [] z true = f) (hg : distL t [] n false = g) : qQ t down n k = (decide (z < t.nodes) && (decide (0 ≤ gI g z) && !(fitsB t down && decide (0 ≤ z) && decide (z < t.nodes) && decide (0 ≤ n) && decide (n < t.nodes) && usesL t down f g z n))) := by
  subst hk; rw [← hf, ← hg]; rfl
theorem affQ_val {t : Topo} {down : List Bool} {g : List Int} {n z : Int} {k : Nat} (hk : (k : Int) = z) (hg : distL t [] z false = g) : affQ t down n k = (decide (z < t.nodes) && (decide (0 < (down.length : Int)) && (if errN t [] n z = 0 then nextL t [] z g n else []).any (gone down))) := by
  subst hk; rw [← hg]; rfl
theorem s_P0 : pQ sqT sqM 0 0 = true ∧ pQ sqT sqM 0 1 = false ∧ pQ sqT sqM 0 2 = false ∧ pQ sqT sqM 0 3 = true :=
  ⟨(pQ_val rfl s_f0 s_g0).trans (by kernel_rfl), (pQ_val (z := 1) rfl s_f0 s_g1).trans (by kernel_rfl), (pQ_val (z := 2) rfl s_f0 s_g2).trans (by kernel_rfl), (pQ_val (z := 3) rfl s_f0 s_g3).trans (by kernel_rfl)⟩
theorem s_P3 : pQ sqT sqM 3 0 = true ∧ pQ sqT sqM 3 1 = false ∧ pQ sqT sqM 3 2 = true ∧ pQ sqT sqM 3 3 = true :=
  ⟨(pQ_val rfl s_f3 s_g0).trans (by kernel_rfl), (pQ_val (z := 1) rfl s_f3 s_g1).trans (by kernel_rfl), (pQ_val (z := 2) rfl s_f3 s_g2).trans (by kernel_rfl), (pQ_val (z := 3) rfl s_f3 s_g3).trans (by kernel_rfl)⟩
theorem s_Q1 : qQ sqT sqM 1 0 = false ∧ qQ sqT sqM 1 1 = true ∧ qQ sqT sqM 1 2 = true ∧ qQ sqT sqM 1 3 = false :=
  ⟨(qQ_val rfl s_f0 s_g1).trans (by kernel_rfl), (qQ_val (z := 1) rfl s_f1 s_g1).trans (by kernel_rfl), (qQ_val (z := 2) rfl s_f2 s_g1).trans (by kernel_rfl), (qQ_val (z := 3) rfl s_f3 s_g1).trans (by kernel_rfl)⟩
theorem s_A0 : affQ sqT sqM 0 0 = false ∧ affQ sqT sqM 0 1 = true ∧ affQ sqT sqM 0 2 = true ∧ affQ sqT sqM 0 3 = false :=
  ⟨(affQ_val rfl s_g0).trans (by kernel_rfl), (affQ_val (z := 1) rfl s_g1).trans (by kernel_rfl), (affQ_val (z := 2) rfl s_g2).trans (by kernel_rfl), (affQ_val (z := 3) rfl s_g3).trans (by kernel_rfl)⟩
theorem s_arcs : arcsL sqT 0 true = [0, 7] := by kernel_rfl
theorem s_lt {l : List Nat} (h : ∀ x ∈ l, x < 4) : ∀ k, k < 64 → 4 ≤ k → l.contains k = false := fun k _ hk => by
  cases hc : l.contains k with
  | false => rfl
  | true => have := h k (by simpa using hc); omega
theorem s_PL : setL (pQ sqT sqM 0) = [0, 3] := (sq_is (r := fun k => [0, 3].contains k) (fun k h => pQ_lt h) (s_lt (by decide)) s_P0).trans (by kernel_rfl)
theorem s_QL : setL (qQ sqT sqM 1) = [1, 2] := (sq_is (r := fun k => [1, 2].contains k) (fun k h => qQ_lt h) (s_lt (by decide)) s_Q1).trans (by kernel_rfl)
theorem s_AL : setL (affQ sqT sqM 0) = [1, 2] := (sq_is (r := fun k => [1, 2].contains k) (fun k h => affQ_lt h) (s_lt (by decide)) s_A0).trans (by kernel_rfl)
theorem s_xv (k : Nat) : extQ sqT sqM 0 [0, 7] k = (pQ sqT sqM 0 k || (decide ((k : Int) = 3) || pQ sqT sqM 3 k)) := by
  have e0 : upB sqM 0 = false := by kernel_rfl
  have e1 : upB sqM 7 = true := by kernel_rfl
  have e2 : overT sqT 3 = false := by kernel_rfl
  have e3 : headT sqT 7 = 3 := by kernel_rfl
  unfold extQ
  simp only [List.any_cons, List.any_nil, e0, e1, e2, e3]
  simp
theorem s_X0 : extQ sqT sqM 0 [0, 7] 0 = true ∧ extQ sqT sqM 0 [0, 7] 1 = false ∧ extQ sqT sqM 0 [0, 7] 2 = true ∧ extQ sqT sqM 0 [0, 7] 3 = true := by
  obtain ⟨a0, a1, a2, a3⟩ := s_P0
  obtain ⟨b0, b1, b2, b3⟩ := s_P3
  refine ⟨?_, ?_, ?_, ?_⟩ <;> rw [s_xv] <;> simp [a0, a1, a2, a3, b0, b1, b2, b3]
theorem s_XL : setL (extQ sqT sqM 0 (arcsL sqT 0 true)) = [0, 2, 3] := by
  rw [s_arcs]
  refine (sq_is (r := fun k => [0, 2, 3].contains k) (fun k h => ?_) (s_lt (by decide)) s_X0).trans (by kernel_rfl)
  rw [s_xv] at h
  simp only [Bool.or_eq_true, decide_eq_true_eq] at h
  rcases h with h | h | h
  · exact pQ_lt h
  · rw [h]; decide
  · exact pQ_lt h
theorem a26_P : CtrT tabT Tryd.prog 16 [sqD nilD, boolsD sqM, iD 0] [.ints .i64 [0, 3]] (.tup [.own 0, .d (iD 0)]) := by
  have := c26_PSpace sqT sqM 0
  rw [s_e 0 (by simp), show spaceR sqT sqM 0 (pQ sqT sqM 0) = [0, 3] by unfold spaceR; rw [if_pos (s_e 0 (by simp)), s_PL]; rfl] at this
  exact this.args ⟨sqD_le DLe.nil, DLe.refl _, DLe.refl _, trivial⟩
theorem a26_X : CtrT tabT Tryd.prog 27 [sqD nilD, boolsD sqM, iD 0] [.ints .i64 [0, 2, 3]] (.tup [.own 0, .d (iD 0)]) := by
  have := c26_Extended sqT sqM 0
  rw [s_e 0 (by simp), show spaceR sqT sqM 0 (extQ sqT sqM 0 (arcsL sqT 0 true)) = [0, 2, 3] by unfold spaceR; rw [if_pos (s_e 0 (by simp)), s_XL]; rfl] at this
  exact this.args ⟨sqD_le DLe.nil, DLe.refl _, DLe.refl _, trivial⟩
theorem a26_Q : CtrT tabT Tryd.prog 25 [sqD nilD, boolsD sqM, iD 1] [.ints .i64 [1, 2]] (.tup [.own 0, .d (iD 0)]) := by
  have := c26_QSpace sqT sqM 1
  rw [s_e 1 (by simp), show spaceR sqT sqM 1 (qQ sqT sqM 1) = [1, 2] by unfold spaceR; rw [if_pos (s_e 1 (by simp)), s_QL]; rfl] at this
  exact this.args ⟨sqD_le DLe.nil, DLe.refl _, DLe.refl _, trivial⟩
theorem a26_A : CtrT tabT Tryd.prog 13 [sqD nilD, boolsD sqM, iD 0] [.ints .i64 [1, 2]] (.tup [.own 0, .d (iD 0)]) := by
  have := c26_Affected sqT sqM 0
  rw [s_e 0 (by simp), show spaceR sqT sqM 0 (affQ sqT sqM 0) = [1, 2] by unfold spaceR; rw [if_pos (s_e 0 (by simp)), s_AL]; rfl] at this
  exact this.args ⟨sqD_le DLe.nil, DLe.refl _, DLe.refl _, trivial⟩

set_option maxHeartbeats 1000000 in
theorem l26_awake : CtrT tabT Tryd.prog 9 [] [] (.d (bD true)) := by
  refine spec_ofT envOK (Go.Wk.enters_of Tryd.func9 (by kernel_rfl) (by kernel_rfl)) Tryd.func9 rfl rfl _ rfl (Nat.le_of_ble_eq_true rfl) rfl fun w0 hTw => ?_
  repeat' (first
  
    |refine zA ?_|refine zB ?_|refine zC (by kernel_rfl) (by kernel_rfl) ?_|refine zD ?_|refine zE ?_|refine zF rfl trivial ?_|refine zG ?_|refine zH rfl trivial ?_|refine zI ?_|refine zJ rfl trivial ?_|refine zK ?_|refine zL rfl trivial rfl ?_|refine zM ?_|refine zN rfl trivial ?_|refine zO rfl trivial ?_|refine zP rfl trivial (fun hc => ?_) (fun hc => ?_)|refine zQ rfl trivial (fun hc => ?_) (fun hc => ?_)|refine zR rfl trivial (fun hc => ?_) (fun hc => ?_)|refine zS rfl trivial (fun hc => ?_) (fun hc => ?_)|refine zT ?_|refine zU ?_|refine zF rfl ?_ ?_|refine zH rfl ?_ ?_|refine zJ rfl ?_ ?_|refine zL rfl ?_ rfl ?_|refine zV rfl trivial rfl rfl rfl ?_|refine zW rfl rfl rfl rfl ?_|refine zX rfl rfl trivial rfl trivial rfl rfl rfl rfl rfl ?_
    | refine ao_callR rfl (l26_square) trivial rfl rfl ?_
    | refine ao_callRT hTw tab_stays rfl (a26_P) trivial rfl rfl ?_
    | refine ao_callRT hTw tab_stays rfl (a26_X) trivial rfl rfl ?_
    | refine ao_callRT hTw tab_stays rfl (a26_Q) trivial rfl rfl ?_
    | refine ao_callRT hTw tab_stays rfl (a26_A) trivial rfl rfl ?_
    | refine ao_call rfl (a_Same _ _ (by decide)) rfl ?_ ?_
    | refine ao_lit rfl rfl rfl rfl trivial rfl rfl rfl rfl rfl rfl ?_
    | refine ao_litT rfl (by (simp [allT])) rfl rfl rfl rfl trivial rfl rfl rfl rfl rfl rfl ?_
    |(show allP _; first | trivial | exact ob1 (fun h => h) | exact ob2 (fun h => h) (fun h => h) | exact ob1 (fun h => ⟨h.1, trivial⟩) | (simp only [obS]; first | omega | (intros; omega) | (simp only [obL]; first | omega | (intros; omega)) | (refine ⟨?_, ?_⟩ <;> intros <;> first | (with_reducible assumption) | omega) | ((repeat' refine And.intro ?_ ?_) <;> (intros; first | (with_reducible assumption) | omega | (simp only [obL]; omega))) | ((try simp only [obB] at *); (try simp only [Blk.len] at *); first | omega | (intros; omega)) | (simp_all; done))))
  (refine fin_ret ?_; exact ret1 (by rfl) (by (first | rfl | decide | (simp; done))) (by rfl))

theorem l26_large (t : Topo) (down : List Bool) (x y : Int) : Ctr Tryd.prog 10 [qD t down x y] [] (.d (bD (decide (12 < t.nodes) || decide (20 < (t.links.length : Int)) || decide (60 < (down.length : Int))))) := by
  refine spec_of envOK (Go.Wk.enters_of Tryd.func10 (by kernel_rfl) (by kernel_rfl)) Tryd.func10 rfl rfl _ rfl (Nat.le_of_ble_eq_true rfl) rfl fun w0 => ?_
  repeat' (first
  
    |refine zA ?_|refine zB ?_|refine zC (by kernel_rfl) (by kernel_rfl) ?_|refine zD ?_|refine zE ?_|refine zF rfl trivial ?_|refine zG ?_|refine zH rfl trivial ?_|refine zI ?_|refine zJ rfl trivial ?_|refine zK ?_|refine zL rfl trivial rfl ?_|refine zM ?_|refine zN rfl trivial ?_|refine zO rfl trivial ?_|refine zP rfl trivial (fun hc => ?_) (fun hc => ?_)|refine zQ rfl trivial (fun hc => ?_) (fun hc => ?_)|refine zR rfl trivial (fun hc => ?_) (fun hc => ?_)|refine zS rfl trivial (fun hc => ?_) (fun hc => ?_)|refine zT ?_|refine zU ?_|refine zF rfl ?_ ?_|refine zH rfl ?_ ?_|refine zJ rfl ?_ ?_|refine zL rfl ?_ rfl ?_|refine zV rfl trivial rfl rfl rfl ?_|refine zW rfl rfl rfl rfl ?_|refine zX rfl rfl trivial rfl trivial rfl rfl rfl rfl rfl ?_
  
    |(show allP _; first | trivial | exact ob1 (fun h => h) | exact ob2 (fun h => h) (fun h => h) | exact ob1 (fun h => ⟨h.1, trivial⟩) | (simp only [obS]; first | omega | (intros; omega) | (simp only [obL]; first | omega | (intros; omega)) | (refine ⟨?_, ?_⟩ <;> intros <;> first | (with_reducible assumption) | omega) | ((repeat' refine And.intro ?_ ?_) <;> (intros; first | (with_reducible assumption) | omega | (simp only [obL]; omega))) | ((try simp only [obB] at *); (try simp only [Blk.len] at *); first | omega | (intros; omega)) | (simp_all; done))))
  (refine fin_ret ?_; exact ret1 (by rfl) (by (simp only [Bool.or_assoc])) (by rfl))
end Go.Proofs.YtcnfggpcploehaaDoor

/- Laws of layer 26: Uses. -/
namespace Go.Proofs.YtcnfggpcploehaaDoor
set_option maxRecDepth 10000
open Go.Wk

set_option maxHeartbeats 1000000 in
theorem l_PqUses (t : Topo) (down : List Bool) (x y : Int) : CtrT tabT Tryd.prog 3 [qD t down x y] [] (.d (bD true)) := by
  refine spec_ofT envOK (Go.Wk.enters_of Tryd.func3 (by kernel_rfl) (by kernel_rfl)) Tryd.func3 rfl rfl _ rfl (Nat.le_of_ble_eq_true rfl) rfl fun w0 hTw => ?_
  repeat' (first
  
    |refine zA ?_|refine zB ?_|refine zC (by kernel_rfl) (by kernel_rfl) ?_|refine zD ?_|refine zE ?_|refine zF rfl trivial ?_|refine zG ?_|refine zH rfl trivial ?_|refine zI ?_|refine zJ rfl trivial ?_|refine zK ?_|refine zL rfl trivial rfl ?_|refine zM ?_|refine zN rfl trivial ?_|refine zO rfl trivial ?_|refine zP rfl trivial (fun hc => ?_) (fun hc => ?_)|refine zQ rfl trivial (fun hc => ?_) (fun hc => ?_)|refine zR rfl trivial (fun hc => ?_) (fun hc => ?_)|refine zS rfl trivial (fun hc => ?_) (fun hc => ?_)|refine zT ?_|refine zU ?_|refine zF rfl ?_ ?_|refine zH rfl ?_ ?_|refine zJ rfl ?_ ?_|refine zL rfl ?_ rfl ?_|refine zV rfl trivial rfl rfl rfl ?_|refine zW rfl rfl rfl rfl ?_|refine zX rfl rfl trivial rfl trivial rfl rfl rfl rfl rfl ?_
    | refine ao_callRT hTw tab_stays rfl (l26_awake) trivial rfl rfl ?_
    | (first | refine ao_call rfl (l26_large t down x y) rfl ?_ ?_ | refine aq_call rfl (l26_large t down x y) rfl ?_ ?_)
    | (first | refine ao_call rfl (c26_Uses t down x y) rfl ?_ ?_ | refine aq_call rfl (c26_Uses t down x y) rfl ?_ ?_)
    | (first | refine ao_call rfl (r26_Uses t down x y) rfl ?_ ?_ | refine aq_call rfl (r26_Uses t down x y) rfl ?_ ?_)
    |(show allP _; first | trivial | exact ob1 (fun h => h) | exact ob2 (fun h => h) (fun h => h) | exact ob1 (fun h => ⟨h.1, trivial⟩) | (simp only [obS]; first | omega | (intros; omega) | (simp only [obL]; first | omega | (intros; omega)) | (refine ⟨?_, ?_⟩ <;> intros <;> first | (with_reducible assumption) | omega) | ((repeat' refine And.intro ?_ ?_) <;> (intros; first | (with_reducible assumption) | omega | (simp only [obL]; omega))) | ((try simp only [obB] at *); (try simp only [Blk.len] at *); first | omega | (intros; omega)) | (simp_all; done))))
  all_goals first | ((refine fin_ret ?_; exact ret1 (by rfl) (by rfl) (by rfl))) | ((refine fin_ret ?_; exact ret1 (by rfl) (by (simp)) (by rfl)))
end Go.Proofs.YtcnfggpcploehaaDoor

/- The reference of layer 9: Out, Has. -/
namespace Go.Proofs.YtcnfggpcploehaaDoor
set_option maxRecDepth 10000
open Go.Wk

theorem r_Has (l : List Int) (n : Int) (hl : l.length ≤ 100000) : Ctr Tryd.prog 17 [intsD l, iD n] [] (.d (bD (l.contains n))) := by
  refine spec_of envOK (Go.Wk.enters_of Tryd.func17 (by kernel_rfl) (by kernel_rfl)) Tryd.func17 rfl rfl _ rfl (Nat.le_of_ble_eq_true rfl) rfl fun w0 => ?_
  repeat' (first
  
    |refine zA ?_|refine zB ?_|refine zC (by kernel_rfl) (by kernel_rfl) ?_|refine zD ?_|refine zE ?_|refine zF rfl trivial ?_|refine zG ?_|refine zH rfl trivial ?_|refine zI ?_|refine zJ rfl trivial ?_|refine zK ?_|refine zL rfl trivial rfl ?_|refine zM ?_|refine zN rfl trivial ?_|refine zO rfl trivial ?_|refine zP rfl trivial (fun hc => ?_) (fun hc => ?_)|refine zQ rfl trivial (fun hc => ?_) (fun hc => ?_)|refine zR rfl trivial (fun hc => ?_) (fun hc => ?_)|refine zS rfl trivial (fun hc => ?_) (fun hc => ?_)|refine zT ?_|refine zU ?_|refine zF rfl ?_ ?_|refine zH rfl ?_ ?_|refine zJ rfl ?_ ?_|refine zL rfl ?_ rfl ?_|refine zV rfl trivial rfl rfl rfl ?_|refine zW rfl rfl rfl rfl ?_|refine zX rfl rfl trivial rfl trivial rfl rfl rfl rfl rfl ?_
  
    |(show allP _; first | trivial | exact ob1 (fun h => h) | exact ob2 (fun h => h) (fun h => h) | exact ob1 (fun h => ⟨h.1, trivial⟩) | (simp only [obS]; first | omega | (intros; omega) | (simp only [obL]; first | omega | (intros; omega)) | (refine ⟨?_, ?_⟩ <;> intros <;> first | (with_reducible assumption) | omega) | ((repeat' refine And.intro ?_ ?_) <;> (intros; first | (with_reducible assumption) | omega | (simp only [obL]; omega))) | ((try simp only [obB] at *); (try simp only [Blk.len] at *); first | omega | (intros; omega)) | (simp_all; done))))
  refine aw_loop (ι := Nat) (fun i => [(5, [], .d (iD i)), (0, [], .d (intsD l)), (1, [], .d (iD n))]) (fun _ => [])
    (fun i => i ≤ l.length ∧ ∀ j, j < i → l.getD j 0 ≠ n) (fun i => l.length - i) 0 ⟨by omega, fun j hj => absurd hj (Nat.not_lt_zero _)⟩ (fun _ => Nat.le_of_ble_eq_true rfl) (by refine weak_to ?_ ?_ rfl rfl
                                                                                                                                                                                   · repeat (first | exact subF_nil | refine subF_cons (by first | rfl | (simp [look]; done)) ?_)
                                                                                                                                                                                   · repeat (first | exact subS_nil | refine subS_cons (by first | rfl | (simp; done)) ?_)) fun i hi => ?_
  obtain ⟨hi, hno⟩ := hi
  repeat' (first
  
    |refine zA ?_|refine zB ?_|refine zC (by kernel_rfl) (by kernel_rfl) ?_|refine zD ?_|refine zE ?_|refine zF rfl trivial ?_|refine zG ?_|refine zH rfl trivial ?_|refine zI ?_|refine zJ rfl trivial ?_|refine zK ?_|refine zL rfl trivial rfl ?_|refine zM ?_|refine zN rfl trivial ?_|refine zO rfl trivial ?_|refine zP rfl trivial (fun hc => ?_) (fun hc => ?_)|refine zQ rfl trivial (fun hc => ?_) (fun hc => ?_)|refine zR rfl trivial (fun hc => ?_) (fun hc => ?_)|refine zS rfl trivial (fun hc => ?_) (fun hc => ?_)|refine zT ?_|refine zU ?_|refine zF rfl ?_ ?_|refine zH rfl ?_ ?_|refine zJ rfl ?_ ?_|refine zL rfl ?_ rfl ?_|refine zV rfl trivial rfl rfl rfl ?_|refine zW rfl rfl rfl rfl ?_|refine zX rfl rfl trivial rfl trivial rfl rfl rfl rfl rfl ?_
  
    |(show allP _; first | trivial | exact ob1 (fun h => h) | exact ob2 (fun h => h) (fun h => h) | exact ob1 (fun h => ⟨h.1, trivial⟩) | (simp only [obS]; first | omega | (intros; omega) | (simp only [obL]; first | omega | (intros; omega)) | (refine ⟨?_, ?_⟩ <;> intros <;> first | (with_reducible assumption) | omega) | ((repeat' refine And.intro ?_ ?_) <;> (intros; first | (with_reducible assumption) | omega | (simp only [obL]; omega))) | ((try simp only [obB] at *); (try simp only [Blk.len] at *); first | omega | (intros; omega)) | (simp_all; done))))
  · rw [Int.toNat_natCast] at hc
    have hil : i < l.length := by omega
    have hm : l.contains n = true := by
      rw [List.getD_eq_getElem?_getD, List.getElem?_eq_getElem hil] at hc
      have : l[i] ∈ l := List.getElem_mem hil
      simp only [Option.getD_some] at hc
      rw [hc] at this
      simpa using this
    (refine fin_ret ?_; exact ret1 (by rfl) (by (rw [hm])) (by rfl))
  · rw [Int.toNat_natCast] at hc
    refine ⟨i + 1, ⟨by omega, fun j hj => ?_⟩, by omega, ?_⟩
    · rcases Nat.lt_succ_iff_lt_or_eq.1 hj with h | rfl
      · exact hno j h
      · exact hc
    · refine weak_to ?_ ?_ rfl rfl
      · repeat (first | exact subF_nil | refine subF_cons (by first | rfl | (simp [look]; done)) ?_)
      · repeat (first | exact subS_nil | refine subS_cons (by first | rfl | (simp; done)) ?_)
  · have hm : l.contains n = false := by
      cases hc' : l.contains n with
      | false => rfl
      | true =>
        obtain ⟨j, hj, hx⟩ := List.mem_iff_getElem.1 (show n ∈ l by simpa using hc')
        have := hno j (by omega)
        rw [List.getD_eq_getElem?_getD, List.getElem?_eq_getElem hj] at this
        exact absurd hx this
    (refine fin_ret ?_; exact ret1 (by rfl) (by (rw [hm])) (by rfl))
theorem arcsR_step (p : Int → Bool) (i : Nat) : (arcsR (i + 1)).filter p = (arcsR i).filter p ++ (if p (i : Int) = true then [(i : Int)] else []) := by
  unfold arcsR
  rw [List.range_succ, List.map_append, List.filter_append]
  simp [List.filter_cons]
theorem arcsR_flen (p : Int → Bool) (i : Nat) : ((arcsR i).filter p).length ≤ i := by
  have := List.length_filter_le p (arcsR i)
  simp [arcsR] at this ⊢; omega
theorem r_Out (t : Topo) (n : Int) (hv : validB t = true) : Ctr Tryd.prog 43 [topoD t, iD n] [.ints .i64 (arcsL t n true)] (.own 0) := by
  refine spec_of envOK (Go.Wk.enters_of Tryd.func43 (by kernel_rfl) (by kernel_rfl)) Tryd.func43 rfl rfl _ rfl (Nat.le_of_ble_eq_true rfl) rfl fun w0 => ?_
  have hnn := validB_head hv
  rw [arcsL_eq hv]
  have hA : arcsT t = 2 * t.links.length := by unfold arcsT; rw [hv]; rfl
  have hR := r_Arcs t
  rw [hA] at hR
  repeat' (first
  
    |refine zA ?_|refine zB ?_|refine zC (by kernel_rfl) (by kernel_rfl) ?_|refine zD ?_|refine zE ?_|refine zF rfl trivial ?_|refine zG ?_|refine zH rfl trivial ?_|refine zI ?_|refine zJ rfl trivial ?_|refine zK ?_|refine zL rfl trivial rfl ?_|refine zM ?_|refine zN rfl trivial ?_|refine zO rfl trivial ?_|refine zP rfl trivial (fun hc => ?_) (fun hc => ?_)|refine zQ rfl trivial (fun hc => ?_) (fun hc => ?_)|refine zR rfl trivial (fun hc => ?_) (fun hc => ?_)|refine zS rfl trivial (fun hc => ?_) (fun hc => ?_)|refine zT ?_|refine zU ?_|refine zF rfl ?_ ?_|refine zH rfl ?_ ?_|refine zJ rfl ?_ ?_|refine zL rfl ?_ rfl ?_|refine zV rfl trivial rfl rfl rfl ?_|refine zW rfl rfl rfl rfl ?_|refine zX rfl rfl trivial rfl trivial rfl rfl rfl rfl rfl ?_
  
    |(show allP _; first | trivial | exact ob1 (fun h => h) | exact ob2 (fun h => h) (fun h => h) | exact ob1 (fun h => ⟨h.1, trivial⟩) | (simp only [obS]; first | omega | (intros; omega) | (simp only [obL]; first | omega | (intros; omega)) | (refine ⟨?_, ?_⟩ <;> intros <;> first | (with_reducible assumption) | omega) | ((repeat' refine And.intro ?_ ?_) <;> (intros; first | (with_reducible assumption) | omega | (simp only [obL]; omega))) | ((try simp only [obB] at *); (try simp only [Blk.len] at *); first | omega | (intros; omega)) | (simp_all; done))))
  refine aw_weak (weak_nil (t := 5) (.ints .i64 []) rfl rfl rfl rfl rfl) (Nat.le_of_ble_eq_true rfl) ?_
  refine aw_loop (ι := Nat) (fun i => [(6, [], .d (iD i)), (5, [], .own 1), (2, [], .ptr 0 0), (1, [], .d (iD n))]) (fun i => [.cells [.d (iD t.nodes), .d (boolsD t.overload), .d (linksD t.links)], .ints .i64 ((arcsR i).filter fun a => decide (nearT t true a = n))])
    (fun i => i ≤ 2 * t.links.length) (fun i => 2 * t.links.length - i) 0 (by omega) (fun _ => Nat.le_of_ble_eq_true rfl) (by refine weak_to ?_ ?_ rfl rfl
                                                                                                                              · repeat (first | exact subF_nil | refine subF_cons (by first | rfl | (simp [look]; done)) ?_)
                                                                                                                              · repeat (first | exact subS_nil | refine subS_cons (by first | rfl | (simp; done)) ?_)) fun i hi => ?_
  have hl := arcsR_flen (fun a => decide (nearT t true a = n)) i
  have hst := arcsR_step (fun a => decide (nearT t true a = n)) i
  repeat' (first
  
    |refine zA ?_|refine zB ?_|refine zC (by kernel_rfl) (by kernel_rfl) ?_|refine zD ?_|refine zE ?_|refine zF rfl trivial ?_|refine zG ?_|refine zH rfl trivial ?_|refine zI ?_|refine zJ rfl trivial ?_|refine zK ?_|refine zL rfl trivial rfl ?_|refine zM ?_|refine zN rfl trivial ?_|refine zO rfl trivial ?_|refine zP rfl trivial (fun hc => ?_) (fun hc => ?_)|refine zQ rfl trivial (fun hc => ?_) (fun hc => ?_)|refine zR rfl trivial (fun hc => ?_) (fun hc => ?_)|refine zS rfl trivial (fun hc => ?_) (fun hc => ?_)|refine zT ?_|refine zU ?_|refine zF rfl ?_ ?_|refine zH rfl ?_ ?_|refine zJ rfl ?_ ?_|refine zL rfl ?_ rfl ?_|refine zV rfl trivial rfl rfl rfl ?_|refine zW rfl rfl rfl rfl ?_|refine zX rfl rfl trivial rfl trivial rfl rfl rfl rfl rfl ?_
    | (first | refine ao_call rfl (hR) rfl ?_ ?_ | refine aq_call rfl (hR) rfl ?_ ?_)
    | (first | refine ao_call rfl (r_Tail _ _) rfl ?_ ?_ | refine aq_call rfl (r_Tail _ _) rfl ?_ ?_)
    | refine ao_lit rfl rfl rfl rfl trivial rfl rfl rfl rfl rfl rfl ?_
    | refine ao_app rfl rfl rfl rfl trivial rfl trivial rfl rfl trivial rfl rfl rfl rfl rfl (by simp [Blk.len]; omega) rfl rfl rfl ?_
    |(show allP _; first | trivial | exact ob1 (fun h => h) | exact ob2 (fun h => h) (fun h => h) | exact ob1 (fun h => ⟨h.1, trivial⟩) | (simp only [obS]; first | omega | (intros; omega) | (simp only [obL]; first | omega | (intros; omega)) | (refine ⟨?_, ?_⟩ <;> intros <;> first | (with_reducible assumption) | omega) | ((repeat' refine And.intro ?_ ?_) <;> (intros; first | (with_reducible assumption) | omega | (simp only [obL]; omega))) | ((try simp only [obB] at *); (try simp only [Blk.len] at *); first | omega | (intros; omega)) | (simp_all; done))))
  · rw [if_pos (show decide (nearT t true (i : Int) = n) = true from decide_eq_true hc)] at hst
    refine ⟨i + 1, by omega, by omega, ?_⟩
    refine weak_to ?_ ?_ rfl rfl
    · repeat (first | exact subF_nil | refine subF_cons (by first | rfl | (simp [look]; done)) ?_)
    · repeat (first | exact subS_nil | refine subS_cons (by first | rfl | (rw [hst] <;> rfl)) ?_)
  · rw [if_neg (show ¬ decide (nearT t true (i : Int) = n) = true from fun h => hc (of_decide_eq_true h)), List.append_nil] at hst
    refine ⟨i + 1, by omega, by omega, ?_⟩
    refine weak_to ?_ ?_ rfl rfl
    · repeat (first | exact subF_nil | refine subF_cons (by first | rfl | (simp [look]; done)) ?_)
    · repeat (first | exact subS_nil | refine subS_cons (by first | rfl | (rw [hst] <;> rfl)) ?_)
  · refine fin_ret ?_
    exact retOwn (by rfl) (by rfl) (by rw [show i = 2 * t.links.length by omega]) (by trivial)
end Go.Proofs.YtcnfggpcploehaaDoor

/- The reference of layer 26: Affected. -/
namespace Go.Proofs.YtcnfggpcploehaaDoor
set_option maxRecDepth 10000
open Go.Wk

theorem setL_rng {q : Nat → Bool} {n : Nat} (hn : n ≤ 64) (h : ∀ k, q k = true → k < n) : setL q = (List.range n).filter q := by
  unfold setL
  rw [show (64 : Nat) = n + (64 - n) by omega, List.range_add, List.filter_append]
  have : ((List.range (64 - n)).map (n + ·)).filter q = [] := by
    rw [List.filter_eq_nil_iff]
    intro x hx hq
    obtain ⟨y, _, rfl⟩ := List.mem_map.1 hx
    have := h _ hq
    omega
  rw [this, List.append_nil]
theorem rng_step (q : Nat → Bool) (i : Nat) : intsN ((List.range (i + 1)).filter q) = intsN ((List.range i).filter q) ++ (if q i = true then [(i : Int)] else []) := by
  rw [List.range_succ, List.filter_append]
  cases h : q i <;> simp [intsN, h]
theorem rng_len (q : Nat → Bool) (i : Nat) : (intsN ((List.range i).filter q)).length ≤ i := by
  have := List.length_filter_le q (List.range i)
  simp [intsN] at this ⊢; omega
theorem r26_check (t : Topo) (down : List Bool) (n : Int) : Ctr Tryd.prog 42 [topoD t, boolsD down, iD n] [] (.d (iD (errS t down n))) := by
  refine spec_of envOK (Go.Wk.enters_of Tryd.func42 (by kernel_rfl) (by kernel_rfl)) Tryd.func42 rfl rfl _ rfl (Nat.le_of_ble_eq_true rfl) rfl fun w0 => ?_
  repeat' (first
  
    |refine zA ?_|refine zB ?_|refine zC (by kernel_rfl) (by kernel_rfl) ?_|refine zD ?_|refine zE ?_|refine zF rfl trivial ?_|refine zG ?_|refine zH rfl trivial ?_|refine zI ?_|refine zJ rfl trivial ?_|refine zK ?_|refine zL rfl trivial rfl ?_|refine zM ?_|refine zN rfl trivial ?_|refine zO rfl trivial ?_|refine zP rfl trivial (fun hc => ?_) (fun hc => ?_)|refine zQ rfl trivial (fun hc => ?_) (fun hc => ?_)|refine zR rfl trivial (fun hc => ?_) (fun hc => ?_)|refine zS rfl trivial (fun hc => ?_) (fun hc => ?_)|refine zT ?_|refine zU ?_|refine zF rfl ?_ ?_|refine zH rfl ?_ ?_|refine zJ rfl ?_ ?_|refine zL rfl ?_ rfl ?_|refine zV rfl trivial rfl rfl rfl ?_|refine zW rfl rfl rfl rfl ?_|refine zX rfl rfl trivial rfl trivial rfl rfl rfl rfl rfl ?_
    | (first | refine ao_call rfl (r_Fits _ _) rfl ?_ ?_ | refine aq_call rfl (r_Fits _ _) rfl ?_ ?_)
    |(show allP _; first | trivial | exact ob1 (fun h => h) | exact ob2 (fun h => h) (fun h => h) | exact ob1 (fun h => ⟨h.1, trivial⟩) | (simp only [obS]; first | omega | (intros; omega) | (simp only [obL]; first | omega | (intros; omega)) | (refine ⟨?_, ?_⟩ <;> intros <;> first | (with_reducible assumption) | omega) | ((repeat' refine And.intro ?_ ?_) <;> (intros; first | (with_reducible assumption) | omega | (simp only [obL]; omega))) | ((try simp only [obB] at *); (try simp only [Blk.len] at *); first | omega | (intros; omega)) | (simp_all; done))))
  · (refine fin_ret ?_; exact ret1 (by rfl) (by (unfold errS; rw [show fitsB t down = false by simpa using hc]; rfl)) (by rfl))
  · have h1 : fitsB t down = true := by assumption
    (refine fin_ret ?_; exact ret1 (by rfl) (by (unfold errS; rw [h1, hc]; rfl)) (by rfl))
  · have h1 : fitsB t down = true := by assumption
    (refine fin_ret ?_; exact ret1 (by rfl) (by (unfold errS; rw [h1, hc]; rfl)) (by rfl))

def hitB (t : Topo) (down : List Bool) (d : Int) (l : List Int) (a : Int) : Bool := !upB down a && onR t [] l a d
theorem affQ_hit {t : Topo} {down : List Bool} {n d : Int} {k : Nat} (hk : (k : Int) = d) (hv : validB t = true) (n0 : 0 ≤ n) (n1 : n < t.nodes) (k1 : d < t.nodes) : affQ t down n k = (arcsL t n true).any (hitB t down d (distL t [] d false)) := by
  subst hk
  have ek : errN t [] n k = 0 := by
    have e1 : errS t [] (k : Int) = 0 := errS_ok (by simp [fitsB, hv]) (by omega) k1
    unfold errN; rw [if_pos e1, if_neg (by omega)]
  have hk0 : decide ((k : Int) < t.nodes) = true := decide_eq_true k1
  have hnx : nextR t [] n k = nextL t [] k (distL t [] k false) n := if_pos ek
  unfold affQ
  rw [hk0, hnx, Bool.true_and]
  generalize distL t [] (k : Int) false = l
  by_cases hd : down.length = 0
  · have e0 : (arcsL t n true).any (hitB t down k l) = false := by
      rw [List.any_eq_false]; intro a _; simp [hitB, upB, hd]
    rw [e0]; simp [hd]
  · rw [decide_eq_true (by omega : 0 < (down.length : Int)), Bool.true_and]
    have hg : ∀ a, gone down a = !upB down a := fun a => by unfold gone upB; rw [decide_eq_false hd]; simp
    have ht : ∀ a ∈ arcsL t n true, tailT t a = n ∧ 1 ≤ costT t a := fun a ha => by
      have h1 := (mem_arcsL hv).1 ha
      have h2 := arc_ok hv h1.1 h1.2.1
      exact ⟨h1.2.2, h2.2.2.2.2.2.1⟩
    have key : ∀ a ∈ arcsL t n true, hitB t down k l a = (!decide (n = k ∨ gI l n < 0) && (onP t [] k l n a && gone down a)) := fun a ha => by
      obtain ⟨h1, h2⟩ := ht a ha
      rw [hg]
      unfold hitB
      by_cases hnk : n = (k : Int)
      · rw [decide_eq_true (Or.inl hnk)]
        simp [onR, h1, hnk]
      · rw [onR_P h1 hnk]
        by_cases hl : gI l n < 0
        · rw [decide_eq_true (Or.inr hl)]
          have : onP t [] k l n a = false := by
            simp only [onP, Bool.and_eq_false_iff, decide_eq_false_iff_not]
            by_cases h3 : 0 ≤ gI l (headT t a)
            · exact .inr (by omega)
            · exact .inl (.inl (.inr h3))
          rw [this]; simp
        · rw [decide_eq_false (by rintro (h | h); exact hnk h; exact hl h)]
          simp [Bool.and_comm]
    unfold nextL
    split
    · rename_i hc
      symm
      simp only [List.any_nil]
      rw [List.any_eq_false]
      intro a ha
      rw [key a ha, decide_eq_true hc]; simp
    · rename_i hc
      rw [List.any_filter]
      refine Bool.eq_iff_iff.2 ?_
      simp only [List.any_eq_true]
      constructor
      · rintro ⟨a, ha, h⟩
        exact ⟨a, ha, by rw [key a ha, decide_eq_false hc]; simpa using h⟩
      · rintro ⟨a, ha, h⟩
        rw [key a ha, decide_eq_false hc] at h
        exact ⟨a, ha, by simpa using h⟩
set_option maxHeartbeats 1000000 in
theorem r26_Affected (t : Topo) (down : List Bool) (n : Int) : Ctr Tryd.prog 14 [topoD t, boolsD down, iD n] [.ints .i64 (spaceR t down n (affQ t down n))] (.tup [.own 0, .d (iD (errS t down n))]) := by
  refine spec_of envOK (Go.Wk.enters_of Tryd.func14 (by kernel_rfl) (by kernel_rfl)) Tryd.func14 rfl rfl _ rfl (Nat.le_of_ble_eq_true rfl) rfl fun w0 => ?_
  by_cases he : errS t down n = 0
  · obtain ⟨hfit, n0, n1⟩ := errS_0 he
    have hv := fitsB_v hfit
    have hnn := validB_head hv
    rw [show spaceR t down n (affQ t down n) = intsN ((List.range t.nodes.toNat).filter (affQ t down n)) from (if_pos he).trans (by rw [setL_rng (n := t.nodes.toNat) (by omega) (fun k hk => by have := affQ_lt hk; omega)]), he]
    have hfn : fitsB t [] = true := by simp [fitsB, hv]
    have hq : ∀ i : Nat, (i : Int) < t.nodes → affQ t down n i = (arcsL t n true).any (hitB t down i (distL t [] i false)) := fun i hi => affQ_hit rfl hv n0 n1 hi
    have hmem : ∀ a ∈ arcsL t n true, 0 ≤ a ∧ a < 2 * t.links.length := fun a ha => by
      have := (mem_arcsL hv).1 ha; exact ⟨this.1, this.2.1⟩
    have hlen := arcsL_len hv n true
    have hO := r_Out t n hv
    generalize affQ t down n = q at *
    generalize arcsL t n true = A at *
    repeat' (first
    
      |refine zA ?_|refine zB ?_|refine zC (by kernel_rfl) (by kernel_rfl) ?_|refine zD ?_|refine zE ?_|refine zF rfl trivial ?_|refine zG ?_|refine zH rfl trivial ?_|refine zI ?_|refine zJ rfl trivial ?_|refine zK ?_|refine zL rfl trivial rfl ?_|refine zM ?_|refine zN rfl trivial ?_|refine zO rfl trivial ?_|refine zP rfl trivial (fun hc => ?_) (fun hc => ?_)|refine zQ rfl trivial (fun hc => ?_) (fun hc => ?_)|refine zR rfl trivial (fun hc => ?_) (fun hc => ?_)|refine zS rfl trivial (fun hc => ?_) (fun hc => ?_)|refine zT ?_|refine zU ?_|refine zF rfl ?_ ?_|refine zH rfl ?_ ?_|refine zJ rfl ?_ ?_|refine zL rfl ?_ rfl ?_|refine zV rfl trivial rfl rfl rfl ?_|refine zW rfl rfl rfl rfl ?_|refine zX rfl rfl trivial rfl trivial rfl rfl rfl rfl rfl ?_
      | (exfalso; exact absurd he (by assumption))
      | (first | refine ao_call rfl (r26_check t down n) rfl ?_ ?_ | refine aq_call rfl (r26_check t down n) rfl ?_ ?_)
      | refine ao_callR rfl (hO) trivial rfl rfl ?_
      |(show allP _; first | trivial | exact ob1 (fun h => h) | exact ob2 (fun h => h) (fun h => h) | exact ob1 (fun h => ⟨h.1, trivial⟩) | (simp only [obS]; first | omega | (intros; omega) | (simp only [obL]; first | omega | (intros; omega)) | (refine ⟨?_, ?_⟩ <;> intros <;> first | (with_reducible assumption) | omega) | ((repeat' refine And.intro ?_ ?_) <;> (intros; first | (with_reducible assumption) | omega | (simp only [obL]; omega))) | ((try simp only [obB] at *); (try simp only [Blk.len] at *); first | omega | (intros; omega)) | (simp_all; done))))
    refine aw_weak (weak_nil (t := 9) (.ints .i64 []) rfl rfl rfl rfl rfl) (Nat.le_of_ble_eq_true rfl) ?_
    refine aw_loop (ι := Nat) (fun i => [(11, [], .d (iD i)), (10, [], .own 1), (9, [], .own 2), (3, [], .ptr 0 0), (1, [], .d (boolsD down))]) (fun i => [tBlk t, .ints .i64 A, .ints .i64 (intsN ((List.range i).filter q))])
      (fun i => i ≤ t.nodes.toNat) (fun i => t.nodes.toNat - i) 0 (by simp) (fun _ => Nat.le_of_ble_eq_true rfl) (by refine weak_to ?_ ?_ rfl rfl
                                                                                                                     · repeat (first | exact subF_nil | refine subF_cons (by first | rfl | (simp [look]; done)) ?_)
                                                                                                                     · repeat (first | exact subS_nil | refine subS_cons (by first | rfl | (simp; done)) ?_)) fun i hi => ?_
    by_cases hil : i < t.nodes.toNat
    · have hqi := hq i (by omega)
      have en : errS t [] (i : Int) = 0 := errS_ok hfn (by omega) (by omega)
      have hF := distL_is (fr := false) en
      have hfb := distL_bnd (fr := false) en
      have hfs := hF.sign
      have hR := (r_Dist t [] (i : Int)).args (ds' := [topoD t, nilD, iD i]) ⟨DLe.refl _, DLe.nil, DLe.refl _, trivial⟩
      rw [en] at hR
      have hfl := hF.len
      generalize distL t [] (i : Int) false = l at *
      have hst := rng_step q i
      have hln := rng_len q i
      repeat' (first
      
        |refine zA ?_|refine zB ?_|refine zC (by kernel_rfl) (by kernel_rfl) ?_|refine zD ?_|refine zE ?_|refine zF rfl trivial ?_|refine zG ?_|refine zH rfl trivial ?_|refine zI ?_|refine zJ rfl trivial ?_|refine zK ?_|refine zL rfl trivial rfl ?_|refine zM ?_|refine zN rfl trivial ?_|refine zO rfl trivial ?_|refine zP rfl trivial (fun hc => ?_) (fun hc => ?_)|refine zQ rfl trivial (fun hc => ?_) (fun hc => ?_)|refine zR rfl trivial (fun hc => ?_) (fun hc => ?_)|refine zS rfl trivial (fun hc => ?_) (fun hc => ?_)|refine zT ?_|refine zU ?_|refine zF rfl ?_ ?_|refine zH rfl ?_ ?_|refine zJ rfl ?_ ?_|refine zL rfl ?_ rfl ?_|refine zV rfl trivial rfl rfl rfl ?_|refine zW rfl rfl rfl rfl ?_|refine zX rfl rfl trivial rfl trivial rfl rfl rfl rfl rfl ?_
        | (exfalso; omega)
        | refine ao_callR rfl (hR) trivial rfl rfl ?_
        |(show allP _; first | trivial | exact ob1 (fun h => h) | exact ob2 (fun h => h) (fun h => h) | exact ob1 (fun h => ⟨h.1, trivial⟩) | (simp only [obS]; first | omega | (intros; omega) | (simp only [obL]; first | omega | (intros; omega)) | (refine ⟨?_, ?_⟩ <;> intros <;> first | (with_reducible assumption) | omega) | ((repeat' refine And.intro ?_ ?_) <;> (intros; first | (with_reducible assumption) | omega | (simp only [obL]; omega))) | ((try simp only [obB] at *); (try simp only [Blk.len] at *); first | omega | (intros; omega)) | (simp_all; done))))
      refine aw_loop (ι := Nat) (fun j => [(15, [], .d (iD j)), (14, [], .d (bD ((A.take j).any (hitB t down i l)))), (12, [], .own 3), (11, [], .d (iD i)), (10, [], .own 1), (9, [], .own 2), (3, [], .ptr 0 0), (1, [], .d (boolsD down))]) (fun _ => [tBlk t, .ints .i64 A, .ints .i64 (intsN ((List.range i).filter q)), .ints .i64 l])
        (fun j => j ≤ A.length) (fun j => A.length - j) 0 (by simp) (fun _ => Nat.le_of_ble_eq_true rfl) (by refine weak_to ?_ ?_ rfl rfl
                                                                                                             · repeat (first | exact subF_nil | refine subF_cons (by first | rfl | (simp [look]; done)) ?_)
                                                                                                             · repeat (first | exact subS_nil | refine subS_cons (by first | rfl | (simp; done)) ?_)) fun j hj => ?_
      by_cases hjl : j < A.length
      · obtain ⟨a0, a1⟩ := hmem (A.getD (Int.toNat (j : Int)) 0) (getD_mem (by simpa using hjl))
        have hok := up_ok hfit a0 a1
        have hOn := (r_On t [] l (A.getD (Int.toNat (j : Int)) 0) i hfn a0 a1 hfl (fun i i0 i1 => ⟨hfb i i0 i1, by have := hfs i i0 i1; omega⟩)).args (ds' := [topoD t, nilD, intsD l, iD (A.getD (Int.toNat (j : Int)) 0), iD i]) ⟨DLe.refl _, DLe.nil, DLe.refl _, DLe.refl _, DLe.refl _, trivial⟩
        have hbj : (j : Int) < (Blk.ints .i64 A).len := by simp [Blk.len]; omega
        have hany : (A.take (j + 1)).any (hitB t down i l) = ((A.take j).any (hitB t down i l) || hitB t down i l (A.getD (Int.toNat (j : Int)) 0)) := by
          rw [List.take_add_one, List.any_append, Int.toNat_natCast, List.getD_eq_getElem?_getD, List.getElem?_eq_getElem hjl]; simp
        repeat' (first
        
          |refine zA ?_|refine zB ?_|refine zC (by kernel_rfl) (by kernel_rfl) ?_|refine zD ?_|refine zE ?_|refine zF rfl trivial ?_|refine zG ?_|refine zH rfl trivial ?_|refine zI ?_|refine zJ rfl trivial ?_|refine zK ?_|refine zL rfl trivial rfl ?_|refine zM ?_|refine zN rfl trivial ?_|refine zO rfl trivial ?_|refine zP rfl trivial (fun hc => ?_) (fun hc => ?_)|refine zQ rfl trivial (fun hc => ?_) (fun hc => ?_)|refine zR rfl trivial (fun hc => ?_) (fun hc => ?_)|refine zS rfl trivial (fun hc => ?_) (fun hc => ?_)|refine zT ?_|refine zU ?_|refine zF rfl ?_ ?_|refine zH rfl ?_ ?_|refine zJ rfl ?_ ?_|refine zL rfl ?_ rfl ?_|refine zV rfl trivial rfl rfl rfl ?_|refine zW rfl rfl rfl rfl ?_|refine zX rfl rfl trivial rfl trivial rfl rfl rfl rfl rfl ?_
          | (exfalso; omega)
          | (first | refine ao_call rfl (r_Up down _ hok) rfl ?_ ?_ | refine aq_call rfl (r_Up down _ hok) rfl ?_ ?_)
          | (first | refine ao_call rfl (hOn) rfl ?_ ?_ | refine aq_call rfl (hOn) rfl ?_ ?_)
          |(show allP _; first | trivial | exact ob1 (fun h => h) | exact ob2 (fun h => h) (fun h => h) | exact ob1 (fun h => ⟨h.1, trivial⟩) | (simp only [obS]; first | omega | (intros; omega) | (simp only [obL]; first | omega | (intros; omega)) | (refine ⟨?_, ?_⟩ <;> intros <;> first | (with_reducible assumption) | omega) | ((repeat' refine And.intro ?_ ?_) <;> (intros; first | (with_reducible assumption) | omega | (simp only [obL]; omega))) | ((try simp only [obB] at *); (try simp only [Blk.len] at *); first | omega | (intros; omega)) | (simp_all; done))))
        refine ⟨j + 1, by omega, by omega, ?_⟩
        have hh : ((A.take j).any (hitB t down i l) || !upB down (A.getD (Int.toNat (j : Int)) 0) && onR t [] l (A.getD (Int.toNat (j : Int)) 0) i) = (A.take (j + 1)).any (hitB t down i l) := hany.symm
        refine weak_to ?_ ?_ rfl rfl
        · repeat (first | exact subF_nil | refine subF_cons (by first | rfl | (simp [look]; done) | (rw [hh] <;> rfl)) ?_)
        · repeat (first | exact subS_nil | refine subS_cons (by first | rfl | (simp; done) | rfl) ?_)
      · rw [List.take_of_length_le (by omega), ← hqi]
        have hbn : ¬ ((j : Int) < (Blk.ints .i64 A).len) := by simp [Blk.len]; omega
        repeat' (first
        
          |refine zA ?_|refine zB ?_|refine zC (by kernel_rfl) (by kernel_rfl) ?_|refine zD ?_|refine zE ?_|refine zF rfl trivial ?_|refine zG ?_|refine zH rfl trivial ?_|refine zI ?_|refine zJ rfl trivial ?_|refine zK ?_|refine zL rfl trivial rfl ?_|refine zM ?_|refine zN rfl trivial ?_|refine zO rfl trivial ?_|refine zP rfl trivial (fun hc => ?_) (fun hc => ?_)|refine zQ rfl trivial (fun hc => ?_) (fun hc => ?_)|refine zR rfl trivial (fun hc => ?_) (fun hc => ?_)|refine zS rfl trivial (fun hc => ?_) (fun hc => ?_)|refine zT ?_|refine zU ?_|refine zF rfl ?_ ?_|refine zH rfl ?_ ?_|refine zJ rfl ?_ ?_|refine zL rfl ?_ rfl ?_|refine zV rfl trivial rfl rfl rfl ?_|refine zW rfl rfl rfl rfl ?_|refine zX rfl rfl trivial rfl trivial rfl rfl rfl rfl rfl ?_
          | (exfalso; omega)
          | refine ao_lit rfl rfl rfl rfl trivial rfl rfl rfl rfl rfl rfl ?_
          | refine ao_app rfl rfl rfl rfl trivial rfl trivial rfl rfl trivial rfl rfl rfl rfl rfl (by simp [Blk.len]; omega) rfl rfl rfl ?_
          |(show allP _; first | trivial | exact ob1 (fun h => h) | exact ob2 (fun h => h) (fun h => h) | exact ob1 (fun h => ⟨h.1, trivial⟩) | (simp only [obS]; first | omega | (intros; omega) | (simp only [obL]; first | omega | (intros; omega)) | (refine ⟨?_, ?_⟩ <;> intros <;> first | (with_reducible assumption) | omega) | ((repeat' refine And.intro ?_ ?_) <;> (intros; first | (with_reducible assumption) | omega | (simp only [obL]; omega))) | ((try simp only [obB] at *); (try simp only [Blk.len] at *); first | omega | (intros; omega)) | (simp_all; done))))
        · rw [if_pos hc] at hst
          refine ⟨i + 1, by omega, by omega, ?_⟩
          refine weak_to ?_ ?_ rfl rfl
          · repeat (first | exact subF_nil | refine subF_cons (by first | rfl | (simp [look]; done)) ?_)
          · repeat (first | exact subS_nil | refine subS_cons (by first | rfl | (rw [hst] <;> rfl)) ?_)
        · rw [if_neg (by rw [hc]; simp), List.append_nil] at hst
          refine ⟨i + 1, by omega, by omega, ?_⟩
          refine weak_to ?_ ?_ rfl rfl
          · repeat (first | exact subF_nil | refine subF_cons (by first | rfl | (simp [look]; done)) ?_)
          · repeat (first | exact subS_nil | refine subS_cons (by first | rfl | (rw [hst] <;> rfl)) ?_)
    · have he : i = t.nodes.toNat := by omega
      subst he
      repeat' (first
      
        |refine zA ?_|refine zB ?_|refine zC (by kernel_rfl) (by kernel_rfl) ?_|refine zD ?_|refine zE ?_|refine zF rfl trivial ?_|refine zG ?_|refine zH rfl trivial ?_|refine zI ?_|refine zJ rfl trivial ?_|refine zK ?_|refine zL rfl trivial rfl ?_|refine zM ?_|refine zN rfl trivial ?_|refine zO rfl trivial ?_|refine zP rfl trivial (fun hc => ?_) (fun hc => ?_)|refine zQ rfl trivial (fun hc => ?_) (fun hc => ?_)|refine zR rfl trivial (fun hc => ?_) (fun hc => ?_)|refine zS rfl trivial (fun hc => ?_) (fun hc => ?_)|refine zT ?_|refine zU ?_|refine zF rfl ?_ ?_|refine zH rfl ?_ ?_|refine zJ rfl ?_ ?_|refine zL rfl ?_ rfl ?_|refine zV rfl trivial rfl rfl rfl ?_|refine zW rfl rfl rfl rfl ?_|refine zX rfl rfl trivial rfl trivial rfl rfl rfl rfl rfl ?_
        | (exfalso; omega)
        |(show allP _; first | trivial | exact ob1 (fun h => h) | exact ob2 (fun h => h) (fun h => h) | exact ob1 (fun h => ⟨h.1, trivial⟩) | (simp only [obS]; first | omega | (intros; omega) | (simp only [obL]; first | omega | (intros; omega)) | (refine ⟨?_, ?_⟩ <;> intros <;> first | (with_reducible assumption) | omega) | ((repeat' refine And.intro ?_ ?_) <;> (intros; first | (with_reducible assumption) | omega | (simp only [obL]; omega))) | ((try simp only [obB] at *); (try simp only [Blk.len] at *); first | omega | (intros; omega)) | (simp_all; done))))
      refine fin_ret ?_; exact retOwn2 rfl rfl rfl rfl trivial rfl
  · rw [show spaceR t down n (affQ t down n) = [] from if_neg he]
    repeat' (first
    
      |refine zA ?_|refine zB ?_|refine zC (by kernel_rfl) (by kernel_rfl) ?_|refine zD ?_|refine zE ?_|refine zF rfl trivial ?_|refine zG ?_|refine zH rfl trivial ?_|refine zI ?_|refine zJ rfl trivial ?_|refine zK ?_|refine zL rfl trivial rfl ?_|refine zM ?_|refine zN rfl trivial ?_|refine zO rfl trivial ?_|refine zP rfl trivial (fun hc => ?_) (fun hc => ?_)|refine zQ rfl trivial (fun hc => ?_) (fun hc => ?_)|refine zR rfl trivial (fun hc => ?_) (fun hc => ?_)|refine zS rfl trivial (fun hc => ?_) (fun hc => ?_)|refine zT ?_|refine zU ?_|refine zF rfl ?_ ?_|refine zH rfl ?_ ?_|refine zJ rfl ?_ ?_|refine zL rfl ?_ rfl ?_|refine zV rfl trivial rfl rfl rfl ?_|refine zW rfl rfl rfl rfl ?_|refine zX rfl rfl trivial rfl trivial rfl rfl rfl rfl rfl ?_
      | (exfalso; exact absurd (by assumption) he)
      | (first | refine ao_call rfl (r26_check t down n) rfl ?_ ?_ | refine aq_call rfl (r26_check t down n) rfl ?_ ?_)
      |(show allP _; first | trivial | exact ob1 (fun h => h) | exact ob2 (fun h => h) (fun h => h) | exact ob1 (fun h => ⟨h.1, trivial⟩) | (simp only [obS]; first | omega | (intros; omega) | (simp only [obL]; first | omega | (intros; omega)) | (refine ⟨?_, ?_⟩ <;> intros <;> first | (with_reducible assumption) | omega) | ((repeat' refine And.intro ?_ ?_) <;> (intros; first | (with_reducible assumption) | omega | (simp only [obL]; omega))) | ((try simp only [obB] at *); (try simp only [Blk.len] at *); first | omega | (intros; omega)) | (simp_all; done))))
    refine fin_ret ?_; exact retNil2 rfl rfl rfl trivial rfl
end Go.Proofs.YtcnfggpcploehaaDoor

/- The spaces of layer 26, plainly: what lies on the shortest paths to a member. -/
namespace Go.Proofs.YtcnfggpcploehaaDoor
set_option maxRecDepth 10000
open Go.Wk

section
variable {t : Topo} {down : List Bool} {x y : Int} {f g : List Int}
/-- No shortest path uses an arc that is down. -/
theorem unused_iff (hv : validB t = true) (x0 : 0 ≤ x) (x1 : x < t.nodes) (hf : IsDist t [] x true f) (hg : IsDist t [] y false g) :
    usesL t down f g x y = false ↔ ∀ L, Pth t [] x L y → costP t L = gI g x → ∀ a ∈ L, upB down a = true := by
  constructor
  · intro h L hL hc a ha
    obtain ⟨A, B, rfl⟩ := List.append_of_mem ha
    have h2 := hL.split
    have := List.any_eq_false.1 h a (mem_arcsR.2 ⟨h2.2.2.1, by have := h2.2.2.2.1; omega⟩)
    rw [on_of hv x0 x1 hf hg hL hc, Bool.and_true] at this
    simpa using this
  · intro h
    unfold usesL
    rw [List.any_eq_false]
    intro a ha hu
    obtain ⟨a0, a1⟩ := mem_arcsR.1 ha
    simp only [Bool.and_eq_true, Bool.not_eq_true'] at hu
    obtain ⟨A, B, hp, hc, _⟩ := on_path hv x0 x1 hf hg a0 (by omega) hu.2
    have := h _ hp hc a (by simp)
    rw [this] at hu
    exact absurd hu.1 (by simp)
theorem uses_self : usesL t down f g x x = false := by
  unfold usesL
  rw [List.any_eq_false]
  intro a _
  simp [onU]
theorem Pth.nil (hv : validB t = true) {L : List Int} (h : Pth t down x L y) (hc : costP t L = 0) : L = [] := by
  by_cases hn : L = []
  · exact hn
  · have := (Pth.nn hv h).2 hn; omega

/-- The ends of an arc of a shortest path to a member are members, and the arc is up. -/
theorem parts_of (hv : validB t = true) (x0 : 0 ≤ x) (x1 : x < t.nodes) (y0 : 0 ≤ y) (y1 : y < t.nodes) (hf : IsDist t [] x true f) (hg : IsDist t [] y false g) (h : usesL t down f g x y = false) {a : Int} (a0 : 0 ≤ a) (a1 : a < 2 * t.links.length) (ho : onU t f g a x y = true) :
    upB down a = true ∧ (0 ≤ gI f (tailT t a) ∧ ∀ gu, IsDist t [] (tailT t a) false gu → usesL t down f gu x (tailT t a) = false) ∧ (0 ≤ gI f (headT t a) ∧ ∀ gw, IsDist t [] (headT t a) false gw → usesL t down f gw x (headT t a) = false) := by
  have hall := (unused_iff hv x0 x1 hf hg).1 h
  obtain ⟨A, B, hp, hc, _⟩ := on_path hv x0 x1 hf hg a0 a1 ho
  obtain ⟨p1, p2, _, _, p5, p6, p7⟩ := hp.split
  have ha := arc_ok hv a0 a1
  have q1 : Pth t [] x (A ++ [a]) (headT t a) := p1.cat ⟨a0, a1, rfl, rfl, fun h => absurd rfl h, rfl⟩ fun hA _ => p6 hA
  rw [costP_app, costP_cons] at hc
  refine ⟨hall _ hp (by rw [costP_app, costP_cons]; exact hc) a (by simp), ⟨(hf.walk_from hv _ A _ rfl p1).1, fun gu hgu => ?_⟩, ⟨(hf.walk_from hv _ _ _ rfl q1).1, fun gw hgw => ?_⟩⟩
  · refine (unused_iff hv x0 x1 hf hgu).2 fun L hL hLc b hb => ?_
    have hle := (hgu.walk_to hv A x p1).2
    have hcat : Pth t [] x (L ++ a :: B) y := hL.cat ⟨a0, a1, rfl, rfl, p7, p2⟩ fun hLn _ => by
      by_cases hA : A = []
      · subst hA
        exfalso
        have h1 : x = tailT t a := p1
        rw [← h1] at hL hgu
        have := hgu.self
        exact hLn (hL.nil hv (by omega))
      · exact p6 hA
    have hge := (hg.walk_to hv _ _ hcat).2
    rw [costP_app, costP_cons] at hge
    exact hall _ hcat (by rw [costP_app, costP_cons]; omega) b (by simp [hb])
  · refine (unused_iff hv x0 x1 hf hgw).2 fun L hL hLc b hb => ?_
    have hle := (hgw.walk_to hv _ x q1).2
    rw [costP_app, costP_cons] at hle
    have hn : costP t [] = 0 := rfl
    have hcat : Pth t [] x (L ++ B) y := hL.cat p2 fun _ hB => p7 hB
    have hge := (hg.walk_to hv _ _ hcat).2
    rw [costP_app] at hge
    exact hall _ hcat (by rw [costP_app]; omega) b (by simp [hb])

/-- What does not use the mask keeps its distance from the start. -/
theorem unused_from (hv : validB t = true) (x0 : 0 ≤ x) (x1 : x < t.nodes) (y0 : 0 ≤ y) (y1 : y < t.nodes) (hf : IsDist t [] x true f) (hg : IsDist t [] y false g) {f' g' : List Int} (hf' : IsDist t down x true f') (hg' : IsDist t down y false g') (h : usesL t down f g x y = false) : gI f' y = gI f y := by
  rw [dist_both hv x0 x1 y0 y1 hf' hg', dist_both hv x0 x1 y0 y1 hf hg]
  exact unused_to hv x0 x1 hf hg hg' h
/-- Over an arc that is up to a node that may be passed, and on to a member of its space. -/
theorem reach_ext (hv : validB t = true) (x0 : 0 ≤ x) (x1 : x < t.nodes) {f' : List Int} (hf' : IsDist t down x true f') {a : Int} (a0 : 0 ≤ a) (a1 : a < 2 * t.links.length) (hu : upB down a = true) (ht : tailT t a = x) :
    0 ≤ gI f' (headT t a) ∧ (overT t (headT t a) = false → ∀ (y : Int) (f g : List Int), 0 ≤ y → y < t.nodes → IsDist t [] (headT t a) true f → IsDist t [] y false g → 0 ≤ gI f y → usesL t down f g (headT t a) y = false → 0 ≤ gI f' y) := by
  have ha := arc_ok hv a0 a1
  refine ⟨(hf'.walk_from hv _ [a] _ rfl ⟨a0, a1, hu, ht, fun h => absurd rfl h, rfl⟩).1, fun ho y f g y0 y1 hf hg hy h => ?_⟩
  have hd := dist_both hv ha.2.2.1 ha.2.2.2.1 y0 y1 hf hg
  obtain ⟨L, hL, hc⟩ := hg.some_to hv (gI g (headT t a)).toNat _ ha.2.2.1 ha.2.2.2.1 (by omega) (by omega)
  have hL' : Pth t down (headT t a) L y := hL.at ((unused_iff hv ha.2.2.1 ha.2.2.2.1 hf hg).1 h L hL hc)
  exact (hf'.walk_from hv _ (a :: L) _ rfl ⟨a0, a1, hu, ht, fun _ => ho, hL'⟩).1
end
end Go.Proofs.YtcnfggpcploehaaDoor

/- Laws of layer 26: Affected, Parts. -/
namespace Go.Proofs.YtcnfggpcploehaaDoor
set_option maxRecDepth 10000
open Go.Wk

theorem mem_R {t : Topo} {down : List Bool} {n : Int} {q : Nat → Bool} (he : errS t down n = 0) {z : Int} : z ∈ spaceR t down n q ↔ ∃ k : Nat, k < 64 ∧ q k = true ∧ (k : Int) = z := by
  unfold spaceR
  rw [if_pos he]
  simp only [intsN, setL, List.mem_map, List.mem_filter, List.mem_range]
  constructor
  · rintro ⟨k, ⟨h1, h2⟩, h3⟩; exact ⟨k, h1, h2, h3⟩
  · rintro ⟨k, h1, h2, h3⟩; exact ⟨k, ⟨h1, h2⟩, h3⟩
theorem len_R (t : Topo) (down : List Bool) (n : Int) (q : Nat → Bool) : (spaceR t down n q).length ≤ 64 := by
  unfold spaceR
  split
  · have := List.length_filter_le q (List.range 64)
    simp [intsN, setL] at this ⊢; exact this
  · simp
theorem pQ_iff {t : Topo} {down : List Bool} {n y : Int} {k : Nat} (hfit : fitsB t down = true) (n0 : 0 ≤ n) (n1 : n < t.nodes) (hk : (k : Int) = y) (y1 : y < t.nodes) : pQ t down n k = true ↔ 0 ≤ gI (distL t [] n true) y ∧ usesL t down (distL t [] n true) (distL t [] y false) n y = false := by
  subst hk
  have hu : usesB t down n k = usesL t down (distL t [] n true) (distL t [] k false) n k := by simp [usesB, hfit, n0, n1, y1]
  unfold pQ
  rw [hu, decide_eq_true y1]
  simp
theorem qQ_iff {t : Topo} {down : List Bool} {n y : Int} {k : Nat} (hfit : fitsB t down = true) (n0 : 0 ≤ n) (n1 : n < t.nodes) (hk : (k : Int) = y) (y1 : y < t.nodes) : qQ t down n k = true ↔ 0 ≤ gI (distL t [] n false) y ∧ usesL t down (distL t [] y true) (distL t [] n false) y n = false := by
  subst hk
  have hu : usesB t down k n = usesL t down (distL t [] k true) (distL t [] n false) k n := by simp [usesB, hfit, n0, n1, y1]
  unfold qQ
  rw [hu, decide_eq_true y1]
  simp
theorem mem_P {t : Topo} {down : List Bool} {n z : Int} (he : errS t down n = 0) : z ∈ spaceR t down n (pQ t down n) ↔ 0 ≤ z ∧ z < t.nodes ∧ 0 ≤ gI (distL t [] n true) z ∧ usesL t down (distL t [] n true) (distL t [] z false) n z = false := by
  obtain ⟨hfit, n0, n1⟩ := errS_0 he
  have hnn := validB_head (fitsB_v hfit)
  rw [mem_R he]
  constructor
  · rintro ⟨k, h1, h2, rfl⟩
    have h3 := pQ_lt h2
    exact ⟨by omega, h3, (pQ_iff hfit n0 n1 rfl h3).1 h2⟩
  · rintro ⟨h1, h2, h3⟩
    exact ⟨z.toNat, by omega, (pQ_iff hfit n0 n1 (by omega) h2).2 h3, by omega⟩
theorem mem_Q {t : Topo} {down : List Bool} {n z : Int} (he : errS t down n = 0) : z ∈ spaceR t down n (qQ t down n) ↔ 0 ≤ z ∧ z < t.nodes ∧ 0 ≤ gI (distL t [] n false) z ∧ usesL t down (distL t [] z true) (distL t [] n false) z n = false := by
  obtain ⟨hfit, n0, n1⟩ := errS_0 he
  have hnn := validB_head (fitsB_v hfit)
  rw [mem_R he]
  constructor
  · rintro ⟨k, h1, h2, rfl⟩
    have h3 := qQ_lt h2
    exact ⟨by omega, h3, (qQ_iff hfit n0 n1 rfl h3).1 h2⟩
  · rintro ⟨h1, h2, h3⟩
    exact ⟨z.toNat, by omega, (qQ_iff hfit n0 n1 (by omega) h2).2 h3, by omega⟩

set_option maxHeartbeats 1000000 in
theorem l_PqAffected (t : Topo) (down : List Bool) (x y : Int) : CtrT tabT Tryd.prog 4 [qD t down x y] [] (.d (bD true)) := by
  refine spec_ofT envOK (Go.Wk.enters_of Tryd.func4 (by kernel_rfl) (by kernel_rfl)) Tryd.func4 rfl rfl _ rfl (Nat.le_of_ble_eq_true rfl) rfl fun w0 hTw => ?_
  have hl := len_R t down x (affQ t down x)
  repeat' (first
  
    |refine zA ?_|refine zB ?_|refine zC (by kernel_rfl) (by kernel_rfl) ?_|refine zD ?_|refine zE ?_|refine zF rfl trivial ?_|refine zG ?_|refine zH rfl trivial ?_|refine zI ?_|refine zJ rfl trivial ?_|refine zK ?_|refine zL rfl trivial rfl ?_|refine zM ?_|refine zN rfl trivial ?_|refine zO rfl trivial ?_|refine zP rfl trivial (fun hc => ?_) (fun hc => ?_)|refine zQ rfl trivial (fun hc => ?_) (fun hc => ?_)|refine zR rfl trivial (fun hc => ?_) (fun hc => ?_)|refine zS rfl trivial (fun hc => ?_) (fun hc => ?_)|refine zT ?_|refine zU ?_|refine zF rfl ?_ ?_|refine zH rfl ?_ ?_|refine zJ rfl ?_ ?_|refine zL rfl ?_ rfl ?_|refine zV rfl trivial rfl rfl rfl ?_|refine zW rfl rfl rfl rfl ?_|refine zX rfl rfl trivial rfl trivial rfl rfl rfl rfl rfl ?_
    | refine ao_callRT hTw tab_stays rfl (l26_awake) trivial rfl rfl ?_
    | (first | refine ao_call rfl (l26_large t down x y) rfl ?_ ?_ | refine aq_call rfl (l26_large t down x y) rfl ?_ ?_)
    | refine ao_callRT hTw tab_stays rfl (c26_Affected t down x) trivial rfl rfl ?_
    | refine ao_callR rfl (r26_Affected t down x) trivial rfl rfl ?_
    | (first | refine ao_call rfl (r_SameInts (spaceR t down x (affQ t down x)) (spaceR t down x (affQ t down x)) (by omega)) rfl ?_ ?_ | refine aq_call rfl (r_SameInts (spaceR t down x (affQ t down x)) (spaceR t down x (affQ t down x)) (by omega)) rfl ?_ ?_)
    |(show allP _; first | trivial | exact ob1 (fun h => h) | exact ob2 (fun h => h) (fun h => h) | exact ob1 (fun h => ⟨h.1, trivial⟩) | (simp only [obS]; first | omega | (intros; omega) | (simp only [obL]; first | omega | (intros; omega)) | (refine ⟨?_, ?_⟩ <;> intros <;> first | (with_reducible assumption) | omega) | ((repeat' refine And.intro ?_ ?_) <;> (intros; first | (with_reducible assumption) | omega | (simp only [obL]; omega))) | ((try simp only [obB] at *); (try simp only [Blk.len] at *); first | omega | (intros; omega)) | (simp_all; done))))
  all_goals first | ((refine fin_ret ?_; exact ret1 (by rfl) (by rfl) (by rfl))) | ((refine fin_ret ?_; exact ret1 (by rfl) (by (simp)) (by rfl)))

theorem on_code2 (t : Topo) (f g : List Int) (a x y : Int) : (decide (x = y) || decide (gI f (tailT t a) < 0) || decide (gI g (headT t a) < 0) || !decide (gI f (tailT t a) + costT t a + gI g (headT t a) = gI g x) || !decide (tailT t a = x) && overT t (tailT t a) || !decide (headT t a = y) && overT t (headT t a)) = !onU t f g a x y := by
  unfold onU transB
  cases decide (x = y) <;> cases decide (gI f (tailT t a) < 0) <;> cases decide (gI g (headT t a) < 0) <;> cases decide (gI f (tailT t a) + costT t a + gI g (headT t a) = gI g x) <;> cases decide (tailT t a = x) <;> cases overT t (tailT t a) <;> cases decide (headT t a = y) <;> cases overT t (headT t a) <;> rfl
set_option maxHeartbeats 1000000 in
theorem l_PqParts (t : Topo) (down : List Bool) (x y : Int) : CtrT tabT Tryd.prog 5 [qD t down x y] [] (.d (bD true)) := by
  refine spec_ofT envOK (Go.Wk.enters_of Tryd.func5 (by kernel_rfl) (by kernel_rfl)) Tryd.func5 rfl rfl _ rfl (Nat.le_of_ble_eq_true rfl) rfl fun w0 hTw => ?_
  have hl := len_R t down x (pQ t down x)
  by_cases hin : errS t down x = 0 ∧ y ∈ spaceR t down x (pQ t down x)
  · obtain ⟨he, hy⟩ := hin
    obtain ⟨hfit, x0, x1⟩ := errS_0 he
    obtain ⟨y0, y1, hy2, hy3⟩ := (mem_P he).1 hy
    have hv := fitsB_v hfit
    have hnn := validB_head hv
    have hfn : fitsB t [] = true := by simp [fitsB, hv]
    have ex := errS_ok hfn x0 x1
    have ey := errS_ok hfn y0 y1
    have hF := distL_is (fr := true) ex
    have hG := distL_is (fr := false) ey
    have hfb := distL_bnd (fr := true) ex
    have hgb := distL_bnd (fr := false) ey
    have hR := (r_From t [] x).args (ds' := [topoD t, nilD, iD x]) ⟨DLe.refl _, DLe.nil, DLe.refl _, trivial⟩
    have hS := (r_Dist t [] y).args (ds' := [topoD t, nilD, iD y]) ⟨DLe.refl _, DLe.nil, DLe.refl _, trivial⟩
    rw [ex] at hR
    rw [ey] at hS
    have hfl := hF.len
    have hgl := hG.len
    have hfs := hF.sign
    have hgs := hG.sign
    have hmem : ∀ z : Int, 0 ≤ z → z < t.nodes → 0 ≤ gI (distL t [] x true) z → (∀ gz, IsDist t [] z false gz → usesL t down (distL t [] x true) gz x z = false) → (spaceR t down x (pQ t down x)).contains z = true := fun z z0 z1 h1 h2 => by
      rw [List.contains_iff_mem]
      exact (mem_P he).2 ⟨z0, z1, h1, h2 _ (distL_is (errS_ok hfn z0 z1))⟩
    have hH := r_Has (spaceR t down x (pQ t down x)) y (by omega)
    rw [show (spaceR t down x (pQ t down x)).contains y = true from List.contains_iff_mem.2 hy] at hH
    have hPS := c26_PSpace t down x
    rw [he] at hPS
    generalize spaceR t down x (pQ t down x) = l at *
    generalize distL t [] x true = f at *
    generalize distL t [] y false = g at *
    have hix : x < (Blk.ints .i64 g).len := by simp [Blk.len]; omega
    repeat' (first
    
      |refine zA ?_|refine zB ?_|refine zC (by kernel_rfl) (by kernel_rfl) ?_|refine zD ?_|refine zE ?_|refine zF rfl trivial ?_|refine zG ?_|refine zH rfl trivial ?_|refine zI ?_|refine zJ rfl trivial ?_|refine zK ?_|refine zL rfl trivial rfl ?_|refine zM ?_|refine zN rfl trivial ?_|refine zO rfl trivial ?_|refine zP rfl trivial (fun hc => ?_) (fun hc => ?_)|refine zQ rfl trivial (fun hc => ?_) (fun hc => ?_)|refine zR rfl trivial (fun hc => ?_) (fun hc => ?_)|refine zS rfl trivial (fun hc => ?_) (fun hc => ?_)|refine zT ?_|refine zU ?_|refine zF rfl ?_ ?_|refine zH rfl ?_ ?_|refine zJ rfl ?_ ?_|refine zL rfl ?_ rfl ?_|refine zV rfl trivial rfl rfl rfl ?_|refine zW rfl rfl rfl rfl ?_|refine zX rfl rfl trivial rfl trivial rfl rfl rfl rfl rfl ?_
      | refine ao_callRT hTw tab_stays rfl (l26_awake) trivial rfl rfl ?_
      | (first | refine ao_call rfl (l26_large t down x y) rfl ?_ ?_ | refine aq_call rfl (l26_large t down x y) rfl ?_ ?_)
      | refine ao_callRT hTw tab_stays rfl (hPS) trivial rfl rfl ?_
      | (first | refine ao_call rfl (hH) rfl ?_ ?_ | refine aq_call rfl (hH) rfl ?_ ?_)
      | refine ao_callR rfl (hR) trivial rfl rfl ?_
      | refine ao_callR rfl (hS) trivial rfl rfl ?_
      |(show allP _; first | trivial | exact ob1 (fun h => h) | exact ob2 (fun h => h) (fun h => h) | exact ob1 (fun h => ⟨h.1, trivial⟩) | (simp only [obS]; first | omega | (intros; omega) | (simp only [obL]; first | omega | (intros; omega)) | (refine ⟨?_, ?_⟩ <;> intros <;> first | (with_reducible assumption) | omega) | ((repeat' refine And.intro ?_ ?_) <;> (intros; first | (with_reducible assumption) | omega | (simp only [obL]; omega))) | ((try simp only [obB] at *); (try simp only [Blk.len] at *); first | omega | (intros; omega)) | (simp_all; done))))
    all_goals first | ((refine fin_ret ?_; exact ret1 (by rfl) (by rfl) (by rfl))) | ((refine fin_ret ?_; exact ret1 (by rfl) (by (simp)) (by rfl))) | skip
    refine aw_loop (ι := Nat) (fun i => [(9, [], .d (iD i)), (7, [], .own 3), (5, [], .own 2), (3, [], .own 1), (1, [], .ptr 0 0)]) (fun _ => [.cells [.d (iD t.nodes), .d (boolsD t.overload), .d (linksD t.links), .d (boolsD down), .d (iD x), .d (iD y)], .ints .i64 l, .ints .i64 g, .ints .i64 f])
      (fun i => i ≤ 2 * t.links.length) (fun i => 2 * t.links.length - i) 0 (by simp) (fun _ => Nat.le_of_ble_eq_true rfl) (by refine weak_to ?_ ?_ rfl rfl
                                                                                                                               · repeat (first | exact subF_nil | refine subF_cons (by first | rfl | (simp [look]; done)) ?_)
                                                                                                                               · repeat (first | exact subS_nil | refine subS_cons (by first | rfl | (simp; done)) ?_)) fun i hi => ?_
    by_cases hil : i < 2 * t.links.length
    · have ha := arc_ok (a := (i : Int)) hv (by omega) (by omega)
      have hok := up_ok (a := (i : Int)) hfit (by omega) (by omega)
      have hfb1 : f.getD (tailT t (i : Int)).toNat 0 ≤ 65535 * 64 := hfb _ ha.1 ha.2.1
      have hfs1 : f.getD (tailT t (i : Int)).toNat 0 = -1 ∨ 0 ≤ f.getD (tailT t (i : Int)).toNat 0 := hfs _ ha.1 ha.2.1
      have hgb1 : g.getD (headT t (i : Int)).toNat 0 ≤ 65535 * 64 := hgb _ ha.2.2.1 ha.2.2.2.1
      have hgs1 : g.getD (headT t (i : Int)).toNat 0 = -1 ∨ 0 ≤ g.getD (headT t (i : Int)).toNat 0 := hgs _ ha.2.2.1 ha.2.2.2.1
      have hi1 : tailT t (i : Int) < (Blk.ints .i64 f).len := by simp [Blk.len]; omega
      have hi2 : headT t (i : Int) < (Blk.ints .i64 g).len := by simp [Blk.len]; omega
      by_cases ho : onU t f g (i : Int) x y = true
      · obtain ⟨u1, ⟨u2, u3⟩, ⟨u4, u5⟩⟩ := parts_of hv x0 x1 y0 y1 hF hG hy3 (by omega) (by omega) ho
        have hH1 := r_Has l (tailT t (i : Int)) (by omega)
        have hH2 := r_Has l (headT t (i : Int)) (by omega)
        have hUp := r_Up down (i : Int) hok
        rw [hmem _ ha.1 ha.2.1 u2 u3] at hH1
        rw [hmem _ ha.2.2.1 ha.2.2.2.1 u4 u5] at hH2
        rw [u1] at hUp
        repeat' (first
        
          |refine zA ?_|refine zB ?_|refine zC (by kernel_rfl) (by kernel_rfl) ?_|refine zD ?_|refine zE ?_|refine zF rfl trivial ?_|refine zG ?_|refine zH rfl trivial ?_|refine zI ?_|refine zJ rfl trivial ?_|refine zK ?_|refine zL rfl trivial rfl ?_|refine zM ?_|refine zN rfl trivial ?_|refine zO rfl trivial ?_|refine zP rfl trivial (fun hc => ?_) (fun hc => ?_)|refine zQ rfl trivial (fun hc => ?_) (fun hc => ?_)|refine zR rfl trivial (fun hc => ?_) (fun hc => ?_)|refine zS rfl trivial (fun hc => ?_) (fun hc => ?_)|refine zT ?_|refine zU ?_|refine zF rfl ?_ ?_|refine zH rfl ?_ ?_|refine zJ rfl ?_ ?_|refine zL rfl ?_ rfl ?_|refine zV rfl trivial rfl rfl rfl ?_|refine zW rfl rfl rfl rfl ?_|refine zX rfl rfl trivial rfl trivial rfl rfl rfl rfl rfl ?_
          | (exfalso; omega)
          | (first | refine ao_call rfl (r_Tail _ _) rfl ?_ ?_ | refine aq_call rfl (r_Tail _ _) rfl ?_ ?_)
          | (first | refine ao_call rfl (r_Head _ _) rfl ?_ ?_ | refine aq_call rfl (r_Head _ _) rfl ?_ ?_)
          | (first | refine ao_call rfl (r_Cost _ _) rfl ?_ ?_ | refine aq_call rfl (r_Cost _ _) rfl ?_ ?_)
          | (first | refine ao_call rfl (r_Overloaded _ _) rfl ?_ ?_ | refine aq_call rfl (r_Overloaded _ _) rfl ?_ ?_)
          | (first | refine ao_call rfl (hH1) rfl ?_ ?_ | refine aq_call rfl (hH1) rfl ?_ ?_)
          | (first | refine ao_call rfl (hH2) rfl ?_ ?_ | refine aq_call rfl (hH2) rfl ?_ ?_)
          | (first | refine ao_call rfl (hUp) rfl ?_ ?_ | refine aq_call rfl (hUp) rfl ?_ ?_)
          |(show allP _; first | trivial | exact ob1 (fun h => h) | exact ob2 (fun h => h) (fun h => h) | exact ob1 (fun h => ⟨h.1, trivial⟩) | (simp only [obS]; first | omega | (intros; omega) | (simp only [obL]; first | omega | (intros; omega)) | (refine ⟨?_, ?_⟩ <;> intros <;> first | (with_reducible assumption) | omega) | ((repeat' refine And.intro ?_ ?_) <;> (intros; first | (with_reducible assumption) | omega | (simp only [obL]; omega))) | ((try simp only [obB] at *); (try simp only [Blk.len] at *); first | omega | (intros; omega)) | (simp_all; done))))
        all_goals (refine ⟨i + 1, by omega, by omega, ?_⟩)
        all_goals refine weak_to ?_ ?_ rfl rfl
                  · repeat (first | exact subF_nil | refine subF_cons (by first | rfl | (simp [look]; done)) ?_)
                  · repeat (first | exact subS_nil | refine subS_cons (by first | rfl | (simp; done)) ?_)
      · repeat' (first
        
          |refine zA ?_|refine zB ?_|refine zC (by kernel_rfl) (by kernel_rfl) ?_|refine zD ?_|refine zE ?_|refine zF rfl trivial ?_|refine zG ?_|refine zH rfl trivial ?_|refine zI ?_|refine zJ rfl trivial ?_|refine zK ?_|refine zL rfl trivial rfl ?_|refine zM ?_|refine zN rfl trivial ?_|refine zO rfl trivial ?_|refine zP rfl trivial (fun hc => ?_) (fun hc => ?_)|refine zQ rfl trivial (fun hc => ?_) (fun hc => ?_)|refine zR rfl trivial (fun hc => ?_) (fun hc => ?_)|refine zS rfl trivial (fun hc => ?_) (fun hc => ?_)|refine zT ?_|refine zU ?_|refine zF rfl ?_ ?_|refine zH rfl ?_ ?_|refine zJ rfl ?_ ?_|refine zL rfl ?_ rfl ?_|refine zV rfl trivial rfl rfl rfl ?_|refine zW rfl rfl rfl rfl ?_|refine zX rfl rfl trivial rfl trivial rfl rfl rfl rfl rfl ?_
          | (exfalso; omega)
          | (first | refine ao_call rfl (r_Tail _ _) rfl ?_ ?_ | refine aq_call rfl (r_Tail _ _) rfl ?_ ?_)
          | (first | refine ao_call rfl (r_Head _ _) rfl ?_ ?_ | refine aq_call rfl (r_Head _ _) rfl ?_ ?_)
          | (first | refine ao_call rfl (r_Cost _ _) rfl ?_ ?_ | refine aq_call rfl (r_Cost _ _) rfl ?_ ?_)
          | (first | refine ao_call rfl (r_Overloaded _ _) rfl ?_ ?_ | refine aq_call rfl (r_Overloaded _ _) rfl ?_ ?_)
          | (first | refine ao_call rfl (r_Has l _ (by omega)) rfl ?_ ?_ | refine aq_call rfl (r_Has l _ (by omega)) rfl ?_ ?_)
          | (first | refine ao_call rfl (r_Up down (i : Int) hok) rfl ?_ ?_ | refine aq_call rfl (r_Up down (i : Int) hok) rfl ?_ ?_)
          |(show allP _; first | trivial | exact ob1 (fun h => h) | exact ob2 (fun h => h) (fun h => h) | exact ob1 (fun h => ⟨h.1, trivial⟩) | (simp only [obS]; first | omega | (intros; omega) | (simp only [obL]; first | omega | (intros; omega)) | (refine ⟨?_, ?_⟩ <;> intros <;> first | (with_reducible assumption) | omega) | ((repeat' refine And.intro ?_ ?_) <;> (intros; first | (with_reducible assumption) | omega | (simp only [obL]; omega))) | ((try simp only [obB] at *); (try simp only [Blk.len] at *); first | omega | (intros; omega)) | (simp_all; done))))
        · refine ⟨i + 1, by omega, by omega, ?_⟩
          refine weak_to ?_ ?_ rfl rfl
          · repeat (first | exact subF_nil | refine subF_cons (by first | rfl | (simp [look]; done)) ?_)
          · repeat (first | exact subS_nil | refine subS_cons (by first | rfl | (simp; done)) ?_)
        · exfalso
          refine ho ?_
          rename_i h1
          have h2 := on_code2 t f g (i : Int) x y
          simp only [gI] at h2
          rw [h1] at h2
          simpa using h2.symm
        · refine ⟨i + 1, by omega, by omega, ?_⟩
          refine weak_to ?_ ?_ rfl rfl
          · repeat (first | exact subF_nil | refine subF_cons (by first | rfl | (simp [look]; done)) ?_)
          · repeat (first | exact subS_nil | refine subS_cons (by first | rfl | (simp; done)) ?_)
    · repeat' (first
      
        |refine zA ?_|refine zB ?_|refine zC (by kernel_rfl) (by kernel_rfl) ?_|refine zD ?_|refine zE ?_|refine zF rfl trivial ?_|refine zG ?_|refine zH rfl trivial ?_|refine zI ?_|refine zJ rfl trivial ?_|refine zK ?_|refine zL rfl trivial rfl ?_|refine zM ?_|refine zN rfl trivial ?_|refine zO rfl trivial ?_|refine zP rfl trivial (fun hc => ?_) (fun hc => ?_)|refine zQ rfl trivial (fun hc => ?_) (fun hc => ?_)|refine zR rfl trivial (fun hc => ?_) (fun hc => ?_)|refine zS rfl trivial (fun hc => ?_) (fun hc => ?_)|refine zT ?_|refine zU ?_|refine zF rfl ?_ ?_|refine zH rfl ?_ ?_|refine zJ rfl ?_ ?_|refine zL rfl ?_ rfl ?_|refine zV rfl trivial rfl rfl rfl ?_|refine zW rfl rfl rfl rfl ?_|refine zX rfl rfl trivial rfl trivial rfl rfl rfl rfl rfl ?_
        | (exfalso; omega)
        |(show allP _; first | trivial | exact ob1 (fun h => h) | exact ob2 (fun h => h) (fun h => h) | exact ob1 (fun h => ⟨h.1, trivial⟩) | (simp only [obS]; first | omega | (intros; omega) | (simp only [obL]; first | omega | (intros; omega)) | (refine ⟨?_, ?_⟩ <;> intros <;> first | (with_reducible assumption) | omega) | ((repeat' refine And.intro ?_ ?_) <;> (intros; first | (with_reducible assumption) | omega | (simp only [obL]; omega))) | ((try simp only [obB] at *); (try simp only [Blk.len] at *); first | omega | (intros; omega)) | (simp_all; done))))
      (refine fin_ret ?_; exact ret1 (by rfl) (by rfl) (by rfl))
  · repeat' (first
    
      |refine zA ?_|refine zB ?_|refine zC (by kernel_rfl) (by kernel_rfl) ?_|refine zD ?_|refine zE ?_|refine zF rfl trivial ?_|refine zG ?_|refine zH rfl trivial ?_|refine zI ?_|refine zJ rfl trivial ?_|refine zK ?_|refine zL rfl trivial rfl ?_|refine zM ?_|refine zN rfl trivial ?_|refine zO rfl trivial ?_|refine zP rfl trivial (fun hc => ?_) (fun hc => ?_)|refine zQ rfl trivial (fun hc => ?_) (fun hc => ?_)|refine zR rfl trivial (fun hc => ?_) (fun hc => ?_)|refine zS rfl trivial (fun hc => ?_) (fun hc => ?_)|refine zT ?_|refine zU ?_|refine zF rfl ?_ ?_|refine zH rfl ?_ ?_|refine zJ rfl ?_ ?_|refine zL rfl ?_ rfl ?_|refine zV rfl trivial rfl rfl rfl ?_|refine zW rfl rfl rfl rfl ?_|refine zX rfl rfl trivial rfl trivial rfl rfl rfl rfl rfl ?_
      | refine ao_callRT hTw tab_stays rfl (l26_awake) trivial rfl rfl ?_
      | (first | refine ao_call rfl (l26_large t down x y) rfl ?_ ?_ | refine aq_call rfl (l26_large t down x y) rfl ?_ ?_)
      | refine ao_callRT hTw tab_stays rfl (c26_PSpace t down x) trivial rfl rfl ?_
      | (first | refine ao_call rfl (r_Has (spaceR t down x (pQ t down x)) y (by omega)) rfl ?_ ?_ | refine aq_call rfl (r_Has (spaceR t down x (pQ t down x)) y (by omega)) rfl ?_ ?_)
      |(show allP _; first | trivial | exact ob1 (fun h => h) | exact ob2 (fun h => h) (fun h => h) | exact ob1 (fun h => ⟨h.1, trivial⟩) | (simp only [obS]; first | omega | (intros; omega) | (simp only [obL]; first | omega | (intros; omega)) | (refine ⟨?_, ?_⟩ <;> intros <;> first | (with_reducible assumption) | omega) | ((repeat' refine And.intro ?_ ?_) <;> (intros; first | (with_reducible assumption) | omega | (simp only [obL]; omega))) | ((try simp only [obB] at *); (try simp only [Blk.len] at *); first | omega | (intros; omega)) | (simp_all; done))))
    all_goals first | ((refine fin_ret ?_; exact ret1 (by rfl) (by rfl) (by rfl))) | ((refine fin_ret ?_; exact ret1 (by rfl) (by (simp)) (by rfl))) | skip
    exfalso
    refine hin ?_
    simp only [Bool.or_eq_false_iff, Bool.not_eq_false', decide_eq_true_eq, List.contains_iff_mem] at hc
    exact hc
end Go.Proofs.YtcnfggpcploehaaDoor

/- Laws of layer 26: Stays. -/
namespace Go.Proofs.YtcnfggpcploehaaDoor
set_option maxRecDepth 10000
open Go.Wk

set_option maxHeartbeats 1000000 in
theorem l_PqStays (t : Topo) (down : List Bool) (x y : Int) : CtrT tabT Tryd.prog 6 [qD t down x y] [] (.d (bD true)) := by
  refine spec_ofT envOK (Go.Wk.enters_of Tryd.func6 (by kernel_rfl) (by kernel_rfl)) Tryd.func6 rfl rfl _ rfl (Nat.le_of_ble_eq_true rfl) rfl fun w0 hTw => ?_
  have hlp := len_R t down x (pQ t down x)
  have hlq := len_R t down x (qQ t down x)
  by_cases he : errS t down x = 0
  · obtain ⟨hfit, x0, x1⟩ := errS_0 he
    have hv := fitsB_v hfit
    have hnn := validB_head hv
    have hfn : fitsB t [] = true := by simp [fitsB, hv]
    have ex := errS_ok hfn x0 x1
    have hF := distL_is (fr := true) ex
    have hG := distL_is (fr := false) ex
    have hF' := distL_is (fr := true) he
    have hG' := distL_is (fr := false) he
    have hR := (r_From t [] x).args (ds' := [topoD t, nilD, iD x]) ⟨DLe.refl _, DLe.nil, DLe.refl _, trivial⟩
    have hS := (r_Dist t [] x).args (ds' := [topoD t, nilD, iD x]) ⟨DLe.refl _, DLe.nil, DLe.refl _, trivial⟩
    have hR' := r_From t down x
    have hS' := r_Dist t down x
    rw [ex] at hR hS
    rw [he] at hR' hS'
    have hP : ∀ z ∈ spaceR t down x (pQ t down x), 0 ≤ z ∧ z < t.nodes ∧ gI (distL t down x true) z = gI (distL t [] x true) z := fun z hz => by
      obtain ⟨z0, z1, h2, h3⟩ := (mem_P he).1 hz
      exact ⟨z0, z1, unused_from hv x0 x1 z0 z1 hF (distL_is (errS_ok hfn z0 z1)) hF' (distL_is (errS_ok hfit z0 z1)) h3⟩
    have hQ : ∀ z ∈ spaceR t down x (qQ t down x), 0 ≤ z ∧ z < t.nodes ∧ gI (distL t down x false) z = gI (distL t [] x false) z := fun z hz => by
      obtain ⟨z0, z1, h2, h3⟩ := (mem_Q he).1 hz
      exact ⟨z0, z1, unused_to hv z0 z1 (distL_is (errS_ok hfn z0 z1)) hG hG' h3⟩
    have hxP : x ∈ spaceR t down x (pQ t down x) := (mem_P he).2 ⟨x0, x1, by have := hF.self; omega, uses_self⟩
    have hxQ : x ∈ spaceR t down x (qQ t down x) := (mem_Q he).2 ⟨x0, x1, by have := hG.self; omega, uses_self⟩
    have hPS := c26_PSpace t down x
    have hQS := c26_QSpace t down x
    rw [he] at hPS hQS
    generalize spaceR t down x (pQ t down x) = p at *
    generalize spaceR t down x (qQ t down x) = q at *
    have hH1 := r_Has p x (by omega)
    have hH2 := r_Has q x (by omega)
    rw [List.contains_iff_mem.2 hxP] at hH1
    rw [List.contains_iff_mem.2 hxQ] at hH2
    have l1 := hF.len
    have l2 := hF'.len
    have l3 := hG.len
    have l4 := hG'.len
    generalize distL t [] x true = a at *
    generalize distL t down x true = b at *
    generalize distL t [] x false = c at *
    generalize distL t down x false = d at *
    repeat' (first
    
      |refine zA ?_|refine zB ?_|refine zC (by kernel_rfl) (by kernel_rfl) ?_|refine zD ?_|refine zE ?_|refine zF rfl trivial ?_|refine zG ?_|refine zH rfl trivial ?_|refine zI ?_|refine zJ rfl trivial ?_|refine zK ?_|refine zL rfl trivial rfl ?_|refine zM ?_|refine zN rfl trivial ?_|refine zO rfl trivial ?_|refine zP rfl trivial (fun hc => ?_) (fun hc => ?_)|refine zQ rfl trivial (fun hc => ?_) (fun hc => ?_)|refine zR rfl trivial (fun hc => ?_) (fun hc => ?_)|refine zS rfl trivial (fun hc => ?_) (fun hc => ?_)|refine zT ?_|refine zU ?_|refine zF rfl ?_ ?_|refine zH rfl ?_ ?_|refine zJ rfl ?_ ?_|refine zL rfl ?_ rfl ?_|refine zV rfl trivial rfl rfl rfl ?_|refine zW rfl rfl rfl rfl ?_|refine zX rfl rfl trivial rfl trivial rfl rfl rfl rfl rfl ?_
      | refine ao_callRT hTw tab_stays rfl (l26_awake) trivial rfl rfl ?_
      | (first | refine ao_call rfl (l26_large t down x y) rfl ?_ ?_ | refine aq_call rfl (l26_large t down x y) rfl ?_ ?_)
      | refine ao_callRT hTw tab_stays rfl (hPS) trivial rfl rfl ?_
      | refine ao_callRT hTw tab_stays rfl (hQS) trivial rfl rfl ?_
      | refine ao_callR rfl (hR) trivial rfl rfl ?_
      | refine ao_callR rfl (hS) trivial rfl rfl ?_
      | refine ao_callR rfl (hR') trivial rfl rfl ?_
      | refine ao_callR rfl (hS') trivial rfl rfl ?_
      |(show allP _; first | trivial | exact ob1 (fun h => h) | exact ob2 (fun h => h) (fun h => h) | exact ob1 (fun h => ⟨h.1, trivial⟩) | (simp only [obS]; first | omega | (intros; omega) | (simp only [obL]; first | omega | (intros; omega)) | (refine ⟨?_, ?_⟩ <;> intros <;> first | (with_reducible assumption) | omega) | ((repeat' refine And.intro ?_ ?_) <;> (intros; first | (with_reducible assumption) | omega | (simp only [obL]; omega))) | ((try simp only [obB] at *); (try simp only [Blk.len] at *); first | omega | (intros; omega)) | (simp_all; done))))
    all_goals first | ((refine fin_ret ?_; exact ret1 (by rfl) (by rfl) (by rfl))) | ((refine fin_ret ?_; exact ret1 (by rfl) (by (simp)) (by rfl))) | skip
    refine aw_loop (ι := Nat) (fun i => [(91, [], .d (iD i)), (90, [], .d (iD p.length)), (3, [], .own 1), (5, [], .own 2), (7, [], .own 3), (9, [], .own 4), (11, [], .own 5), (13, [], .own 6), (1, [], .ptr 0 0)]) (fun _ => [.cells [.d (iD t.nodes), .d (boolsD t.overload), .d (linksD t.links), .d (boolsD down), .d (iD x), .d (iD y)], .ints .i64 p, .ints .i64 q, .ints .i64 a, .ints .i64 b, .ints .i64 c, .ints .i64 d])
      (fun i => i ≤ p.length) (fun i => p.length - i) 0 (by simp) (fun _ => Nat.le_of_ble_eq_true rfl) (by refine weak_to ?_ ?_ rfl rfl
                                                                                                           · repeat (first | exact subF_nil | refine subF_cons (by first | rfl | (simp [look]; done)) ?_)
                                                                                                           · repeat (first | exact subS_nil | refine subS_cons (by first | rfl | (simp; done)) ?_)) fun i hi => ?_
    by_cases hil : i < p.length
    · obtain ⟨z0, z1, hz⟩ := hP (p.getD (Int.toNat (i : Int)) 0) (getD_mem (by simpa using hil))
      simp only [gI] at hz
      have k1 : (i : Int) < (Blk.ints .i64 p).len := by simp [Blk.len]; omega
      have k2 : p.getD (Int.toNat (i : Int)) 0 < (Blk.ints .i64 a).len := by show _ < ((a.length : Nat) : Int); omega
      have k3 : p.getD (Int.toNat (i : Int)) 0 < (Blk.ints .i64 b).len := by show _ < ((b.length : Nat) : Int); omega
      repeat' (first
      
        |refine zA ?_|refine zB ?_|refine zC (by kernel_rfl) (by kernel_rfl) ?_|refine zD ?_|refine zE ?_|refine zF rfl trivial ?_|refine zG ?_|refine zH rfl trivial ?_|refine zI ?_|refine zJ rfl trivial ?_|refine zK ?_|refine zL rfl trivial rfl ?_|refine zM ?_|refine zN rfl trivial ?_|refine zO rfl trivial ?_|refine zP rfl trivial (fun hc => ?_) (fun hc => ?_)|refine zQ rfl trivial (fun hc => ?_) (fun hc => ?_)|refine zR rfl trivial (fun hc => ?_) (fun hc => ?_)|refine zS rfl trivial (fun hc => ?_) (fun hc => ?_)|refine zT ?_|refine zU ?_|refine zF rfl ?_ ?_|refine zH rfl ?_ ?_|refine zJ rfl ?_ ?_|refine zL rfl ?_ rfl ?_|refine zV rfl trivial rfl rfl rfl ?_|refine zW rfl rfl rfl rfl ?_|refine zX rfl rfl trivial rfl trivial rfl rfl rfl rfl rfl ?_
        | (exfalso; first | omega | (exact absurd hz.symm (by assumption)))
        |(show allP _; first | trivial | exact ob1 (fun h => h) | exact ob2 (fun h => h) (fun h => h) | exact ob1 (fun h => ⟨h.1, trivial⟩) | (simp only [obS]; first | omega | (intros; omega) | (simp only [obL]; first | omega | (intros; omega)) | (refine ⟨?_, ?_⟩ <;> intros <;> first | (with_reducible assumption) | omega) | ((repeat' refine And.intro ?_ ?_) <;> (intros; first | (with_reducible assumption) | omega | (simp only [obL]; omega))) | ((try simp only [obB] at *); (try simp only [Blk.len] at *); first | omega | (intros; omega)) | (simp_all; done))))
      refine ⟨i + 1, by omega, by omega, ?_⟩
      refine weak_to ?_ ?_ rfl rfl
      · repeat (first | exact subF_nil | refine subF_cons (by first | rfl | (simp [look]; done)) ?_)
      · repeat (first | exact subS_nil | refine subS_cons (by first | rfl | (simp; done)) ?_)
    · repeat' (first
      
        |refine zA ?_|refine zB ?_|refine zC (by kernel_rfl) (by kernel_rfl) ?_|refine zD ?_|refine zE ?_|refine zF rfl trivial ?_|refine zG ?_|refine zH rfl trivial ?_|refine zI ?_|refine zJ rfl trivial ?_|refine zK ?_|refine zL rfl trivial rfl ?_|refine zM ?_|refine zN rfl trivial ?_|refine zO rfl trivial ?_|refine zP rfl trivial (fun hc => ?_) (fun hc => ?_)|refine zQ rfl trivial (fun hc => ?_) (fun hc => ?_)|refine zR rfl trivial (fun hc => ?_) (fun hc => ?_)|refine zS rfl trivial (fun hc => ?_) (fun hc => ?_)|refine zT ?_|refine zU ?_|refine zF rfl ?_ ?_|refine zH rfl ?_ ?_|refine zJ rfl ?_ ?_|refine zL rfl ?_ rfl ?_|refine zV rfl trivial rfl rfl rfl ?_|refine zW rfl rfl rfl rfl ?_|refine zX rfl rfl trivial rfl trivial rfl rfl rfl rfl rfl ?_
        | (exfalso; omega)
        |(show allP _; first | trivial | exact ob1 (fun h => h) | exact ob2 (fun h => h) (fun h => h) | exact ob1 (fun h => ⟨h.1, trivial⟩) | (simp only [obS]; first | omega | (intros; omega) | (simp only [obL]; first | omega | (intros; omega)) | (refine ⟨?_, ?_⟩ <;> intros <;> first | (with_reducible assumption) | omega) | ((repeat' refine And.intro ?_ ?_) <;> (intros; first | (with_reducible assumption) | omega | (simp only [obL]; omega))) | ((try simp only [obB] at *); (try simp only [Blk.len] at *); first | omega | (intros; omega)) | (simp_all; done))))
      refine aw_loop (ι := Nat) (fun i => [(112, [], .d (iD i)), (111, [], .d (iD q.length)), (3, [], .own 1), (5, [], .own 2), (11, [], .own 5), (13, [], .own 6), (1, [], .ptr 0 0)]) (fun _ => [.cells [.d (iD t.nodes), .d (boolsD t.overload), .d (linksD t.links), .d (boolsD down), .d (iD x), .d (iD y)], .ints .i64 p, .ints .i64 q, .ints .i64 a, .ints .i64 b, .ints .i64 c, .ints .i64 d])
        (fun i => i ≤ q.length) (fun i => q.length - i) 0 (by simp) (fun _ => Nat.le_of_ble_eq_true rfl) (by refine weak_to ?_ ?_ rfl rfl
                                                                                                             · repeat (first | exact subF_nil | refine subF_cons (by first | rfl | (simp [look]; done)) ?_)
                                                                                                             · repeat (first | exact subS_nil | refine subS_cons (by first | rfl | (simp; done)) ?_)) fun i hi => ?_
      by_cases hil : i < q.length
      · obtain ⟨z0, z1, hz⟩ := hQ (q.getD (Int.toNat (i : Int)) 0) (getD_mem (by simpa using hil))
        simp only [gI] at hz
        have k1 : (i : Int) < (Blk.ints .i64 q).len := by simp [Blk.len]; omega
        have k2 : q.getD (Int.toNat (i : Int)) 0 < (Blk.ints .i64 c).len := by show _ < ((c.length : Nat) : Int); omega
        have k3 : q.getD (Int.toNat (i : Int)) 0 < (Blk.ints .i64 d).len := by show _ < ((d.length : Nat) : Int); omega
        repeat' (first
        
          |refine zA ?_|refine zB ?_|refine zC (by kernel_rfl) (by kernel_rfl) ?_|refine zD ?_|refine zE ?_|refine zF rfl trivial ?_|refine zG ?_|refine zH rfl trivial ?_|refine zI ?_|refine zJ rfl trivial ?_|refine zK ?_|refine zL rfl trivial rfl ?_|refine zM ?_|refine zN rfl trivial ?_|refine zO rfl trivial ?_|refine zP rfl trivial (fun hc => ?_) (fun hc => ?_)|refine zQ rfl trivial (fun hc => ?_) (fun hc => ?_)|refine zR rfl trivial (fun hc => ?_) (fun hc => ?_)|refine zS rfl trivial (fun hc => ?_) (fun hc => ?_)|refine zT ?_|refine zU ?_|refine zF rfl ?_ ?_|refine zH rfl ?_ ?_|refine zJ rfl ?_ ?_|refine zL rfl ?_ rfl ?_|refine zV rfl trivial rfl rfl rfl ?_|refine zW rfl rfl rfl rfl ?_|refine zX rfl rfl trivial rfl trivial rfl rfl rfl rfl rfl ?_
          | (exfalso; first | omega | (exact absurd hz.symm (by assumption)))
          |(show allP _; first | trivial | exact ob1 (fun h => h) | exact ob2 (fun h => h) (fun h => h) | exact ob1 (fun h => ⟨h.1, trivial⟩) | (simp only [obS]; first | omega | (intros; omega) | (simp only [obL]; first | omega | (intros; omega)) | (refine ⟨?_, ?_⟩ <;> intros <;> first | (with_reducible assumption) | omega) | ((repeat' refine And.intro ?_ ?_) <;> (intros; first | (with_reducible assumption) | omega | (simp only [obL]; omega))) | ((try simp only [obB] at *); (try simp only [Blk.len] at *); first | omega | (intros; omega)) | (simp_all; done))))
        refine ⟨i + 1, by omega, by omega, ?_⟩
        refine weak_to ?_ ?_ rfl rfl
        · repeat (first | exact subF_nil | refine subF_cons (by first | rfl | (simp [look]; done)) ?_)
        · repeat (first | exact subS_nil | refine subS_cons (by first | rfl | (simp; done)) ?_)
      · repeat' (first
        
          |refine zA ?_|refine zB ?_|refine zC (by kernel_rfl) (by kernel_rfl) ?_|refine zD ?_|refine zE ?_|refine zF rfl trivial ?_|refine zG ?_|refine zH rfl trivial ?_|refine zI ?_|refine zJ rfl trivial ?_|refine zK ?_|refine zL rfl trivial rfl ?_|refine zM ?_|refine zN rfl trivial ?_|refine zO rfl trivial ?_|refine zP rfl trivial (fun hc => ?_) (fun hc => ?_)|refine zQ rfl trivial (fun hc => ?_) (fun hc => ?_)|refine zR rfl trivial (fun hc => ?_) (fun hc => ?_)|refine zS rfl trivial (fun hc => ?_) (fun hc => ?_)|refine zT ?_|refine zU ?_|refine zF rfl ?_ ?_|refine zH rfl ?_ ?_|refine zJ rfl ?_ ?_|refine zL rfl ?_ rfl ?_|refine zV rfl trivial rfl rfl rfl ?_|refine zW rfl rfl rfl rfl ?_|refine zX rfl rfl trivial rfl trivial rfl rfl rfl rfl rfl ?_
          | (exfalso; omega)
          | (first | refine ao_call rfl (hH1) rfl ?_ ?_ | refine aq_call rfl (hH1) rfl ?_ ?_)
          | (first | refine ao_call rfl (hH2) rfl ?_ ?_ | refine aq_call rfl (hH2) rfl ?_ ?_)
          |(show allP _; first | trivial | exact ob1 (fun h => h) | exact ob2 (fun h => h) (fun h => h) | exact ob1 (fun h => ⟨h.1, trivial⟩) | (simp only [obS]; first | omega | (intros; omega) | (simp only [obL]; first | omega | (intros; omega)) | (refine ⟨?_, ?_⟩ <;> intros <;> first | (with_reducible assumption) | omega) | ((repeat' refine And.intro ?_ ?_) <;> (intros; first | (with_reducible assumption) | omega | (simp only [obL]; omega))) | ((try simp only [obB] at *); (try simp only [Blk.len] at *); first | omega | (intros; omega)) | (simp_all; done))))
        (refine fin_ret ?_; exact ret1 (by rfl) (by (first | rfl | (simp; done))) (by rfl))
  · repeat' (first
    
      |refine zA ?_|refine zB ?_|refine zC (by kernel_rfl) (by kernel_rfl) ?_|refine zD ?_|refine zE ?_|refine zF rfl trivial ?_|refine zG ?_|refine zH rfl trivial ?_|refine zI ?_|refine zJ rfl trivial ?_|refine zK ?_|refine zL rfl trivial rfl ?_|refine zM ?_|refine zN rfl trivial ?_|refine zO rfl trivial ?_|refine zP rfl trivial (fun hc => ?_) (fun hc => ?_)|refine zQ rfl trivial (fun hc => ?_) (fun hc => ?_)|refine zR rfl trivial (fun hc => ?_) (fun hc => ?_)|refine zS rfl trivial (fun hc => ?_) (fun hc => ?_)|refine zT ?_|refine zU ?_|refine zF rfl ?_ ?_|refine zH rfl ?_ ?_|refine zJ rfl ?_ ?_|refine zL rfl ?_ rfl ?_|refine zV rfl trivial rfl rfl rfl ?_|refine zW rfl rfl rfl rfl ?_|refine zX rfl rfl trivial rfl trivial rfl rfl rfl rfl rfl ?_
      | refine ao_callRT hTw tab_stays rfl (l26_awake) trivial rfl rfl ?_
      | (first | refine ao_call rfl (l26_large t down x y) rfl ?_ ?_ | refine aq_call rfl (l26_large t down x y) rfl ?_ ?_)
      | refine ao_callRT hTw tab_stays rfl (c26_PSpace t down x) trivial rfl rfl ?_
      | refine ao_callRT hTw tab_stays rfl (c26_QSpace t down x) trivial rfl rfl ?_
      |(show allP _; first | trivial | exact ob1 (fun h => h) | exact ob2 (fun h => h) (fun h => h) | exact ob1 (fun h => ⟨h.1, trivial⟩) | (simp only [obS]; first | omega | (intros; omega) | (simp only [obL]; first | omega | (intros; omega)) | (refine ⟨?_, ?_⟩ <;> intros <;> first | (with_reducible assumption) | omega) | ((repeat' refine And.intro ?_ ?_) <;> (intros; first | (with_reducible assumption) | omega | (simp only [obL]; omega))) | ((try simp only [obB] at *); (try simp only [Blk.len] at *); first | omega | (intros; omega)) | (simp_all; done))))
    all_goals first | ((refine fin_ret ?_; exact ret1 (by rfl) (by rfl) (by rfl))) | ((refine fin_ret ?_; exact ret1 (by rfl) (by (simp)) (by rfl))) | skip
    exfalso
    simp only [Bool.or_eq_false_iff, Bool.not_eq_false', decide_eq_true_eq] at hc
    exact he hc.1
end Go.Proofs.YtcnfggpcploehaaDoor

/- Laws of layer 26: Extended. -/
namespace Go.Proofs.YtcnfggpcploehaaDoor
set_option maxRecDepth 10000
open Go.Wk

theorem mem_X {t : Topo} {down : List Bool} {n : Int} (he : errS t down n = 0) {f' : List Int} (hf' : IsDist t down n true f') {z : Int} (hz : z ∈ spaceR t down n (extQ t down n (arcsL t n true))) : 0 ≤ z ∧ z < t.nodes ∧ 0 ≤ gI f' z := by
  obtain ⟨hfit, n0, n1⟩ := errS_0 he
  have hv := fitsB_v hfit
  have hfn : fitsB t [] = true := by simp [fitsB, hv]
  obtain ⟨k, _, hk, rfl⟩ := (mem_R he).1 hz
  unfold extQ at hk
  rw [Bool.or_eq_true] at hk
  rcases hk with hk | hk
  · have h1 := pQ_lt hk
    obtain ⟨h2, h3⟩ := (pQ_iff hfit n0 n1 rfl h1).1 hk
    refine ⟨by omega, h1, ?_⟩
    have := unused_from hv n0 n1 (by omega) h1 (distL_is (errS_ok hfn n0 n1)) (distL_is (errS_ok hfn (by omega) h1)) hf' (distL_is (errS_ok hfit (by omega) h1)) h3
    omega
  · obtain ⟨a, ha, hk⟩ := List.any_eq_true.1 hk
    obtain ⟨a0, a1, ht⟩ := (mem_arcsL hv).1 ha
    have hk2 := arc_ok hv a0 a1
    simp only [Bool.and_eq_true, Bool.or_eq_true, decide_eq_true_eq, Bool.not_eq_true'] at hk
    obtain ⟨hu, hk⟩ := hk
    obtain ⟨e1, e2⟩ := reach_ext hv n0 n1 hf' a0 a1 hu ht
    rcases hk with hk | ⟨ho, hk⟩
    · rw [hk]; exact ⟨hk2.2.2.1, hk2.2.2.2.1, e1⟩
    · have h1 := pQ_lt hk
      obtain ⟨h2, h3⟩ := (pQ_iff hfit hk2.2.2.1 hk2.2.2.2.1 rfl h1).1 hk
      exact ⟨by omega, h1, e2 ho k _ _ (by omega) h1 (distL_is (errS_ok hfn hk2.2.2.1 hk2.2.2.2.1)) (distL_is (errS_ok hfn (by omega) h1)) h2 h3⟩
theorem sub_X {t : Topo} {down : List Bool} {n z : Int} (he : errS t down n = 0) (hz : z ∈ spaceR t down n (pQ t down n)) : z ∈ spaceR t down n (extQ t down n (arcsL t n true)) := by
  obtain ⟨k, h1, h2, h3⟩ := (mem_R he).1 hz
  exact (mem_R he).2 ⟨k, h1, by unfold extQ; rw [h2]; rfl, h3⟩

set_option maxHeartbeats 1000000 in
theorem l_PqExtended (t : Topo) (down : List Bool) (x y : Int) : CtrT tabT Tryd.prog 8 [qD t down x y] [] (.d (bD true)) := by
  refine spec_ofT envOK (Go.Wk.enters_of Tryd.func8 (by kernel_rfl) (by kernel_rfl)) Tryd.func8 rfl rfl _ rfl (Nat.le_of_ble_eq_true rfl) rfl fun w0 hTw => ?_
  have hlp := len_R t down x (pQ t down x)
  have hlq := len_R t down x (extQ t down x (arcsL t x true))
  by_cases he : errS t down x = 0
  · obtain ⟨hfit, x0, x1⟩ := errS_0 he
    have hv := fitsB_v hfit
    have hnn := validB_head hv
    have hF' := distL_is (fr := true) he
    have hR' := r_From t down x
    rw [he] at hR'
    have hX : ∀ z ∈ spaceR t down x (extQ t down x (arcsL t x true)), 0 ≤ z ∧ z < t.nodes ∧ 0 ≤ gI (distL t down x true) z := fun z hz => mem_X he hF' hz
    have hS : ∀ z ∈ spaceR t down x (pQ t down x), z ∈ spaceR t down x (extQ t down x (arcsL t x true)) := fun z hz => sub_X he hz
    have hPS := c26_PSpace t down x
    have hQS := c26_Extended t down x
    rw [he] at hPS hQS
    generalize spaceR t down x (pQ t down x) = p at *
    generalize spaceR t down x (extQ t down x (arcsL t x true)) = q at *
    have l2 := hF'.len
    generalize distL t down x true = b at *
    repeat' (first
    
      |refine zA ?_|refine zB ?_|refine zC (by kernel_rfl) (by kernel_rfl) ?_|refine zD ?_|refine zE ?_|refine zF rfl trivial ?_|refine zG ?_|refine zH rfl trivial ?_|refine zI ?_|refine zJ rfl trivial ?_|refine zK ?_|refine zL rfl trivial rfl ?_|refine zM ?_|refine zN rfl trivial ?_|refine zO rfl trivial ?_|refine zP rfl trivial (fun hc => ?_) (fun hc => ?_)|refine zQ rfl trivial (fun hc => ?_) (fun hc => ?_)|refine zR rfl trivial (fun hc => ?_) (fun hc => ?_)|refine zS rfl trivial (fun hc => ?_) (fun hc => ?_)|refine zT ?_|refine zU ?_|refine zF rfl ?_ ?_|refine zH rfl ?_ ?_|refine zJ rfl ?_ ?_|refine zL rfl ?_ rfl ?_|refine zV rfl trivial rfl rfl rfl ?_|refine zW rfl rfl rfl rfl ?_|refine zX rfl rfl trivial rfl trivial rfl rfl rfl rfl rfl ?_
      | refine ao_callRT hTw tab_stays rfl (l26_awake) trivial rfl rfl ?_
      | (first | refine ao_call rfl (l26_large t down x y) rfl ?_ ?_ | refine aq_call rfl (l26_large t down x y) rfl ?_ ?_)
      | refine ao_callRT hTw tab_stays rfl (hPS) trivial rfl rfl ?_
      | refine ao_callRT hTw tab_stays rfl (hQS) trivial rfl rfl ?_
      | refine ao_callR rfl (hR') trivial rfl rfl ?_
      |(show allP _; first | trivial | exact ob1 (fun h => h) | exact ob2 (fun h => h) (fun h => h) | exact ob1 (fun h => ⟨h.1, trivial⟩) | (simp only [obS]; first | omega | (intros; omega) | (simp only [obL]; first | omega | (intros; omega)) | (refine ⟨?_, ?_⟩ <;> intros <;> first | (with_reducible assumption) | omega) | ((repeat' refine And.intro ?_ ?_) <;> (intros; first | (with_reducible assumption) | omega | (simp only [obL]; omega))) | ((try simp only [obB] at *); (try simp only [Blk.len] at *); first | omega | (intros; omega)) | (simp_all; done))))
    all_goals first | ((refine fin_ret ?_; exact ret1 (by rfl) (by rfl) (by rfl))) | ((refine fin_ret ?_; exact ret1 (by rfl) (by (simp)) (by rfl))) | skip
    refine aw_loop (ι := Nat) (fun i => [(59, [], .d (iD i)), (58, [], .d (iD p.length)), (3, [], .own 1), (5, [], .own 2), (7, [], .own 3), (1, [], .ptr 0 0)]) (fun _ => [.cells [.d (iD t.nodes), .d (boolsD t.overload), .d (linksD t.links), .d (boolsD down), .d (iD x), .d (iD y)], .ints .i64 p, .ints .i64 q, .ints .i64 b])
      (fun i => i ≤ p.length) (fun i => p.length - i) 0 (by simp) (fun _ => Nat.le_of_ble_eq_true rfl) (by refine weak_to ?_ ?_ rfl rfl
                                                                                                           · repeat (first | exact subF_nil | refine subF_cons (by first | rfl | (simp [look]; done)) ?_)
                                                                                                           · repeat (first | exact subS_nil | refine subS_cons (by first | rfl | (simp; done)) ?_)) fun i hi => ?_
    by_cases hil : i < p.length
    · have hz := hS (p.getD (Int.toNat (i : Int)) 0) (getD_mem (by simpa using hil))
      have k1 : (i : Int) < (Blk.ints .i64 p).len := by simp [Blk.len]; omega
      have hH := r_Has q (p.getD (Int.toNat (i : Int)) 0) (by omega)
      rw [List.contains_iff_mem.2 hz] at hH
      repeat' (first
      
        |refine zA ?_|refine zB ?_|refine zC (by kernel_rfl) (by kernel_rfl) ?_|refine zD ?_|refine zE ?_|refine zF rfl trivial ?_|refine zG ?_|refine zH rfl trivial ?_|refine zI ?_|refine zJ rfl trivial ?_|refine zK ?_|refine zL rfl trivial rfl ?_|refine zM ?_|refine zN rfl trivial ?_|refine zO rfl trivial ?_|refine zP rfl trivial (fun hc => ?_) (fun hc => ?_)|refine zQ rfl trivial (fun hc => ?_) (fun hc => ?_)|refine zR rfl trivial (fun hc => ?_) (fun hc => ?_)|refine zS rfl trivial (fun hc => ?_) (fun hc => ?_)|refine zT ?_|refine zU ?_|refine zF rfl ?_ ?_|refine zH rfl ?_ ?_|refine zJ rfl ?_ ?_|refine zL rfl ?_ rfl ?_|refine zV rfl trivial rfl rfl rfl ?_|refine zW rfl rfl rfl rfl ?_|refine zX rfl rfl trivial rfl trivial rfl rfl rfl rfl rfl ?_
        | (exfalso; omega)
        | (first | refine ao_call rfl (hH) rfl ?_ ?_ | refine aq_call rfl (hH) rfl ?_ ?_)
        |(show allP _; first | trivial | exact ob1 (fun h => h) | exact ob2 (fun h => h) (fun h => h) | exact ob1 (fun h => ⟨h.1, trivial⟩) | (simp only [obS]; first | omega | (intros; omega) | (simp only [obL]; first | omega | (intros; omega)) | (refine ⟨?_, ?_⟩ <;> intros <;> first | (with_reducible assumption) | omega) | ((repeat' refine And.intro ?_ ?_) <;> (intros; first | (with_reducible assumption) | omega | (simp only [obL]; omega))) | ((try simp only [obB] at *); (try simp only [Blk.len] at *); first | omega | (intros; omega)) | (simp_all; done))))
      refine ⟨i + 1, by omega, by omega, ?_⟩
      refine weak_to ?_ ?_ rfl rfl
      · repeat (first | exact subF_nil | refine subF_cons (by first | rfl | (simp [look]; done)) ?_)
      · repeat (first | exact subS_nil | refine subS_cons (by first | rfl | (simp; done)) ?_)
    · repeat' (first
      
        |refine zA ?_|refine zB ?_|refine zC (by kernel_rfl) (by kernel_rfl) ?_|refine zD ?_|refine zE ?_|refine zF rfl trivial ?_|refine zG ?_|refine zH rfl trivial ?_|refine zI ?_|refine zJ rfl trivial ?_|refine zK ?_|refine zL rfl trivial rfl ?_|refine zM ?_|refine zN rfl trivial ?_|refine zO rfl trivial ?_|refine zP rfl trivial (fun hc => ?_) (fun hc => ?_)|refine zQ rfl trivial (fun hc => ?_) (fun hc => ?_)|refine zR rfl trivial (fun hc => ?_) (fun hc => ?_)|refine zS rfl trivial (fun hc => ?_) (fun hc => ?_)|refine zT ?_|refine zU ?_|refine zF rfl ?_ ?_|refine zH rfl ?_ ?_|refine zJ rfl ?_ ?_|refine zL rfl ?_ rfl ?_|refine zV rfl trivial rfl rfl rfl ?_|refine zW rfl rfl rfl rfl ?_|refine zX rfl rfl trivial rfl trivial rfl rfl rfl rfl rfl ?_
        | (exfalso; omega)
        |(show allP _; first | trivial | exact ob1 (fun h => h) | exact ob2 (fun h => h) (fun h => h) | exact ob1 (fun h => ⟨h.1, trivial⟩) | (simp only [obS]; first | omega | (intros; omega) | (simp only [obL]; first | omega | (intros; omega)) | (refine ⟨?_, ?_⟩ <;> intros <;> first | (with_reducible assumption) | omega) | ((repeat' refine And.intro ?_ ?_) <;> (intros; first | (with_reducible assumption) | omega | (simp only [obL]; omega))) | ((try simp only [obB] at *); (try simp only [Blk.len] at *); first | omega | (intros; omega)) | (simp_all; done))))
      refine aw_loop (ι := Nat) (fun i => [(72, [], .d (iD i)), (71, [], .d (iD q.length)), (3, [], .own 1), (5, [], .own 2), (7, [], .own 3), (1, [], .ptr 0 0)]) (fun _ => [.cells [.d (iD t.nodes), .d (boolsD t.overload), .d (linksD t.links), .d (boolsD down), .d (iD x), .d (iD y)], .ints .i64 p, .ints .i64 q, .ints .i64 b])
        (fun i => i ≤ q.length) (fun i => q.length - i) 0 (by simp) (fun _ => Nat.le_of_ble_eq_true rfl) (by refine weak_to ?_ ?_ rfl rfl
                                                                                                             · repeat (first | exact subF_nil | refine subF_cons (by first | rfl | (simp [look]; done)) ?_)
                                                                                                             · repeat (first | exact subS_nil | refine subS_cons (by first | rfl | (simp; done)) ?_)) fun i hi => ?_
      by_cases hil : i < q.length
      · obtain ⟨z0, z1, hz⟩ := hX (q.getD (Int.toNat (i : Int)) 0) (getD_mem (by simpa using hil))
        simp only [gI] at hz
        have k1 : (i : Int) < (Blk.ints .i64 q).len := by simp [Blk.len]; omega
        have k3 : q.getD (Int.toNat (i : Int)) 0 < (Blk.ints .i64 b).len := by show _ < ((b.length : Nat) : Int); omega
        repeat' (first
        
          |refine zA ?_|refine zB ?_|refine zC (by kernel_rfl) (by kernel_rfl) ?_|refine zD ?_|refine zE ?_|refine zF rfl trivial ?_|refine zG ?_|refine zH rfl trivial ?_|refine zI ?_|refine zJ rfl trivial ?_|refine zK ?_|refine zL rfl trivial rfl ?_|refine zM ?_|refine zN rfl trivial ?_|refine zO rfl trivial ?_|refine zP rfl trivial (fun hc => ?_) (fun hc => ?_)|refine zQ rfl trivial (fun hc => ?_) (fun hc => ?_)|refine zR rfl trivial (fun hc => ?_) (fun hc => ?_)|refine zS rfl trivial (fun hc => ?_) (fun hc => ?_)|refine zT ?_|refine zU ?_|refine zF rfl ?_ ?_|refine zH rfl ?_ ?_|refine zJ rfl ?_ ?_|refine zL rfl ?_ rfl ?_|refine zV rfl trivial rfl rfl rfl ?_|refine zW rfl rfl rfl rfl ?_|refine zX rfl rfl trivial rfl trivial rfl rfl rfl rfl rfl ?_
          | (exfalso; omega)
          |(show allP _; first | trivial | exact ob1 (fun h => h) | exact ob2 (fun h => h) (fun h => h) | exact ob1 (fun h => ⟨h.1, trivial⟩) | (simp only [obS]; first | omega | (intros; omega) | (simp only [obL]; first | omega | (intros; omega)) | (refine ⟨?_, ?_⟩ <;> intros <;> first | (with_reducible assumption) | omega) | ((repeat' refine And.intro ?_ ?_) <;> (intros; first | (with_reducible assumption) | omega | (simp only [obL]; omega))) | ((try simp only [obB] at *); (try simp only [Blk.len] at *); first | omega | (intros; omega)) | (simp_all; done))))
        refine ⟨i + 1, by omega, by omega, ?_⟩
        refine weak_to ?_ ?_ rfl rfl
        · repeat (first | exact subF_nil | refine subF_cons (by first | rfl | (simp [look]; done)) ?_)
        · repeat (first | exact subS_nil | refine subS_cons (by first | rfl | (simp; done)) ?_)
      · repeat' (first
        
          |refine zA ?_|refine zB ?_|refine zC (by kernel_rfl) (by kernel_rfl) ?_|refine zD ?_|refine zE ?_|refine zF rfl trivial ?_|refine zG ?_|refine zH rfl trivial ?_|refine zI ?_|refine zJ rfl trivial ?_|refine zK ?_|refine zL rfl trivial rfl ?_|refine zM ?_|refine zN rfl trivial ?_|refine zO rfl trivial ?_|refine zP rfl trivial (fun hc => ?_) (fun hc => ?_)|refine zQ rfl trivial (fun hc => ?_) (fun hc => ?_)|refine zR rfl trivial (fun hc => ?_) (fun hc => ?_)|refine zS rfl trivial (fun hc => ?_) (fun hc => ?_)|refine zT ?_|refine zU ?_|refine zF rfl ?_ ?_|refine zH rfl ?_ ?_|refine zJ rfl ?_ ?_|refine zL rfl ?_ rfl ?_|refine zV rfl trivial rfl rfl rfl ?_|refine zW rfl rfl rfl rfl ?_|refine zX rfl rfl trivial rfl trivial rfl rfl rfl rfl rfl ?_
          | (exfalso; omega)
          |(show allP _; first | trivial | exact ob1 (fun h => h) | exact ob2 (fun h => h) (fun h => h) | exact ob1 (fun h => ⟨h.1, trivial⟩) | (simp only [obS]; first | omega | (intros; omega) | (simp only [obL]; first | omega | (intros; omega)) | (refine ⟨?_, ?_⟩ <;> intros <;> first | (with_reducible assumption) | omega) | ((repeat' refine And.intro ?_ ?_) <;> (intros; first | (with_reducible assumption) | omega | (simp only [obL]; omega))) | ((try simp only [obB] at *); (try simp only [Blk.len] at *); first | omega | (intros; omega)) | (simp_all; done))))
        (refine fin_ret ?_; exact ret1 (by rfl) (by rfl) (by rfl))
  · repeat' (first
    
      |refine zA ?_|refine zB ?_|refine zC (by kernel_rfl) (by kernel_rfl) ?_|refine zD ?_|refine zE ?_|refine zF rfl trivial ?_|refine zG ?_|refine zH rfl trivial ?_|refine zI ?_|refine zJ rfl trivial ?_|refine zK ?_|refine zL rfl trivial rfl ?_|refine zM ?_|refine zN rfl trivial ?_|refine zO rfl trivial ?_|refine zP rfl trivial (fun hc => ?_) (fun hc => ?_)|refine zQ rfl trivial (fun hc => ?_) (fun hc => ?_)|refine zR rfl trivial (fun hc => ?_) (fun hc => ?_)|refine zS rfl trivial (fun hc => ?_) (fun hc => ?_)|refine zT ?_|refine zU ?_|refine zF rfl ?_ ?_|refine zH rfl ?_ ?_|refine zJ rfl ?_ ?_|refine zL rfl ?_ rfl ?_|refine zV rfl trivial rfl rfl rfl ?_|refine zW rfl rfl rfl rfl ?_|refine zX rfl rfl trivial rfl trivial rfl rfl rfl rfl rfl ?_
      | refine ao_callRT hTw tab_stays rfl (l26_awake) trivial rfl rfl ?_
      | (first | refine ao_call rfl (l26_large t down x y) rfl ?_ ?_ | refine aq_call rfl (l26_large t down x y) rfl ?_ ?_)
      | refine ao_callRT hTw tab_stays rfl (c26_PSpace t down x) trivial rfl rfl ?_
      | refine ao_callRT hTw tab_stays rfl (c26_Extended t down x) trivial rfl rfl ?_
      |(show allP _; first | trivial | exact ob1 (fun h => h) | exact ob2 (fun h => h) (fun h => h) | exact ob1 (fun h => ⟨h.1, trivial⟩) | (simp only [obS]; first | omega | (intros; omega) | (simp only [obL]; first | omega | (intros; omega)) | (refine ⟨?_, ?_⟩ <;> intros <;> first | (with_reducible assumption) | omega) | ((repeat' refine And.intro ?_ ?_) <;> (intros; first | (with_reducible assumption) | omega | (simp only [obL]; omega))) | ((try simp only [obB] at *); (try simp only [Blk.len] at *); first | omega | (intros; omega)) | (simp_all; done))))
    all_goals first | ((refine fin_ret ?_; exact ret1 (by rfl) (by rfl) (by rfl))) | ((refine fin_ret ?_; exact ret1 (by rfl) (by (simp)) (by rfl))) | skip
    exfalso
    simp only [Bool.or_eq_false_iff, Bool.not_eq_false', decide_eq_true_eq] at hc
    exact he hc.1
end Go.Proofs.YtcnfggpcploehaaDoor

/- The row of a law over a listed table of the program. -/
namespace Go.Wk
set_option maxRecDepth 10000
open Go.RowKit Go.ChangeShapes Go.WideShapes Go.ChangeAt

/-- A listed table of bytes, in the memory. -/
theorem tab_of_laid {P : Program} {W : World} {name : String} {tab : List Nat} {g : Nat} {t e : TypeId} (hg : P.globalNamed name = some g) (ht : (P.globals[g]?).map (·.type) = some t) (hu : P.underlying t = some (.array tab.length e)) (he : P.underlying e = some (.int .u8)) (hc : P.cellsOf e = 1)
    (h : laidMetH P [(name, .agg (tab.map fun (k : Nat) => .lit (.int .u8 (k : Int))))] W) : Go.Proofs.TabAt g tab W := by
  rw [MakeChecks.laidMetH_plain _ _ _ (by simp [DataW.handleName?])] at h
  obtain ⟨ps, ⟨g0, t0, cs0, f0, p0, q0, hg0, ht0, hv0, hd0, _, _⟩, _, _⟩ := h
  obtain rfl := Option.some.inj (hg.symm.trans hg0)
  obtain rfl := Option.some.inj (ht.symm.trans ht0)
  obtain ⟨xs, m1, rfl, hx1, hlen, hn, hel⟩ := DataW.trod_array hu hd0
  intro j hj
  have h0 := hel j hj
  have hjx : j < xs.length := by omega
  rw [List.getElem?_eq_getElem hjx] at h0
  obtain ⟨k, e1, e2, _⟩ := DataW.trod_int he h0
  simp only [Prod.mk.injEq, DataW.agg.injEq] at hx1
  have h1 : (xs.map (·.1))[j]? = some (DataW.lit (.int .u8 k)) := by rw [List.getElem?_map, List.getElem?_eq_getElem hjx, e2]; rfl
  rw [← hx1.1, List.getElem?_map, List.getElem?_eq_getElem hj] at h1
  simp at h1
  rw [World.var?_cell hg hv0 j]
  rw [hc] at e1
  have h2 : cs0.toList[j]? = some (.int .u8 k) := by
    have := congrArg (fun l => l[0]?) e1
    simpa using this
  rw [← Array.getElem?_toList, h2, ← h1, List.getD_eq_getElem?_getD, List.getElem?_eq_getElem hj]
  rfl

theorem law_liftedT {C : Checked} {os : Os} {f : FuncId} {fn : Func} {s : ChangeSpec} {conds : List PathCond} {fresh handsOn : Bool} {H : Type} {enc : TypeId × Value → H} {laid : List (String × DataW Unit)} {T : World → Prop} (hT : ∀ w, laidMetH C.prog laid w → T w)
    (own : ownKnob C.prog.godebug = none) (started : os.Started) (noInit : C.prog.inits.idxOf? f = none) (hfn : C.prog.funcs[f]? = some fn)
    (witness : ∃ (w : World) (tape : Tape) (i : Input), w.os = os ∧ (w.forCall tape i).Shaped C.prog ∧ i.vars = [] ∧ Input.okWide C.prog (w.forCall tape i) .any w.heap.size f i ∧
      ((s.pre enc C.prog fn conds false (w.forCall tape i).memory i.args ∧ laidMetH C.prog laid (w.forCall tape i).memory) ∧ sizedMet enc C.prog fn (OpenSpec.ofChange s) false (w.forCall tape i).memory i.args) ∧ ({} : Assume).holds C.prog (lone (Frame.enter C.prog f i.args .normal) [] (w.forCall tape i)))
    (hl : laidOutB C.prog = true) (hvars : s.vars = []) (hread : ∀ t ∈ fn.params.toList, C.prog.readableRec t = true ∧ t < C.prog.types.size) {tb : TypeId} (hres : fn.resultTypes = #[tb]) (htb : C.prog.underlying tb = some .bool)
    (hspec : ∀ ds : List (DataW H), ds.length = fn.params.size → (s.fn H (ds ++ [])).results = [.lit (.bool true)] ∧ (s.fn H (ds ++ [])).args = ds ∧ (s.fn H (ds ++ [])).vars = [])
    (key : ∀ (W : World) (base : Nat) (args : Array Value) (ds : List (DataW H)) (p : List MemPlace), (∀ (j : Nat) t v, fn.params[j]? = some t → args[j]? = some v → Value.okWide C.prog W .any base t v) →
      DataW.TrodAll enc C.prog W 0 (fun _ => true) true fn.params.toList args.toList ds p → ∃ xs : List D, RelDs (fun k => k < W.heap.size) W args.toList xs ∧ CtrT T C.prog f xs [] (.d (.bool true))) :
    ReturnsInHanded {} C os f .any (fun w args => (s.pre enc C.prog fn conds false w args ∧ laidMetH C.prog laid w) ∧ sizedMet enc C.prog fn (OpenSpec.ofChange s) false w args) (s.post enc C.prog fn false fresh handsOn false) := by
  refine returnsInHanded_of_change_and (X := fun w _ => laidMetH C.prog laid w) (fun _ _ _ hh h => h.of_heap hh) own started noInit hfn witness ?_
  intro W base args ds gs before hval hW hcnd _ hL _
  have hlt := hW.lt
  obtain ⟨p, q, hA, hV, rfl, hfz, hnd⟩ := hW
  obtain ⟨xs, hxs, hctr⟩ := key W base args ds p hval hA
  have hV' := hV
  rw [hvars] at hV
  have hg : gs = [] ∧ q = [] := by
    cases gs with
    | nil => exact ⟨rfl, hV⟩
    | cons g r => exact hV.elim
  obtain ⟨rfl, rfl⟩ := hg
  have hlen : ∀ {ts : List TypeId} {vs : List Value} {ds : List (DataW H)} {ps : List MemPlace}, DataW.TrodAll enc C.prog W 0 (fun _ => true) true ts vs ds ps → ds.length = ts.length := by
    intro ts
    induction ts with
    | nil => intro vs ds ps h; cases vs <;> cases ds <;> first | rfl | exact h.elim
    | cons t r ih =>
      intro vs ds ps h
      cases vs with
      | nil => exact h.elim
      | cons v q => cases ds with
        | nil => exact h.elim
        | cons d e => obtain ⟨_, _, _, h2, _⟩ := h; simp [ih h2]
  obtain ⟨s1, s2, s3⟩ := hspec ds (by have := hlen hA; simpa using this)
  refine (hctr.2 W args.toList (hT W hL) hxs).mono ?_
  rintro e W' ⟨v, ρ, rfl, hout⟩
  refine ⟨v, rfl, ds, [], p ++ [], [], p, [], ⟨p, [], hA, hV', rfl, hfz, hnd⟩, ?_, ?_, ?_, hout.ext.frame _, fun h => by cases h⟩
  · have hv : v = .bool true := by
      have := hout.val
      cases this with | d h => cases h; rfl
    rw [s1, hres, hv]
    exact ⟨[], [], ⟨1, by simp [DataW.trod, htb, Value.cells]⟩, rfl, rfl⟩
  · rw [s2]
    exact trodAll_stays hl hout.ext hread hA (fun x hx => hlt x (by simp [hx]))
  · rw [s3, hvars]; rfl
end Go.Wk

/- Layer 26: what the rows share. -/
namespace Go.Proofs.YtcnfggpcploehaaDoor
set_option maxRecDepth 10000
open Go.Wk Go.RowKit Go.ChangeShapes Go.WideShapes Go.ChangeAt

theorem Trydown : ownKnob Tryd.prog.godebug = none := by kernel_rfl
theorem Trydlaid : laidOutB Tryd.prog = true := by kernel_rfl
theorem envInt : IntOK Tryd.prog env := by
  unfold env
  repeat (first | exact trivial | refine And.intro (by kernel_rfl) ?_ | (show IntOK _ _; unfold IntOK; dsimp only))

abbrev tabL : List (String × DataW Unit) := [("math/bits.deBruijn64tab", Rows.laid_math_bits_deBruijn64tab)]
theorem tab_of (w : World) (h : laidMetH Tryd.prog tabL w) : tabT w :=
  tab_of_laid (t := 84) (e := 5) (by kernel_rfl) (by kernel_rfl) (by kernel_rfl) (by kernel_rfl) (by kernel_rfl) h
theorem door_met (os : Os) (args : Array Value) : laidMetH Tryd.prog tabL ((World.doorLaid Tryd.prog 400 os).forCall (fun _ _ => 0) ⟨#[], args, []⟩).memory :=
  laidMetH_of_parts3 (fuel := 8) (laidMet_of_run' 8 (by kernel_rfl) (by kernel_rfl)) (by kernel_rfl) (by kernel_rfl)
end Go.Proofs.YtcnfggpcploehaaDoor
