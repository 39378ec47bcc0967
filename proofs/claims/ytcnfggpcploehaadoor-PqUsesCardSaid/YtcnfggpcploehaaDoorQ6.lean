/- Laid together: Mo, L26, L26a, WkYb, Z26. -/
import Derived.LaidLaws
import Derived.LaidMore
import Derived.MakeChecks
import Derived.Shelf.Spec.TrailingZeros
import Derived.ProofKit
import Derived.OpenShut
import Derived.Stop.Joined
import Derived.Test.YtcnfggpcploehaaDoorRows
import Derived.Test.YtcnfggpcploehaaDoorTie
import Derived.Test.YtcnfggpcploehaaDoorCards
import Derived.Test.YtcnfggpcploehaaDoorQ5

set_option linter.all false

/- The data of the program, out of what an argument reads as. -/
namespace Go.Wk
set_option maxRecDepth 10000

theorem fit_int {k : IntKind} {x : D} (h : (Sc.int k).fit x) : ∃ n, x = .int k n ∧ (Lit.int k n).wf = true := by
  cases x <;> first | exact h.elim | (obtain ⟨rfl, hw⟩ := h; exact ⟨_, rfl, hw⟩)
theorem fit_bool {x : D} (h : Sc.bool.fit x) : ∃ b, x = .bool b := by
  cases x <;> first | exact h.elim | exact ⟨_, rfl⟩
theorem fitL_get : ∀ {es : List Sc} {xs : List D}, fitL es xs → xs.length = es.length ∧ ∀ (i : Nat) s x, es[i]? = some s → xs[i]? = some x → s.fit x
  | [], [], _ => by simp
  | [], _ :: _, h => h.elim
  | _ :: _, [], h => h.elim
  | s :: r, x :: q, h => by
    obtain ⟨h1, h2⟩ := fitL_get h.2
    refine ⟨by simp [h1], fun i a b ha hb => ?_⟩
    cases i with
    | zero => simp at ha hb; subst ha hb; exact h.1
    | succ i => exact h2 i a b (by simpa using ha) (by simpa using hb)
theorem fitS_get : ∀ {es : List Shp} {xs : List D}, fitS es xs → xs.length = es.length ∧ ∀ (i : Nat) s x, es[i]? = some s → xs[i]? = some x → s.fit x
  | [], [], _ => by simp
  | [], _ :: _, h => h.elim
  | _ :: _, [], h => h.elim
  | s :: r, x :: q, h => by
    obtain ⟨h1, h2⟩ := fitS_get h.2
    refine ⟨by simp [h1], fun i a b ha hb => ?_⟩
    cases i with
    | zero => simp at ha hb; subst ha hb; exact h.1
    | succ i => exact h2 i a b (by simpa using ha) (by simpa using hb)
theorem fit_sl {es : List Sc} {x : D} (h : (Shp.sl es).fit x) : ∃ n get, x = .arr es.length n get ∧ n ≤ maxLen ∧ ∀ i, i < n → fitL es (get i) := by
  cases x <;> first | exact h.elim | (obtain ⟨rfl, h1, h2⟩ := h; exact ⟨_, _, rfl, h1, h2⟩)

theorem getD_map {α : Type} {n : Nat} {f : Nat → α} {d : α} {i : Nat} (hi : i < n) : ((List.range n).map f).getD i d = f i := by
  simp [List.getD_eq_getElem?_getD, hi]

theorem open_bools {x : D} (h : (Shp.sl [.bool]).fit x) : ∃ bs : List Bool, DLe x (boolsD bs) ∧ bs.length ≤ maxLen := by
  obtain ⟨n, get, rfl, hn, hf⟩ := fit_sl h
  have key : ∀ i, i < n → ∃ b, get i = [.bool b] := fun i hi => by
    have := hf i hi
    match get i, this with
    | [x], h => obtain ⟨b, rfl⟩ := fit_bool h.1; exact ⟨b, rfl⟩
  refine ⟨(List.range n).map fun i => if h : i < n then (key i h).choose else false, ?_, by simpa using hn⟩
  unfold boolsD
  rw [show ((List.range n).map fun i => if h : i < n then (key i h).choose else false).length = n by simp]
  refine DLe.arr fun i hi => ?_
  rw [getD_map hi, dif_pos hi]
  exact (key i hi).choose_spec
theorem open_ints {x : D} (h : (Shp.sl [.int .i64]).fit x) : ∃ xs : List Int, DLe x (intsD xs) ∧ xs.length ≤ maxLen ∧ ∀ y ∈ xs, (Lit.int .i64 y).wf = true := by
  obtain ⟨n, get, rfl, hn, hf⟩ := fit_sl h
  have key : ∀ i, i < n → ∃ b, get i = [.int .i64 b] ∧ (Lit.int .i64 b).wf = true := fun i hi => by
    have := hf i hi
    match get i, this with
    | [x], h => obtain ⟨b, rfl, hw⟩ := fit_int h.1; exact ⟨b, rfl, hw⟩
  refine ⟨(List.range n).map fun i => if h : i < n then (key i h).choose else 0, ?_, by simpa using hn, fun y hy => ?_⟩
  · unfold intsD
    rw [show ((List.range n).map fun i => if h : i < n then (key i h).choose else 0).length = n by simp]
    refine DLe.arr fun i hi => ?_
    rw [getD_map hi, dif_pos hi]
    exact (key i hi).choose_spec.1
  · obtain ⟨i, hi, rfl⟩ := List.mem_map.1 hy
    rw [dif_pos (List.mem_range.1 hi)]
    exact (key i (List.mem_range.1 hi)).choose_spec.2
theorem open_links {x : D} (h : (Shp.sl [.int .i64, .int .i64, .int .i64, .int .i64, .int .i64, .int .i64, .int .i64]).fit x) : ∃ ls : List Lk, DLe x (linksD ls) ∧ ls.length ≤ maxLen := by
  obtain ⟨n, get, rfl, hn, hf⟩ := fit_sl h
  have key : ∀ i, i < n → ∃ l : Lk, get i = lkD l := fun i hi => by
    have := hf i hi
    match get i, this with
    | [x0, x1, x2, x3, x4, x5, x6], ⟨h0, h1, h2, h3, h4, h5, h6, _⟩ =>
      obtain ⟨a0, rfl, _⟩ := fit_int h0
      obtain ⟨a1, rfl, _⟩ := fit_int h1
      obtain ⟨a2, rfl, _⟩ := fit_int h2
      obtain ⟨a3, rfl, _⟩ := fit_int h3
      obtain ⟨a4, rfl, _⟩ := fit_int h4
      obtain ⟨a5, rfl, _⟩ := fit_int h5
      obtain ⟨a6, rfl, _⟩ := fit_int h6
      exact ⟨⟨a0, a1, a2, a3, a4, a5, a6⟩, rfl⟩
  refine ⟨(List.range n).map fun i => if h : i < n then (key i h).choose else default, ?_, by simpa using hn⟩
  unfold linksD
  rw [show ((List.range n).map fun i => if h : i < n then (key i h).choose else default).length = n by simp]
  refine DLe.arr fun i hi => ?_
  rw [getD_map hi, dif_pos hi]
  exact (key i hi).choose_spec

abbrev topoS : List Shp := [.sc (.int .i64), .sl [.bool], .sl [.int .i64, .int .i64, .int .i64, .int .i64, .int .i64, .int .i64, .int .i64]]
theorem open_topo {ds : List D} (h : fitS topoS ds) : ∃ t : Topo, DLe (.agg ds) (topoD t) := by
  match ds, h with
  | [x0, x1, x2], ⟨h0, h1, h2, _⟩ =>
    obtain ⟨n, rfl, _⟩ := fit_int h0
    obtain ⟨bs, hb, _⟩ := open_bools h1
    obtain ⟨ls, hl, _⟩ := open_links h2
    exact ⟨⟨n, bs, ls⟩, DLe.agg ⟨DLe.refl _, hb, hl, trivial⟩⟩

abbrev queryS : List Shp := [.sc (.int .i64), .sl [.bool], .sl [.int .i64, .int .i64, .int .i64, .int .i64, .int .i64, .int .i64, .int .i64], .sl [.bool], .sc (.int .i64), .sc (.int .i64)]
def qD (t : Topo) (down : List Bool) (x y : Int) : D := .agg [.int .i64 t.nodes, boolsD t.overload, linksD t.links, boolsD down, .int .i64 x, .int .i64 y]
theorem open_query {ds : List D} (h : fitS queryS ds) : ∃ (t : Topo) (down : List Bool) (x y : Int), DLe (.agg ds) (qD t down x y) ∧ (Lit.int .i64 x).wf = true ∧ (Lit.int .i64 y).wf = true := by
  match ds, h with
  | [x0, x1, x2, x3, x4, x5], ⟨h0, h1, h2, h3, h4, h5, _⟩ =>
    obtain ⟨n, rfl, _⟩ := fit_int h0
    obtain ⟨bs, hb, _⟩ := open_bools h1
    obtain ⟨ls, hl, _⟩ := open_links h2
    obtain ⟨ds, hd, _⟩ := open_bools h3
    obtain ⟨x, rfl, hx⟩ := fit_int h4
    obtain ⟨y, rfl, hy⟩ := fit_int h5
    exact ⟨⟨n, bs, ls⟩, ds, x, y, DLe.agg ⟨DLe.refl _, hb, hl, hd, DLe.refl _, DLe.refl _, trivial⟩, hx, hy⟩

theorem open_pair {ds : List D} (h : fitS [.sc (.int .i64), .sc (.int .i64)] ds) : ∃ a b : Int, ds = [.int .i64 a, .int .i64 b] := by
  match ds, h with
  | [x0, x1], ⟨h0, h1, _⟩ =>
    obtain ⟨a, rfl, _⟩ := fit_int h0
    obtain ⟨b, rfl, _⟩ := fit_int h1
    exact ⟨a, b, rfl⟩

theorem relDs_nil {R : Nat → Prop} {w : World} : RelDs R w [] [] := ⟨rfl, fun i v x h => by simp at h⟩
theorem relDs_cons {R : Nat → Prop} {w : World} {v : Value} {x : D} {vs : List Value} {xs : List D} (h : RelD R w v x) (k : RelDs R w vs xs) : RelDs R w (v :: vs) (x :: xs) := by
  refine ⟨by simp [k.1], fun i u y hu hy => ?_⟩
  cases i with
  | zero => simp at hu hy; subst hu hy; exact h
  | succ i => exact k.2 i u y (by simpa using hu) (by simpa using hy)

end Go.Wk

/- Laws of layer 26: the example. -/
namespace Go.Proofs.YtcnfggpcploehaaDoor
set_option maxRecDepth 10000
open Go.Wk

def sqM : List Bool := [true, true, false, false, false, false, false, false]
theorem l26_square : Ctr Tryd.prog 28 [] [] (.tup [.d (sqD nilD), .d (boolsD sqM)]) := by
  refine spec_data envOK (Go.Wk.enters_of Tryd.func28 (by kernel_rfl) (by kernel_rfl)) Tryd.func28 rfl rfl _ rfl (Nat.le_of_ble_eq_true rfl) rfl fun w0 => ?_
  repeat' (first
  
    |refine zA ?_|refine zB ?_|refine zC (by kernel_rfl) (by kernel_rfl) ?_|refine zD ?_|refine zE ?_|refine zF rfl trivial ?_|refine zG ?_|refine zH rfl trivial ?_|refine zI ?_|refine zJ rfl trivial ?_|refine zK ?_|refine zL rfl trivial rfl ?_|refine zM ?_|refine zN rfl trivial ?_|refine zO rfl trivial ?_|refine zP rfl trivial (fun hc => ?_) (fun hc => ?_)|refine zQ rfl trivial (fun hc => ?_) (fun hc => ?_)|refine zR rfl trivial (fun hc => ?_) (fun hc => ?_)|refine zS rfl trivial (fun hc => ?_) (fun hc => ?_)|refine zT ?_|refine zU ?_|refine zF rfl ?_ ?_|refine zH rfl ?_ ?_|refine zJ rfl ?_ ?_|refine zL rfl ?_ rfl ?_|refine zV rfl trivial rfl rfl rfl ?_|refine zW rfl rfl rfl rfl ?_|refine zX rfl rfl trivial rfl trivial rfl rfl rfl rfl rfl ?_
  
    |(show allP _; first | trivial | exact ob1 (fun h => h) | exact ob2 (fun h => h) (fun h => h) | exact ob1 (fun h => ⟨h.1, trivial⟩) | (simp only [obS]; first | omega | (intros; omega) | (simp only [obL]; first | omega | (intros; omega)) | (refine ⟨?_, ?_⟩ <;> intros <;> first | (with_reducible assumption) | omega) | ((repeat' refine And.intro ?_ ?_) <;> (intros; first | (with_reducible assumption) | omega | (simp only [obL]; omega))) | ((try simp only [obB] at *); (try simp only [Blk.len] at *); first | omega | (intros; omega)) | (simp_all; done))))
  refine aw_weak (weak_nilc (hn := 1) (j := 2) (.row 7 0 (fun k => lkD (sqL k))) rfl rfl rfl rfl rfl rfl rfl rfl) (Nat.le_of_ble_eq_true rfl) ?_
  refine aw_loop (ι := Nat) (fun i => [(5, [], .d (iD i)), (2, [], .ptr 1 0), (0, [], .ptr 0 0)]) (fun i => [.cells [.d (iD 0), .nil, .nil], .cells [.d (iD 4), .nil, .own 2], .row 7 i (fun k => lkD (sqL k))])
    (fun i => i ≤ 4) (fun i => 4 - i) 0 (by omega) (fun _ => Nat.le_of_ble_eq_true rfl) (by refine weak_to ?_ ?_ rfl rfl
                                                                                            · repeat (first | exact subF_nil | refine subF_cons (by first | rfl | (simp [look]; done)) ?_)
                                                                                            · repeat (first | exact subS_nil | refine subS_cons (by first | rfl | (simp; done)) ?_)) fun i hi => ?_
  repeat' (first
  
    |refine zA ?_|refine zB ?_|refine zC (by kernel_rfl) (by kernel_rfl) ?_|refine zD ?_|refine zE ?_|refine zF rfl trivial ?_|refine zG ?_|refine zH rfl trivial ?_|refine zI ?_|refine zJ rfl trivial ?_|refine zK ?_|refine zL rfl trivial rfl ?_|refine zM ?_|refine zN rfl trivial ?_|refine zO rfl trivial ?_|refine zP rfl trivial (fun hc => ?_) (fun hc => ?_)|refine zQ rfl trivial (fun hc => ?_) (fun hc => ?_)|refine zR rfl trivial (fun hc => ?_) (fun hc => ?_)|refine zS rfl trivial (fun hc => ?_) (fun hc => ?_)|refine zT ?_|refine zU ?_|refine zF rfl ?_ ?_|refine zH rfl ?_ ?_|refine zJ rfl ?_ ?_|refine zL rfl ?_ rfl ?_|refine zV rfl trivial rfl rfl rfl ?_|refine zW rfl rfl rfl rfl ?_|refine zX rfl rfl trivial rfl trivial rfl rfl rfl rfl rfl ?_
    | refine ao_lit rfl rfl rfl rfl trivial rfl rfl rfl rfl rfl rfl ?_
    | refine ao_app rfl rfl rfl rfl trivial rfl trivial rfl rfl (litB_ones rfl) rfl rfl rfl rfl rfl (by simp [Blk.len]; omega) rfl rfl rfl ?_
    |(show allP _; first | trivial | exact ob1 (fun h => h) | exact ob2 (fun h => h) (fun h => h) | exact ob1 (fun h => ⟨h.1, trivial⟩) | (simp only [obS]; first | omega | (intros; omega) | (simp only [obL]; first | omega | (intros; omega)) | (refine ⟨?_, ?_⟩ <;> intros <;> first | (with_reducible assumption) | omega) | ((repeat' refine And.intro ?_ ?_) <;> (intros; first | (with_reducible assumption) | omega | (simp only [obL]; omega))) | ((try simp only [obB] at *); (try simp only [Blk.len] at *); first | omega | (intros; omega)) | (simp_all; done))))
  · refine ⟨i + 1, by omega, by omega, ?_⟩
    refine Weak.trans (weak_row (nm := 2) (e := 7) (m := i + 1) (g' := fun k => lkD (sqL k)) rfl (fun k hk => ?_) rfl) (by refine weak_to ?_ ?_ rfl rfl
                                                                                                                           · repeat (first | exact subF_nil | refine subF_cons (by first | rfl | (simp [look]; done)) ?_)
                                                                                                                           · repeat (first | exact subS_nil | refine subS_cons (by first | rfl | (simp; done)) ?_)) (Nat.le_of_ble_eq_true rfl)
    by_cases h : k < i
    · simp [h]
    · have : k = i := by omega
      subst this
      simp [lkD, sqL]
  · have h4 : i = 4 := by omega
    subst h4
    exact ⟨.inr rfl, _, rfl, _, rfl, ⟨⟨rfl, rfl⟩, rfl, ⟨_, rfl, rfl, fun k hk x hx => by simp [lkD] at hx; rcases hx with rfl | rfl | rfl | rfl | rfl | rfl | rfl <;> rfl, rfl⟩, trivial⟩, ⟨_, rfl, rfl, trivial, rfl⟩, trivial⟩

theorem setL_of {q r : Nat → Bool} (h : ∀ k, k < 64 → q k = r k) : setL q = setL r := List.filter_congr fun k hk => h k (by simpa using hk)
theorem sq_is {q r : Nat → Bool} (hq : ∀ k, q k = true → (k : Int) < sqT.nodes) (hr : ∀ k, k < 64 → 4 ≤ k → r k = false) (h : q 0 = r 0 ∧ q 1 = r 1 ∧ q 2 = r 2 ∧ q 3 = r 3) : setL q = setL r := setL_of fun k hk => by
  by_cases h4 : 4 ≤ k
  · rw [hr k hk h4]
    cases hqk : q k with
    | false => rfl
    | true => have : (k : Int) < 4 := hq k hqk; omega
  · have : k = 0 ∨ k = 1 ∨ k = 2 ∨ k = 3 := by omega
    rcases this with rfl | rfl | rfl | rfl
    · exact h.1
    · exact h.2.1
    · exact h.2.2.1
    · exact h.2.2.2
theorem s_e (d : Int) (h : d = 0 ∨ d = 1 ∨ d = 2 ∨ d = 3) : errS sqT sqM d = 0 := by rcases h with rfl | rfl | rfl | rfl <;> kernel_rfl
theorem s_f0 : distL sqT [] 0 true = [0, 1, 2, 1] := distL_chk (by kernel_rfl) (by kernel_rfl)
theorem s_f1 : distL sqT [] 1 true = [1, 0, 1, 2] := distL_chk (by kernel_rfl) (by kernel_rfl)
theorem s_f2 : distL sqT [] 2 true = [2, 1, 0, 1] := distL_chk (by kernel_rfl) (by kernel_rfl)
theorem s_f3 : distL sqT [] 3 true = [1, 2, 1, 0] := distL_chk (by kernel_rfl) (by kernel_rfl)
theorem s_g0 : distL sqT [] 0 false = [0, 1, 2, 1] := distL_chk (by kernel_rfl) (by kernel_rfl)
theorem s_g1 : distL sqT [] 1 false = [1, 0, 1, 2] := distL_chk (by kernel_rfl) (by kernel_rfl)
theorem s_g2 : distL sqT [] 2 false = [2, 1, 0, 1] := distL_chk (by kernel_rfl) (by kernel_rfl)
theorem s_g3 : distL sqT [] 3 false = [1, 2, 1, 0] := distL_chk (by kernel_rfl) (by kernel_rfl)
theorem pQ_val {t : Topo} {down : List Bool} {f g : List Int} {n z : Int} {k : Nat} (hk : (k : Int) = z) (hf : distL t [] n true = f) (hg : distL t [] z false = g) : pQ t down n k = (decide (z < t.nodes) && (decide (0 ≤ gI f z) && !(fitsB t down && decide (0 ≤ n) && decide (n < t.nodes) && decide (0 ≤ z) && decide (z < t.nodes) && usesL t down f g n z))) := by
  subst hk; rw [← hf, ← hg]; rfl
theorem qQ_val {t : Topo} {down : List Bool} {f g : List Int} {n z : Int} {k : Nat} (hk : (k : Int) = z) (hf : distL t [] z true = f) (hg : distL t [] n false = g) : qQ t down n k = (decide (z < t.nodes) && (decide (0 ≤ gI g z) && !(fitsB t down && decide (0 ≤ z) && decide (z < t.nodes) && decide (0 ≤ n) && decide (n < t.nodes) && usesL t down f g z n))) := by
  subst hk; rw [← hf, ← hg]; rfl
theorem affQ_val {t : Topo} {down : List Bool} {g : List Int} {n z : Int} {k : Nat} (hk : (k : Int) = z) (hg : distL t [] z false = g) : affQ t down n k = (decide (z < t.nodes) && (decide (0 < (down.length : Int)) && (if errN t [] n z = 0 then nextL t [] z g n else []).any (gone down))) := by
  subst hk; rw [← hg]; rfl
theorem s_P0 : pQ sqT sqM 0 0 = true ∧ pQ sqT sqM 0 1 = false ∧ pQ sqT sqM 0 2 = false ∧ pQ sqT sqM 0 3 = true :=
  ⟨(pQ_val rfl s_f0 s_g0).trans (by kernel_rfl), (pQ_val (z := 1) rfl s_f0 s_g1).trans (by kernel_rfl), (pQ_val (z := 2) rfl s_f0 s_g2).trans (by kernel_rfl), (pQ_val (z := 3) rfl s_f0 s_g3).trans (by kernel_rfl)⟩
theorem s_P3 : pQ sqT sqM 3 0 = true ∧ pQ sqT sqM 3 1 = false ∧ pQ sqT sqM 3 2 = true ∧ pQ sqT sqM 3 3 = true :=
  ⟨(pQ_val rfl s_f3 s_g0).trans (by kernel_rfl), (pQ_val (z := 1) rfl s_f3 s_g1).trans (by kernel_rfl), (pQ_val (z := 2) rfl s_f3 s_g2).trans (by kernel_rfl), (pQ_val (z := 3) rfl s_f3 s_g3).trans (by kernel_rfl)⟩
theorem s_Q1 : qQ sqT sqM 1 0 = false ∧ qQ sqT sqM 1 1 = true ∧ qQ sqT sqM 1 2 = true ∧ qQ sqT sqM 1 3 = false :=
  ⟨(qQ_val rfl s_f0 s_g1).trans (by kernel_rfl), (qQ_val (z := 1) rfl s_f1 s_g1).trans (by kernel_rfl), (qQ_val (z := 2) rfl s_f2 s_g1).trans (by kernel_rfl), (qQ_val (z := 3) rfl s_f3 s_g1).trans (by kernel_rfl)⟩
theorem s_A0 : affQ sqT sqM 0 0 = false ∧ affQ sqT sqM 0 1 = true ∧ affQ sqT sqM 0 2 = true ∧ affQ sqT sqM 0 3 = false :=
  ⟨(affQ_val rfl s_g0).trans (by kernel_rfl), (affQ_val (z := 1) rfl s_g1).trans (by kernel_rfl), (affQ_val (z := 2) rfl s_g2).trans (by kernel_rfl), (affQ_val (z := 3) rfl s_g3).trans (by kernel_rfl)⟩
theorem s_arcs : arcsL sqT 0 true = [0, 7] := by kernel_rfl
theorem s_lt {l : List Nat} (h : ∀ x ∈ l, x < 4) : ∀ k, k < 64 → 4 ≤ k → l.contains k = false := fun k _ hk => by
  cases hc : l.contains k with
  | false => rfl
  | true => have := h k (by simpa using hc); omega
theorem s_PL : setL (pQ sqT sqM 0) = [0, 3] := (sq_is (r := fun k => [0, 3].contains k) (fun k h => pQ_lt h) (s_lt (by decide)) s_P0).trans (by kernel_rfl)
theorem s_QL : setL (qQ sqT sqM 1) = [1, 2] := (sq_is (r := fun k => [1, 2].contains k) (fun k h => qQ_lt h) (s_lt (by decide)) s_Q1).trans (by kernel_rfl)
theorem s_AL : setL (affQ sqT sqM 0) = [1, 2] := (sq_is (r := fun k => [1, 2].contains k) (fun k h => affQ_lt h) (s_lt (by decide)) s_A0).trans (by kernel_rfl)
theorem s_xv (k : Nat) : extQ sqT sqM 0 [0, 7] k = (pQ sqT sqM 0 k || (decide ((k : Int) = 3) || pQ sqT sqM 3 k)) := by
  have e0 : upB sqM 0 = false := by kernel_rfl
  have e1 : upB sqM 7 = true := by kernel_rfl
  have e2 : overT sqT 3 = false := by kernel_rfl
  have e3 : headT sqT 7 = 3 := by kernel_rfl
  unfold extQ
  simp only [List.any_cons, List.any_nil, e0, e1, e2, e3]
  simp
theorem s_X0 : extQ sqT sqM 0 [0, 7] 0 = true ∧ extQ sqT sqM 0 [0, 7] 1 = false ∧ extQ sqT sqM 0 [0, 7] 2 = true ∧ extQ sqT sqM 0 [0, 7] 3 = true := by
  obtain ⟨a0, a1, a2, a3⟩ := s_P0
  obtain ⟨b0, b1, b2, b3⟩ := s_P3
  refine ⟨?_, ?_, ?_, ?_⟩ <;> rw [s_xv] <;> simp [a0, a1, a2, a3, b0, b1, b2, b3]
theorem s_XL : setL (extQ sqT sqM 0 (arcsL sqT 0 true)) = [0, 2, 3] := by
  rw [s_arcs]
  refine (sq_is (r := fun k => [0, 2, 3].contains k) (fun k h => ?_) (s_lt (by decide)) s_X0).trans (by kernel_rfl)
  rw [s_xv] at h
  simp only [Bool.or_eq_true, decide_eq_true_eq] at h
  rcases h with h | h | h
  · exact pQ_lt h
  · rw [h]; decide
  · exact pQ_lt h
theorem a26_P : CtrT tabT Tryd.prog 16 [sqD nilD, boolsD sqM, iD 0] [.ints .i64 [0, 3]] (.tup [.own 0, .d (iD 0)]) := by
  have := c26_PSpace sqT sqM 0
  rw [s_e 0 (by simp), show spaceR sqT sqM 0 (pQ sqT sqM 0) = [0, 3] by unfold spaceR; rw [if_pos (s_e 0 (by simp)), s_PL]; rfl] at this
  exact this.args ⟨sqD_le DLe.nil, DLe.refl _, DLe.refl _, trivial⟩
theorem a26_X : CtrT tabT Tryd.prog 27 [sqD nilD, boolsD sqM, iD 0] [.ints .i64 [0, 2, 3]] (.tup [.own 0, .d (iD 0)]) := by
  have := c26_Extended sqT sqM 0
  rw [s_e 0 (by simp), show spaceR sqT sqM 0 (extQ sqT sqM 0 (arcsL sqT 0 true)) = [0, 2, 3] by unfold spaceR; rw [if_pos (s_e 0 (by simp)), s_XL]; rfl] at this
  exact this.args ⟨sqD_le DLe.nil, DLe.refl _, DLe.refl _, trivial⟩
theorem a26_Q : CtrT tabT Tryd.prog 25 [sqD nilD, boolsD sqM, iD 1] [.ints .i64 [1, 2]] (.tup [.own 0, .d (iD 0)]) := by
  have := c26_QSpace sqT sqM 1
  rw [s_e 1 (by simp), show spaceR sqT sqM 1 (qQ sqT sqM 1) = [1, 2] by unfold spaceR; rw [if_pos (s_e 1 (by simp)), s_QL]; rfl] at this
  exact this.args ⟨sqD_le DLe.nil, DLe.refl _, DLe.refl _, trivial⟩
theorem a26_A : CtrT tabT Tryd.prog 13 [sqD nilD, boolsD sqM, iD 0] [.ints .i64 [1, 2]] (.tup [.own 0, .d (iD 0)]) := by
  have := c26_Affected sqT sqM 0
  rw [s_e 0 (by simp), show spaceR sqT sqM 0 (affQ sqT sqM 0) = [1, 2] by unfold spaceR; rw [if_pos (s_e 0 (by simp)), s_AL]; rfl] at this
  exact this.args ⟨sqD_le DLe.nil, DLe.refl _, DLe.refl _, trivial⟩

set_option maxHeartbeats 1000000 in
theorem l26_awake : CtrT tabT Tryd.prog 9 [] [] (.d (bD true)) := by
  refine spec_ofT envOK (Go.Wk.enters_of Tryd.func9 (by kernel_rfl) (by kernel_rfl)) Tryd.func9 rfl rfl _ rfl (Nat.le_of_ble_eq_true rfl) rfl fun w0 hTw => ?_
  repeat' (first
  
    |refine zA ?_|refine zB ?_|refine zC (by kernel_rfl) (by kernel_rfl) ?_|refine zD ?_|refine zE ?_|refine zF rfl trivial ?_|refine zG ?_|refine zH rfl trivial ?_|refine zI ?_|refine zJ rfl trivial ?_|refine zK ?_|refine zL rfl trivial rfl ?_|refine zM ?_|refine zN rfl trivial ?_|refine zO rfl trivial ?_|refine zP rfl trivial (fun hc => ?_) (fun hc => ?_)|refine zQ rfl trivial (fun hc => ?_) (fun hc => ?_)|refine zR rfl trivial (fun hc => ?_) (fun hc => ?_)|refine zS rfl trivial (fun hc => ?_) (fun hc => ?_)|refine zT ?_|refine zU ?_|refine zF rfl ?_ ?_|refine zH rfl ?_ ?_|refine zJ rfl ?_ ?_|refine zL rfl ?_ rfl ?_|refine zV rfl trivial rfl rfl rfl ?_|refine zW rfl rfl rfl rfl ?_|refine zX rfl rfl trivial rfl trivial rfl rfl rfl rfl rfl ?_
    | refine ao_callR rfl (l26_square) trivial rfl rfl ?_
    | refine ao_callRT hTw tab_stays rfl (a26_P) trivial rfl rfl ?_
    | refine ao_callRT hTw tab_stays rfl (a26_X) trivial rfl rfl ?_
    | refine ao_callRT hTw tab_stays rfl (a26_Q) trivial rfl rfl ?_
    | refine ao_callRT hTw tab_stays rfl (a26_A) trivial rfl rfl ?_
    | refine ao_call rfl (a_Same _ _ (by decide)) rfl ?_ ?_
    | refine ao_lit rfl rfl rfl rfl trivial rfl rfl rfl rfl rfl rfl ?_
    | refine ao_litT rfl (by (simp [allT])) rfl rfl rfl rfl trivial rfl rfl rfl rfl rfl rfl ?_
    |(show allP _; first | trivial | exact ob1 (fun h => h) | exact ob2 (fun h => h) (fun h => h) | exact ob1 (fun h => ⟨h.1, trivial⟩) | (simp only [obS]; first | omega | (intros; omega) | (simp only [obL]; first | omega | (intros; omega)) | (refine ⟨?_, ?_⟩ <;> intros <;> first | (with_reducible assumption) | omega) | ((repeat' refine And.intro ?_ ?_) <;> (intros; first | (with_reducible assumption) | omega | (simp only [obL]; omega))) | ((try simp only [obB] at *); (try simp only [Blk.len] at *); first | omega | (intros; omega)) | (simp_all; done))))
  (refine fin_ret ?_; exact ret1 (by rfl) (by (first | rfl | decide | (simp; done))) (by rfl))

theorem l26_large (t : Topo) (down : List Bool) (x y : Int) : Ctr Tryd.prog 10 [qD t down x y] [] (.d (bD (decide (12 < t.nodes) || decide (20 < (t.links.length : Int)) || decide (60 < (down.length : Int))))) := by
  refine spec_of envOK (Go.Wk.enters_of Tryd.func10 (by kernel_rfl) (by kernel_rfl)) Tryd.func10 rfl rfl _ rfl (Nat.le_of_ble_eq_true rfl) rfl fun w0 => ?_
  repeat' (first
  
    |refine zA ?_|refine zB ?_|refine zC (by kernel_rfl) (by kernel_rfl) ?_|refine zD ?_|refine zE ?_|refine zF rfl trivial ?_|refine zG ?_|refine zH rfl trivial ?_|refine zI ?_|refine zJ rfl trivial ?_|refine zK ?_|refine zL rfl trivial rfl ?_|refine zM ?_|refine zN rfl trivial ?_|refine zO rfl trivial ?_|refine zP rfl trivial (fun hc => ?_) (fun hc => ?_)|refine zQ rfl trivial (fun hc => ?_) (fun hc => ?_)|refine zR rfl trivial (fun hc => ?_) (fun hc => ?_)|refine zS rfl trivial (fun hc => ?_) (fun hc => ?_)|refine zT ?_|refine zU ?_|refine zF rfl ?_ ?_|refine zH rfl ?_ ?_|refine zJ rfl ?_ ?_|refine zL rfl ?_ rfl ?_|refine zV rfl trivial rfl rfl rfl ?_|refine zW rfl rfl rfl rfl ?_|refine zX rfl rfl trivial rfl trivial rfl rfl rfl rfl rfl ?_
  
    |(show allP _; first | trivial | exact ob1 (fun h => h) | exact ob2 (fun h => h) (fun h => h) | exact ob1 (fun h => ⟨h.1, trivial⟩) | (simp only [obS]; first | omega | (intros; omega) | (simp only [obL]; first | omega | (intros; omega)) | (refine ⟨?_, ?_⟩ <;> intros <;> first | (with_reducible assumption) | omega) | ((repeat' refine And.intro ?_ ?_) <;> (intros; first | (with_reducible assumption) | omega | (simp only [obL]; omega))) | ((try simp only [obB] at *); (try simp only [Blk.len] at *); first | omega | (intros; omega)) | (simp_all; done))))
  (refine fin_ret ?_; exact ret1 (by rfl) (by (simp only [Bool.or_assoc])) (by rfl))
end Go.Proofs.YtcnfggpcploehaaDoor

/- Laws of layer 26: Uses. -/
namespace Go.Proofs.YtcnfggpcploehaaDoor
set_option maxRecDepth 10000
open Go.Wk

set_option maxHeartbeats 1000000 in
theorem l_PqUses (t : Topo) (down : List Bool) (x y : Int) : CtrT tabT Tryd.prog 3 [qD t down x y] [] (.d (bD true)) := by
  refine spec_ofT envOK (Go.Wk.enters_of Tryd.func3 (by kernel_rfl) (by kernel_rfl)) Tryd.func3 rfl rfl _ rfl (Nat.le_of_ble_eq_true rfl) rfl fun w0 hTw => ?_
  repeat' (first
  
    |refine zA ?_|refine zB ?_|refine zC (by kernel_rfl) (by kernel_rfl) ?_|refine zD ?_|refine zE ?_|refine zF rfl trivial ?_|refine zG ?_|refine zH rfl trivial ?_|refine zI ?_|refine zJ rfl trivial ?_|refine zK ?_|refine zL rfl trivial rfl ?_|refine zM ?_|refine zN rfl trivial ?_|refine zO rfl trivial ?_|refine zP rfl trivial (fun hc => ?_) (fun hc => ?_)|refine zQ rfl trivial (fun hc => ?_) (fun hc => ?_)|refine zR rfl trivial (fun hc => ?_) (fun hc => ?_)|refine zS rfl trivial (fun hc => ?_) (fun hc => ?_)|refine zT ?_|refine zU ?_|refine zF rfl ?_ ?_|refine zH rfl ?_ ?_|refine zJ rfl ?_ ?_|refine zL rfl ?_ rfl ?_|refine zV rfl trivial rfl rfl rfl ?_|refine zW rfl rfl rfl rfl ?_|refine zX rfl rfl trivial rfl trivial rfl rfl rfl rfl rfl ?_
    | refine ao_callRT hTw tab_stays rfl (l26_awake) trivial rfl rfl ?_
    | (first | refine ao_call rfl (l26_large t down x y) rfl ?_ ?_ | refine aq_call rfl (l26_large t down x y) rfl ?_ ?_)
    | (first | refine ao_call rfl (c26_Uses t down x y) rfl ?_ ?_ | refine aq_call rfl (c26_Uses t down x y) rfl ?_ ?_)
    | (first | refine ao_call rfl (r26_Uses t down x y) rfl ?_ ?_ | refine aq_call rfl (r26_Uses t down x y) rfl ?_ ?_)
    |(show allP _; first | trivial | exact ob1 (fun h => h) | exact ob2 (fun h => h) (fun h => h) | exact ob1 (fun h => ⟨h.1, trivial⟩) | (simp only [obS]; first | omega | (intros; omega) | (simp only [obL]; first | omega | (intros; omega)) | (refine ⟨?_, ?_⟩ <;> intros <;> first | (with_reducible assumption) | omega) | ((repeat' refine And.intro ?_ ?_) <;> (intros; first | (with_reducible assumption) | omega | (simp only [obL]; omega))) | ((try simp only [obB] at *); (try simp only [Blk.len] at *); first | omega | (intros; omega)) | (simp_all; done))))
  all_goals first | ((refine fin_ret ?_; exact ret1 (by rfl) (by rfl) (by rfl))) | ((refine fin_ret ?_; exact ret1 (by rfl) (by (simp)) (by rfl)))
end Go.Proofs.YtcnfggpcploehaaDoor

/- The row of a law over a listed table of the program. -/
namespace Go.Wk
set_option maxRecDepth 10000
open Go.RowKit Go.ChangeShapes Go.WideShapes Go.ChangeAt

/-- A listed table of bytes, in the memory. -/
theorem tab_of_laid {P : Program} {W : World} {name : String} {tab : List Nat} {g : Nat} {t e : TypeId} (hg : P.globalNamed name = some g) (ht : (P.globals[g]?).map (·.type) = some t) (hu : P.underlying t = some (.array tab.length e)) (he : P.underlying e = some (.int .u8)) (hc : P.cellsOf e = 1)
    (h : laidMetH P [(name, .agg (tab.map fun (k : Nat) => .lit (.int .u8 (k : Int))))] W) : Go.Proofs.TabAt g tab W := by
  rw [MakeChecks.laidMetH_plain _ _ _ (by simp [DataW.handleName?])] at h
  obtain ⟨ps, ⟨g0, t0, cs0, f0, p0, q0, hg0, ht0, hv0, hd0, _, _⟩, _, _⟩ := h
  obtain rfl := Option.some.inj (hg.symm.trans hg0)
  obtain rfl := Option.some.inj (ht.symm.trans ht0)
  obtain ⟨xs, m1, rfl, hx1, hlen, hn, hel⟩ := DataW.trod_array hu hd0
  intro j hj
  have h0 := hel j hj
  have hjx : j < xs.length := by omega
  rw [List.getElem?_eq_getElem hjx] at h0
  obtain ⟨k, e1, e2, _⟩ := DataW.trod_int he h0
  simp only [Prod.mk.injEq, DataW.agg.injEq] at hx1
  have h1 : (xs.map (·.1))[j]? = some (DataW.lit (.int .u8 k)) := by rw [List.getElem?_map, List.getElem?_eq_getElem hjx, e2]; rfl
  rw [← hx1.1, List.getElem?_map, List.getElem?_eq_getElem hj] at h1
  simp at h1
  rw [World.var?_cell hg hv0 j]
  rw [hc] at e1
  have h2 : cs0.toList[j]? = some (.int .u8 k) := by
    have := congrArg (fun l => l[0]?) e1
    simpa using this
  rw [← Array.getElem?_toList, h2, ← h1, List.getD_eq_getElem?_getD, List.getElem?_eq_getElem hj]
  rfl

theorem law_liftedT {C : Checked} {os : Os} {f : FuncId} {fn : Func} {s : ChangeSpec} {conds : List PathCond} {fresh handsOn : Bool} {H : Type} {enc : TypeId × Value → H} {laid : List (String × DataW Unit)} {T : World → Prop} (hT : ∀ w, laidMetH C.prog laid w → T w)
    (own : ownKnob C.prog.godebug = none) (started : os.Started) (noInit : C.prog.inits.idxOf? f = none) (hfn : C.prog.funcs[f]? = some fn)
    (witness : ∃ (w : World) (tape : Tape) (i : Input), w.os = os ∧ (w.forCall tape i).Shaped C.prog ∧ i.vars = [] ∧ Input.okWide C.prog (w.forCall tape i) .any w.heap.size f i ∧
      ((s.pre enc C.prog fn conds false (w.forCall tape i).memory i.args ∧ laidMetH C.prog laid (w.forCall tape i).memory) ∧ sizedMet enc C.prog fn (OpenSpec.ofChange s) false (w.forCall tape i).memory i.args) ∧ ({} : Assume).holds C.prog (lone (Frame.enter C.prog f i.args .normal) [] (w.forCall tape i)))
    (hl : laidOutB C.prog = true) (hvars : s.vars = []) (hread : ∀ t ∈ fn.params.toList, C.prog.readableRec t = true ∧ t < C.prog.types.size) {tb : TypeId} (hres : fn.resultTypes = #[tb]) (htb : C.prog.underlying tb = some .bool)
    (hspec : ∀ ds : List (DataW H), ds.length = fn.params.size → (s.fn H (ds ++ [])).results = [.lit (.bool true)] ∧ (s.fn H (ds ++ [])).args = ds ∧ (s.fn H (ds ++ [])).vars = [])
    (key : ∀ (W : World) (base : Nat) (args : Array Value) (ds : List (DataW H)) (p : List MemPlace), (∀ (j : Nat) t v, fn.params[j]? = some t → args[j]? = some v → Value.okWide C.prog W .any base t v) →
      DataW.TrodAll enc C.prog W 0 (fun _ => true) true fn.params.toList args.toList ds p → ∃ xs : List D, RelDs (fun k => k < W.heap.size) W args.toList xs ∧ CtrT T C.prog f xs [] (.d (.bool true))) :
    ReturnsInHanded {} C os f .any (fun w args => (s.pre enc C.prog fn conds false w args ∧ laidMetH C.prog laid w) ∧ sizedMet enc C.prog fn (OpenSpec.ofChange s) false w args) (s.post enc C.prog fn false fresh handsOn false) := by
  refine returnsInHanded_of_change_and (X := fun w _ => laidMetH C.prog laid w) (fun _ _ _ hh h => h.of_heap hh) own started noInit hfn witness ?_
  intro W base args ds gs before hval hW hcnd _ hL _
  have hlt := hW.lt
  obtain ⟨p, q, hA, hV, rfl, hfz, hnd⟩ := hW
  obtain ⟨xs, hxs, hctr⟩ := key W base args ds p hval hA
  have hV' := hV
  rw [hvars] at hV
  have hg : gs = [] ∧ q = [] := by
    cases gs with
    | nil => exact ⟨rfl, hV⟩
    | cons g r => exact hV.elim
  obtain ⟨rfl, rfl⟩ := hg
  have hlen : ∀ {ts : List TypeId} {vs : List Value} {ds : List (DataW H)} {ps : List MemPlace}, DataW.TrodAll enc C.prog W 0 (fun _ => true) true ts vs ds ps → ds.length = ts.length := by
    intro ts
    induction ts with
    | nil => intro vs ds ps h; cases vs <;> cases ds <;> first | rfl | exact h.elim
    | cons t r ih =>
      intro vs ds ps h
      cases vs with
      | nil => exact h.elim
      | cons v q => cases ds with
        | nil => exact h.elim
        | cons d e => obtain ⟨_, _, _, h2, _⟩ := h; simp [ih h2]
  obtain ⟨s1, s2, s3⟩ := hspec ds (by have := hlen hA; simpa using this)
  refine (hctr.2 W args.toList (hT W hL) hxs).mono ?_
  rintro e W' ⟨v, ρ, rfl, hout⟩
  refine ⟨v, rfl, ds, [], p ++ [], [], p, [], ⟨p, [], hA, hV', rfl, hfz, hnd⟩, ?_, ?_, ?_, hout.ext.frame _, fun h => by cases h⟩
  · have hv : v = .bool true := by
      have := hout.val
      cases this with | d h => cases h; rfl
    rw [s1, hres, hv]
    exact ⟨[], [], ⟨1, by simp [DataW.trod, htb, Value.cells]⟩, rfl, rfl⟩
  · rw [s2]
    exact trodAll_stays hl hout.ext hread hA (fun x hx => hlt x (by simp [hx]))
  · rw [s3, hvars]; rfl
end Go.Wk

/- Layer 26: what the rows share. -/
namespace Go.Proofs.YtcnfggpcploehaaDoor
set_option maxRecDepth 10000
open Go.Wk Go.RowKit Go.ChangeShapes Go.WideShapes Go.ChangeAt

theorem Trydown : ownKnob Tryd.prog.godebug = none := by kernel_rfl
theorem Trydlaid : laidOutB Tryd.prog = true := by kernel_rfl
theorem envInt : IntOK Tryd.prog env := by
  unfold env
  repeat (first | exact trivial | refine And.intro (by kernel_rfl) ?_ | (show IntOK _ _; unfold IntOK; dsimp only))

abbrev tabL : List (String × DataW Unit) := [("math/bits.deBruijn64tab", Rows.laid_math_bits_deBruijn64tab)]
theorem tab_of (w : World) (h : laidMetH Tryd.prog tabL w) : tabT w :=
  tab_of_laid (t := 84) (e := 5) (by kernel_rfl) (by kernel_rfl) (by kernel_rfl) (by kernel_rfl) (by kernel_rfl) h
theorem door_met (os : Os) (args : Array Value) : laidMetH Tryd.prog tabL ((World.doorLaid Tryd.prog 400 os).forCall (fun _ _ => 0) ⟨#[], args, []⟩).memory :=
  laidMetH_of_parts3 (fuel := 8) (laidMet_of_run' 8 (by kernel_rfl) (by kernel_rfl)) (by kernel_rfl) (by kernel_rfl)
end Go.Proofs.YtcnfggpcploehaaDoor
