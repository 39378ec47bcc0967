/- Laid together: C03f, C11, C11a, C11b, C11c, C11d, C11e, Mbf, R11, R11a, R11b, R11c, L11a. -/
import Derived.Test.YtcnfggpcploehaaQ3

set_option linter.all false

/- Layer 3: the heap: New. -/
namespace Go.Proofs.Ytcnfggpcploehaa
set_option maxRecDepth 10000
open Go.Wk

theorem extD {a b : List Int} (h : a.length = b.length) (h2 : ∀ j, j < a.length → a.getD j 0 = b.getD j 0) : a = b := by
  apply List.ext_getElem h
  intro i h1 h3
  have := h2 i h1
  simpa [List.getD_eq_getElem?_getD, h1, h3] using this

theorem h_New (n : Int) (h0 : 0 ≤ n) (h1 : n ≤ 65536) : Ctr Try.prog 97 [iD n] [.ints .i64 (List.replicate n.toNat 0), .ints .i64 (List.replicate n.toNat (-1)), .cells [.nil, .own 0, .own 1]] (.tup [.ptr 2 0, .d (iD 0)]) := by
  have hnn : (((Blk.ints IntKind.i64 (List.replicate n.toNat 0)).len : Nat) : Int) = n := by simp [Blk.len]; omega
  refine spec_new envOK (enters_of Try.func97 (by kernel_rfl) (by kernel_rfl)) Try.func97 rfl rfl _ rfl (Nat.le_of_ble_eq_true rfl) rfl fun w0 => ?_
  repeat' (first
    | refine aw_region_n (l0 := [_, _, _, _, _, _, _]) [] (by kernel_rfl) (by simp) ?_
    | refine aw_seq ?_
    | refine aw_region ?_
    | refine aw_region_q (by kernel_rfl) (by kernel_rfl) ?_
    | refine aw_block ?_
    | refine ao_nil ?_
    | refine ao_op rfl trivial ?_
    | refine aq_nil ?_
    | refine aq_op rfl trivial ?_
    | refine at_nil ?_
    | refine at_op rfl trivial ?_
    | refine am_nil ?_
    | refine am_op rfl trivial rfl ?_
    | refine aw_skip ?_
    | refine aw_condT rfl trivial ?_
    | refine aw_condF rfl trivial ?_
    | refine aw_condD rfl trivial (fun hc => ?_) (fun hc => ?_)
    | refine aw_condN rfl trivial (fun hc => ?_) (fun hc => ?_)
    | refine aw_condNB rfl trivial (fun hc => ?_) (fun hc => ?_)
    | refine aw_cond rfl trivial (fun hc => ?_) (fun hc => ?_)
    | refine aw_ret ?_
    | refine aw_exit ?_
    | refine ao_op rfl ?_ ?_
    | refine aq_op rfl ?_ ?_
    | refine at_op rfl ?_ ?_
    | refine am_op rfl ?_ rfl ?_
    | refine ao_box rfl trivial rfl rfl rfl ?_
    | refine ao_alloc rfl rfl rfl rfl ?_
    | refine ao_store rfl rfl trivial rfl trivial rfl rfl rfl rfl rfl ?_
    
    | (show allP _; first | trivial | exact ob1 (fun h => h) | exact ob2 (fun h => h) (fun h => h) | exact ob1 (fun h => ⟨h.1, trivial⟩) | (simp only [allP, obg, grd, allT, InR, decide_eq_true_eq, Bool.and_eq_true, Bool.not_eq_true', decide_eq_false_iff_not, List.nil_append, List.cons_append, List.append_nil, and_true, true_and]; first | omega | (intros; omega) | (simp only [Blk.len, List.length_set, List.length_append, List.length_cons, List.length_nil]; first | omega | (intros; omega)) | (refine ⟨?_, ?_⟩ <;> intros <;> first | (with_reducible assumption) | omega) | ((repeat' refine And.intro ?_ ?_) <;> (intros; first | (with_reducible assumption) | omega | (simp only [Blk.len, List.length_set, List.length_append, List.length_cons, List.length_nil]; omega))) | ((try simp only [Bool.or_eq_true, Bool.or_eq_false_iff, Bool.and_eq_true, Bool.and_eq_false_iff, decide_eq_true_eq, decide_eq_false_iff_not, Bool.not_eq_true', Bool.not_eq_false'] at *); (try simp only [Blk.len] at *); first | omega | (intros; omega)) | (simp_all; done))))
  all_goals try (exfalso; simp at hc; omega)
  refine an_q 0 (by kernel_rfl) (by kernel_rfl) rfl rfl (by first | trivial | exact ob1 (fun h => h) | exact ob2 (fun h => h) (fun h => h) | exact ob1 (fun h => ⟨h.1, trivial⟩) | (simp only [allP, obg, grd, allT, InR, decide_eq_true_eq, Bool.and_eq_true, Bool.not_eq_true', decide_eq_false_iff_not, List.nil_append, List.cons_append, List.append_nil, and_true, true_and]; first | omega | (intros; omega) | (simp only [Blk.len, List.length_set, List.length_append, List.length_cons, List.length_nil]; first | omega | (intros; omega)) | (refine ⟨?_, ?_⟩ <;> intros <;> first | (with_reducible assumption) | omega) | ((repeat' refine And.intro ?_ ?_) <;> (intros; first | (with_reducible assumption) | omega | (simp only [Blk.len, List.length_set, List.length_append, List.length_cons, List.length_nil]; omega))) | ((try simp only [Bool.or_eq_true, Bool.or_eq_false_iff, Bool.and_eq_true, Bool.and_eq_false_iff, decide_eq_true_eq, decide_eq_false_iff_not, Bool.not_eq_true', Bool.not_eq_false'] at *); (try simp only [Blk.len] at *); first | omega | (intros; omega)) | (simp_all; done))) (by kernel_rfl) ?_
  refine an_q 2 (by kernel_rfl) (by kernel_rfl) rfl rfl (by first | trivial | exact ob1 (fun h => h) | exact ob2 (fun h => h) (fun h => h) | exact ob1 (fun h => ⟨h.1, trivial⟩) | (simp only [allP, obg, grd, allT, InR, decide_eq_true_eq, Bool.and_eq_true, Bool.not_eq_true', decide_eq_false_iff_not, List.nil_append, List.cons_append, List.append_nil, and_true, true_and]; first | omega | (intros; omega) | (simp only [Blk.len, List.length_set, List.length_append, List.length_cons, List.length_nil]; first | omega | (intros; omega)) | (refine ⟨?_, ?_⟩ <;> intros <;> first | (with_reducible assumption) | omega) | ((repeat' refine And.intro ?_ ?_) <;> (intros; first | (with_reducible assumption) | omega | (simp only [Blk.len, List.length_set, List.length_append, List.length_cons, List.length_nil]; omega))) | ((try simp only [Bool.or_eq_true, Bool.or_eq_false_iff, Bool.and_eq_true, Bool.and_eq_false_iff, decide_eq_true_eq, decide_eq_false_iff_not, Bool.not_eq_true', Bool.not_eq_false'] at *); (try simp only [Blk.len] at *); first | omega | (intros; omega)) | (simp_all; done))) (by kernel_rfl) ?_
  refine an_2 1 3 (by kernel_rfl) rfl rfl ?_ ?_
  · refine ax_make rfl rfl rfl rfl trivial rfl trivial (by first | omega | (dsimp only; omega)) (by first | omega | (dsimp only; omega)) (by first | omega | (dsimp only; omega)) rfl rfl rfl ?_
    refine an_1 3 (by kernel_rfl) rfl ?_
    refine ax_make rfl rfl rfl rfl trivial rfl trivial (by first | omega | (dsimp only; omega)) (by first | omega | (dsimp only; omega)) (by first | omega | (dsimp only; omega)) rfl rfl rfl ?_
    refine an_1 4 (by kernel_rfl) rfl ?_
    refine ax_q rfl (by first | trivial | exact ob1 (fun h => h) | exact ob2 (fun h => h) (fun h => h) | exact ob1 (fun h => ⟨h.1, trivial⟩) | (simp only [allP, obg, grd, allT, InR, decide_eq_true_eq, Bool.and_eq_true, Bool.not_eq_true', decide_eq_false_iff_not, List.nil_append, List.cons_append, List.append_nil, and_true, true_and]; first | omega | (intros; omega) | (simp only [Blk.len, List.length_set, List.length_append, List.length_cons, List.length_nil]; first | omega | (intros; omega)) | (refine ⟨?_, ?_⟩ <;> intros <;> first | (with_reducible assumption) | omega) | ((repeat' refine And.intro ?_ ?_) <;> (intros; first | (with_reducible assumption) | omega | (simp only [Blk.len, List.length_set, List.length_append, List.length_cons, List.length_nil]; omega))) | ((try simp only [Bool.or_eq_true, Bool.or_eq_false_iff, Bool.and_eq_true, Bool.and_eq_false_iff, decide_eq_true_eq, decide_eq_false_iff_not, Bool.not_eq_true', Bool.not_eq_false'] at *); (try simp only [Blk.len] at *); first | omega | (intros; omega)) | (simp_all; done))) ?_
    refine an_1 5 (by kernel_rfl) rfl ?_
    refine ax_box rfl trivial rfl rfl rfl ?_
    refine an_1 6 (by kernel_rfl) rfl ?_
    refine ax_q rfl (by first | trivial | exact ob1 (fun h => h) | exact ob2 (fun h => h) (fun h => h) | exact ob1 (fun h => ⟨h.1, trivial⟩) | (simp only [allP, obg, grd, allT, InR, decide_eq_true_eq, Bool.and_eq_true, Bool.not_eq_true', decide_eq_false_iff_not, List.nil_append, List.cons_append, List.append_nil, and_true, true_and]; first | omega | (intros; omega) | (simp only [Blk.len, List.length_set, List.length_append, List.length_cons, List.length_nil]; first | omega | (intros; omega)) | (refine ⟨?_, ?_⟩ <;> intros <;> first | (with_reducible assumption) | omega) | ((repeat' refine And.intro ?_ ?_) <;> (intros; first | (with_reducible assumption) | omega | (simp only [Blk.len, List.length_set, List.length_append, List.length_cons, List.length_nil]; omega))) | ((try simp only [Bool.or_eq_true, Bool.or_eq_false_iff, Bool.and_eq_true, Bool.and_eq_false_iff, decide_eq_true_eq, decide_eq_false_iff_not, Bool.not_eq_true', Bool.not_eq_false'] at *); (try simp only [Blk.len] at *); first | omega | (intros; omega)) | (simp_all; done))) ?_
    refine an_nil (by kernel_rfl) ?_
    repeat' (first
    
      | refine aw_seq ?_
      | refine aw_region ?_
      | refine aw_region_q (by kernel_rfl) (by kernel_rfl) ?_
      | refine aw_block ?_
      | refine ao_nil ?_
      | refine ao_op rfl trivial ?_
      | refine aq_nil ?_
      | refine aq_op rfl trivial ?_
      | refine at_nil ?_
      | refine at_op rfl trivial ?_
      | refine am_nil ?_
      | refine am_op rfl trivial rfl ?_
      | refine aw_skip ?_
      | refine aw_condT rfl trivial ?_
      | refine aw_condF rfl trivial ?_
      | refine aw_condD rfl trivial (fun hc => ?_) (fun hc => ?_)
      | refine aw_condN rfl trivial (fun hc => ?_) (fun hc => ?_)
      | refine aw_condNB rfl trivial (fun hc => ?_) (fun hc => ?_)
      | refine aw_cond rfl trivial (fun hc => ?_) (fun hc => ?_)
      | refine aw_ret ?_
      | refine aw_exit ?_
      | refine ao_op rfl ?_ ?_
      | refine aq_op rfl ?_ ?_
      | refine at_op rfl ?_ ?_
      | refine am_op rfl ?_ rfl ?_
      | refine ao_box rfl trivial rfl rfl rfl ?_
      | refine ao_alloc rfl rfl rfl rfl ?_
      | refine ao_store rfl rfl trivial rfl trivial rfl rfl rfl rfl rfl ?_
    
      | (show allP _; first | trivial | exact ob1 (fun h => h) | exact ob2 (fun h => h) (fun h => h) | exact ob1 (fun h => ⟨h.1, trivial⟩) | (simp only [allP, obg, grd, allT, InR, decide_eq_true_eq, Bool.and_eq_true, Bool.not_eq_true', decide_eq_false_iff_not, List.nil_append, List.cons_append, List.append_nil, and_true, true_and]; first | omega | (intros; omega) | (simp only [Blk.len, List.length_set, List.length_append, List.length_cons, List.length_nil]; first | omega | (intros; omega)) | (refine ⟨?_, ?_⟩ <;> intros <;> first | (with_reducible assumption) | omega) | ((repeat' refine And.intro ?_ ?_) <;> (intros; first | (with_reducible assumption) | omega | (simp only [Blk.len, List.length_set, List.length_append, List.length_cons, List.length_nil]; omega))) | ((try simp only [Bool.or_eq_true, Bool.or_eq_false_iff, Bool.and_eq_true, Bool.and_eq_false_iff, decide_eq_true_eq, decide_eq_false_iff_not, Bool.not_eq_true', Bool.not_eq_false'] at *); (try simp only [Blk.len] at *); first | omega | (intros; omega)) | (simp_all; done))))
    rw [hnn]
    refine aw_loop (ι := List Int × Nat) (fun s => [(23, [], .d (iD s.2)), (22, [], .d (iD n)), (21, [], .own 1), (4, [], .ptr 2 0)]) (fun s => [.ints .i64 (List.replicate n.toNat 0), .ints .i64 s.1, .cells [.nil, .own 0, .own 1]])
      (fun s => s.1.length = n.toNat ∧ s.2 ≤ n.toNat ∧ ∀ j, j < s.2 → s.1.getD j 0 = -1) (fun s => n.toNat - s.2) (List.replicate n.toNat 0, 0) ⟨by simp, by simp, fun j hj => by simp at hj⟩ (fun _ => Nat.le_of_ble_eq_true rfl) ?_ fun s hs => ?_
    · refine weak_to ?_ ?_ rfl rfl
      · repeat (first | exact subF_nil | refine subF_cons (by first | rfl | (simp [look]; done) | (rw [← hnn]; rfl)) ?_)
      · repeat (first | exact subS_nil | refine subS_cons (by first | rfl | (simp; done) | rfl) ?_)
    obtain ⟨p, i⟩ := s
    obtain ⟨hp, hi, hj⟩ := hs
    simp only at hp hi hj ⊢
    repeat' (first
    
      | refine aw_seq ?_
      | refine aw_region ?_
      | refine aw_region_q (by kernel_rfl) (by kernel_rfl) ?_
      | refine aw_block ?_
      | refine ao_nil ?_
      | refine ao_op rfl trivial ?_
      | refine aq_nil ?_
      | refine aq_op rfl trivial ?_
      | refine at_nil ?_
      | refine at_op rfl trivial ?_
      | refine am_nil ?_
      | refine am_op rfl trivial rfl ?_
      | refine aw_skip ?_
      | refine aw_condT rfl trivial ?_
      | refine aw_condF rfl trivial ?_
      | refine aw_condD rfl trivial (fun hc => ?_) (fun hc => ?_)
      | refine aw_condN rfl trivial (fun hc => ?_) (fun hc => ?_)
      | refine aw_condNB rfl trivial (fun hc => ?_) (fun hc => ?_)
      | refine aw_cond rfl trivial (fun hc => ?_) (fun hc => ?_)
      | refine aw_ret ?_
      | refine aw_exit ?_
      | refine ao_op rfl ?_ ?_
      | refine aq_op rfl ?_ ?_
      | refine at_op rfl ?_ ?_
      | refine am_op rfl ?_ rfl ?_
      | refine ao_box rfl trivial rfl rfl rfl ?_
      | refine ao_alloc rfl rfl rfl rfl ?_
      | refine ao_store rfl rfl trivial rfl trivial rfl rfl rfl rfl rfl ?_
      | refine ao_store_ep rfl rfl trivial rfl trivial rfl rfl rfl rfl rfl rfl ?_
      | (show allP _; first | trivial | exact ob1 (fun h => h) | exact ob2 (fun h => h) (fun h => h) | exact ob1 (fun h => ⟨h.1, trivial⟩) | (simp only [allP, obg, grd, allT, InR, decide_eq_true_eq, Bool.and_eq_true, Bool.not_eq_true', decide_eq_false_iff_not, List.nil_append, List.cons_append, List.append_nil, and_true, true_and]; first | omega | (intros; omega) | (simp only [Blk.len, List.length_set, List.length_append, List.length_cons, List.length_nil]; first | omega | (intros; omega)) | (refine ⟨?_, ?_⟩ <;> intros <;> first | (with_reducible assumption) | omega) | ((repeat' refine And.intro ?_ ?_) <;> (intros; first | (with_reducible assumption) | omega | (simp only [Blk.len, List.length_set, List.length_append, List.length_cons, List.length_nil]; omega))) | ((try simp only [Bool.or_eq_true, Bool.or_eq_false_iff, Bool.and_eq_true, Bool.and_eq_false_iff, decide_eq_true_eq, decide_eq_false_iff_not, Bool.not_eq_true', Bool.not_eq_false'] at *); (try simp only [Blk.len] at *); first | omega | (intros; omega)) | (simp_all; done))))
    · rw [show (Int.toNat (i : Int)) = i from rfl]
      refine ⟨(p.set i (-1), i + 1), ⟨by simpa using hp, by simp only; omega, fun j hj' => ?_⟩, by simp only; omega, ?_⟩
      · simp only at hj' ⊢
        rw [getD_set]
        split
        · rfl
        · exact hj j (by omega)
      · refine weak_to ?_ ?_ rfl rfl
        · repeat (first | exact subF_nil | refine subF_cons (by first | rfl | (simp [look]; done) | (simp [look]; done)) ?_)
        · repeat (first | exact subS_nil | refine subS_cons (by first | rfl | (simp; done) | rfl) ?_)
    · have he : p = List.replicate n.toNat (-1) := by
        refine extD (by simpa using hp) fun j hj' => ?_
        rw [hj j (by omega), List.getD_eq_getElem?_getD, List.getElem?_replicate, if_pos (by omega)]; rfl
      subst he
      refine retN2 rfl (by (repeat (first | exact subS_nil | refine subS_cons (by first | rfl | rfl) ?_))) rfl rfl (by simp [bflats, bflat, vflats, vflat, D.flat, D.scal, Blk.flat]) rfl rfl rfl
  · refine ax_make rfl rfl rfl rfl trivial rfl trivial (by first | omega | (dsimp only; omega)) (by first | omega | (dsimp only; omega)) (by first | omega | (dsimp only; omega)) rfl rfl rfl ?_
    refine an_1 1 (by kernel_rfl) rfl ?_
    refine ax_make rfl rfl rfl rfl trivial rfl trivial (by first | omega | (dsimp only; omega)) (by first | omega | (dsimp only; omega)) (by first | omega | (dsimp only; omega)) rfl rfl rfl ?_
    refine an_1 4 (by kernel_rfl) rfl ?_
    refine ax_q rfl (by first | trivial | exact ob1 (fun h => h) | exact ob2 (fun h => h) (fun h => h) | exact ob1 (fun h => ⟨h.1, trivial⟩) | (simp only [allP, obg, grd, allT, InR, decide_eq_true_eq, Bool.and_eq_true, Bool.not_eq_true', decide_eq_false_iff_not, List.nil_append, List.cons_append, List.append_nil, and_true, true_and]; first | omega | (intros; omega) | (simp only [Blk.len, List.length_set, List.length_append, List.length_cons, List.length_nil]; first | omega | (intros; omega)) | (refine ⟨?_, ?_⟩ <;> intros <;> first | (with_reducible assumption) | omega) | ((repeat' refine And.intro ?_ ?_) <;> (intros; first | (with_reducible assumption) | omega | (simp only [Blk.len, List.length_set, List.length_append, List.length_cons, List.length_nil]; omega))) | ((try simp only [Bool.or_eq_true, Bool.or_eq_false_iff, Bool.and_eq_true, Bool.and_eq_false_iff, decide_eq_true_eq, decide_eq_false_iff_not, Bool.not_eq_true', Bool.not_eq_false'] at *); (try simp only [Blk.len] at *); first | omega | (intros; omega)) | (simp_all; done))) ?_
    refine an_1 5 (by kernel_rfl) rfl ?_
    refine ax_box rfl trivial rfl rfl rfl ?_
    refine an_1 6 (by kernel_rfl) rfl ?_
    refine ax_q rfl (by first | trivial | exact ob1 (fun h => h) | exact ob2 (fun h => h) (fun h => h) | exact ob1 (fun h => ⟨h.1, trivial⟩) | (simp only [allP, obg, grd, allT, InR, decide_eq_true_eq, Bool.and_eq_true, Bool.not_eq_true', decide_eq_false_iff_not, List.nil_append, List.cons_append, List.append_nil, and_true, true_and]; first | omega | (intros; omega) | (simp only [Blk.len, List.length_set, List.length_append, List.length_cons, List.length_nil]; first | omega | (intros; omega)) | (refine ⟨?_, ?_⟩ <;> intros <;> first | (with_reducible assumption) | omega) | ((repeat' refine And.intro ?_ ?_) <;> (intros; first | (with_reducible assumption) | omega | (simp only [Blk.len, List.length_set, List.length_append, List.length_cons, List.length_nil]; omega))) | ((try simp only [Bool.or_eq_true, Bool.or_eq_false_iff, Bool.and_eq_true, Bool.and_eq_false_iff, decide_eq_true_eq, decide_eq_false_iff_not, Bool.not_eq_true', Bool.not_eq_false'] at *); (try simp only [Blk.len] at *); first | omega | (intros; omega)) | (simp_all; done))) ?_
    refine an_nil (by kernel_rfl) ?_
    repeat' (first
    
      | refine aw_seq ?_
      | refine aw_region ?_
      | refine aw_region_q (by kernel_rfl) (by kernel_rfl) ?_
      | refine aw_block ?_
      | refine ao_nil ?_
      | refine ao_op rfl trivial ?_
      | refine aq_nil ?_
      | refine aq_op rfl trivial ?_
      | refine at_nil ?_
      | refine at_op rfl trivial ?_
      | refine am_nil ?_
      | refine am_op rfl trivial rfl ?_
      | refine aw_skip ?_
      | refine aw_condT rfl trivial ?_
      | refine aw_condF rfl trivial ?_
      | refine aw_condD rfl trivial (fun hc => ?_) (fun hc => ?_)
      | refine aw_condN rfl trivial (fun hc => ?_) (fun hc => ?_)
      | refine aw_condNB rfl trivial (fun hc => ?_) (fun hc => ?_)
      | refine aw_cond rfl trivial (fun hc => ?_) (fun hc => ?_)
      | refine aw_ret ?_
      | refine aw_exit ?_
      | refine ao_op rfl ?_ ?_
      | refine aq_op rfl ?_ ?_
      | refine at_op rfl ?_ ?_
      | refine am_op rfl ?_ rfl ?_
      | refine ao_box rfl trivial rfl rfl rfl ?_
      | refine ao_alloc rfl rfl rfl rfl ?_
      | refine ao_store rfl rfl trivial rfl trivial rfl rfl rfl rfl rfl ?_
    
      | (show allP _; first | trivial | exact ob1 (fun h => h) | exact ob2 (fun h => h) (fun h => h) | exact ob1 (fun h => ⟨h.1, trivial⟩) | (simp only [allP, obg, grd, allT, InR, decide_eq_true_eq, Bool.and_eq_true, Bool.not_eq_true', decide_eq_false_iff_not, List.nil_append, List.cons_append, List.append_nil, and_true, true_and]; first | omega | (intros; omega) | (simp only [Blk.len, List.length_set, List.length_append, List.length_cons, List.length_nil]; first | omega | (intros; omega)) | (refine ⟨?_, ?_⟩ <;> intros <;> first | (with_reducible assumption) | omega) | ((repeat' refine And.intro ?_ ?_) <;> (intros; first | (with_reducible assumption) | omega | (simp only [Blk.len, List.length_set, List.length_append, List.length_cons, List.length_nil]; omega))) | ((try simp only [Bool.or_eq_true, Bool.or_eq_false_iff, Bool.and_eq_true, Bool.and_eq_false_iff, decide_eq_true_eq, decide_eq_false_iff_not, Bool.not_eq_true', Bool.not_eq_false'] at *); (try simp only [Blk.len] at *); first | omega | (intros; omega)) | (simp_all; done))))
    rw [hnn]
    refine aw_weak (F' := [(23, [], .d (iD 0)), (22, [], .d (iD n)), (21, [], .own 0), (4, [], .ptr 2 0)]) (S' := [.ints .i64 (List.replicate n.toNat 0), .ints .i64 (List.replicate n.toNat 0), .cells [.nil, .own 1, .own 0]]) ?_ (Nat.le_of_ble_eq_true rfl) ?_
    · refine weak_to ?_ ?_ rfl rfl
      · repeat (first | exact subF_nil | refine subF_cons (by first | rfl | (simp [look]; done) | (rw [← hnn]; rfl)) ?_)
      · repeat (first | exact subS_nil | refine subS_cons (by first | rfl | (simp; done) | rfl) ?_)
    refine aw_sel (F0 := [(23, [], .d (iD 0)), (22, [], .d (iD n)), (21, [], .own 1), (4, [], .ptr 2 0)]) (S0 := [.ints .i64 (List.replicate n.toNat 0), .ints .i64 (List.replicate n.toNat 0), .cells [.nil, .own 0, .own 1]]) [1, 0, 2] rfl rfl rfl (Nat.le_of_ble_eq_true rfl) (fun i hi => absurd hi (Nat.not_lt_zero _)) (by repeat (first | exact subR_nil | refine subR_cons rfl rfl ?_)) ?_
    refine aw_loop (ι := List Int × Nat) (fun s => [(23, [], .d (iD s.2)), (22, [], .d (iD n)), (21, [], .own 1), (4, [], .ptr 2 0)]) (fun s => [.ints .i64 (List.replicate n.toNat 0), .ints .i64 s.1, .cells [.nil, .own 0, .own 1]])
      (fun s => s.1.length = n.toNat ∧ s.2 ≤ n.toNat ∧ ∀ j, j < s.2 → s.1.getD j 0 = -1) (fun s => n.toNat - s.2) (List.replicate n.toNat 0, 0) ⟨by simp, by simp, fun j hj => by simp at hj⟩ (fun _ => Nat.le_of_ble_eq_true rfl) ?_ fun s hs => ?_
    · refine weak_to ?_ ?_ rfl rfl
      · repeat (first | exact subF_nil | refine subF_cons (by first | rfl | (simp [look]; done) | (rw [← hnn]; rfl)) ?_)
      · repeat (first | exact subS_nil | refine subS_cons (by first | rfl | (simp; done) | rfl) ?_)
    obtain ⟨p, i⟩ := s
    obtain ⟨hp, hi, hj⟩ := hs
    simp only at hp hi hj ⊢
    repeat' (first
    
      | refine aw_seq ?_
      | refine aw_region ?_
      | refine aw_region_q (by kernel_rfl) (by kernel_rfl) ?_
      | refine aw_block ?_
      | refine ao_nil ?_
      | refine ao_op rfl trivial ?_
      | refine aq_nil ?_
      | refine aq_op rfl trivial ?_
      | refine at_nil ?_
      | refine at_op rfl trivial ?_
      | refine am_nil ?_
      | refine am_op rfl trivial rfl ?_
      | refine aw_skip ?_
      | refine aw_condT rfl trivial ?_
      | refine aw_condF rfl trivial ?_
      | refine aw_condD rfl trivial (fun hc => ?_) (fun hc => ?_)
      | refine aw_condN rfl trivial (fun hc => ?_) (fun hc => ?_)
      | refine aw_condNB rfl trivial (fun hc => ?_) (fun hc => ?_)
      | refine aw_cond rfl trivial (fun hc => ?_) (fun hc => ?_)
      | refine aw_ret ?_
      | refine aw_exit ?_
      | refine ao_op rfl ?_ ?_
      | refine aq_op rfl ?_ ?_
      | refine at_op rfl ?_ ?_
      | refine am_op rfl ?_ rfl ?_
      | refine ao_box rfl trivial rfl rfl rfl ?_
      | refine ao_alloc rfl rfl rfl rfl ?_
      | refine ao_store rfl rfl trivial rfl trivial rfl rfl rfl rfl rfl ?_
      | refine ao_store_ep rfl rfl trivial rfl trivial rfl rfl rfl rfl rfl rfl ?_
      | (show allP _; first | trivial | exact ob1 (fun h => h) | exact ob2 (fun h => h) (fun h => h) | exact ob1 (fun h => ⟨h.1, trivial⟩) | (simp only [allP, obg, grd, allT, InR, decide_eq_true_eq, Bool.and_eq_true, Bool.not_eq_true', decide_eq_false_iff_not, List.nil_append, List.cons_append, List.append_nil, and_true, true_and]; first | omega | (intros; omega) | (simp only [Blk.len, List.length_set, List.length_append, List.length_cons, List.length_nil]; first | omega | (intros; omega)) | (refine ⟨?_, ?_⟩ <;> intros <;> first | (with_reducible assumption) | omega) | ((repeat' refine And.intro ?_ ?_) <;> (intros; first | (with_reducible assumption) | omega | (simp only [Blk.len, List.length_set, List.length_append, List.length_cons, List.length_nil]; omega))) | ((try simp only [Bool.or_eq_true, Bool.or_eq_false_iff, Bool.and_eq_true, Bool.and_eq_false_iff, decide_eq_true_eq, decide_eq_false_iff_not, Bool.not_eq_true', Bool.not_eq_false'] at *); (try simp only [Blk.len] at *); first | omega | (intros; omega)) | (simp_all; done))))
    · rw [show (Int.toNat (i : Int)) = i from rfl]
      refine ⟨(p.set i (-1), i + 1), ⟨by simpa using hp, by simp only; omega, fun j hj' => ?_⟩, by simp only; omega, ?_⟩
      · simp only at hj' ⊢
        rw [getD_set]
        split
        · rfl
        · exact hj j (by omega)
      · refine weak_to ?_ ?_ rfl rfl
        · repeat (first | exact subF_nil | refine subF_cons (by first | rfl | (simp [look]; done) | (simp [look]; done)) ?_)
        · repeat (first | exact subS_nil | refine subS_cons (by first | rfl | (simp; done) | rfl) ?_)
    · have he : p = List.replicate n.toNat (-1) := by
        refine extD (by simpa using hp) fun j hj' => ?_
        rw [hj j (by omega), List.getD_eq_getElem?_getD, List.getElem?_replicate, if_pos (by omega)]; rfl
      subst he
      refine retN2 rfl (by (repeat (first | exact subS_nil | refine subS_cons (by first | rfl | rfl) ?_))) rfl rfl (by simp [bflats, bflat, vflats, vflat, D.flat, D.scal, Blk.flat]) rfl rfl rfl

end Go.Proofs.Ytcnfggpcploehaa

/- Layer 11: fits, up. -/
namespace Go.Proofs.Ytcnfggpcploehaa
set_option maxRecDepth 10000
open Go.Wk

theorem c_fits (t : Topo) (down : List Bool) : Ctr Try.prog 96 [topoD t, boolsD down] [] (.d (bD (fitsB t down))) := by
  refine spec_of envOK (enters_of Try.func96 (by kernel_rfl) (by kernel_rfl)) Try.func96 rfl rfl _ rfl (Nat.le_of_ble_eq_true rfl) rfl fun w0 => ?_
  have hl : validB t = false ∨ t.links.length ≤ 256 := by
    cases hv : validB t with
    | false => exact .inl rfl
    | true => exact .inr (validB_head hv).2.2.1
  rcases hl with hl | hl
  · repeat' (first
    
      | refine aw_seq ?_
      | refine aw_region ?_
      | refine aw_region_q (by kernel_rfl) (by kernel_rfl) ?_
      | refine aw_block ?_
      | refine ao_nil ?_
      | refine ao_op rfl trivial ?_
      | refine aq_nil ?_
      | refine aq_op rfl trivial ?_
      | refine at_nil ?_
      | refine at_op rfl trivial ?_
      | refine am_nil ?_
      | refine am_op rfl trivial rfl ?_
      | refine aw_skip ?_
      | refine aw_condT rfl trivial ?_
      | refine aw_condF rfl trivial ?_
      | refine aw_condD rfl trivial (fun hc => ?_) (fun hc => ?_)
      | refine aw_condN rfl trivial (fun hc => ?_) (fun hc => ?_)
      | refine aw_condNB rfl trivial (fun hc => ?_) (fun hc => ?_)
      | refine aw_cond rfl trivial (fun hc => ?_) (fun hc => ?_)
      | refine aw_ret ?_
      | refine aw_exit ?_
      | refine ao_op rfl ?_ ?_
      | refine aq_op rfl ?_ ?_
      | refine at_op rfl ?_ ?_
      | refine am_op rfl ?_ rfl ?_
      | refine ao_box rfl trivial rfl rfl rfl ?_
      | refine ao_alloc rfl rfl rfl rfl ?_
      | refine ao_store rfl rfl trivial rfl trivial rfl rfl rfl rfl rfl ?_
      | refine ao_call rfl (c_Valid _) rfl ?_ ?_
      | refine aq_call rfl (c_Valid _) rfl ?_ ?_
      | (show allP _; first | trivial | exact ob1 (fun h => h) | exact ob2 (fun h => h) (fun h => h) | exact ob1 (fun h => ⟨h.1, trivial⟩) | (simp only [allP, obg, grd, allT, InR, decide_eq_true_eq, Bool.and_eq_true, Bool.not_eq_true', decide_eq_false_iff_not, List.nil_append, List.cons_append, List.append_nil, and_true, true_and]; first | omega | (intros; omega) | (simp only [Blk.len, List.length_set, List.length_append, List.length_cons, List.length_nil]; first | omega | (intros; omega)) | (refine ⟨?_, ?_⟩ <;> intros <;> first | (with_reducible assumption) | omega) | ((repeat' refine And.intro ?_ ?_) <;> (intros; first | (with_reducible assumption) | omega | (simp only [Blk.len, List.length_set, List.length_append, List.length_cons, List.length_nil]; omega))) | ((try simp only [Bool.or_eq_true, Bool.or_eq_false_iff, Bool.and_eq_true, Bool.and_eq_false_iff, decide_eq_true_eq, decide_eq_false_iff_not, Bool.not_eq_true', Bool.not_eq_false'] at *); (try simp only [Blk.len] at *); first | omega | (intros; omega)) | (simp_all; done))))
    (refine fin_ret ?_; exact ret1 (by rfl) (by (simp [fitsB])) (by rfl))
  · repeat' (first
    
      | refine aw_seq ?_
      | refine aw_region ?_
      | refine aw_region_q (by kernel_rfl) (by kernel_rfl) ?_
      | refine aw_block ?_
      | refine ao_nil ?_
      | refine ao_op rfl trivial ?_
      | refine aq_nil ?_
      | refine aq_op rfl trivial ?_
      | refine at_nil ?_
      | refine at_op rfl trivial ?_
      | refine am_nil ?_
      | refine am_op rfl trivial rfl ?_
      | refine aw_skip ?_
      | refine aw_condT rfl trivial ?_
      | refine aw_condF rfl trivial ?_
      | refine aw_condD rfl trivial (fun hc => ?_) (fun hc => ?_)
      | refine aw_condN rfl trivial (fun hc => ?_) (fun hc => ?_)
      | refine aw_condNB rfl trivial (fun hc => ?_) (fun hc => ?_)
      | refine aw_cond rfl trivial (fun hc => ?_) (fun hc => ?_)
      | refine aw_ret ?_
      | refine aw_exit ?_
      | refine ao_op rfl ?_ ?_
      | refine aq_op rfl ?_ ?_
      | refine at_op rfl ?_ ?_
      | refine am_op rfl ?_ rfl ?_
      | refine ao_box rfl trivial rfl rfl rfl ?_
      | refine ao_alloc rfl rfl rfl rfl ?_
      | refine ao_store rfl rfl trivial rfl trivial rfl rfl rfl rfl rfl ?_
      | refine ao_call rfl (c_Valid _) rfl ?_ ?_
      | refine aq_call rfl (c_Valid _) rfl ?_ ?_
      | (show allP _; first | trivial | exact ob1 (fun h => h) | exact ob2 (fun h => h) (fun h => h) | exact ob1 (fun h => ⟨h.1, trivial⟩) | (simp only [allP, obg, grd, allT, InR, decide_eq_true_eq, Bool.and_eq_true, Bool.not_eq_true', decide_eq_false_iff_not, List.nil_append, List.cons_append, List.append_nil, and_true, true_and]; first | omega | (intros; omega) | (simp only [Blk.len, List.length_set, List.length_append, List.length_cons, List.length_nil]; first | omega | (intros; omega)) | (refine ⟨?_, ?_⟩ <;> intros <;> first | (with_reducible assumption) | omega) | ((repeat' refine And.intro ?_ ?_) <;> (intros; first | (with_reducible assumption) | omega | (simp only [Blk.len, List.length_set, List.length_append, List.length_cons, List.length_nil]; omega))) | ((try simp only [Bool.or_eq_true, Bool.or_eq_false_iff, Bool.and_eq_true, Bool.and_eq_false_iff, decide_eq_true_eq, decide_eq_false_iff_not, Bool.not_eq_true', Bool.not_eq_false'] at *); (try simp only [Blk.len] at *); first | omega | (intros; omega)) | (simp_all; done))))
    (refine fin_ret ?_; exact ret1 (by rfl) (by (simp [fitsB])) (by rfl))

theorem c_up (down : List Bool) (a : Int) (h : down.length = 0 ∨ 0 ≤ a ∧ a < down.length) : Ctr Try.prog 95 [boolsD down, iD a] [] (.d (bD (upB down a))) := by
  refine spec_of envOK (enters_of Try.func95 (by kernel_rfl) (by kernel_rfl)) Try.func95 rfl rfl _ rfl (Nat.le_of_ble_eq_true rfl) rfl fun w0 => ?_
  repeat' (first
  
    | refine aw_seq ?_
    | refine aw_region ?_
    | refine aw_region_q (by kernel_rfl) (by kernel_rfl) ?_
    | refine aw_block ?_
    | refine ao_nil ?_
    | refine ao_op rfl trivial ?_
    | refine aq_nil ?_
    | refine aq_op rfl trivial ?_
    | refine at_nil ?_
    | refine at_op rfl trivial ?_
    | refine am_nil ?_
    | refine am_op rfl trivial rfl ?_
    | refine aw_skip ?_
    | refine aw_condT rfl trivial ?_
    | refine aw_condF rfl trivial ?_
    | refine aw_condD rfl trivial (fun hc => ?_) (fun hc => ?_)
    | refine aw_condN rfl trivial (fun hc => ?_) (fun hc => ?_)
    | refine aw_condNB rfl trivial (fun hc => ?_) (fun hc => ?_)
    | refine aw_cond rfl trivial (fun hc => ?_) (fun hc => ?_)
    | refine aw_ret ?_
    | refine aw_exit ?_
    | refine ao_op rfl ?_ ?_
    | refine aq_op rfl ?_ ?_
    | refine at_op rfl ?_ ?_
    | refine am_op rfl ?_ rfl ?_
    | refine ao_box rfl trivial rfl rfl rfl ?_
    | refine ao_alloc rfl rfl rfl rfl ?_
    | refine ao_store rfl rfl trivial rfl trivial rfl rfl rfl rfl rfl ?_
  
    | (show allP _; first | trivial | exact ob1 (fun h => h) | exact ob2 (fun h => h) (fun h => h) | exact ob1 (fun h => ⟨h.1, trivial⟩) | (simp only [allP, obg, grd, allT, InR, decide_eq_true_eq, Bool.and_eq_true, Bool.not_eq_true', decide_eq_false_iff_not, List.nil_append, List.cons_append, List.append_nil, and_true, true_and]; first | omega | (intros; omega) | (simp only [Blk.len, List.length_set, List.length_append, List.length_cons, List.length_nil]; first | omega | (intros; omega)) | (refine ⟨?_, ?_⟩ <;> intros <;> first | (with_reducible assumption) | omega) | ((repeat' refine And.intro ?_ ?_) <;> (intros; first | (with_reducible assumption) | omega | (simp only [Blk.len, List.length_set, List.length_append, List.length_cons, List.length_nil]; omega))) | ((try simp only [Bool.or_eq_true, Bool.or_eq_false_iff, Bool.and_eq_true, Bool.and_eq_false_iff, decide_eq_true_eq, decide_eq_false_iff_not, Bool.not_eq_true', Bool.not_eq_false'] at *); (try simp only [Blk.len] at *); first | omega | (intros; omega)) | (simp_all; done))))
  (refine fin_ret ?_; exact ret1 (by rfl) (by (simp [upB])) (by rfl))

end Go.Proofs.Ytcnfggpcploehaa

/- Layer 11: the search: the arcs of a node. -/
namespace Go.Proofs.Ytcnfggpcploehaa
set_option maxRecDepth 10000
open Go.Wk

theorem arcsL_len {t : Topo} (hv : validB t = true) (y : Int) (fr : Bool) : (arcsL t y fr).length ≤ 512 := by
  have := validB_head hv
  rw [arcsL_eq hv]
  refine Nat.le_trans (List.length_filter_le _ _) ?_
  simp [arcsR]; omega

abbrev tBlk (t : Topo) : Blk := .cells [.d (iD t.nodes), .d (boolsD t.overload), .d (linksD t.links)]

theorem key_true {p k o : Int} (h : (!!decide (p < 0) || decide (k < (bif decide (p < 0) then 0 else o))) = true) : p < 0 ∨ k < o := by
  by_cases hp : p < 0
  · exact .inl hp
  · right; simpa [hp] using h
theorem key_false {p k o : Int} (h : (!!decide (p < 0) || decide (k < (bif decide (p < 0) then 0 else o))) = false) : 0 ≤ p ∧ o ≤ k := by
  by_cases hp : p < 0
  · simp [hp] at h
  · simp [hp] at h; omega

set_option maxHeartbeats 4000000 in
theorem s_inner {Q : Exit → Fr → List Blk → Prop} {w0 : World} {t : Topo} {down : List Bool} {n y k : Int} {fr : Bool} {fa fe : FuncId} {dist2 : List Int} {h2 : Hp} (he : ∀ a, Ctr Try.prog fe [topoD t, iD a] [] (.d (iD (farT t fr a))))
    (hf : fitsB t down = true) (y0 : 0 ≤ y) (yn : y < t.nodes) (yk : 0 ≤ k) (yk2 : k ≤ 65535 * 64) (htr : y = n ∨ overT t y = false) (hset : gI dist2 y = k) (hdn0 : gI dist2 n = 0) (H : DJ t down n fr k dist2 h2 (fun a => nearT t fr a = y))
    (hQ : ∀ h3 F, DJ t down n fr k dist2 h3 (fun _ => False) → subF F [(14, [], .d (iD y)), (15, [], .d (iD k)), (12, [], .ptr 5 0), (10, [], .own 2), (7, [], .ptr 1 0), (4, [], .ptr 0 0), (1, [], .d (boolsD down)), (2, [], .d (iD n))] →
      Q (.exit 4) F [tBlk t, .cells [.d (.fn fa), .d (.fn fe)], .ints .i64 dist2, .ints .i64 h3.keys, .ints .i64 h3.places, .cells [.own 6, .own 3, .own 4], .ints .i64 h3.items, .ints .i64 (arcsL t y fr)]) :
    AW Try.prog env (Base.of w0) Try.f80.ntmps (loopC Try.f80 19) Q
      [(83, [], .d (iD 0)), (82, [], .d (iD (arcsL t y fr).length)), (81, [], .own 7), (14, [], .d (iD y)), (15, [], .d (iD k)), (12, [], .ptr 5 0), (10, [], .own 2), (7, [], .ptr 1 0), (4, [], .ptr 0 0), (1, [], .d (boolsD down)), (2, [], .d (iD n))]
      [tBlk t, .cells [.d (.fn fa), .d (.fn fe)], .ints .i64 dist2, .ints .i64 h2.keys, .ints .i64 h2.places, .cells [.own 6, .own 3, .own 4], .ints .i64 h2.items, .ints .i64 (arcsL t y fr)] := by
  have hv := fitsB_v hf
  have hnn := validB_head hv
  have hll := arcsL_len hv y fr
  have hl2 := H.len
  refine aw_loop (ι := Hp × Nat) (fun s => [(83, [], .d (iD s.2)), (82, [], .d (iD (arcsL t y fr).length)), (81, [], .own 7), (14, [], .d (iD y)), (15, [], .d (iD k)), (12, [], .ptr 5 0), (10, [], .own 2), (7, [], .ptr 1 0), (4, [], .ptr 0 0), (1, [], .d (boolsD down)), (2, [], .d (iD n))])
    (fun s => [.cells [.d (iD t.nodes), .d (boolsD t.overload), .d (linksD t.links)], .cells [.d (.fn fa), .d (.fn fe)], .ints .i64 dist2, .ints .i64 s.1.keys, .ints .i64 s.1.places, .cells [.own 6, .own 3, .own 4], .ints .i64 s.1.items, .ints .i64 (arcsL t y fr)])
    (fun s => DJ t down n fr k dist2 s.1 (fun a => a ∈ (arcsL t y fr).drop s.2) ∧ s.2 ≤ (arcsL t y fr).length) (fun s => (arcsL t y fr).length - s.2) (h2, 0) ⟨H.arcs hv, by simp⟩ (fun _ => Nat.le_of_ble_eq_true rfl) (by refine weak_to ?_ ?_ rfl rfl
                                                                                                                                                                                                                            · repeat (first | exact subF_nil | refine subF_cons (by first | rfl | (simp [look]; done)) ?_)
                                                                                                                                                                                                                            · repeat (first | exact subS_nil | refine subS_cons (by first | rfl | (simp; done)) ?_)) fun s hs => ?_
  obtain ⟨h3, j⟩ := s
  obtain ⟨H3, hj⟩ := hs
  simp only at H3 hj ⊢
  have hkl3 := H3.klen
  by_cases hjl : j < (arcsL t y fr).length
  · obtain ⟨a0, a1, a2⟩ := (mem_arcsL hv).1 (getD_mem (d := 0) hjl)
    have hb := arc_nf hv fr a0 a1
    have hup : down.length = 0 ∨ 0 ≤ (arcsL t y fr).getD j 0 ∧ (arcsL t y fr).getD j 0 < down.length := by
      simp only [fitsB, Bool.and_eq_true, Bool.or_eq_true, decide_eq_true_eq] at hf
      omega
    have hcur : gI dist2 (nearT t fr ((arcsL t y fr).getD j 0)) = k := by rw [a2]; exact hset
    have hx : 0 ≤ farT t fr ((arcsL t y fr).getD (Int.toNat (j : Int)) 0) ∧ farT t fr ((arcsL t y fr).getD (Int.toNat (j : Int)) 0) < h3.keys.length := by
      rw [show Int.toNat (j : Int) = j from rfl]; omega
    have hx2 : farT t fr ((arcsL t y fr).getD (Int.toNat (j : Int)) 0) < dist2.length := by omega
    have hc1 : 1 ≤ costT t ((arcsL t y fr).getD (Int.toNat (j : Int)) 0) ∧ costT t ((arcsL t y fr).getD (Int.toNat (j : Int)) 0) ≤ 65535 := hb.2.2.2.2.2
    have hI3 := H3.hi.inv
    have hpk := hI3.ok.1
    repeat' (first
    
      | refine aw_seq ?_
      | refine aw_region ?_
      | refine aw_region_q (by kernel_rfl) (by kernel_rfl) ?_
      | refine aw_block ?_
      | refine ao_nil ?_
      | refine ao_op rfl trivial ?_
      | refine aq_nil ?_
      | refine aq_op rfl trivial ?_
      | refine at_nil ?_
      | refine at_op rfl trivial ?_
      | refine am_nil ?_
      | refine am_op rfl trivial rfl ?_
      | refine aw_skip ?_
      | refine aw_condT rfl trivial ?_
      | refine aw_condF rfl trivial ?_
      | refine aw_condD rfl trivial (fun hc => ?_) (fun hc => ?_)
      | refine aw_condN rfl trivial (fun hc => ?_) (fun hc => ?_)
      | refine aw_condNB rfl trivial (fun hc => ?_) (fun hc => ?_)
      | refine aw_cond rfl trivial (fun hc => ?_) (fun hc => ?_)
      | refine aw_ret ?_
      | refine aw_exit ?_
      | refine ao_op rfl ?_ ?_
      | refine aq_op rfl ?_ ?_
      | refine at_op rfl ?_ ?_
      | refine am_op rfl ?_ rfl ?_
      | refine ao_box rfl trivial rfl rfl rfl ?_
      | refine ao_alloc rfl rfl rfl rfl ?_
      | refine ao_store rfl rfl trivial rfl trivial rfl rfl rfl rfl rfl ?_
      | refine ao_call rfl (he _) rfl ?_ ?_
      | refine ao_call rfl (c_up down _ hup) rfl ?_ ?_
      | refine ao_call rfl (c_Cost _ _) rfl ?_ ?_
      | refine ao_callO rfl (h_Key h3.items h3.keys h3.places (farT t fr ((arcsL t y fr).getD (Int.toNat (j : Int)) 0)) hx hpk) [5, 6, 3, 4] trivial rfl rfl rfl rfl rfl rfl (by simp [kinds, Blk.isRow]) (by simp [bflats, bflat, vflats, vflat, D.flat, D.scal, Blk.flat]) rfl rfl rfl rfl rfl rfl ?_
      | refine ao_callO rfl (h_Set h3.items h3.keys h3.places (farT t fr ((arcsL t y fr).getD (Int.toNat (j : Int)) 0)) (k + costT t ((arcsL t y fr).getD (Int.toNat (j : Int)) 0)) hx (by omega) hI3) [5, 6, 3, 4] trivial rfl rfl rfl rfl rfl rfl (by simp [kinds, Blk.isRow]) (by simp [bflats, bflat, vflats, vflat, D.flat, D.scal, Blk.flat]) rfl rfl rfl rfl rfl rfl ?_
      | (show allP _; first | trivial | exact ob1 (fun h => h) | exact ob2 (fun h => h) (fun h => h) | exact ob1 (fun h => ⟨h.1, trivial⟩) | (simp only [allP, obg, grd, allT, InR, decide_eq_true_eq, Bool.and_eq_true, Bool.not_eq_true', decide_eq_false_iff_not, List.nil_append, List.cons_append, List.append_nil, and_true, true_and]; first | omega | (intros; omega) | (simp only [Blk.len, List.length_set, List.length_append, List.length_cons, List.length_nil]; first | omega | (intros; omega)) | (refine ⟨?_, ?_⟩ <;> intros <;> first | (with_reducible assumption) | omega) | ((repeat' refine And.intro ?_ ?_) <;> (intros; first | (with_reducible assumption) | omega | (simp only [Blk.len, List.length_set, List.length_append, List.length_cons, List.length_nil]; omega))) | ((try simp only [Bool.or_eq_true, Bool.or_eq_false_iff, Bool.and_eq_true, Bool.and_eq_false_iff, decide_eq_true_eq, decide_eq_false_iff_not, Bool.not_eq_true', Bool.not_eq_false'] at *); (try simp only [Blk.len] at *); first | omega | (intros; omega)) | (simp_all; done))))
    all_goals simp only [Int.toNat_natCast] at *
    · refine ⟨(h3, j + 1), ⟨H3.next hv hjl hcur ?_, by simp only; omega⟩, by simp only; omega, ?_⟩
      · simp only [Bool.or_eq_true, Bool.not_eq_true', decide_eq_true_eq] at hc
        rcases hc with h | h
        · exact .inl h
        · exact .inr (.inl h)
      · refine weak_to ?_ ?_ rfl rfl
        · repeat (first | exact subF_nil | refine subF_cons (by first | rfl | (simp [look]; done)) ?_)
        · repeat (first | exact subS_nil | refine subS_cons (by first | rfl | (simp; done)) ?_)
    · rename_i hc2 hc3
      simp only [Bool.or_eq_false_iff, Bool.not_eq_false', decide_eq_false_iff_not] at hc3
      have hkey : gI h3.places (farT t fr ((arcsL t y fr).getD j 0)) < 0 ∨ k + costT t ((arcsL t y fr).getD j 0) < gI h3.keys (farT t fr ((arcsL t y fr).getD j 0)) := by
        exact key_true hc
      refine ⟨(setF h3 (farT t fr ((arcsL t y fr).getD j 0)).toNat (k + costT t ((arcsL t y fr).getD j 0)), j + 1), ⟨H3.put hv hjl hcur a0 a1 hc3.1 (by rw [a2]; exact htr) (by have := hc3.2; simp only [gI]; omega) hdn0 hkey, by simp only; omega⟩, by simp only; omega, ?_⟩
      refine weak_to ?_ ?_ rfl rfl
      · repeat (first | exact subF_nil | refine subF_cons (by first | rfl | (simp [look]; done)) ?_)
      · repeat (first | exact subS_nil | refine subS_cons (by first | rfl | (simp; done)) ?_)
    · rename_i hc2 hc3
      simp only [Bool.or_eq_false_iff, Bool.not_eq_false', decide_eq_false_iff_not] at hc3
      have hkey : 0 ≤ gI h3.places (farT t fr ((arcsL t y fr).getD j 0)) ∧ gI h3.keys (farT t fr ((arcsL t y fr).getD j 0)) ≤ k + costT t ((arcsL t y fr).getD j 0) := by
        exact key_false hc
      refine ⟨(h3, j + 1), ⟨H3.next hv hjl hcur (.inr (.inr hkey)), by simp only; omega⟩, by simp only; omega, ?_⟩
      refine weak_to ?_ ?_ rfl rfl
      · repeat (first | exact subF_nil | refine subF_cons (by first | rfl | (simp [look]; done)) ?_)
      · repeat (first | exact subS_nil | refine subS_cons (by first | rfl | (simp; done)) ?_)
    · exfalso; omega
  · repeat' (first
    
      | refine aw_seq ?_
      | refine aw_region ?_
      | refine aw_region_q (by kernel_rfl) (by kernel_rfl) ?_
      | refine aw_block ?_
      | refine ao_nil ?_
      | refine ao_op rfl trivial ?_
      | refine aq_nil ?_
      | refine aq_op rfl trivial ?_
      | refine at_nil ?_
      | refine at_op rfl trivial ?_
      | refine am_nil ?_
      | refine am_op rfl trivial rfl ?_
      | refine aw_skip ?_
      | refine aw_condT rfl trivial ?_
      | refine aw_condF rfl trivial ?_
      | refine aw_condD rfl trivial (fun hc => ?_) (fun hc => ?_)
      | refine aw_condN rfl trivial (fun hc => ?_) (fun hc => ?_)
      | refine aw_condNB rfl trivial (fun hc => ?_) (fun hc => ?_)
      | refine aw_cond rfl trivial (fun hc => ?_) (fun hc => ?_)
      | refine aw_ret ?_
      | refine aw_exit ?_
      | refine ao_op rfl ?_ ?_
      | refine aq_op rfl ?_ ?_
      | refine at_op rfl ?_ ?_
      | refine am_op rfl ?_ rfl ?_
      | refine ao_box rfl trivial rfl rfl rfl ?_
      | refine ao_alloc rfl rfl rfl rfl ?_
      | refine ao_store rfl rfl trivial rfl trivial rfl rfl rfl rfl rfl ?_
      | (exfalso; omega)
      | (show allP _; first | trivial | exact ob1 (fun h => h) | exact ob2 (fun h => h) (fun h => h) | exact ob1 (fun h => ⟨h.1, trivial⟩) | (simp only [allP, obg, grd, allT, InR, decide_eq_true_eq, Bool.and_eq_true, Bool.not_eq_true', decide_eq_false_iff_not, List.nil_append, List.cons_append, List.append_nil, and_true, true_and]; first | omega | (intros; omega) | (simp only [Blk.len, List.length_set, List.length_append, List.length_cons, List.length_nil]; first | omega | (intros; omega)) | (refine ⟨?_, ?_⟩ <;> intros <;> first | (with_reducible assumption) | omega) | ((repeat' refine And.intro ?_ ?_) <;> (intros; first | (with_reducible assumption) | omega | (simp only [Blk.len, List.length_set, List.length_append, List.length_cons, List.length_nil]; omega))) | ((try simp only [Bool.or_eq_true, Bool.or_eq_false_iff, Bool.and_eq_true, Bool.and_eq_false_iff, decide_eq_true_eq, decide_eq_false_iff_not, Bool.not_eq_true', Bool.not_eq_false'] at *); (try simp only [Blk.len] at *); first | omega | (intros; omega)) | (simp_all; done))))
    exact hQ h3 _ (H3.done_arcs (by omega)) (by repeat (first | exact subF_nil | refine subF_cons rfl ?_))
end Go.Proofs.Ytcnfggpcploehaa

/- Layer 11: the search. -/
namespace Go.Proofs.Ytcnfggpcploehaa
set_option maxRecDepth 10000
open Go.Wk

set_option maxHeartbeats 4000000 in
theorem c_search (t : Topo) (down : List Bool) (n : Int) (fr : Bool) (fa fe : FuncId) (ha : ∀ y, Ctr Try.prog fa [topoD t, iD y] [.ints .i64 (arcsL t y fr)] (.own 0)) (he : ∀ a, Ctr Try.prog fe [topoD t, iD a] [] (.d (iD (farT t fr a)))) :
    Ctr Try.prog 80 [topoD t, boolsD down, iD n, .agg [.fn fa, .fn fe]] [.ints .i64 (distL t down n fr)] (.tup [.own 0, .d (iD (errS t down n))]) := by
  refine spec_of envOK (enters_of Try.func80 (by kernel_rfl) (by kernel_rfl)) Try.func80 rfl rfl _ rfl (Nat.le_of_ble_eq_true rfl) rfl fun w0 => ?_
  repeat' (first
  
    | refine aw_seq ?_
    | refine aw_region ?_
    | refine aw_region_q (by kernel_rfl) (by kernel_rfl) ?_
    | refine aw_block ?_
    | refine ao_nil ?_
    | refine ao_op rfl trivial ?_
    | refine aq_nil ?_
    | refine aq_op rfl trivial ?_
    | refine at_nil ?_
    | refine at_op rfl trivial ?_
    | refine am_nil ?_
    | refine am_op rfl trivial rfl ?_
    | refine aw_skip ?_
    | refine aw_condT rfl trivial ?_
    | refine aw_condF rfl trivial ?_
    | refine aw_condD rfl trivial (fun hc => ?_) (fun hc => ?_)
    | refine aw_condN rfl trivial (fun hc => ?_) (fun hc => ?_)
    | refine aw_condNB rfl trivial (fun hc => ?_) (fun hc => ?_)
    | refine aw_cond rfl trivial (fun hc => ?_) (fun hc => ?_)
    | refine aw_ret ?_
    | refine aw_exit ?_
    | refine ao_op rfl ?_ ?_
    | refine aq_op rfl ?_ ?_
    | refine at_op rfl ?_ ?_
    | refine am_op rfl ?_ rfl ?_
    | refine ao_box rfl trivial rfl rfl rfl ?_
    | refine ao_alloc rfl rfl rfl rfl ?_
    | refine ao_store rfl rfl trivial rfl trivial rfl rfl rfl rfl rfl ?_
    | refine ao_call rfl (c_fits _ _) rfl ?_ ?_
    | (show allP _; first | trivial | exact ob1 (fun h => h) | exact ob2 (fun h => h) (fun h => h) | exact ob1 (fun h => ⟨h.1, trivial⟩) | (simp only [allP, obg, grd, allT, InR, decide_eq_true_eq, Bool.and_eq_true, Bool.not_eq_true', decide_eq_false_iff_not, List.nil_append, List.cons_append, List.append_nil, and_true, true_and]; first | omega | (intros; omega) | (simp only [Blk.len, List.length_set, List.length_append, List.length_cons, List.length_nil]; first | omega | (intros; omega)) | (refine ⟨?_, ?_⟩ <;> intros <;> first | (with_reducible assumption) | omega) | ((repeat' refine And.intro ?_ ?_) <;> (intros; first | (with_reducible assumption) | omega | (simp only [Blk.len, List.length_set, List.length_append, List.length_cons, List.length_nil]; omega))) | ((try simp only [Bool.or_eq_true, Bool.or_eq_false_iff, Bool.and_eq_true, Bool.and_eq_false_iff, decide_eq_true_eq, decide_eq_false_iff_not, Bool.not_eq_true', Bool.not_eq_false'] at *); (try simp only [Blk.len] at *); first | omega | (intros; omega)) | (simp_all; done))))
  · have he : errS t down n = 1 := by unfold errS; rw [hc]; rfl
    refine fin_ret ?_; exact retNil2 rfl (by simp [distL, he, Blk.len]) (by rw [he]) trivial rfl
  · rename_i hf
    have he : errS t down n = 2 := by unfold errS; rw [hf, hc]; rfl
    refine fin_ret ?_; exact retNil2 rfl (by simp [distL, he, Blk.len]) (by rw [he]) trivial rfl
  rename_i hf
  have herr : errS t down n = 0 := by unfold errS; rw [hf, hc]; rfl
  obtain ⟨_, n0, n1⟩ := errS_0 herr
  have hv := fitsB_v hf
  have hnn := validB_head hv
  repeat' (first
  
    | refine aw_seq ?_
    | refine aw_region ?_
    | refine aw_region_q (by kernel_rfl) (by kernel_rfl) ?_
    | refine aw_block ?_
    | refine ao_nil ?_
    | refine ao_op rfl trivial ?_
    | refine aq_nil ?_
    | refine aq_op rfl trivial ?_
    | refine at_nil ?_
    | refine at_op rfl trivial ?_
    | refine am_nil ?_
    | refine am_op rfl trivial rfl ?_
    | refine aw_skip ?_
    | refine aw_condT rfl trivial ?_
    | refine aw_condF rfl trivial ?_
    | refine aw_condD rfl trivial (fun hc => ?_) (fun hc => ?_)
    | refine aw_condN rfl trivial (fun hc => ?_) (fun hc => ?_)
    | refine aw_condNB rfl trivial (fun hc => ?_) (fun hc => ?_)
    | refine aw_cond rfl trivial (fun hc => ?_) (fun hc => ?_)
    | refine aw_ret ?_
    | refine aw_exit ?_
    | refine ao_op rfl ?_ ?_
    | refine aq_op rfl ?_ ?_
    | refine at_op rfl ?_ ?_
    | refine am_op rfl ?_ rfl ?_
    | refine ao_box rfl trivial rfl rfl rfl ?_
    | refine ao_alloc rfl rfl rfl rfl ?_
    | refine ao_store rfl rfl trivial rfl trivial rfl rfl rfl rfl rfl ?_
    | refine ao_make rfl rfl rfl rfl trivial rfl trivial (by first | omega | (dsimp only; omega)) (by first | omega | (dsimp only; omega)) (by first | omega | (dsimp only; omega)) rfl rfl rfl ?_
    | (show allP _; first | trivial | exact ob1 (fun h => h) | exact ob2 (fun h => h) (fun h => h) | exact ob1 (fun h => ⟨h.1, trivial⟩) | (simp only [allP, obg, grd, allT, InR, decide_eq_true_eq, Bool.and_eq_true, Bool.not_eq_true', decide_eq_false_iff_not, List.nil_append, List.cons_append, List.append_nil, and_true, true_and]; first | omega | (intros; omega) | (simp only [Blk.len, List.length_set, List.length_append, List.length_cons, List.length_nil]; first | omega | (intros; omega)) | (refine ⟨?_, ?_⟩ <;> intros <;> first | (with_reducible assumption) | omega) | ((repeat' refine And.intro ?_ ?_) <;> (intros; first | (with_reducible assumption) | omega | (simp only [Blk.len, List.length_set, List.length_append, List.length_cons, List.length_nil]; omega))) | ((try simp only [Bool.or_eq_true, Bool.or_eq_false_iff, Bool.and_eq_true, Bool.and_eq_false_iff, decide_eq_true_eq, decide_eq_false_iff_not, Bool.not_eq_true', Bool.not_eq_false'] at *); (try simp only [Blk.len] at *); first | omega | (intros; omega)) | (simp_all; done))))
  rw [show (((Blk.ints IntKind.i64 (List.replicate t.nodes.toNat 0)).len : Nat) : Int) = t.nodes by simp [Blk.len]; omega]
  refine aw_loop (ι := List Int × Nat) (fun s => [(40, [], .d (iD s.2)), (39, [], .d (iD t.nodes)), (38, [], .own 2), (10, [], .own 2), (7, [], .ptr 1 0), (4, [], .ptr 0 0), (1, [], .d (boolsD down)), (2, [], .d (iD n))])
    (fun s => [.cells [.d (iD t.nodes), .d (boolsD t.overload), .d (linksD t.links)], .cells [.d (.fn fa), .d (.fn fe)], .ints .i64 s.1])
    (fun s => s.1.length = t.nodes.toNat ∧ s.2 ≤ t.nodes.toNat ∧ ∀ j, j < s.2 → s.1.getD j 0 = -1) (fun s => t.nodes.toNat - s.2) (List.replicate t.nodes.toNat 0, 0) ⟨by simp, by simp, fun j hj => by simp at hj⟩ (fun _ => Nat.le_of_ble_eq_true rfl) (by refine weak_to ?_ ?_ rfl rfl
                                                                                                                                                                                                                                                             · repeat (first | exact subF_nil | refine subF_cons (by first | rfl | (simp [look]; done)) ?_)
                                                                                                                                                                                                                                                             · repeat (first | exact subS_nil | refine subS_cons (by first | rfl | (simp; done)) ?_)) fun s hs => ?_
  obtain ⟨p, i⟩ := s
  obtain ⟨hp, hi, hj⟩ := hs
  simp only at hp hi hj ⊢
  repeat' (first
  
    | refine aw_seq ?_
    | refine aw_region ?_
    | refine aw_region_q (by kernel_rfl) (by kernel_rfl) ?_
    | refine aw_block ?_
    | refine ao_nil ?_
    | refine ao_op rfl trivial ?_
    | refine aq_nil ?_
    | refine aq_op rfl trivial ?_
    | refine at_nil ?_
    | refine at_op rfl trivial ?_
    | refine am_nil ?_
    | refine am_op rfl trivial rfl ?_
    | refine aw_skip ?_
    | refine aw_condT rfl trivial ?_
    | refine aw_condF rfl trivial ?_
    | refine aw_condD rfl trivial (fun hc => ?_) (fun hc => ?_)
    | refine aw_condN rfl trivial (fun hc => ?_) (fun hc => ?_)
    | refine aw_condNB rfl trivial (fun hc => ?_) (fun hc => ?_)
    | refine aw_cond rfl trivial (fun hc => ?_) (fun hc => ?_)
    | refine aw_ret ?_
    | refine aw_exit ?_
    | refine ao_op rfl ?_ ?_
    | refine aq_op rfl ?_ ?_
    | refine at_op rfl ?_ ?_
    | refine am_op rfl ?_ rfl ?_
    | refine ao_box rfl trivial rfl rfl rfl ?_
    | refine ao_alloc rfl rfl rfl rfl ?_
    | refine ao_store rfl rfl trivial rfl trivial rfl rfl rfl rfl rfl ?_
    | refine ao_store_ep rfl rfl trivial rfl trivial rfl rfl rfl rfl rfl rfl ?_
    | refine ao_callR rfl (h_New _ (by omega) (by omega)) trivial rfl rfl ?_
    | (show allP _; first | trivial | exact ob1 (fun h => h) | exact ob2 (fun h => h) (fun h => h) | exact ob1 (fun h => ⟨h.1, trivial⟩) | (simp only [allP, obg, grd, allT, InR, decide_eq_true_eq, Bool.and_eq_true, Bool.not_eq_true', decide_eq_false_iff_not, List.nil_append, List.cons_append, List.append_nil, and_true, true_and]; first | omega | (intros; omega) | (simp only [Blk.len, List.length_set, List.length_append, List.length_cons, List.length_nil]; first | omega | (intros; omega)) | (refine ⟨?_, ?_⟩ <;> intros <;> first | (with_reducible assumption) | omega) | ((repeat' refine And.intro ?_ ?_) <;> (intros; first | (with_reducible assumption) | omega | (simp only [Blk.len, List.length_set, List.length_append, List.length_cons, List.length_nil]; omega))) | ((try simp only [Bool.or_eq_true, Bool.or_eq_false_iff, Bool.and_eq_true, Bool.and_eq_false_iff, decide_eq_true_eq, decide_eq_false_iff_not, Bool.not_eq_true', Bool.not_eq_false'] at *); (try simp only [Blk.len] at *); first | omega | (intros; omega)) | (simp_all; done))))
  · rw [show (Int.toNat (i : Int)) = i from rfl]
    refine ⟨(p.set i (-1), i + 1), ⟨by simpa using hp, by simp only; omega, fun j hj' => ?_⟩, by simp only; omega, ?_⟩
    · simp only at hj' ⊢
      rw [getD_set]
      split
      · rfl
      · exact hj j (by omega)
    · refine weak_to ?_ ?_ rfl rfl
      · repeat (first | exact subF_nil | refine subF_cons (by first | rfl | (simp [look]; done)) ?_)
      · repeat (first | exact subS_nil | refine subS_cons (by first | rfl | (simp; done)) ?_)
  have hpe : p = List.replicate t.nodes.toNat (-1) := by
    refine extD (by simpa using hp) fun j hj' => ?_
    rw [hj j (by omega), List.getD_eq_getElem?_getD, List.getElem?_replicate, if_pos (by omega)]; rfl
  subst hpe
  have hI0 : InvP (List.replicate t.nodes.toNat 0) [] (List.replicate t.nodes.toNat (-1)) := ⟨⟨by simp, by simp, fun k hk => by simp at hk⟩, fun k hk => by simp at hk, fun x hx => .inl (by
    have hx' : x < t.nodes.toNat := by simpa using hx
    rw [List.getD_eq_getElem?_getD, List.getElem?_replicate, if_pos hx']; decide)⟩
  have D0 := DJ.init (down := down) (fr := fr) hv n0 n1
  refine ao_weak (F' := [(54, [], .d (iD n)), (53, [], .ptr 5 0), (12, [], .ptr 5 0), (10, [], .own 2), (7, [], .ptr 1 0), (4, [], .ptr 0 0), (1, [], .d (boolsD down)), (2, [], .d (iD n))])
    (S' := [.cells [.d (iD t.nodes), .d (boolsD t.overload), .d (linksD t.links)], .cells [.d (.fn fa), .d (.fn fe)], .ints .i64 (List.replicate t.nodes.toNat (-1)), .ints .i64 (List.replicate t.nodes.toNat 0), .ints .i64 (List.replicate t.nodes.toNat (-1)), .cells [.nil, .own 3, .own 4]]) ?_ (Nat.le_of_ble_eq_true rfl) ?_
  · refine weak_to ?_ ?_ rfl rfl
    · repeat (first | exact subF_nil | refine subF_cons (by first | rfl | (simp [look]; done)) ?_)
    · repeat (first | exact subS_nil | refine subS_cons (by first | rfl | (simp; done)) ?_)
  refine ao_weak (weak_nilc (hn := 5) (j := 0) (.ints .i64 []) rfl rfl rfl rfl rfl rfl rfl rfl) (Nat.le_of_ble_eq_true rfl) ?_
  repeat' (first
  
    | refine aw_seq ?_
    | refine aw_region ?_
    | refine aw_region_q (by kernel_rfl) (by kernel_rfl) ?_
    | refine aw_block ?_
    | refine ao_nil ?_
    | refine ao_op rfl trivial ?_
    | refine aq_nil ?_
    | refine aq_op rfl trivial ?_
    | refine at_nil ?_
    | refine at_op rfl trivial ?_
    | refine am_nil ?_
    | refine am_op rfl trivial rfl ?_
    | refine aw_skip ?_
    | refine aw_condT rfl trivial ?_
    | refine aw_condF rfl trivial ?_
    | refine aw_condD rfl trivial (fun hc => ?_) (fun hc => ?_)
    | refine aw_condN rfl trivial (fun hc => ?_) (fun hc => ?_)
    | refine aw_condNB rfl trivial (fun hc => ?_) (fun hc => ?_)
    | refine aw_cond rfl trivial (fun hc => ?_) (fun hc => ?_)
    | refine aw_ret ?_
    | refine aw_exit ?_
    | refine ao_op rfl ?_ ?_
    | refine aq_op rfl ?_ ?_
    | refine at_op rfl ?_ ?_
    | refine am_op rfl ?_ rfl ?_
    | refine ao_box rfl trivial rfl rfl rfl ?_
    | refine ao_alloc rfl rfl rfl rfl ?_
    | refine ao_store rfl rfl trivial rfl trivial rfl rfl rfl rfl rfl ?_
    | refine ao_callO rfl (h_Set [] (List.replicate t.nodes.toNat 0) (List.replicate t.nodes.toNat (-1)) n 0 (by simp; omega) (by simp; omega) hI0) [5, 6, 3, 4] trivial rfl rfl rfl rfl rfl rfl (by simp [kinds, Blk.isRow]) (by simp [bflats, bflat, vflats, vflat, D.flat, D.scal, Blk.flat]) rfl rfl rfl rfl rfl rfl ?_
    | (show allP _; first | trivial | exact ob1 (fun h => h) | exact ob2 (fun h => h) (fun h => h) | exact ob1 (fun h => ⟨h.1, trivial⟩) | (simp only [allP, obg, grd, allT, InR, decide_eq_true_eq, Bool.and_eq_true, Bool.not_eq_true', decide_eq_false_iff_not, List.nil_append, List.cons_append, List.append_nil, and_true, true_and]; first | omega | (intros; omega) | (simp only [Blk.len, List.length_set, List.length_append, List.length_cons, List.length_nil]; first | omega | (intros; omega)) | (refine ⟨?_, ?_⟩ <;> intros <;> first | (with_reducible assumption) | omega) | ((repeat' refine And.intro ?_ ?_) <;> (intros; first | (with_reducible assumption) | omega | (simp only [Blk.len, List.length_set, List.length_append, List.length_cons, List.length_nil]; omega))) | ((try simp only [Bool.or_eq_true, Bool.or_eq_false_iff, Bool.and_eq_true, Bool.and_eq_false_iff, decide_eq_true_eq, decide_eq_false_iff_not, Bool.not_eq_true', Bool.not_eq_false'] at *); (try simp only [Blk.len] at *); first | omega | (intros; omega)) | (simp_all; done))))
  generalize setF ⟨[], List.replicate t.nodes.toNat 0, List.replicate t.nodes.toNat (-1)⟩ n.toNat 0 = h0 at *
  refine aw_loop (ι := Int × List Int × Hp) (fun s => [(12, [], .ptr 5 0), (10, [], .own 2), (7, [], .ptr 1 0), (4, [], .ptr 0 0), (1, [], .d (boolsD down)), (2, [], .d (iD n))])
    (fun s => [.cells [.d (iD t.nodes), .d (boolsD t.overload), .d (linksD t.links)], .cells [.d (.fn fa), .d (.fn fe)], .ints .i64 s.2.1, .ints .i64 s.2.2.keys, .ints .i64 s.2.2.places, .cells [.own 6, .own 3, .own 4], .ints .i64 s.2.2.items])
    (fun s => DJ t down n fr s.1 s.2.1 s.2.2 (fun _ => False)) (fun s => s.2.1.length - cntD s.2.1) (0, List.replicate t.nodes.toNat (-1), h0) D0 (fun _ => Nat.le_of_ble_eq_true rfl) (by refine weak_to ?_ ?_ rfl rfl
                                                                                                                                                                                           · repeat (first | exact subF_nil | refine subF_cons (by first | rfl | (simp [look]; done)) ?_)
                                                                                                                                                                                           · repeat (first | exact subS_nil | refine subS_cons (by first | rfl | (simp; done)) ?_)) fun s hs => ?_
  obtain ⟨cur, dist, hp1⟩ := s
  simp only at hs ⊢
  by_cases hlen : hp1.items.length = 0
  · have hI := hs.fin hv n0 n1 hlen
    have hnil : hp1.items = [] := List.length_eq_zero_iff.1 hlen
    rw [hnil]
    repeat' (first
    
      | refine aw_seq ?_
      | refine aw_region ?_
      | refine aw_region_q (by kernel_rfl) (by kernel_rfl) ?_
      | refine aw_block ?_
      | refine ao_nil ?_
      | refine ao_op rfl trivial ?_
      | refine aq_nil ?_
      | refine aq_op rfl trivial ?_
      | refine at_nil ?_
      | refine at_op rfl trivial ?_
      | refine am_nil ?_
      | refine am_op rfl trivial rfl ?_
      | refine aw_skip ?_
      | refine aw_condT rfl trivial ?_
      | refine aw_condF rfl trivial ?_
      | refine aw_condD rfl trivial (fun hc => ?_) (fun hc => ?_)
      | refine aw_condN rfl trivial (fun hc => ?_) (fun hc => ?_)
      | refine aw_condNB rfl trivial (fun hc => ?_) (fun hc => ?_)
      | refine aw_cond rfl trivial (fun hc => ?_) (fun hc => ?_)
      | refine aw_ret ?_
      | refine aw_exit ?_
      | refine ao_op rfl ?_ ?_
      | refine aq_op rfl ?_ ?_
      | refine at_op rfl ?_ ?_
      | refine am_op rfl ?_ rfl ?_
      | refine ao_box rfl trivial rfl rfl rfl ?_
      | refine ao_alloc rfl rfl rfl rfl ?_
      | refine ao_store rfl rfl trivial rfl trivial rfl rfl rfl rfl rfl ?_
      | refine ao_callO rfl (h_Pop0 hp1.keys hp1.places) [5, 6, 3, 4] trivial rfl rfl rfl rfl rfl rfl (by simp [kinds, Blk.isRow]) (by simp [bflats, bflat, vflats, vflat, D.flat, D.scal, Blk.flat]) rfl rfl rfl rfl rfl rfl ?_
      | (show allP _; first | trivial | exact ob1 (fun h => h) | exact ob2 (fun h => h) (fun h => h) | exact ob1 (fun h => ⟨h.1, trivial⟩) | (simp only [allP, obg, grd, allT, InR, decide_eq_true_eq, Bool.and_eq_true, Bool.not_eq_true', decide_eq_false_iff_not, List.nil_append, List.cons_append, List.append_nil, and_true, true_and]; first | omega | (intros; omega) | (simp only [Blk.len, List.length_set, List.length_append, List.length_cons, List.length_nil]; first | omega | (intros; omega)) | (refine ⟨?_, ?_⟩ <;> intros <;> first | (with_reducible assumption) | omega) | ((repeat' refine And.intro ?_ ?_) <;> (intros; first | (with_reducible assumption) | omega | (simp only [Blk.len, List.length_set, List.length_append, List.length_cons, List.length_nil]; omega))) | ((try simp only [Bool.or_eq_true, Bool.or_eq_false_iff, Bool.and_eq_true, Bool.and_eq_false_iff, decide_eq_true_eq, decide_eq_false_iff_not, Bool.not_eq_true', Bool.not_eq_false'] at *); (try simp only [Blk.len] at *); first | omega | (intros; omega)) | (simp_all; done))))
    refine fin_ret ?_
    exact retOwn2 rfl rfl (by simp only [distL, herr, if_true]; rw [hI.eq hv]) (by rw [herr]) trivial rfl
  obtain ⟨y, y1, y0, yn, yd, yk, yk2, H, hc1, hc2⟩ := hs.pop hv n0 (by omega)
  have hl := hs.len
  have hkl := hs.klen
  have hPop : CtrO Try.prog 99 [.ptr 0 0] (hpS hp1.items hp1.keys hp1.places) (hpS (popF hp1).items (popF hp1).keys (popF hp1).places) (.tup [iV y, iV (gI hp1.keys y), .d (bD true)]) := by
    have := h_Pop hp1.items hp1.keys hp1.places (by omega) hs.hi.inv.ok
    rw [y1] at this
    rw [(pop_HI hs.hi (by omega)).2.1]
    exact this
  clear hI0 D0 hp hj hc hi
  generalize popF hp1 = h2 at *
  generalize gI hp1.keys y = k at *
  have hl2 := H.len
  have hkl2 := H.klen
  repeat' (first
  
    | refine aw_seq ?_
    | refine aw_region ?_
    | refine aw_region_q (by kernel_rfl) (by kernel_rfl) ?_
    | refine aw_block ?_
    | refine ao_nil ?_
    | refine ao_op rfl trivial ?_
    | refine aq_nil ?_
    | refine aq_op rfl trivial ?_
    | refine at_nil ?_
    | refine at_op rfl trivial ?_
    | refine am_nil ?_
    | refine am_op rfl trivial rfl ?_
    | refine aw_skip ?_
    | refine aw_condT rfl trivial ?_
    | refine aw_condF rfl trivial ?_
    | refine aw_condD rfl trivial (fun hc => ?_) (fun hc => ?_)
    | refine aw_condN rfl trivial (fun hc => ?_) (fun hc => ?_)
    | refine aw_condNB rfl trivial (fun hc => ?_) (fun hc => ?_)
    | refine aw_cond rfl trivial (fun hc => ?_) (fun hc => ?_)
    | refine aw_ret ?_
    | refine aw_exit ?_
    | refine ao_op rfl ?_ ?_
    | refine aq_op rfl ?_ ?_
    | refine at_op rfl ?_ ?_
    | refine am_op rfl ?_ rfl ?_
    | refine ao_box rfl trivial rfl rfl rfl ?_
    | refine ao_alloc rfl rfl rfl rfl ?_
    | refine ao_store rfl rfl trivial rfl trivial rfl rfl rfl rfl rfl ?_
    | refine ao_store_ep rfl rfl trivial rfl trivial rfl rfl rfl rfl rfl rfl ?_
    | refine ao_call rfl (c_Overloaded _ _) rfl ?_ ?_
    | refine ao_callO rfl (hPop) [5, 6, 3, 4] trivial rfl rfl rfl rfl rfl rfl (by simp [kinds, Blk.isRow]) (by simp [bflats, bflat, vflats, vflat, D.flat, D.scal, Blk.flat]) rfl rfl rfl rfl rfl rfl ?_
    | refine ao_callR rfl (ha _) trivial rfl rfl ?_
    | (show allP _; first | trivial | exact ob1 (fun h => h) | exact ob2 (fun h => h) (fun h => h) | exact ob1 (fun h => ⟨h.1, trivial⟩) | (simp only [allP, obg, grd, allT, InR, decide_eq_true_eq, Bool.and_eq_true, Bool.not_eq_true', decide_eq_false_iff_not, List.nil_append, List.cons_append, List.append_nil, and_true, true_and]; first | omega | (intros; omega) | (simp only [Blk.len, List.length_set, List.length_append, List.length_cons, List.length_nil]; first | omega | (intros; omega)) | (refine ⟨?_, ?_⟩ <;> intros <;> first | (with_reducible assumption) | omega) | ((repeat' refine And.intro ?_ ?_) <;> (intros; first | (with_reducible assumption) | omega | (simp only [Blk.len, List.length_set, List.length_append, List.length_cons, List.length_nil]; omega))) | ((try simp only [Bool.or_eq_true, Bool.or_eq_false_iff, Bool.and_eq_true, Bool.and_eq_false_iff, decide_eq_true_eq, decide_eq_false_iff_not, Bool.not_eq_true', Bool.not_eq_false'] at *); (try simp only [Blk.len] at *); first | omega | (intros; omega)) | (simp_all; done))))
  · simp only [Bool.and_eq_true, Bool.not_eq_true', decide_eq_false_iff_not] at hc
    refine ⟨(k, dist.set y.toNat k, h2), H.over hc.1 hc.2, by simp only; rw [hc2]; simp; omega, ?_⟩
    refine weak_to ?_ ?_ rfl rfl
    · repeat (first | exact subF_nil | refine subF_cons (by first | rfl | (simp [look]; done)) ?_)
    · repeat (first | exact subS_nil | refine subS_cons (by first | rfl | (simp; done)) ?_)
  have htr : y = n ∨ overT t y = false := by
    by_cases hyn : y = n
    · exact .inl hyn
    · right; rw [decide_eq_false hyn] at hc; simpa using hc
  have hset : gI (dist.set y.toNat k) y = k := by rw [gI_set y0 (by omega) y0, if_pos rfl]
  have hdn0 : gI (dist.set y.toNat k) n = 0 := H.n0 y0 yn (by rw [hset]; exact yk)
  clear hPop yd hs hc hkl h0
  generalize hdd : dist.set y.toNat k = dist2 at *
  have hll : (dist.length : Int) = dist2.length := by rw [← hdd]; simp
  refine aw_weak (F' := [(83, [], .d (iD 0)), (82, [], .d (iD (arcsL t y fr).length)), (81, [], .own 7), (14, [], .d (iD y)), (15, [], .d (iD k)), (12, [], .ptr 5 0), (10, [], .own 2), (7, [], .ptr 1 0), (4, [], .ptr 0 0), (1, [], .d (boolsD down)), (2, [], .d (iD n))])
    (S' := [tBlk t, .cells [.d (.fn fa), .d (.fn fe)], .ints .i64 dist2, .ints .i64 h2.keys, .ints .i64 h2.places, .cells [.own 6, .own 3, .own 4], .ints .i64 h2.items, .ints .i64 (arcsL t y fr)]) (by refine weak_to ?_ ?_ rfl rfl
                                                                                                                                                                                                         · repeat (first | exact subF_nil | refine subF_cons (by first | rfl | (simp [look]; done)) ?_)
                                                                                                                                                                                                         · repeat (first | exact subS_nil | refine subS_cons (by first | rfl | (simp; done)) ?_)) (Nat.le_of_ble_eq_true rfl) ?_
  refine s_inner he hf y0 yn yk (by omega) htr hset hdn0 H fun h3 F H3 hF => ?_
  refine ⟨(k, dist2, h3), H3, by simp only; omega, ?_⟩
  exact weak_to hF.2.2 (by (repeat (first | exact subS_nil | refine subS_cons (by first | rfl | rfl) ?_))) rfl rfl

end Go.Proofs.Ytcnfggpcploehaa

/- Layer 11: Dist, From. -/
namespace Go.Proofs.Ytcnfggpcploehaa
set_option maxRecDepth 10000
open Go.Wk

theorem c_Dist (t : Topo) (down : List Bool) (d : Int) : Ctr Try.prog 58 [topoD t, boolsD down, iD d] [.ints .i64 (distL t down d false)] (.tup [.own 0, .d (iD (errS t down d))]) := by
  refine spec_of envOK (enters_of Try.func58 (by kernel_rfl) (by kernel_rfl)) Try.func58 rfl rfl _ rfl (Nat.le_of_ble_eq_true rfl) rfl fun w0 => ?_
  repeat' (first
  
    | refine aw_seq ?_
    | refine aw_region ?_
    | refine aw_region_q (by kernel_rfl) (by kernel_rfl) ?_
    | refine aw_block ?_
    | refine ao_nil ?_
    | refine ao_op rfl trivial ?_
    | refine aq_nil ?_
    | refine aq_op rfl trivial ?_
    | refine at_nil ?_
    | refine at_op rfl trivial ?_
    | refine am_nil ?_
    | refine am_op rfl trivial rfl ?_
    | refine aw_skip ?_
    | refine aw_condT rfl trivial ?_
    | refine aw_condF rfl trivial ?_
    | refine aw_condD rfl trivial (fun hc => ?_) (fun hc => ?_)
    | refine aw_condN rfl trivial (fun hc => ?_) (fun hc => ?_)
    | refine aw_condNB rfl trivial (fun hc => ?_) (fun hc => ?_)
    | refine aw_cond rfl trivial (fun hc => ?_) (fun hc => ?_)
    | refine aw_ret ?_
    | refine aw_exit ?_
    | refine ao_op rfl ?_ ?_
    | refine aq_op rfl ?_ ?_
    | refine at_op rfl ?_ ?_
    | refine am_op rfl ?_ rfl ?_
    | refine ao_box rfl trivial rfl rfl rfl ?_
    | refine ao_alloc rfl rfl rfl rfl ?_
    | refine ao_store rfl rfl trivial rfl trivial rfl rfl rfl rfl rfl ?_
    | refine ao_callR rfl (c_search t down d false 78 72 (fun y => c_In t y) (fun a => c_Tail t a)) trivial rfl rfl ?_
    | (show allP _; first | trivial | exact ob1 (fun h => h) | exact ob2 (fun h => h) (fun h => h) | exact ob1 (fun h => ⟨h.1, trivial⟩) | (simp only [allP, obg, grd, allT, InR, decide_eq_true_eq, Bool.and_eq_true, Bool.not_eq_true', decide_eq_false_iff_not, List.nil_append, List.cons_append, List.append_nil, and_true, true_and]; first | omega | (intros; omega) | (simp only [Blk.len, List.length_set, List.length_append, List.length_cons, List.length_nil]; first | omega | (intros; omega)) | (refine ⟨?_, ?_⟩ <;> intros <;> first | (with_reducible assumption) | omega) | ((repeat' refine And.intro ?_ ?_) <;> (intros; first | (with_reducible assumption) | omega | (simp only [Blk.len, List.length_set, List.length_append, List.length_cons, List.length_nil]; omega))) | ((try simp only [Bool.or_eq_true, Bool.or_eq_false_iff, Bool.and_eq_true, Bool.and_eq_false_iff, decide_eq_true_eq, decide_eq_false_iff_not, Bool.not_eq_true', Bool.not_eq_false'] at *); (try simp only [Blk.len] at *); first | omega | (intros; omega)) | (simp_all; done))))
  refine fin_ret ?_; exact retOwn2 rfl rfl rfl rfl trivial rfl
end Go.Proofs.Ytcnfggpcploehaa

/- Layer 11: Path: the arcs of a node. -/
namespace Go.Proofs.Ytcnfggpcploehaa
set_option maxRecDepth 10000
open Go.Wk

set_option maxHeartbeats 4000000 in
theorem p_inner {Q : Exit → Fr → List Blk → Prop} {w0 : World} {t : Topo} {down : List Bool} {d n : Int} {l acc : List Int} (hf : fitsB t down = true) (hl : IsDist t down d false l) (hbd : ∀ i : Int, 0 ≤ i → i < t.nodes → gI l i ≤ 65535 * 64) (h0 : 0 ≤ n) (h1 : n < t.nodes) (hn : 0 ≤ gI l n) (hnd : n ≠ d) (hacc : acc.length ≤ 10000000)
    (hQ : ∀ a F S, nextP t down d l n = some a → subF F [(13, [], .d (iD (headT t a))), (12, [], .own 2), (10, [], .own 1), (4, [], .ptr 0 0), (1, [], .d (boolsD down)), (3, [], .d (iD d))] →
      subS S [tBlk t, .ints .i64 l, .ints .i64 (acc ++ [a])] → Q (.exit 3) F S) :
    AW Try.prog env (Base.of w0) Try.f79.ntmps (loopC Try.f79 12) Q
      [(51, [], .d (iD 0)), (50, [], .d (iD (arcsL t n true).length)), (49, [], .own 3), (13, [], .d (iD n)), (12, [], .own 2), (10, [], .own 1), (4, [], .ptr 0 0), (1, [], .d (boolsD down)), (3, [], .d (iD d))]
      [tBlk t, .ints .i64 l, .ints .i64 acc, .ints .i64 (arcsL t n true)] := by
  have hv := fitsB_v hf
  have hnn := validB_head hv
  have hll := arcsL_len hv n true
  have hl2 := hl.len
  refine aw_loop (ι := Nat) (fun j => [(51, [], .d (iD j)), (50, [], .d (iD (arcsL t n true).length)), (49, [], .own 3), (13, [], .d (iD n)), (12, [], .own 2), (10, [], .own 1), (4, [], .ptr 0 0), (1, [], .d (boolsD down)), (3, [], .d (iD d))])
    (fun j => [tBlk t, .ints .i64 l, .ints .i64 acc, .ints .i64 (arcsL t n true)])
    (fun j => j ≤ (arcsL t n true).length ∧ ∀ i, i < j → onP t down d l n ((arcsL t n true).getD i 0) = false) (fun j => (arcsL t n true).length - j) 0 ⟨by simp, fun i hi => by omega⟩ (fun _ => Nat.le_of_ble_eq_true rfl) (by refine weak_to ?_ ?_ rfl rfl
                                                                                                                                                                                                                                 · repeat (first | exact subF_nil | refine subF_cons (by first | rfl | (simp [look]; done)) ?_)
                                                                                                                                                                                                                                 · repeat (first | exact subS_nil | refine subS_cons (by first | rfl | (simp; done)) ?_)) fun j hj => ?_
  obtain ⟨hj, hno⟩ := hj
  by_cases hjl : j < (arcsL t n true).length
  · obtain ⟨a0, a1, a2⟩ := (mem_arcsL hv).1 (getD_mem (d := 0) hjl)
    have hb := arc_ok hv a0 a1
    have hup : down.length = 0 ∨ 0 ≤ (arcsL t n true).getD j 0 ∧ (arcsL t n true).getD j 0 < down.length := by
      simp only [fitsB, Bool.and_eq_true, Bool.or_eq_true, decide_eq_true_eq] at hf
      omega
    have hx : 0 ≤ headT t ((arcsL t n true).getD (Int.toNat (j : Int)) 0) ∧ headT t ((arcsL t n true).getD (Int.toNat (j : Int)) 0) < l.length := by
      rw [show Int.toNat (j : Int) = j from rfl]; omega
    have hbx : l.getD (headT t ((arcsL t n true).getD (Int.toNat (j : Int)) 0)).toNat 0 ≤ 65535 * 64 := hbd _ hx.1 (by omega)
    have hbs : -1 ≤ l.getD (headT t ((arcsL t n true).getD (Int.toNat (j : Int)) 0)).toNat 0 := by
      have := hl.sign _ hx.1 (by omega)
      simp only [gI] at this; omega
    have hc1 : 1 ≤ costT t ((arcsL t n true).getD (Int.toNat (j : Int)) 0) ∧ costT t ((arcsL t n true).getD (Int.toNat (j : Int)) 0) ≤ 65535 := hb.2.2.2.2.2
    repeat' (first
    
      | refine aw_seq ?_
      | refine aw_region ?_
      | refine aw_region_q (by kernel_rfl) (by kernel_rfl) ?_
      | refine aw_block ?_
      | refine ao_nil ?_
      | refine ao_op rfl trivial ?_
      | refine aq_nil ?_
      | refine aq_op rfl trivial ?_
      | refine at_nil ?_
      | refine at_op rfl trivial ?_
      | refine am_nil ?_
      | refine am_op rfl trivial rfl ?_
      | refine aw_skip ?_
      | refine aw_condT rfl trivial ?_
      | refine aw_condF rfl trivial ?_
      | refine aw_condD rfl trivial (fun hc => ?_) (fun hc => ?_)
      | refine aw_condN rfl trivial (fun hc => ?_) (fun hc => ?_)
      | refine aw_condNB rfl trivial (fun hc => ?_) (fun hc => ?_)
      | refine aw_cond rfl trivial (fun hc => ?_) (fun hc => ?_)
      | refine aw_ret ?_
      | refine aw_exit ?_
      | refine ao_op rfl ?_ ?_
      | refine aq_op rfl ?_ ?_
      | refine at_op rfl ?_ ?_
      | refine am_op rfl ?_ rfl ?_
      | refine ao_box rfl trivial rfl rfl rfl ?_
      | refine ao_alloc rfl rfl rfl rfl ?_
      | refine ao_store rfl rfl trivial rfl trivial rfl rfl rfl rfl rfl ?_
      | (first | refine ao_call rfl (c_Head _ _) rfl ?_ ?_ | refine aq_call rfl (c_Head _ _) rfl ?_ ?_)
      | (first | refine ao_call rfl (c_up down _ hup) rfl ?_ ?_ | refine aq_call rfl (c_up down _ hup) rfl ?_ ?_)
      | (first | refine ao_call rfl (c_Cost _ _) rfl ?_ ?_ | refine aq_call rfl (c_Cost _ _) rfl ?_ ?_)
      | (first | refine ao_call rfl (c_Overloaded _ _) rfl ?_ ?_ | refine aq_call rfl (c_Overloaded _ _) rfl ?_ ?_)
      | refine ao_lit rfl rfl rfl rfl trivial rfl rfl rfl rfl rfl rfl ?_
      | refine ao_app rfl rfl rfl rfl trivial rfl trivial rfl rfl trivial rfl rfl rfl rfl rfl (by simp [Blk.len]; omega) rfl rfl rfl ?_
      | (show allP _; first | trivial | exact ob1 (fun h => h) | exact ob2 (fun h => h) (fun h => h) | exact ob1 (fun h => ⟨h.1, trivial⟩) | (simp only [allP, obg, grd, allT, InR, decide_eq_true_eq, Bool.and_eq_true, Bool.not_eq_true', decide_eq_false_iff_not, List.nil_append, List.cons_append, List.append_nil, and_true, true_and]; first | omega | (intros; omega) | (simp only [Blk.len, List.length_set, List.length_append, List.length_cons, List.length_nil]; first | omega | (intros; omega)) | (refine ⟨?_, ?_⟩ <;> intros <;> first | (with_reducible assumption) | omega) | ((repeat' refine And.intro ?_ ?_) <;> (intros; first | (with_reducible assumption) | omega | (simp only [Blk.len, List.length_set, List.length_append, List.length_cons, List.length_nil]; omega))) | ((try simp only [Bool.or_eq_true, Bool.or_eq_false_iff, Bool.and_eq_true, Bool.and_eq_false_iff, decide_eq_true_eq, decide_eq_false_iff_not, Bool.not_eq_true', Bool.not_eq_false'] at *); (try simp only [Blk.len] at *); first | omega | (intros; omega)) | (simp_all; done))))
    · have hon : onP t down d l n ((arcsL t n true).getD j 0) = true := by
        refine Eq.trans ?_ hc
        simp only [onP, gI, Bool.and_assoc, Int.toNat_natCast]
      exact hQ _ _ _ (nextP_at hjl hno hon) (by repeat (first | exact subF_nil | refine subF_cons rfl ?_)) (by (repeat (first | exact subS_nil | refine subS_cons (by first | rfl | rfl) ?_)))
    · have hon : onP t down d l n ((arcsL t n true).getD j 0) = false := by
        refine Eq.trans ?_ hc
        simp only [onP, gI, Bool.and_assoc, Int.toNat_natCast]
      refine ⟨j + 1, ⟨by omega, fun i hi => ?_⟩, by omega, ?_⟩
      · rcases Nat.lt_succ_iff_lt_or_eq.1 hi with h | rfl
        · exact hno i h
        · exact hon
      · refine weak_to ?_ ?_ rfl rfl
        · repeat (first | exact subF_nil | refine subF_cons (by first | rfl | (simp [look]; done)) ?_)
        · repeat (first | exact subS_nil | refine subS_cons (by first | rfl | (simp; done)) ?_)
    · exfalso; omega
  · repeat' (first
    
      | refine aw_seq ?_
      | refine aw_region ?_
      | refine aw_region_q (by kernel_rfl) (by kernel_rfl) ?_
      | refine aw_block ?_
      | refine ao_nil ?_
      | refine ao_op rfl trivial ?_
      | refine aq_nil ?_
      | refine aq_op rfl trivial ?_
      | refine at_nil ?_
      | refine at_op rfl trivial ?_
      | refine am_nil ?_
      | refine am_op rfl trivial rfl ?_
      | refine aw_skip ?_
      | refine aw_condT rfl trivial ?_
      | refine aw_condF rfl trivial ?_
      | refine aw_condD rfl trivial (fun hc => ?_) (fun hc => ?_)
      | refine aw_condN rfl trivial (fun hc => ?_) (fun hc => ?_)
      | refine aw_condNB rfl trivial (fun hc => ?_) (fun hc => ?_)
      | refine aw_cond rfl trivial (fun hc => ?_) (fun hc => ?_)
      | refine aw_ret ?_
      | refine aw_exit ?_
      | refine ao_op rfl ?_ ?_
      | refine aq_op rfl ?_ ?_
      | refine at_op rfl ?_ ?_
      | refine am_op rfl ?_ rfl ?_
      | refine ao_box rfl trivial rfl rfl rfl ?_
      | refine ao_alloc rfl rfl rfl rfl ?_
      | refine ao_store rfl rfl trivial rfl trivial rfl rfl rfl rfl rfl ?_
      | (exfalso; omega)
      | (show allP _; first | trivial | exact ob1 (fun h => h) | exact ob2 (fun h => h) (fun h => h) | exact ob1 (fun h => ⟨h.1, trivial⟩) | (simp only [allP, obg, grd, allT, InR, decide_eq_true_eq, Bool.and_eq_true, Bool.not_eq_true', decide_eq_false_iff_not, List.nil_append, List.cons_append, List.append_nil, and_true, true_and]; first | omega | (intros; omega) | (simp only [Blk.len, List.length_set, List.length_append, List.length_cons, List.length_nil]; first | omega | (intros; omega)) | (refine ⟨?_, ?_⟩ <;> intros <;> first | (with_reducible assumption) | omega) | ((repeat' refine And.intro ?_ ?_) <;> (intros; first | (with_reducible assumption) | omega | (simp only [Blk.len, List.length_set, List.length_append, List.length_cons, List.length_nil]; omega))) | ((try simp only [Bool.or_eq_true, Bool.or_eq_false_iff, Bool.and_eq_true, Bool.and_eq_false_iff, decide_eq_true_eq, decide_eq_false_iff_not, Bool.not_eq_true', Bool.not_eq_false'] at *); (try simp only [Blk.len] at *); first | omega | (intros; omega)) | (simp_all; done))))
    exact absurd (nextP_some hv hl h0 h1 hn hnd) (by rw [nextP_no (fun i hi => hno i (by omega))]; rintro ⟨a, h, _⟩; cases h)
end Go.Proofs.Ytcnfggpcploehaa

/- Layer 11: Path. -/
namespace Go.Proofs.Ytcnfggpcploehaa
set_option maxRecDepth 10000
open Go.Wk

set_option maxHeartbeats 4000000 in
theorem c_Path (t : Topo) (down : List Bool) (s d : Int) : Ctr Try.prog 79 [topoD t, boolsD down, iD s, iD d] [.ints .i64 (pathL t down s d)] (.tup [.own 0, .d (iD (errP t down s d))]) := by
  refine spec_of envOK (enters_of Try.func79 (by kernel_rfl) (by kernel_rfl)) Try.func79 rfl rfl _ rfl (Nat.le_of_ble_eq_true rfl) rfl fun w0 => ?_
  by_cases he : errS t down d = 0
  · have hl := distL_is (fr := false) he
    have hbd := distL_bnd (fr := false) he
    obtain ⟨hf, d0, d1⟩ := errS_0 he
    have hll := hl.len
    generalize hg : distL t down d false = l at *
    repeat' (first
    
      | refine aw_seq ?_
      | refine aw_region ?_
      | refine aw_region_q (by kernel_rfl) (by kernel_rfl) ?_
      | refine aw_block ?_
      | refine ao_nil ?_
      | refine ao_op rfl trivial ?_
      | refine aq_nil ?_
      | refine aq_op rfl trivial ?_
      | refine at_nil ?_
      | refine at_op rfl trivial ?_
      | refine am_nil ?_
      | refine am_op rfl trivial rfl ?_
      | refine aw_skip ?_
      | refine aw_condT rfl trivial ?_
      | refine aw_condF rfl trivial ?_
      | refine aw_condD rfl trivial (fun hc => ?_) (fun hc => ?_)
      | refine aw_condN rfl trivial (fun hc => ?_) (fun hc => ?_)
      | refine aw_condNB rfl trivial (fun hc => ?_) (fun hc => ?_)
      | refine aw_cond rfl trivial (fun hc => ?_) (fun hc => ?_)
      | refine aw_ret ?_
      | refine aw_exit ?_
      | refine ao_op rfl ?_ ?_
      | refine aq_op rfl ?_ ?_
      | refine at_op rfl ?_ ?_
      | refine am_op rfl ?_ rfl ?_
      | refine ao_box rfl trivial rfl rfl rfl ?_
      | refine ao_alloc rfl rfl rfl rfl ?_
      | refine ao_store rfl rfl trivial rfl trivial rfl rfl rfl rfl rfl ?_
      | refine ao_callR rfl ((hg ▸ c_Dist t down d)) trivial rfl rfl ?_
      | (show allP _; first | trivial | exact ob1 (fun h => h) | exact ob2 (fun h => h) (fun h => h) | exact ob1 (fun h => ⟨h.1, trivial⟩) | (simp only [allP, obg, grd, allT, InR, decide_eq_true_eq, Bool.and_eq_true, Bool.not_eq_true', decide_eq_false_iff_not, List.nil_append, List.cons_append, List.append_nil, and_true, true_and]; first | omega | (intros; omega) | (simp only [Blk.len, List.length_set, List.length_append, List.length_cons, List.length_nil]; first | omega | (intros; omega)) | (refine ⟨?_, ?_⟩ <;> intros <;> first | (with_reducible assumption) | omega) | ((repeat' refine And.intro ?_ ?_) <;> (intros; first | (with_reducible assumption) | omega | (simp only [Blk.len, List.length_set, List.length_append, List.length_cons, List.length_nil]; omega))) | ((try simp only [Bool.or_eq_true, Bool.or_eq_false_iff, Bool.and_eq_true, Bool.and_eq_false_iff, decide_eq_true_eq, decide_eq_false_iff_not, Bool.not_eq_true', Bool.not_eq_false'] at *); (try simp only [Blk.len] at *); first | omega | (intros; omega)) | (simp_all; done))))
    · exact absurd he hc
    · refine fin_ret ?_
      have e : errP t down s d = 2 := by unfold errP; rw [if_pos he, hc]; rfl
      exact retNil2 rfl (by simp [pathL, e, Blk.len]) (by rw [e]) trivial rfl
    · rename_i hs
      refine fin_ret ?_
      have e : errP t down s d = 11 := by unfold errP; rw [if_pos he, hs, hg, if_pos hc]; rfl
      exact retNil2 rfl (by simp [pathL, e, Blk.len]) (by rw [e]) trivial rfl
    rename_i hs
    have e : errP t down s d = 0 := by unfold errP; rw [if_pos he, hs, hg, if_neg hc]; rfl
    obtain ⟨_, s0, s1, sn⟩ := errP_0 e
    rw [hg] at sn
    have hv := fitsB_v hf
    have hnn := validB_head hv
    refine aw_weak (F' := [(13, [], .d (iD s)), (12, [], .nil), (10, [], .own 1), (4, [], .ptr 0 0), (1, [], .d (boolsD down)), (3, [], .d (iD d))]) (S' := [tBlk t, .ints .i64 l]) (by refine weak_to ?_ ?_ rfl rfl
                                                                                                                                                                                        · repeat (first | exact subF_nil | refine subF_cons (by first | rfl | (simp [look]; done)) ?_)
                                                                                                                                                                                        · repeat (first | exact subS_nil | refine subS_cons (by first | rfl | (simp; done)) ?_)) (Nat.le_of_ble_eq_true rfl) ?_
    refine aw_weak (weak_nil (t := 12) (.ints .i64 []) rfl rfl rfl rfl rfl) (Nat.le_of_ble_eq_true rfl) ?_
    refine aw_loop (ι := Int × List Int) (fun x => [(13, [], .d (iD x.1)), (12, [], .own 2), (10, [], .own 1), (4, [], .ptr 0 0), (1, [], .d (boolsD down)), (3, [], .d (iD d))]) (fun x => [tBlk t, .ints .i64 l, .ints .i64 x.2])
      (fun x => 0 ≤ x.1 ∧ x.1 < t.nodes ∧ 0 ≤ gI l x.1 ∧ x.2 ++ pathF t down d l x.1 = pathF t down d l s ∧ x.2.length + gI l x.1 ≤ gI l s) (fun x => (gI l x.1).toNat) (s, []) ⟨s0, s1, sn, by simp, by simp⟩ (fun _ => Nat.le_of_ble_eq_true rfl) (by refine weak_to ?_ ?_ rfl rfl
                                                                                                                                                                                                                                                        · repeat (first | exact subF_nil | refine subF_cons (by first | rfl | (simp [look]; done)) ?_)
                                                                                                                                                                                                                                                        · repeat (first | exact subS_nil | refine subS_cons (by first | rfl | (simp; done)) ?_)) fun x hx => ?_
    obtain ⟨n, acc⟩ := x
    obtain ⟨n0, n1, nn, hacc, hlen⟩ := hx
    simp only at n0 n1 nn hacc hlen ⊢
    have hbs := hbd s s0 s1
    by_cases hnd : n = d
    · repeat' (first
      
        | refine aw_seq ?_
        | refine aw_region ?_
        | refine aw_region_q (by kernel_rfl) (by kernel_rfl) ?_
        | refine aw_block ?_
        | refine ao_nil ?_
        | refine ao_op rfl trivial ?_
        | refine aq_nil ?_
        | refine aq_op rfl trivial ?_
        | refine at_nil ?_
        | refine at_op rfl trivial ?_
        | refine am_nil ?_
        | refine am_op rfl trivial rfl ?_
        | refine aw_skip ?_
        | refine aw_condT rfl trivial ?_
        | refine aw_condF rfl trivial ?_
        | refine aw_condD rfl trivial (fun hc => ?_) (fun hc => ?_)
        | refine aw_condN rfl trivial (fun hc => ?_) (fun hc => ?_)
        | refine aw_condNB rfl trivial (fun hc => ?_) (fun hc => ?_)
        | refine aw_cond rfl trivial (fun hc => ?_) (fun hc => ?_)
        | refine aw_ret ?_
        | refine aw_exit ?_
        | refine ao_op rfl ?_ ?_
        | refine aq_op rfl ?_ ?_
        | refine at_op rfl ?_ ?_
        | refine am_op rfl ?_ rfl ?_
        | refine ao_box rfl trivial rfl rfl rfl ?_
        | refine ao_alloc rfl rfl rfl rfl ?_
        | refine ao_store rfl rfl trivial rfl trivial rfl rfl rfl rfl rfl ?_
      
        | (show allP _; first | trivial | exact ob1 (fun h => h) | exact ob2 (fun h => h) (fun h => h) | exact ob1 (fun h => ⟨h.1, trivial⟩) | (simp only [allP, obg, grd, allT, InR, decide_eq_true_eq, Bool.and_eq_true, Bool.not_eq_true', decide_eq_false_iff_not, List.nil_append, List.cons_append, List.append_nil, and_true, true_and]; first | omega | (intros; omega) | (simp only [Blk.len, List.length_set, List.length_append, List.length_cons, List.length_nil]; first | omega | (intros; omega)) | (refine ⟨?_, ?_⟩ <;> intros <;> first | (with_reducible assumption) | omega) | ((repeat' refine And.intro ?_ ?_) <;> (intros; first | (with_reducible assumption) | omega | (simp only [Blk.len, List.length_set, List.length_append, List.length_cons, List.length_nil]; omega))) | ((try simp only [Bool.or_eq_true, Bool.or_eq_false_iff, Bool.and_eq_true, Bool.and_eq_false_iff, decide_eq_true_eq, decide_eq_false_iff_not, Bool.not_eq_true', Bool.not_eq_false'] at *); (try simp only [Blk.len] at *); first | omega | (intros; omega)) | (simp_all; done))))
      all_goals try (exfalso; omega)
      refine fin_ret ?_
      rw [hnd, pathF_end, List.append_nil] at hacc
      exact retOwn2 rfl rfl (by rw [hacc]; simp only [pathL, e, if_true, hg]) (by rw [e]) trivial rfl
    · repeat' (first
      
        | refine aw_seq ?_
        | refine aw_region ?_
        | refine aw_region_q (by kernel_rfl) (by kernel_rfl) ?_
        | refine aw_block ?_
        | refine ao_nil ?_
        | refine ao_op rfl trivial ?_
        | refine aq_nil ?_
        | refine aq_op rfl trivial ?_
        | refine at_nil ?_
        | refine at_op rfl trivial ?_
        | refine am_nil ?_
        | refine am_op rfl trivial rfl ?_
        | refine aw_skip ?_
        | refine aw_condT rfl trivial ?_
        | refine aw_condF rfl trivial ?_
        | refine aw_condD rfl trivial (fun hc => ?_) (fun hc => ?_)
        | refine aw_condN rfl trivial (fun hc => ?_) (fun hc => ?_)
        | refine aw_condNB rfl trivial (fun hc => ?_) (fun hc => ?_)
        | refine aw_cond rfl trivial (fun hc => ?_) (fun hc => ?_)
        | refine aw_ret ?_
        | refine aw_exit ?_
        | refine ao_op rfl ?_ ?_
        | refine aq_op rfl ?_ ?_
        | refine at_op rfl ?_ ?_
        | refine am_op rfl ?_ rfl ?_
        | refine ao_box rfl trivial rfl rfl rfl ?_
        | refine ao_alloc rfl rfl rfl rfl ?_
        | refine ao_store rfl rfl trivial rfl trivial rfl rfl rfl rfl rfl ?_
        | refine ao_callR rfl (c_Out t n) trivial rfl rfl ?_
        | (show allP _; first | trivial | exact ob1 (fun h => h) | exact ob2 (fun h => h) (fun h => h) | exact ob1 (fun h => ⟨h.1, trivial⟩) | (simp only [allP, obg, grd, allT, InR, decide_eq_true_eq, Bool.and_eq_true, Bool.not_eq_true', decide_eq_false_iff_not, List.nil_append, List.cons_append, List.append_nil, and_true, true_and]; first | omega | (intros; omega) | (simp only [Blk.len, List.length_set, List.length_append, List.length_cons, List.length_nil]; first | omega | (intros; omega)) | (refine ⟨?_, ?_⟩ <;> intros <;> first | (with_reducible assumption) | omega) | ((repeat' refine And.intro ?_ ?_) <;> (intros; first | (with_reducible assumption) | omega | (simp only [Blk.len, List.length_set, List.length_append, List.length_cons, List.length_nil]; omega))) | ((try simp only [Bool.or_eq_true, Bool.or_eq_false_iff, Bool.and_eq_true, Bool.and_eq_false_iff, decide_eq_true_eq, decide_eq_false_iff_not, Bool.not_eq_true', Bool.not_eq_false'] at *); (try simp only [Blk.len] at *); first | omega | (intros; omega)) | (simp_all; done))))
      all_goals try (exfalso; omega)
      refine aw_weak (F' := [(51, [], .d (iD 0)), (50, [], .d (iD (arcsL t n true).length)), (49, [], .own 3), (13, [], .d (iD n)), (12, [], .own 2), (10, [], .own 1), (4, [], .ptr 0 0), (1, [], .d (boolsD down)), (3, [], .d (iD d))])
        (S' := [tBlk t, .ints .i64 l, .ints .i64 acc, .ints .i64 (arcsL t n true)]) (by refine weak_to ?_ ?_ rfl rfl
                                                                                        · repeat (first | exact subF_nil | refine subF_cons (by first | rfl | (simp [look]; done)) ?_)
                                                                                        · repeat (first | exact subS_nil | refine subS_cons (by first | rfl | (simp; done)) ?_)) (Nat.le_of_ble_eq_true rfl) ?_
      refine p_inner hf hl hbd n0 n1 nn hnd (by omega) fun a F S ha hF hS => ?_
      obtain ⟨b, e1, _, _, _, eon, b4, b5, b6, b7⟩ := nextP_some hv hl n0 n1 nn hnd
      rw [ha] at e1; cases e1
      have hon := onP_iff.1 eon
      refine ⟨(headT t a, acc ++ [a]), ⟨b6, b7, b4, ?_, ?_⟩, ?_, ?_⟩
      · rw [← hacc, pathF_step hv hl n0 n1 nn hnd ha]; simp
      · simp only [List.length_append, List.length_cons, List.length_nil]; omega
      · simp only; omega
      · exact weak_to hF hS rfl rfl
  · repeat' (first
    
      | refine aw_seq ?_
      | refine aw_region ?_
      | refine aw_region_q (by kernel_rfl) (by kernel_rfl) ?_
      | refine aw_block ?_
      | refine ao_nil ?_
      | refine ao_op rfl trivial ?_
      | refine aq_nil ?_
      | refine aq_op rfl trivial ?_
      | refine at_nil ?_
      | refine at_op rfl trivial ?_
      | refine am_nil ?_
      | refine am_op rfl trivial rfl ?_
      | refine aw_skip ?_
      | refine aw_condT rfl trivial ?_
      | refine aw_condF rfl trivial ?_
      | refine aw_condD rfl trivial (fun hc => ?_) (fun hc => ?_)
      | refine aw_condN rfl trivial (fun hc => ?_) (fun hc => ?_)
      | refine aw_condNB rfl trivial (fun hc => ?_) (fun hc => ?_)
      | refine aw_cond rfl trivial (fun hc => ?_) (fun hc => ?_)
      | refine aw_ret ?_
      | refine aw_exit ?_
      | refine ao_op rfl ?_ ?_
      | refine aq_op rfl ?_ ?_
      | refine at_op rfl ?_ ?_
      | refine am_op rfl ?_ rfl ?_
      | refine ao_box rfl trivial rfl rfl rfl ?_
      | refine ao_alloc rfl rfl rfl rfl ?_
      | refine ao_store rfl rfl trivial rfl trivial rfl rfl rfl rfl rfl ?_
      | refine ao_callR rfl (c_Dist t down d) trivial rfl rfl ?_
      | (show allP _; first | trivial | exact ob1 (fun h => h) | exact ob2 (fun h => h) (fun h => h) | exact ob1 (fun h => ⟨h.1, trivial⟩) | (simp only [allP, obg, grd, allT, InR, decide_eq_true_eq, Bool.and_eq_true, Bool.not_eq_true', decide_eq_false_iff_not, List.nil_append, List.cons_append, List.append_nil, and_true, true_and]; first | omega | (intros; omega) | (simp only [Blk.len, List.length_set, List.length_append, List.length_cons, List.length_nil]; first | omega | (intros; omega)) | (refine ⟨?_, ?_⟩ <;> intros <;> first | (with_reducible assumption) | omega) | ((repeat' refine And.intro ?_ ?_) <;> (intros; first | (with_reducible assumption) | omega | (simp only [Blk.len, List.length_set, List.length_append, List.length_cons, List.length_nil]; omega))) | ((try simp only [Bool.or_eq_true, Bool.or_eq_false_iff, Bool.and_eq_true, Bool.and_eq_false_iff, decide_eq_true_eq, decide_eq_false_iff_not, Bool.not_eq_true', Bool.not_eq_false'] at *); (try simp only [Blk.len] at *); first | omega | (intros; omega)) | (simp_all; done))))
    · refine fin_ret ?_
      have e : errP t down s d = errS t down d := by unfold errP; rw [if_neg he]
      exact retNil2 rfl (by simp [pathL, e, he, Blk.len]) (by rw [e]) trivial rfl
    all_goals exact absurd (by assumption) he
end Go.Proofs.Ytcnfggpcploehaa

/- The search by repeated comparisons, plainly. -/
namespace Go.Proofs.Ytcnfggpcploehaa
set_option maxRecDepth 10000
open Go.Wk

def valB (x : Int) : Nat := if x < 0 then 4194305 else x.toNat
def msr (l : List Int) : Nat := (l.map valB).sum
theorem msr_set {l : List Int} {i : Nat} {v : Int} (hi : i < l.length) : msr (l.set i v) + valB (l.getD i 0) = msr l + valB v := by
  induction l generalizing i with
  | nil => simp at hi
  | cons x r ih =>
    cases i with
    | zero => simp only [List.set_cons_zero, msr, List.map_cons, List.sum_cons, List.getD_cons_zero]; omega
    | succ i =>
      have := ih (i := i) (by simpa using hi)
      simp only [List.set_cons_succ, msr, List.map_cons, List.sum_cons, List.getD_cons_succ] at this ⊢
      omega

structure BF (t : Topo) (down : List Bool) (n : Int) (fr : Bool) (l : List Int) : Prop where
  len : (l.length : Int) = t.nodes
  self : gI l n = 0
  sign : ∀ i : Int, 0 ≤ i → i < t.nodes → gI l i = -1 ∨ 0 ≤ gI l i
  bnd : ∀ i : Int, 0 ≤ i → i < t.nodes → 0 ≤ gI l i → gI l i + 65535 ≤ 65535 * (cntD l : Int)
  ground : ∀ i : Int, 0 ≤ i → i < t.nodes → i ≠ n → 0 ≤ gI l i → ∃ a : Int, 0 ≤ a ∧ a < 2 * t.links.length ∧ okA t down n fr a ∧ farT t fr a = i ∧ 0 ≤ gI l (nearT t fr a) ∧ gI l (nearT t fr a) + costT t a ≤ gI l i

/-- The arc asks for no change. -/
def closed (t : Topo) (down : List Bool) (n : Int) (fr : Bool) (l : List Int) (a : Int) : Prop :=
  okA t down n fr a → 0 ≤ gI l (nearT t fr a) → 0 ≤ gI l (farT t fr a) ∧ gI l (farT t fr a) ≤ gI l (nearT t fr a) + costT t a

section
variable {t : Topo} {down : List Bool} {n : Int} {fr : Bool} {l : List Int}

theorem BF.init (h0 : 0 ≤ n) (h1 : n < t.nodes) : BF t down n fr ((List.replicate t.nodes.toNat (-1)).set n.toNat 0) := by
  have hs : ∀ i : Int, 0 ≤ i → i < t.nodes → gI ((List.replicate t.nodes.toNat (-1)).set n.toNat 0) i = if i = n then 0 else -1 := fun i i0 i1 => by
    rw [gI_set h0 (by simp; omega) i0]
    split
    · rfl
    · exact gI_rep i0 (by omega)
  have hc : cntD ((List.replicate t.nodes.toNat (-1)).set n.toNat 0) = 1 := by
    rw [cntD_set (by simp; omega) (by have := gI_rep (m := t.nodes.toNat) (v := -1) h0 (by omega); simp only [gI] at this; omega) (by omega)]
    simp [cntD, List.countP_replicate]
  refine ⟨by simp; omega, by rw [hs n h0 h1, if_pos rfl], fun i i0 i1 => ?_, fun i i0 i1 hh => ?_, fun i i0 i1 hin hh => ?_⟩
  · rw [hs i i0 i1]; split <;> omega
  · rw [hs i i0 i1] at hh ⊢
    rw [hc]
    split <;> omega
  · rw [hs i i0 i1, if_neg hin] at hh; omega

theorem BF.le (hv : validB t = true) (H : BF t down n fr l) {i : Int} (i0 : 0 ≤ i) (i1 : i < t.nodes) : gI l i ≤ 65535 * 63 := by
  have hnn := validB_head hv
  have hc : cntD l ≤ l.length := List.countP_le_length
  have hl := H.len
  by_cases hi : 0 ≤ gI l i
  · have := H.bnd i i0 i1 hi; omega
  · omega

theorem BF.fin (H : BF t down n fr l) (hc : ∀ a : Int, 0 ≤ a → a < 2 * t.links.length → closed t down n fr l a) : IsDist t down n fr l := by
  refine ⟨H.len, H.self, H.sign, fun a a0 a1 hok hn => hc a a0 a1 hok hn, fun i i0 i1 hin hh => ?_⟩
  obtain ⟨a, a0, a1, a2, a3, a4, a5⟩ := H.ground i i0 i1 hin hh
  have := hc a a0 a1 a2 a4
  rw [a3] at this
  exact ⟨a, a0, a1, a2, a3, a4, by omega⟩

theorem BF.upd (hv : validB t = true) (h0 : 0 ≤ n) (H : BF t down n fr l) {a : Int} (a0 : 0 ≤ a) (a1 : a < 2 * t.links.length) (hok : okA t down n fr a) (hn : 0 ≤ gI l (nearT t fr a))
    (hlt : gI l (farT t fr a) < 0 ∨ gI l (nearT t fr a) + costT t a < gI l (farT t fr a)) :
    BF t down n fr (l.set (farT t fr a).toNat (gI l (nearT t fr a) + costT t a)) ∧ msr (l.set (farT t fr a).toNat (gI l (nearT t fr a) + costT t a)) < msr l := by
  have hl := H.len
  have hnn := validB_head hv
  obtain ⟨b1, b2, b3, b4, b5, b6, b7⟩ := arc_nf hv fr a0 a1
  have hnear := H.bnd _ b1 b2 hn
  have hself := H.self
  have hle := H.le hv b1 b2
  have hfx := H.sign _ b3 b4
  generalize hc : gI l (nearT t fr a) + costT t a = c at *
  generalize hx : farT t fr a = x at *
  have hset : ∀ i : Int, 0 ≤ i → gI (l.set x.toNat c) i = if i = x then c else gI l i := fun i i0 => gI_set b3 (by omega) i0
  have hxn : n ≠ x := fun e => by rw [← e] at hlt; omega
  have hcnt : gI l x < 0 ∧ cntD (l.set x.toNat c) = cntD l + 1 ∨ 0 ≤ gI l x ∧ c < gI l x ∧ cntD (l.set x.toNat c) = cntD l := by
    by_cases hneg : gI l x < 0
    · exact .inl ⟨hneg, cntD_set (by omega) hneg (by omega)⟩
    · refine .inr ⟨by omega, by omega, ?_⟩
      have q1 := cntD_set (l := l.set x.toNat (-1)) (i := x.toNat) (v := c) (by simp; omega) (by rw [getD_set, if_pos ⟨rfl, by omega⟩]; omega) (by omega)
      have q2 := cntD_set (l := l.set x.toNat (-1)) (i := x.toNat) (v := gI l x) (by simp; omega) (by rw [getD_set, if_pos ⟨rfl, by omega⟩]; omega) (by omega)
      rw [List.set_set] at q1 q2
      rw [set_same (l := l) rfl] at q2
      omega
  refine ⟨⟨by simpa using hl, by rw [hset n h0, if_neg hxn]; exact hself, fun i i0 i1 => ?_, fun i i0 i1 hh => ?_, fun i i0 i1 hin hh => ?_⟩, ?_⟩
  · rw [hset i i0]; split
    · right; omega
    · exact H.sign i i0 i1
  · rw [hset i i0] at hh ⊢
    by_cases hi : i = x
    · rw [if_pos hi] at hh ⊢
      rcases hcnt with ⟨_, e⟩ | ⟨q, q2, e⟩
      · rw [e]; omega
      · have := H.bnd x b3 b4 q; rw [e]; omega
    · rw [if_neg hi] at hh ⊢
      have := H.bnd i i0 i1 hh
      rcases hcnt with ⟨_, e⟩ | ⟨_, _, e⟩ <;> rw [e] <;> omega
  · rw [hset i i0] at hh ⊢
    by_cases hi : i = x
    · subst hi
      rw [if_pos rfl]
      exact ⟨a, a0, a1, hok, hx, by rw [hset _ b1, if_neg b5]; exact hn, by rw [hset _ b1, if_neg b5]; omega⟩
    · rw [if_neg hi] at hh ⊢
      obtain ⟨e, e0, e1, e2, e3, e4, e5⟩ := H.ground i i0 i1 hin hh
      have hb := arc_nf hv fr e0 e1
      refine ⟨e, e0, e1, e2, e3, ?_, ?_⟩
      · rw [hset _ hb.1]; split
        · omega
        · exact e4
      · rw [hset _ hb.1]; split
        · rename_i he
          rw [he] at e4 e5
          omega
        · exact e5
  · have hm := msr_set (l := l) (i := x.toNat) (v := c) (by omega)
    have e1 : valB c = c.toNat := if_neg (by omega)
    have e2 : valB (l.getD x.toNat 0) = if gI l x < 0 then 4194305 else (gI l x).toNat := rfl
    rw [e1, e2] at hm
    by_cases hneg : gI l x < 0
    · rw [if_pos hneg] at hm; omega
    · rw [if_neg hneg] at hm; omega

end
end Go.Proofs.Ytcnfggpcploehaa

/- The reference of layer 11. -/
namespace Go.Proofs.Ytcnfggpcploehaa
set_option maxRecDepth 10000
open Go.Wk

theorem r_Fits (t : Topo) (down : List Bool) : Ctr Try.prog 24 [topoD t, boolsD down] [] (.d (bD (fitsB t down))) := by
  refine spec_of envOK (enters_of Try.func24 (by kernel_rfl) (by kernel_rfl)) Try.func24 rfl rfl _ rfl (Nat.le_of_ble_eq_true rfl) rfl fun w0 => ?_
  have hl : validB t = false ∨ t.links.length ≤ 256 := by
    cases hv : validB t with
    | false => exact .inl rfl
    | true => exact .inr (validB_head hv).2.2.1
  rcases hl with hl | hl
  · repeat' (first
    
      | refine aw_seq ?_
      | refine aw_region ?_
      | refine aw_region_q (by kernel_rfl) (by kernel_rfl) ?_
      | refine aw_block ?_
      | refine ao_nil ?_
      | refine ao_op rfl trivial ?_
      | refine aq_nil ?_
      | refine aq_op rfl trivial ?_
      | refine at_nil ?_
      | refine at_op rfl trivial ?_
      | refine am_nil ?_
      | refine am_op rfl trivial rfl ?_
      | refine aw_skip ?_
      | refine aw_condT rfl trivial ?_
      | refine aw_condF rfl trivial ?_
      | refine aw_condD rfl trivial (fun hc => ?_) (fun hc => ?_)
      | refine aw_condN rfl trivial (fun hc => ?_) (fun hc => ?_)
      | refine aw_condNB rfl trivial (fun hc => ?_) (fun hc => ?_)
      | refine aw_cond rfl trivial (fun hc => ?_) (fun hc => ?_)
      | refine aw_ret ?_
      | refine aw_exit ?_
      | refine ao_op rfl ?_ ?_
      | refine aq_op rfl ?_ ?_
      | refine at_op rfl ?_ ?_
      | refine am_op rfl ?_ rfl ?_
      | refine ao_box rfl trivial rfl rfl rfl ?_
      | refine ao_alloc rfl rfl rfl rfl ?_
      | refine ao_store rfl rfl trivial rfl trivial rfl rfl rfl rfl rfl ?_
      | (first | refine ao_call rfl (r_Valid _) rfl ?_ ?_ | refine aq_call rfl (r_Valid _) rfl ?_ ?_)
      | (show allP _; first | trivial | exact ob1 (fun h => h) | exact ob2 (fun h => h) (fun h => h) | exact ob1 (fun h => ⟨h.1, trivial⟩) | (simp only [allP, obg, grd, allT, InR, decide_eq_true_eq, Bool.and_eq_true, Bool.not_eq_true', decide_eq_false_iff_not, List.nil_append, List.cons_append, List.append_nil, and_true, true_and]; first | omega | (intros; omega) | (simp only [Blk.len, List.length_set, List.length_append, List.length_cons, List.length_nil]; first | omega | (intros; omega)) | (refine ⟨?_, ?_⟩ <;> intros <;> first | (with_reducible assumption) | omega) | ((repeat' refine And.intro ?_ ?_) <;> (intros; first | (with_reducible assumption) | omega | (simp only [Blk.len, List.length_set, List.length_append, List.length_cons, List.length_nil]; omega))) | ((try simp only [Bool.or_eq_true, Bool.or_eq_false_iff, Bool.and_eq_true, Bool.and_eq_false_iff, decide_eq_true_eq, decide_eq_false_iff_not, Bool.not_eq_true', Bool.not_eq_false'] at *); (try simp only [Blk.len] at *); first | omega | (intros; omega)) | (simp_all; done))))
    (refine fin_ret ?_; exact ret1 (by rfl) (by (simp [fitsB])) (by rfl))
  · repeat' (first
    
      | refine aw_seq ?_
      | refine aw_region ?_
      | refine aw_region_q (by kernel_rfl) (by kernel_rfl) ?_
      | refine aw_block ?_
      | refine ao_nil ?_
      | refine ao_op rfl trivial ?_
      | refine aq_nil ?_
      | refine aq_op rfl trivial ?_
      | refine at_nil ?_
      | refine at_op rfl trivial ?_
      | refine am_nil ?_
      | refine am_op rfl trivial rfl ?_
      | refine aw_skip ?_
      | refine aw_condT rfl trivial ?_
      | refine aw_condF rfl trivial ?_
      | refine aw_condD rfl trivial (fun hc => ?_) (fun hc => ?_)
      | refine aw_condN rfl trivial (fun hc => ?_) (fun hc => ?_)
      | refine aw_condNB rfl trivial (fun hc => ?_) (fun hc => ?_)
      | refine aw_cond rfl trivial (fun hc => ?_) (fun hc => ?_)
      | refine aw_ret ?_
      | refine aw_exit ?_
      | refine ao_op rfl ?_ ?_
      | refine aq_op rfl ?_ ?_
      | refine at_op rfl ?_ ?_
      | refine am_op rfl ?_ rfl ?_
      | refine ao_box rfl trivial rfl rfl rfl ?_
      | refine ao_alloc rfl rfl rfl rfl ?_
      | refine ao_store rfl rfl trivial rfl trivial rfl rfl rfl rfl rfl ?_
      | (first | refine ao_call rfl (r_Valid _) rfl ?_ ?_ | refine aq_call rfl (r_Valid _) rfl ?_ ?_)
      | (show allP _; first | trivial | exact ob1 (fun h => h) | exact ob2 (fun h => h) (fun h => h) | exact ob1 (fun h => ⟨h.1, trivial⟩) | (simp only [allP, obg, grd, allT, InR, decide_eq_true_eq, Bool.and_eq_true, Bool.not_eq_true', decide_eq_false_iff_not, List.nil_append, List.cons_append, List.append_nil, and_true, true_and]; first | omega | (intros; omega) | (simp only [Blk.len, List.length_set, List.length_append, List.length_cons, List.length_nil]; first | omega | (intros; omega)) | (refine ⟨?_, ?_⟩ <;> intros <;> first | (with_reducible assumption) | omega) | ((repeat' refine And.intro ?_ ?_) <;> (intros; first | (with_reducible assumption) | omega | (simp only [Blk.len, List.length_set, List.length_append, List.length_cons, List.length_nil]; omega))) | ((try simp only [Bool.or_eq_true, Bool.or_eq_false_iff, Bool.and_eq_true, Bool.and_eq_false_iff, decide_eq_true_eq, decide_eq_false_iff_not, Bool.not_eq_true', Bool.not_eq_false'] at *); (try simp only [Blk.len] at *); first | omega | (intros; omega)) | (simp_all; done))))
    (refine fin_ret ?_; exact ret1 (by rfl) (by (simp [fitsB])) (by rfl))

theorem r_Up (down : List Bool) (a : Int) (h : down.length = 0 ∨ 0 ≤ a ∧ a < down.length) : Ctr Try.prog 28 [boolsD down, iD a] [] (.d (bD (upB down a))) := by
  refine spec_of envOK (enters_of Try.func28 (by kernel_rfl) (by kernel_rfl)) Try.func28 rfl rfl _ rfl (Nat.le_of_ble_eq_true rfl) rfl fun w0 => ?_
  repeat' (first
  
    | refine aw_seq ?_
    | refine aw_region ?_
    | refine aw_region_q (by kernel_rfl) (by kernel_rfl) ?_
    | refine aw_block ?_
    | refine ao_nil ?_
    | refine ao_op rfl trivial ?_
    | refine aq_nil ?_
    | refine aq_op rfl trivial ?_
    | refine at_nil ?_
    | refine at_op rfl trivial ?_
    | refine am_nil ?_
    | refine am_op rfl trivial rfl ?_
    | refine aw_skip ?_
    | refine aw_condT rfl trivial ?_
    | refine aw_condF rfl trivial ?_
    | refine aw_condD rfl trivial (fun hc => ?_) (fun hc => ?_)
    | refine aw_condN rfl trivial (fun hc => ?_) (fun hc => ?_)
    | refine aw_condNB rfl trivial (fun hc => ?_) (fun hc => ?_)
    | refine aw_cond rfl trivial (fun hc => ?_) (fun hc => ?_)
    | refine aw_ret ?_
    | refine aw_exit ?_
    | refine ao_op rfl ?_ ?_
    | refine aq_op rfl ?_ ?_
    | refine at_op rfl ?_ ?_
    | refine am_op rfl ?_ rfl ?_
    | refine ao_box rfl trivial rfl rfl rfl ?_
    | refine ao_alloc rfl rfl rfl rfl ?_
    | refine ao_store rfl rfl trivial rfl trivial rfl rfl rfl rfl rfl ?_
  
    | (show allP _; first | trivial | exact ob1 (fun h => h) | exact ob2 (fun h => h) (fun h => h) | exact ob1 (fun h => ⟨h.1, trivial⟩) | (simp only [allP, obg, grd, allT, InR, decide_eq_true_eq, Bool.and_eq_true, Bool.not_eq_true', decide_eq_false_iff_not, List.nil_append, List.cons_append, List.append_nil, and_true, true_and]; first | omega | (intros; omega) | (simp only [Blk.len, List.length_set, List.length_append, List.length_cons, List.length_nil]; first | omega | (intros; omega)) | (refine ⟨?_, ?_⟩ <;> intros <;> first | (with_reducible assumption) | omega) | ((repeat' refine And.intro ?_ ?_) <;> (intros; first | (with_reducible assumption) | omega | (simp only [Blk.len, List.length_set, List.length_append, List.length_cons, List.length_nil]; omega))) | ((try simp only [Bool.or_eq_true, Bool.or_eq_false_iff, Bool.and_eq_true, Bool.and_eq_false_iff, decide_eq_true_eq, decide_eq_false_iff_not, Bool.not_eq_true', Bool.not_eq_false'] at *); (try simp only [Blk.len] at *); first | omega | (intros; omega)) | (simp_all; done))))
  (refine fin_ret ?_; exact ret1 (by rfl) (by (simp [upB])) (by rfl))

def transB (t : Topo) (n e : Int) : Bool := decide (n = e) || !overT t n
theorem r_transit (t : Topo) (n e : Int) : Ctr Try.prog 68 [topoD t, iD n, iD e] [] (.d (bD (transB t n e))) := by
  refine spec_of envOK (enters_of Try.func68 (by kernel_rfl) (by kernel_rfl)) Try.func68 rfl rfl _ rfl (Nat.le_of_ble_eq_true rfl) rfl fun w0 => ?_
  repeat' (first
  
    | refine aw_seq ?_
    | refine aw_region ?_
    | refine aw_region_q (by kernel_rfl) (by kernel_rfl) ?_
    | refine aw_block ?_
    | refine ao_nil ?_
    | refine ao_op rfl trivial ?_
    | refine aq_nil ?_
    | refine aq_op rfl trivial ?_
    | refine at_nil ?_
    | refine at_op rfl trivial ?_
    | refine am_nil ?_
    | refine am_op rfl trivial rfl ?_
    | refine aw_skip ?_
    | refine aw_condT rfl trivial ?_
    | refine aw_condF rfl trivial ?_
    | refine aw_condD rfl trivial (fun hc => ?_) (fun hc => ?_)
    | refine aw_condN rfl trivial (fun hc => ?_) (fun hc => ?_)
    | refine aw_condNB rfl trivial (fun hc => ?_) (fun hc => ?_)
    | refine aw_cond rfl trivial (fun hc => ?_) (fun hc => ?_)
    | refine aw_ret ?_
    | refine aw_exit ?_
    | refine ao_op rfl ?_ ?_
    | refine aq_op rfl ?_ ?_
    | refine at_op rfl ?_ ?_
    | refine am_op rfl ?_ rfl ?_
    | refine ao_box rfl trivial rfl rfl rfl ?_
    | refine ao_alloc rfl rfl rfl rfl ?_
    | refine ao_store rfl rfl trivial rfl trivial rfl rfl rfl rfl rfl ?_
    | (first | refine ao_call rfl (r_Overloaded _ _) rfl ?_ ?_ | refine aq_call rfl (r_Overloaded _ _) rfl ?_ ?_)
    | (show allP _; first | trivial | exact ob1 (fun h => h) | exact ob2 (fun h => h) (fun h => h) | exact ob1 (fun h => ⟨h.1, trivial⟩) | (simp only [allP, obg, grd, allT, InR, decide_eq_true_eq, Bool.and_eq_true, Bool.not_eq_true', decide_eq_false_iff_not, List.nil_append, List.cons_append, List.append_nil, and_true, true_and]; first | omega | (intros; omega) | (simp only [Blk.len, List.length_set, List.length_append, List.length_cons, List.length_nil]; first | omega | (intros; omega)) | (refine ⟨?_, ?_⟩ <;> intros <;> first | (with_reducible assumption) | omega) | ((repeat' refine And.intro ?_ ?_) <;> (intros; first | (with_reducible assumption) | omega | (simp only [Blk.len, List.length_set, List.length_append, List.length_cons, List.length_nil]; omega))) | ((try simp only [Bool.or_eq_true, Bool.or_eq_false_iff, Bool.and_eq_true, Bool.and_eq_false_iff, decide_eq_true_eq, decide_eq_false_iff_not, Bool.not_eq_true', Bool.not_eq_false'] at *); (try simp only [Blk.len] at *); first | omega | (intros; omega)) | (simp_all; done))))
  (refine fin_ret ?_; exact ret1 (by rfl) (by rfl) (by rfl))

theorem cl_skip {t : Topo} {down : List Bool} {n : Int} {fr : Bool} {l : List Int} {a : Int} (h : (!upB down a || decide (gI l (nearT t fr a) < 0) || !transB t (nearT t fr a) n) = true) : closed t down n fr l a := by
  intro hok hn
  simp only [Bool.or_eq_true, Bool.not_eq_true', decide_eq_true_eq] at h
  rcases h with (h | h) | h
  · rw [hok.1] at h; cases h
  · omega
  · simp only [transB, Bool.or_eq_false_iff, decide_eq_false_iff_not, Bool.not_eq_false'] at h
    rcases hok.2 with h2 | h2
    · exact absurd h2 h.1
    · rw [h2] at h; cases h.2
theorem ok_of {t : Topo} {down : List Bool} {n : Int} {fr : Bool} {l : List Int} {a : Int} (h : (!upB down a || decide (gI l (nearT t fr a) < 0) || !transB t (nearT t fr a) n) = false) : okA t down n fr a ∧ 0 ≤ gI l (nearT t fr a) := by
  simp only [Bool.or_eq_false_iff, Bool.not_eq_false', decide_eq_false_iff_not] at h
  obtain ⟨⟨h1, h2⟩, h3⟩ := h
  refine ⟨⟨h1, ?_⟩, by omega⟩
  simp only [transB, Bool.or_eq_true, decide_eq_true_eq, Bool.not_eq_true'] at h3
  exact h3

set_option maxHeartbeats 4000000 in
theorem rs_inner {Q : Exit → Fr → List Blk → Prop} {w0 : World} {t : Topo} {down : List Bool} {n : Int} {fr : Bool} {l : List Int} (hf : fitsB t down = true) (h0 : 0 ≤ n) (h1 : n < t.nodes) (H : BF t down n fr l)
    (hQ : ∀ (l' : List Int) (ch : Bool) F S, BF t down n fr l' → (ch = false → l' = l ∧ IsDist t down n fr l) → (ch = true → msr l' < msr l) → subF F [(12, [], .d (bD ch)), (10, [], .own 1), (4, [], .ptr 0 0), (1, [], .d (boolsD down)), (2, [], .d (iD n)), (3, [], .d (bD fr))] →
      subS S [tBlk t, .ints .i64 l'] → Q (.exit 4) F S) :
    AW Try.prog env (Base.of w0) Try.f64.ntmps (loopC Try.f64 15) Q
      [(13, [], .d (iD 0)), (12, [], .d (bD false)), (10, [], .own 1), (4, [], .ptr 0 0), (1, [], .d (boolsD down)), (2, [], .d (iD n)), (3, [], .d (bD fr))] [tBlk t, .ints .i64 l] := by
  have hv := fitsB_v hf
  have hnn := validB_head hv
  refine aw_loop (ι := List Int × Bool × Nat) (fun s => [(13, [], .d (iD s.2.2)), (12, [], .d (bD s.2.1)), (10, [], .own 1), (4, [], .ptr 0 0), (1, [], .d (boolsD down)), (2, [], .d (iD n)), (3, [], .d (bD fr))])
    (fun s => [tBlk t, .ints .i64 s.1])
    (fun s => s.2.2 ≤ 2 * t.links.length ∧ BF t down n fr s.1 ∧ (s.2.1 = false → s.1 = l ∧ ∀ b : Nat, b < s.2.2 → closed t down n fr l b) ∧ (s.2.1 = true → msr s.1 < msr l)) (fun s => 2 * t.links.length - s.2.2) (l, false, 0)
    ⟨by simp, H, fun _ => ⟨rfl, fun b hb => by simp at hb⟩, fun h => by cases h⟩ (fun _ => Nat.le_of_ble_eq_true rfl) (by refine weak_to ?_ ?_ rfl rfl
                                                                                                                          · repeat (first | exact subF_nil | refine subF_cons (by first | rfl | (simp [look]; done)) ?_)
                                                                                                                          · repeat (first | exact subS_nil | refine subS_cons (by first | rfl | (simp; done)) ?_)) fun s hs => ?_
  obtain ⟨o, ch, a⟩ := s
  obtain ⟨ha, HB, hc0, hc1⟩ := hs
  simp only at ha HB hc0 hc1 ⊢
  have hol := HB.len
  by_cases hal : a < 2 * t.links.length
  · have hb := arc_ok hv (a := (a : Int)) (by omega) (by omega)
    have hup : down.length = 0 ∨ 0 ≤ (a : Int) ∧ (a : Int) < down.length := by
      simp only [fitsB, Bool.and_eq_true, Bool.or_eq_true, decide_eq_true_eq] at hf
      omega
    have hy1 : o.getD (headT t (a : Int)).toNat 0 ≤ 65535 * 63 := HB.le hv hb.2.2.1 hb.2.2.2.1
    have hy2 : o.getD (tailT t (a : Int)).toNat 0 ≤ 65535 * 63 := HB.le hv hb.1 hb.2.1
    cases fr
    · repeat' (first
      
        | refine aw_seq ?_
        | refine aw_region ?_
        | refine aw_region_q (by kernel_rfl) (by kernel_rfl) ?_
        | refine aw_block ?_
        | refine ao_nil ?_
        | refine ao_op rfl trivial ?_
        | refine aq_nil ?_
        | refine aq_op rfl trivial ?_
        | refine at_nil ?_
        | refine at_op rfl trivial ?_
        | refine am_nil ?_
        | refine am_op rfl trivial rfl ?_
        | refine aw_skip ?_
        | refine aw_condT rfl trivial ?_
        | refine aw_condF rfl trivial ?_
        | refine aw_condD rfl trivial (fun hc => ?_) (fun hc => ?_)
        | refine aw_condN rfl trivial (fun hc => ?_) (fun hc => ?_)
        | refine aw_condNB rfl trivial (fun hc => ?_) (fun hc => ?_)
        | refine aw_cond rfl trivial (fun hc => ?_) (fun hc => ?_)
        | refine aw_ret ?_
        | refine aw_exit ?_
        | refine ao_op rfl ?_ ?_
        | refine aq_op rfl ?_ ?_
        | refine at_op rfl ?_ ?_
        | refine am_op rfl ?_ rfl ?_
        | refine ao_box rfl trivial rfl rfl rfl ?_
        | refine ao_alloc rfl rfl rfl rfl ?_
        | refine ao_store rfl rfl trivial rfl trivial rfl rfl rfl rfl rfl ?_
        | (first | refine ao_call rfl (r_Tail _ _) rfl ?_ ?_ | refine aq_call rfl (r_Tail _ _) rfl ?_ ?_)
        | (first | refine ao_call rfl (r_Head _ _) rfl ?_ ?_ | refine aq_call rfl (r_Head _ _) rfl ?_ ?_)
        | (first | refine ao_call rfl (r_Up down _ hup) rfl ?_ ?_ | refine aq_call rfl (r_Up down _ hup) rfl ?_ ?_)
        | (first | refine ao_call rfl (r_transit _ _ _) rfl ?_ ?_ | refine aq_call rfl (r_transit _ _ _) rfl ?_ ?_)
        | (first | refine ao_call rfl (r_Cost _ _) rfl ?_ ?_ | refine aq_call rfl (r_Cost _ _) rfl ?_ ?_)
        | refine ao_store_ep rfl rfl trivial rfl trivial rfl rfl rfl rfl rfl rfl ?_
        | (show allP _; first | trivial | exact ob1 (fun h => h) | exact ob2 (fun h => h) (fun h => h) | exact ob1 (fun h => ⟨h.1, trivial⟩) | (simp only [allP, obg, grd, allT, InR, decide_eq_true_eq, Bool.and_eq_true, Bool.not_eq_true', decide_eq_false_iff_not, List.nil_append, List.cons_append, List.append_nil, and_true, true_and]; first | omega | (intros; omega) | (simp only [Blk.len, List.length_set, List.length_append, List.length_cons, List.length_nil]; first | omega | (intros; omega)) | (refine ⟨?_, ?_⟩ <;> intros <;> first | (with_reducible assumption) | omega) | ((repeat' refine And.intro ?_ ?_) <;> (intros; first | (with_reducible assumption) | omega | (simp only [Blk.len, List.length_set, List.length_append, List.length_cons, List.length_nil]; omega))) | ((try simp only [Bool.or_eq_true, Bool.or_eq_false_iff, Bool.and_eq_true, Bool.and_eq_false_iff, decide_eq_true_eq, decide_eq_false_iff_not, Bool.not_eq_true', Bool.not_eq_false'] at *); (try simp only [Blk.len] at *); first | omega | (intros; omega)) | (simp_all; done))))
      all_goals try (exfalso; omega)
      · have hcl : closed t down n false o (a : Int) := cl_skip hc
        refine ⟨(o, ch, a + 1), ⟨by simp only; omega, HB, fun h => ⟨(hc0 h).1, fun b hb => ?_⟩, hc1⟩, by simp only; omega, ?_⟩
        · rcases Nat.lt_succ_iff_lt_or_eq.1 hb with hb | rfl
          · exact (hc0 h).2 b hb
          · rw [(hc0 h).1] at hcl; exact hcl
        · refine weak_to ?_ ?_ rfl rfl
          · repeat (first | exact subF_nil | refine subF_cons (by first | rfl | (simp [look]; done)) ?_)
          · repeat (first | exact subS_nil | refine subS_cons (by first | rfl | (simp; done)) ?_)
      · rename_i hn
        obtain ⟨hok, hnn0⟩ := ok_of (fr := false) hn
        simp only [Bool.or_eq_true, decide_eq_true_eq] at hc
        obtain ⟨u1, u2⟩ := HB.upd hv h0 (by omega) (by omega) hok hnn0 hc
        refine ⟨(o.set (farT t false a).toNat (gI o (nearT t false a) + costT t a), true, a + 1), ⟨by simp only; omega, u1, (fun h => by cases h), fun _ => ?_⟩, by simp only; omega, ?_⟩
        · cases hch : ch with
          | false => rw [(hc0 hch).1] at u2 ⊢; exact u2
          | true => have := hc1 hch; simp only; omega
        · refine weak_to ?_ ?_ rfl rfl
          · repeat (first | exact subF_nil | refine subF_cons (by first | rfl | (simp [look]; done)) ?_)
          · repeat (first | exact subS_nil | refine subS_cons (by first | rfl | (simp; done)) ?_)
      · rename_i hn
        obtain ⟨hok, hnn0⟩ := ok_of (fr := false) hn
        have hcl : closed t down n false o (a : Int) := fun _ _ => by
          simp only [Bool.or_eq_false_iff, decide_eq_false_iff_not] at hc
          simp only [gI, nearT, farT, cond_true, cond_false] at hc ⊢
          omega
        refine ⟨(o, ch, a + 1), ⟨by simp only; omega, HB, fun h => ⟨(hc0 h).1, fun b hb => ?_⟩, hc1⟩, by simp only; omega, ?_⟩
        · rcases Nat.lt_succ_iff_lt_or_eq.1 hb with hb | rfl
          · exact (hc0 h).2 b hb
          · rw [(hc0 h).1] at hcl; exact hcl
        · refine weak_to ?_ ?_ rfl rfl
          · repeat (first | exact subF_nil | refine subF_cons (by first | rfl | (simp [look]; done)) ?_)
          · repeat (first | exact subS_nil | refine subS_cons (by first | rfl | (simp; done)) ?_)
    · repeat' (first
      
        | refine aw_seq ?_
        | refine aw_region ?_
        | refine aw_region_q (by kernel_rfl) (by kernel_rfl) ?_
        | refine aw_block ?_
        | refine ao_nil ?_
        | refine ao_op rfl trivial ?_
        | refine aq_nil ?_
        | refine aq_op rfl trivial ?_
        | refine at_nil ?_
        | refine at_op rfl trivial ?_
        | refine am_nil ?_
        | refine am_op rfl trivial rfl ?_
        | refine aw_skip ?_
        | refine aw_condT rfl trivial ?_
        | refine aw_condF rfl trivial ?_
        | refine aw_condD rfl trivial (fun hc => ?_) (fun hc => ?_)
        | refine aw_condN rfl trivial (fun hc => ?_) (fun hc => ?_)
        | refine aw_condNB rfl trivial (fun hc => ?_) (fun hc => ?_)
        | refine aw_cond rfl trivial (fun hc => ?_) (fun hc => ?_)
        | refine aw_ret ?_
        | refine aw_exit ?_
        | refine ao_op rfl ?_ ?_
        | refine aq_op rfl ?_ ?_
        | refine at_op rfl ?_ ?_
        | refine am_op rfl ?_ rfl ?_
        | refine ao_box rfl trivial rfl rfl rfl ?_
        | refine ao_alloc rfl rfl rfl rfl ?_
        | refine ao_store rfl rfl trivial rfl trivial rfl rfl rfl rfl rfl ?_
        | (first | refine ao_call rfl (r_Tail _ _) rfl ?_ ?_ | refine aq_call rfl (r_Tail _ _) rfl ?_ ?_)
        | (first | refine ao_call rfl (r_Head _ _) rfl ?_ ?_ | refine aq_call rfl (r_Head _ _) rfl ?_ ?_)
        | (first | refine ao_call rfl (r_Up down _ hup) rfl ?_ ?_ | refine aq_call rfl (r_Up down _ hup) rfl ?_ ?_)
        | (first | refine ao_call rfl (r_transit _ _ _) rfl ?_ ?_ | refine aq_call rfl (r_transit _ _ _) rfl ?_ ?_)
        | (first | refine ao_call rfl (r_Cost _ _) rfl ?_ ?_ | refine aq_call rfl (r_Cost _ _) rfl ?_ ?_)
        | refine ao_store_ep rfl rfl trivial rfl trivial rfl rfl rfl rfl rfl rfl ?_
        | (show allP _; first | trivial | exact ob1 (fun h => h) | exact ob2 (fun h => h) (fun h => h) | exact ob1 (fun h => ⟨h.1, trivial⟩) | (simp only [allP, obg, grd, allT, InR, decide_eq_true_eq, Bool.and_eq_true, Bool.not_eq_true', decide_eq_false_iff_not, List.nil_append, List.cons_append, List.append_nil, and_true, true_and]; first | omega | (intros; omega) | (simp only [Blk.len, List.length_set, List.length_append, List.length_cons, List.length_nil]; first | omega | (intros; omega)) | (refine ⟨?_, ?_⟩ <;> intros <;> first | (with_reducible assumption) | omega) | ((repeat' refine And.intro ?_ ?_) <;> (intros; first | (with_reducible assumption) | omega | (simp only [Blk.len, List.length_set, List.length_append, List.length_cons, List.length_nil]; omega))) | ((try simp only [Bool.or_eq_true, Bool.or_eq_false_iff, Bool.and_eq_true, Bool.and_eq_false_iff, decide_eq_true_eq, decide_eq_false_iff_not, Bool.not_eq_true', Bool.not_eq_false'] at *); (try simp only [Blk.len] at *); first | omega | (intros; omega)) | (simp_all; done))))
      all_goals try (exfalso; omega)
      · have hcl : closed t down n true o (a : Int) := cl_skip hc
        refine ⟨(o, ch, a + 1), ⟨by simp only; omega, HB, fun h => ⟨(hc0 h).1, fun b hb => ?_⟩, hc1⟩, by simp only; omega, ?_⟩
        · rcases Nat.lt_succ_iff_lt_or_eq.1 hb with hb | rfl
          · exact (hc0 h).2 b hb
          · rw [(hc0 h).1] at hcl; exact hcl
        · refine weak_to ?_ ?_ rfl rfl
          · repeat (first | exact subF_nil | refine subF_cons (by first | rfl | (simp [look]; done)) ?_)
          · repeat (first | exact subS_nil | refine subS_cons (by first | rfl | (simp; done)) ?_)
      · rename_i hn
        obtain ⟨hok, hnn0⟩ := ok_of (fr := true) hn
        simp only [Bool.or_eq_true, decide_eq_true_eq] at hc
        obtain ⟨u1, u2⟩ := HB.upd hv h0 (by omega) (by omega) hok hnn0 hc
        refine ⟨(o.set (farT t true a).toNat (gI o (nearT t true a) + costT t a), true, a + 1), ⟨by simp only; omega, u1, (fun h => by cases h), fun _ => ?_⟩, by simp only; omega, ?_⟩
        · cases hch : ch with
          | false => rw [(hc0 hch).1] at u2 ⊢; exact u2
          | true => have := hc1 hch; simp only; omega
        · refine weak_to ?_ ?_ rfl rfl
          · repeat (first | exact subF_nil | refine subF_cons (by first | rfl | (simp [look]; done)) ?_)
          · repeat (first | exact subS_nil | refine subS_cons (by first | rfl | (simp; done)) ?_)
      · rename_i hn
        obtain ⟨hok, hnn0⟩ := ok_of (fr := true) hn
        have hcl : closed t down n true o (a : Int) := fun _ _ => by
          simp only [Bool.or_eq_false_iff, decide_eq_false_iff_not] at hc
          simp only [gI, nearT, farT, cond_true, cond_false] at hc ⊢
          omega
        refine ⟨(o, ch, a + 1), ⟨by simp only; omega, HB, fun h => ⟨(hc0 h).1, fun b hb => ?_⟩, hc1⟩, by simp only; omega, ?_⟩
        · rcases Nat.lt_succ_iff_lt_or_eq.1 hb with hb | rfl
          · exact (hc0 h).2 b hb
          · rw [(hc0 h).1] at hcl; exact hcl
        · refine weak_to ?_ ?_ rfl rfl
          · repeat (first | exact subF_nil | refine subF_cons (by first | rfl | (simp [look]; done)) ?_)
          · repeat (first | exact subS_nil | refine subS_cons (by first | rfl | (simp; done)) ?_)
  · repeat' (first
    
      | refine aw_seq ?_
      | refine aw_region ?_
      | refine aw_region_q (by kernel_rfl) (by kernel_rfl) ?_
      | refine aw_block ?_
      | refine ao_nil ?_
      | refine ao_op rfl trivial ?_
      | refine aq_nil ?_
      | refine aq_op rfl trivial ?_
      | refine at_nil ?_
      | refine at_op rfl trivial ?_
      | refine am_nil ?_
      | refine am_op rfl trivial rfl ?_
      | refine aw_skip ?_
      | refine aw_condT rfl trivial ?_
      | refine aw_condF rfl trivial ?_
      | refine aw_condD rfl trivial (fun hc => ?_) (fun hc => ?_)
      | refine aw_condN rfl trivial (fun hc => ?_) (fun hc => ?_)
      | refine aw_condNB rfl trivial (fun hc => ?_) (fun hc => ?_)
      | refine aw_cond rfl trivial (fun hc => ?_) (fun hc => ?_)
      | refine aw_ret ?_
      | refine aw_exit ?_
      | refine ao_op rfl ?_ ?_
      | refine aq_op rfl ?_ ?_
      | refine at_op rfl ?_ ?_
      | refine am_op rfl ?_ rfl ?_
      | refine ao_box rfl trivial rfl rfl rfl ?_
      | refine ao_alloc rfl rfl rfl rfl ?_
      | refine ao_store rfl rfl trivial rfl trivial rfl rfl rfl rfl rfl ?_
      | (exfalso; omega)
      | (show allP _; first | trivial | exact ob1 (fun h => h) | exact ob2 (fun h => h) (fun h => h) | exact ob1 (fun h => ⟨h.1, trivial⟩) | (simp only [allP, obg, grd, allT, InR, decide_eq_true_eq, Bool.and_eq_true, Bool.not_eq_true', decide_eq_false_iff_not, List.nil_append, List.cons_append, List.append_nil, and_true, true_and]; first | omega | (intros; omega) | (simp only [Blk.len, List.length_set, List.length_append, List.length_cons, List.length_nil]; first | omega | (intros; omega)) | (refine ⟨?_, ?_⟩ <;> intros <;> first | (with_reducible assumption) | omega) | ((repeat' refine And.intro ?_ ?_) <;> (intros; first | (with_reducible assumption) | omega | (simp only [Blk.len, List.length_set, List.length_append, List.length_cons, List.length_nil]; omega))) | ((try simp only [Bool.or_eq_true, Bool.or_eq_false_iff, Bool.and_eq_true, Bool.and_eq_false_iff, decide_eq_true_eq, decide_eq_false_iff_not, Bool.not_eq_true', Bool.not_eq_false'] at *); (try simp only [Blk.len] at *); first | omega | (intros; omega)) | (simp_all; done))))
    refine hQ o ch _ _ HB (fun h => ?_) hc1 (by repeat (first | exact subF_nil | refine subF_cons rfl ?_)) (by (repeat (first | exact subS_nil | refine subS_cons (by first | rfl | rfl) ?_)))
    obtain ⟨e, hcl⟩ := hc0 h
    refine ⟨e, H.fin fun b b0 b1 => ?_⟩
    have := hcl b.toNat (by omega)
    rwa [show ((b.toNat : Nat) : Int) = b by omega] at this
end Go.Proofs.Ytcnfggpcploehaa

/- The reference of layer 11: search. -/
namespace Go.Proofs.Ytcnfggpcploehaa
set_option maxRecDepth 10000
open Go.Wk

theorem r_search (t : Topo) (down : List Bool) (n : Int) (fr : Bool) : Ctr Try.prog 64 [topoD t, boolsD down, iD n, bD fr] [.ints .i64 (distL t down n fr)] (.tup [.own 0, .d (iD (errS t down n))]) := by
  refine spec_of envOK (enters_of Try.func64 (by kernel_rfl) (by kernel_rfl)) Try.func64 rfl rfl _ rfl (Nat.le_of_ble_eq_true rfl) rfl fun w0 => ?_
  repeat' (first
  
    | refine aw_seq ?_
    | refine aw_region ?_
    | refine aw_region_q (by kernel_rfl) (by kernel_rfl) ?_
    | refine aw_block ?_
    | refine ao_nil ?_
    | refine ao_op rfl trivial ?_
    | refine aq_nil ?_
    | refine aq_op rfl trivial ?_
    | refine at_nil ?_
    | refine at_op rfl trivial ?_
    | refine am_nil ?_
    | refine am_op rfl trivial rfl ?_
    | refine aw_skip ?_
    | refine aw_condT rfl trivial ?_
    | refine aw_condF rfl trivial ?_
    | refine aw_condD rfl trivial (fun hc => ?_) (fun hc => ?_)
    | refine aw_condN rfl trivial (fun hc => ?_) (fun hc => ?_)
    | refine aw_condNB rfl trivial (fun hc => ?_) (fun hc => ?_)
    | refine aw_cond rfl trivial (fun hc => ?_) (fun hc => ?_)
    | refine aw_ret ?_
    | refine aw_exit ?_
    | refine ao_op rfl ?_ ?_
    | refine aq_op rfl ?_ ?_
    | refine at_op rfl ?_ ?_
    | refine am_op rfl ?_ rfl ?_
    | refine ao_box rfl trivial rfl rfl rfl ?_
    | refine ao_alloc rfl rfl rfl rfl ?_
    | refine ao_store rfl rfl trivial rfl trivial rfl rfl rfl rfl rfl ?_
    | refine ao_call rfl (r_Fits _ _) rfl ?_ ?_
    | (show allP _; first | trivial | exact ob1 (fun h => h) | exact ob2 (fun h => h) (fun h => h) | exact ob1 (fun h => ⟨h.1, trivial⟩) | (simp only [allP, obg, grd, allT, InR, decide_eq_true_eq, Bool.and_eq_true, Bool.not_eq_true', decide_eq_false_iff_not, List.nil_append, List.cons_append, List.append_nil, and_true, true_and]; first | omega | (intros; omega) | (simp only [Blk.len, List.length_set, List.length_append, List.length_cons, List.length_nil]; first | omega | (intros; omega)) | (refine ⟨?_, ?_⟩ <;> intros <;> first | (with_reducible assumption) | omega) | ((repeat' refine And.intro ?_ ?_) <;> (intros; first | (with_reducible assumption) | omega | (simp only [Blk.len, List.length_set, List.length_append, List.length_cons, List.length_nil]; omega))) | ((try simp only [Bool.or_eq_true, Bool.or_eq_false_iff, Bool.and_eq_true, Bool.and_eq_false_iff, decide_eq_true_eq, decide_eq_false_iff_not, Bool.not_eq_true', Bool.not_eq_false'] at *); (try simp only [Blk.len] at *); first | omega | (intros; omega)) | (simp_all; done))))
  · have he : errS t down n = 1 := by unfold errS; rw [hc]; rfl
    refine fin_ret ?_; exact retNil2 rfl (by simp [distL, he, Blk.len]) (by rw [he]) trivial rfl
  · rename_i hf
    have he : errS t down n = 2 := by unfold errS; rw [hf, hc]; rfl
    refine fin_ret ?_; exact retNil2 rfl (by simp [distL, he, Blk.len]) (by rw [he]) trivial rfl
  rename_i hf
  have herr : errS t down n = 0 := by unfold errS; rw [hf, hc]; rfl
  obtain ⟨_, n0, n1⟩ := errS_0 herr
  have hv := fitsB_v hf
  have hnn := validB_head hv
  repeat' (first
  
    | refine aw_seq ?_
    | refine aw_region ?_
    | refine aw_region_q (by kernel_rfl) (by kernel_rfl) ?_
    | refine aw_block ?_
    | refine ao_nil ?_
    | refine ao_op rfl trivial ?_
    | refine aq_nil ?_
    | refine aq_op rfl trivial ?_
    | refine at_nil ?_
    | refine at_op rfl trivial ?_
    | refine am_nil ?_
    | refine am_op rfl trivial rfl ?_
    | refine aw_skip ?_
    | refine aw_condT rfl trivial ?_
    | refine aw_condF rfl trivial ?_
    | refine aw_condD rfl trivial (fun hc => ?_) (fun hc => ?_)
    | refine aw_condN rfl trivial (fun hc => ?_) (fun hc => ?_)
    | refine aw_condNB rfl trivial (fun hc => ?_) (fun hc => ?_)
    | refine aw_cond rfl trivial (fun hc => ?_) (fun hc => ?_)
    | refine aw_ret ?_
    | refine aw_exit ?_
    | refine ao_op rfl ?_ ?_
    | refine aq_op rfl ?_ ?_
    | refine at_op rfl ?_ ?_
    | refine am_op rfl ?_ rfl ?_
    | refine ao_box rfl trivial rfl rfl rfl ?_
    | refine ao_alloc rfl rfl rfl rfl ?_
    | refine ao_store rfl rfl trivial rfl trivial rfl rfl rfl rfl rfl ?_
    | refine ao_make rfl rfl rfl rfl trivial rfl trivial (by first | omega | (dsimp only; omega)) (by first | omega | (dsimp only; omega)) (by first | omega | (dsimp only; omega)) rfl rfl rfl ?_
    | (show allP _; first | trivial | exact ob1 (fun h => h) | exact ob2 (fun h => h) (fun h => h) | exact ob1 (fun h => ⟨h.1, trivial⟩) | (simp only [allP, obg, grd, allT, InR, decide_eq_true_eq, Bool.and_eq_true, Bool.not_eq_true', decide_eq_false_iff_not, List.nil_append, List.cons_append, List.append_nil, and_true, true_and]; first | omega | (intros; omega) | (simp only [Blk.len, List.length_set, List.length_append, List.length_cons, List.length_nil]; first | omega | (intros; omega)) | (refine ⟨?_, ?_⟩ <;> intros <;> first | (with_reducible assumption) | omega) | ((repeat' refine And.intro ?_ ?_) <;> (intros; first | (with_reducible assumption) | omega | (simp only [Blk.len, List.length_set, List.length_append, List.length_cons, List.length_nil]; omega))) | ((try simp only [Bool.or_eq_true, Bool.or_eq_false_iff, Bool.and_eq_true, Bool.and_eq_false_iff, decide_eq_true_eq, decide_eq_false_iff_not, Bool.not_eq_true', Bool.not_eq_false'] at *); (try simp only [Blk.len] at *); first | omega | (intros; omega)) | (simp_all; done))))
  refine aw_loop (ι := List Int × Nat) (fun s => [(11, [], .d (iD s.2)), (10, [], .own 1), (4, [], .ptr 0 0), (1, [], .d (boolsD down)), (2, [], .d (iD n)), (3, [], .d (bD fr))])
    (fun s => [tBlk t, .ints .i64 s.1])
    (fun s => s.1.length = t.nodes.toNat ∧ s.2 ≤ t.nodes.toNat ∧ ∀ j, j < s.2 → s.1.getD j 0 = -1) (fun s => t.nodes.toNat - s.2) (List.replicate t.nodes.toNat 0, 0) ⟨by simp, by simp, fun j hj => by simp at hj⟩ (fun _ => Nat.le_of_ble_eq_true rfl) (by refine weak_to ?_ ?_ rfl rfl
                                                                                                                                                                                                                                                             · repeat (first | exact subF_nil | refine subF_cons (by first | rfl | (simp [look]; done)) ?_)
                                                                                                                                                                                                                                                             · repeat (first | exact subS_nil | refine subS_cons (by first | rfl | (simp; done)) ?_)) fun s hs => ?_
  obtain ⟨p, i⟩ := s
  obtain ⟨hp, hi, hj⟩ := hs
  simp only at hp hi hj ⊢
  have hbl : Blk.len (.ints .i64 p) = p.length := rfl
  repeat' (first
  
    | refine aw_seq ?_
    | refine aw_region ?_
    | refine aw_region_q (by kernel_rfl) (by kernel_rfl) ?_
    | refine aw_block ?_
    | refine ao_nil ?_
    | refine ao_op rfl trivial ?_
    | refine aq_nil ?_
    | refine aq_op rfl trivial ?_
    | refine at_nil ?_
    | refine at_op rfl trivial ?_
    | refine am_nil ?_
    | refine am_op rfl trivial rfl ?_
    | refine aw_skip ?_
    | refine aw_condT rfl trivial ?_
    | refine aw_condF rfl trivial ?_
    | refine aw_condD rfl trivial (fun hc => ?_) (fun hc => ?_)
    | refine aw_condN rfl trivial (fun hc => ?_) (fun hc => ?_)
    | refine aw_condNB rfl trivial (fun hc => ?_) (fun hc => ?_)
    | refine aw_cond rfl trivial (fun hc => ?_) (fun hc => ?_)
    | refine aw_ret ?_
    | refine aw_exit ?_
    | refine ao_op rfl ?_ ?_
    | refine aq_op rfl ?_ ?_
    | refine at_op rfl ?_ ?_
    | refine am_op rfl ?_ rfl ?_
    | refine ao_box rfl trivial rfl rfl rfl ?_
    | refine ao_alloc rfl rfl rfl rfl ?_
    | refine ao_store rfl rfl trivial rfl trivial rfl rfl rfl rfl rfl ?_
    | refine ao_store_ep rfl rfl trivial rfl trivial rfl rfl rfl rfl rfl rfl ?_
    | (show allP _; first | trivial | exact ob1 (fun h => h) | exact ob2 (fun h => h) (fun h => h) | exact ob1 (fun h => ⟨h.1, trivial⟩) | (simp only [allP, obg, grd, allT, InR, decide_eq_true_eq, Bool.and_eq_true, Bool.not_eq_true', decide_eq_false_iff_not, List.nil_append, List.cons_append, List.append_nil, and_true, true_and]; first | omega | (intros; omega) | (simp only [Blk.len, List.length_set, List.length_append, List.length_cons, List.length_nil]; first | omega | (intros; omega)) | (refine ⟨?_, ?_⟩ <;> intros <;> first | (with_reducible assumption) | omega) | ((repeat' refine And.intro ?_ ?_) <;> (intros; first | (with_reducible assumption) | omega | (simp only [Blk.len, List.length_set, List.length_append, List.length_cons, List.length_nil]; omega))) | ((try simp only [Bool.or_eq_true, Bool.or_eq_false_iff, Bool.and_eq_true, Bool.and_eq_false_iff, decide_eq_true_eq, decide_eq_false_iff_not, Bool.not_eq_true', Bool.not_eq_false'] at *); (try simp only [Blk.len] at *); first | omega | (intros; omega)) | (simp_all; done))))
  · rw [show (Int.toNat (i : Int)) = i from rfl]
    refine ⟨(p.set i (-1), i + 1), ⟨by simpa using hp, by simp only; omega, fun j hj' => ?_⟩, by simp only; omega, ?_⟩
    · simp only at hj' ⊢
      rw [getD_set]
      split
      · rfl
      · exact hj j (by omega)
    · refine weak_to ?_ ?_ rfl rfl
      · repeat (first | exact subF_nil | refine subF_cons (by first | rfl | (simp [look]; done)) ?_)
      · repeat (first | exact subS_nil | refine subS_cons (by first | rfl | (simp; done)) ?_)
  have hpe : p = List.replicate t.nodes.toNat (-1) := by
    refine extD (by simpa using hp) fun j hj' => ?_
    rw [hj j (by omega), List.getD_eq_getElem?_getD, List.getElem?_replicate, if_pos (by omega)]; rfl
  subst hpe
  refine aw_loop (ι := List Int × Bool) (fun s => [(12, [], .d (bD s.2)), (10, [], .own 1), (4, [], .ptr 0 0), (1, [], .d (boolsD down)), (2, [], .d (iD n)), (3, [], .d (bD fr))])
    (fun s => [tBlk t, .ints .i64 s.1]) (fun s => BF t down n fr s.1 ∧ (s.2 = false → IsDist t down n fr s.1)) (fun s => 2 * msr s.1 + (bif s.2 then 1 else 0)) ((List.replicate t.nodes.toNat (-1)).set n.toNat 0, true) ⟨BF.init n0 n1, fun h => by cases h⟩ (fun _ => Nat.le_of_ble_eq_true rfl) (by refine weak_to ?_ ?_ rfl rfl
                                                                                                                                                                                                                                                                                                        · repeat (first | exact subF_nil | refine subF_cons (by first | rfl | (simp [look]; done)) ?_)
                                                                                                                                                                                                                                                                                                        · repeat (first | exact subS_nil | refine subS_cons (by first | rfl | (simp; done)) ?_)) fun s hs => ?_
  obtain ⟨l, ch⟩ := s
  obtain ⟨HB, hD⟩ := hs
  simp only at HB hD ⊢
  cases ch with
  | false =>
    repeat' (first
    
      | refine aw_seq ?_
      | refine aw_region ?_
      | refine aw_region_q (by kernel_rfl) (by kernel_rfl) ?_
      | refine aw_block ?_
      | refine ao_nil ?_
      | refine ao_op rfl trivial ?_
      | refine aq_nil ?_
      | refine aq_op rfl trivial ?_
      | refine at_nil ?_
      | refine at_op rfl trivial ?_
      | refine am_nil ?_
      | refine am_op rfl trivial rfl ?_
      | refine aw_skip ?_
      | refine aw_condT rfl trivial ?_
      | refine aw_condF rfl trivial ?_
      | refine aw_condD rfl trivial (fun hc => ?_) (fun hc => ?_)
      | refine aw_condN rfl trivial (fun hc => ?_) (fun hc => ?_)
      | refine aw_condNB rfl trivial (fun hc => ?_) (fun hc => ?_)
      | refine aw_cond rfl trivial (fun hc => ?_) (fun hc => ?_)
      | refine aw_ret ?_
      | refine aw_exit ?_
      | refine ao_op rfl ?_ ?_
      | refine aq_op rfl ?_ ?_
      | refine at_op rfl ?_ ?_
      | refine am_op rfl ?_ rfl ?_
      | refine ao_box rfl trivial rfl rfl rfl ?_
      | refine ao_alloc rfl rfl rfl rfl ?_
      | refine ao_store rfl rfl trivial rfl trivial rfl rfl rfl rfl rfl ?_
    
      | (show allP _; first | trivial | exact ob1 (fun h => h) | exact ob2 (fun h => h) (fun h => h) | exact ob1 (fun h => ⟨h.1, trivial⟩) | (simp only [allP, obg, grd, allT, InR, decide_eq_true_eq, Bool.and_eq_true, Bool.not_eq_true', decide_eq_false_iff_not, List.nil_append, List.cons_append, List.append_nil, and_true, true_and]; first | omega | (intros; omega) | (simp only [Blk.len, List.length_set, List.length_append, List.length_cons, List.length_nil]; first | omega | (intros; omega)) | (refine ⟨?_, ?_⟩ <;> intros <;> first | (with_reducible assumption) | omega) | ((repeat' refine And.intro ?_ ?_) <;> (intros; first | (with_reducible assumption) | omega | (simp only [Blk.len, List.length_set, List.length_append, List.length_cons, List.length_nil]; omega))) | ((try simp only [Bool.or_eq_true, Bool.or_eq_false_iff, Bool.and_eq_true, Bool.and_eq_false_iff, decide_eq_true_eq, decide_eq_false_iff_not, Bool.not_eq_true', Bool.not_eq_false'] at *); (try simp only [Blk.len] at *); first | omega | (intros; omega)) | (simp_all; done))))
    refine fin_ret ?_
    have hI := hD rfl
    exact retOwn2 rfl rfl (by simp only [distL, herr, if_true]; rw [hI.eq hv]) (by rw [herr]) trivial rfl
  | true =>
    repeat' (first
    
      | refine aw_seq ?_
      | refine aw_region ?_
      | refine aw_region_q (by kernel_rfl) (by kernel_rfl) ?_
      | refine aw_block ?_
      | refine ao_nil ?_
      | refine ao_op rfl trivial ?_
      | refine aq_nil ?_
      | refine aq_op rfl trivial ?_
      | refine at_nil ?_
      | refine at_op rfl trivial ?_
      | refine am_nil ?_
      | refine am_op rfl trivial rfl ?_
      | refine aw_skip ?_
      | refine aw_condT rfl trivial ?_
      | refine aw_condF rfl trivial ?_
      | refine aw_condD rfl trivial (fun hc => ?_) (fun hc => ?_)
      | refine aw_condN rfl trivial (fun hc => ?_) (fun hc => ?_)
      | refine aw_condNB rfl trivial (fun hc => ?_) (fun hc => ?_)
      | refine aw_cond rfl trivial (fun hc => ?_) (fun hc => ?_)
      | refine aw_ret ?_
      | refine aw_exit ?_
      | refine ao_op rfl ?_ ?_
      | refine aq_op rfl ?_ ?_
      | refine at_op rfl ?_ ?_
      | refine am_op rfl ?_ rfl ?_
      | refine ao_box rfl trivial rfl rfl rfl ?_
      | refine ao_alloc rfl rfl rfl rfl ?_
      | refine ao_store rfl rfl trivial rfl trivial rfl rfl rfl rfl rfl ?_
    
      | (show allP _; first | trivial | exact ob1 (fun h => h) | exact ob2 (fun h => h) (fun h => h) | exact ob1 (fun h => ⟨h.1, trivial⟩) | (simp only [allP, obg, grd, allT, InR, decide_eq_true_eq, Bool.and_eq_true, Bool.not_eq_true', decide_eq_false_iff_not, List.nil_append, List.cons_append, List.append_nil, and_true, true_and]; first | omega | (intros; omega) | (simp only [Blk.len, List.length_set, List.length_append, List.length_cons, List.length_nil]; first | omega | (intros; omega)) | (refine ⟨?_, ?_⟩ <;> intros <;> first | (with_reducible assumption) | omega) | ((repeat' refine And.intro ?_ ?_) <;> (intros; first | (with_reducible assumption) | omega | (simp only [Blk.len, List.length_set, List.length_append, List.length_cons, List.length_nil]; omega))) | ((try simp only [Bool.or_eq_true, Bool.or_eq_false_iff, Bool.and_eq_true, Bool.and_eq_false_iff, decide_eq_true_eq, decide_eq_false_iff_not, Bool.not_eq_true', Bool.not_eq_false'] at *); (try simp only [Blk.len] at *); first | omega | (intros; omega)) | (simp_all; done))))
    refine aw_weak (F' := [(13, [], .d (iD 0)), (12, [], .d (bD false)), (10, [], .own 1), (4, [], .ptr 0 0), (1, [], .d (boolsD down)), (2, [], .d (iD n)), (3, [], .d (bD fr))]) (S' := [tBlk t, .ints .i64 l]) (by refine weak_to ?_ ?_ rfl rfl
                                                                                                                                                                                                                      · repeat (first | exact subF_nil | refine subF_cons (by first | rfl | (simp [look]; done)) ?_)
                                                                                                                                                                                                                      · repeat (first | exact subS_nil | refine subS_cons (by first | rfl | (simp; done)) ?_)) (Nat.le_of_ble_eq_true rfl) ?_
    refine rs_inner hf n0 n1 HB fun l' ch F S HB' h1 h2 hF hS => ?_
    refine ⟨(l', ch), ⟨HB', fun h => ?_⟩, ?_, weak_to hF hS rfl rfl⟩
    · simp only at h ⊢
      obtain ⟨e, hI⟩ := h1 h
      rw [e]; exact hI
    · simp only
      cases ch with
      | false => rw [(h1 rfl).1]; simp
      | true => have := h2 rfl; simp only [cond_true]; omega

theorem r_Dist (t : Topo) (down : List Bool) (d : Int) : Ctr Try.prog 26 [topoD t, boolsD down, iD d] [.ints .i64 (distL t down d false)] (.tup [.own 0, .d (iD (errS t down d))]) := by
  refine spec_of envOK (enters_of Try.func26 (by kernel_rfl) (by kernel_rfl)) Try.func26 rfl rfl _ rfl (Nat.le_of_ble_eq_true rfl) rfl fun w0 => ?_
  repeat' (first
  
    | refine aw_seq ?_
    | refine aw_region ?_
    | refine aw_region_q (by kernel_rfl) (by kernel_rfl) ?_
    | refine aw_block ?_
    | refine ao_nil ?_
    | refine ao_op rfl trivial ?_
    | refine aq_nil ?_
    | refine aq_op rfl trivial ?_
    | refine at_nil ?_
    | refine at_op rfl trivial ?_
    | refine am_nil ?_
    | refine am_op rfl trivial rfl ?_
    | refine aw_skip ?_
    | refine aw_condT rfl trivial ?_
    | refine aw_condF rfl trivial ?_
    | refine aw_condD rfl trivial (fun hc => ?_) (fun hc => ?_)
    | refine aw_condN rfl trivial (fun hc => ?_) (fun hc => ?_)
    | refine aw_condNB rfl trivial (fun hc => ?_) (fun hc => ?_)
    | refine aw_cond rfl trivial (fun hc => ?_) (fun hc => ?_)
    | refine aw_ret ?_
    | refine aw_exit ?_
    | refine ao_op rfl ?_ ?_
    | refine aq_op rfl ?_ ?_
    | refine at_op rfl ?_ ?_
    | refine am_op rfl ?_ rfl ?_
    | refine ao_box rfl trivial rfl rfl rfl ?_
    | refine ao_alloc rfl rfl rfl rfl ?_
    | refine ao_store rfl rfl trivial rfl trivial rfl rfl rfl rfl rfl ?_
    | refine ao_callR rfl (r_search t down d false) trivial rfl rfl ?_
    | (show allP _; first | trivial | exact ob1 (fun h => h) | exact ob2 (fun h => h) (fun h => h) | exact ob1 (fun h => ⟨h.1, trivial⟩) | (simp only [allP, obg, grd, allT, InR, decide_eq_true_eq, Bool.and_eq_true, Bool.not_eq_true', decide_eq_false_iff_not, List.nil_append, List.cons_append, List.append_nil, and_true, true_and]; first | omega | (intros; omega) | (simp only [Blk.len, List.length_set, List.length_append, List.length_cons, List.length_nil]; first | omega | (intros; omega)) | (refine ⟨?_, ?_⟩ <;> intros <;> first | (with_reducible assumption) | omega) | ((repeat' refine And.intro ?_ ?_) <;> (intros; first | (with_reducible assumption) | omega | (simp only [Blk.len, List.length_set, List.length_append, List.length_cons, List.length_nil]; omega))) | ((try simp only [Bool.or_eq_true, Bool.or_eq_false_iff, Bool.and_eq_true, Bool.and_eq_false_iff, decide_eq_true_eq, decide_eq_false_iff_not, Bool.not_eq_true', Bool.not_eq_false'] at *); (try simp only [Blk.len] at *); first | omega | (intros; omega)) | (simp_all; done))))
  refine fin_ret ?_; exact retOwn2 rfl rfl rfl rfl trivial rfl
theorem r_From (t : Topo) (down : List Bool) (s : Int) : Ctr Try.prog 62 [topoD t, boolsD down, iD s] [.ints .i64 (distL t down s true)] (.tup [.own 0, .d (iD (errS t down s))]) := by
  refine spec_of envOK (enters_of Try.func62 (by kernel_rfl) (by kernel_rfl)) Try.func62 rfl rfl _ rfl (Nat.le_of_ble_eq_true rfl) rfl fun w0 => ?_
  repeat' (first
  
    | refine aw_seq ?_
    | refine aw_region ?_
    | refine aw_region_q (by kernel_rfl) (by kernel_rfl) ?_
    | refine aw_block ?_
    | refine ao_nil ?_
    | refine ao_op rfl trivial ?_
    | refine aq_nil ?_
    | refine aq_op rfl trivial ?_
    | refine at_nil ?_
    | refine at_op rfl trivial ?_
    | refine am_nil ?_
    | refine am_op rfl trivial rfl ?_
    | refine aw_skip ?_
    | refine aw_condT rfl trivial ?_
    | refine aw_condF rfl trivial ?_
    | refine aw_condD rfl trivial (fun hc => ?_) (fun hc => ?_)
    | refine aw_condN rfl trivial (fun hc => ?_) (fun hc => ?_)
    | refine aw_condNB rfl trivial (fun hc => ?_) (fun hc => ?_)
    | refine aw_cond rfl trivial (fun hc => ?_) (fun hc => ?_)
    | refine aw_ret ?_
    | refine aw_exit ?_
    | refine ao_op rfl ?_ ?_
    | refine aq_op rfl ?_ ?_
    | refine at_op rfl ?_ ?_
    | refine am_op rfl ?_ rfl ?_
    | refine ao_box rfl trivial rfl rfl rfl ?_
    | refine ao_alloc rfl rfl rfl rfl ?_
    | refine ao_store rfl rfl trivial rfl trivial rfl rfl rfl rfl rfl ?_
    | refine ao_callR rfl (r_search t down s true) trivial rfl rfl ?_
    | (show allP _; first | trivial | exact ob1 (fun h => h) | exact ob2 (fun h => h) (fun h => h) | exact ob1 (fun h => ⟨h.1, trivial⟩) | (simp only [allP, obg, grd, allT, InR, decide_eq_true_eq, Bool.and_eq_true, Bool.not_eq_true', decide_eq_false_iff_not, List.nil_append, List.cons_append, List.append_nil, and_true, true_and]; first | omega | (intros; omega) | (simp only [Blk.len, List.length_set, List.length_append, List.length_cons, List.length_nil]; first | omega | (intros; omega)) | (refine ⟨?_, ?_⟩ <;> intros <;> first | (with_reducible assumption) | omega) | ((repeat' refine And.intro ?_ ?_) <;> (intros; first | (with_reducible assumption) | omega | (simp only [Blk.len, List.length_set, List.length_append, List.length_cons, List.length_nil]; omega))) | ((try simp only [Bool.or_eq_true, Bool.or_eq_false_iff, Bool.and_eq_true, Bool.and_eq_false_iff, decide_eq_true_eq, decide_eq_false_iff_not, Bool.not_eq_true', Bool.not_eq_false'] at *); (try simp only [Blk.len] at *); first | omega | (intros; omega)) | (simp_all; done))))
  refine fin_ret ?_; exact retOwn2 rfl rfl rfl rfl trivial rfl

end Go.Proofs.Ytcnfggpcploehaa

/- The reference of layer 11: On, Path. -/
namespace Go.Proofs.Ytcnfggpcploehaa
set_option maxRecDepth 10000
open Go.Wk

def onR (t : Topo) (down : List Bool) (l : List Int) (a d : Int) : Bool :=
  upB down a && !decide (tailT t a = d) && decide (0 ≤ gI l (headT t a)) && transB t (headT t a) d && decide (gI l (tailT t a) = gI l (headT t a) + costT t a)
theorem onR_P {t : Topo} {down : List Bool} {l : List Int} {a d n : Int} (ht : tailT t a = n) (hn : n ≠ d) : onR t down l a d = onP t down d l n a := by
  simp only [onR, onP, ht, decide_eq_false hn, Bool.not_false, Bool.and_true, transB]

set_option maxHeartbeats 1000000 in
theorem r_On (t : Topo) (down : List Bool) (l : List Int) (a d : Int) (hf : fitsB t down = true) (h0 : 0 ≤ a) (h1 : a < 2 * t.links.length) (hl : (l.length : Int) = t.nodes) (hb : ∀ i : Int, 0 ≤ i → i < t.nodes → gI l i ≤ 65535 * 64 ∧ -1 ≤ gI l i) :
    Ctr Try.prog 38 [topoD t, boolsD down, intsD l, iD a, iD d] [] (.d (bD (onR t down l a d))) := by
  refine spec_of envOK (enters_of Try.func38 (by kernel_rfl) (by kernel_rfl)) Try.func38 rfl rfl _ rfl (Nat.le_of_ble_eq_true rfl) rfl fun w0 => ?_
  have hv := fitsB_v hf
  have hnn := validB_head hv
  have hk := arc_ok hv h0 h1
  have hup : down.length = 0 ∨ 0 ≤ a ∧ a < down.length := by
    simp only [fitsB, Bool.and_eq_true, Bool.or_eq_true, decide_eq_true_eq] at hf
    omega
  have hy : l.getD (headT t a).toNat 0 ≤ 65535 * 64 ∧ -1 ≤ l.getD (headT t a).toNat 0 := hb _ hk.2.2.1 hk.2.2.2.1
  clear hb
  repeat' (first
  
    | refine aw_seq ?_
    | refine aw_region ?_
    | refine aw_region_q (by kernel_rfl) (by kernel_rfl) ?_
    | refine aw_block ?_
    | refine ao_nil ?_
    | refine ao_op rfl trivial ?_
    | refine aq_nil ?_
    | refine aq_op rfl trivial ?_
    | refine at_nil ?_
    | refine at_op rfl trivial ?_
    | refine am_nil ?_
    | refine am_op rfl trivial rfl ?_
    | refine aw_skip ?_
    | refine aw_condT rfl trivial ?_
    | refine aw_condF rfl trivial ?_
    | refine aw_condD rfl trivial (fun hc => ?_) (fun hc => ?_)
    | refine aw_condN rfl trivial (fun hc => ?_) (fun hc => ?_)
    | refine aw_condNB rfl trivial (fun hc => ?_) (fun hc => ?_)
    | refine aw_cond rfl trivial (fun hc => ?_) (fun hc => ?_)
    | refine aw_ret ?_
    | refine aw_exit ?_
    | refine ao_op rfl ?_ ?_
    | refine aq_op rfl ?_ ?_
    | refine at_op rfl ?_ ?_
    | refine am_op rfl ?_ rfl ?_
    | refine ao_box rfl trivial rfl rfl rfl ?_
    | refine ao_alloc rfl rfl rfl rfl ?_
    | refine ao_store rfl rfl trivial rfl trivial rfl rfl rfl rfl rfl ?_
    | (first | refine ao_call rfl (r_Tail _ _) rfl ?_ ?_ | refine aq_call rfl (r_Tail _ _) rfl ?_ ?_)
    | (first | refine ao_call rfl (r_Head _ _) rfl ?_ ?_ | refine aq_call rfl (r_Head _ _) rfl ?_ ?_)
    | (first | refine ao_call rfl (r_Up down _ hup) rfl ?_ ?_ | refine aq_call rfl (r_Up down _ hup) rfl ?_ ?_)
    | (first | refine ao_call rfl (r_transit _ _ _) rfl ?_ ?_ | refine aq_call rfl (r_transit _ _ _) rfl ?_ ?_)
    | (first | refine ao_call rfl (r_Cost _ _) rfl ?_ ?_ | refine aq_call rfl (r_Cost _ _) rfl ?_ ?_)
    | (show allP _; first | trivial | exact ob1 (fun h => h) | exact ob2 (fun h => h) (fun h => h) | exact ob1 (fun h => ⟨h.1, trivial⟩) | (simp only [allP, obg, grd, allT, InR, decide_eq_true_eq, Bool.and_eq_true, Bool.not_eq_true', decide_eq_false_iff_not, List.nil_append, List.cons_append, List.append_nil, and_true, true_and]; first | omega | (intros; omega) | (simp only [Blk.len, List.length_set, List.length_append, List.length_cons, List.length_nil]; first | omega | (intros; omega)) | (refine ⟨?_, ?_⟩ <;> intros <;> first | (with_reducible assumption) | omega) | ((repeat' refine And.intro ?_ ?_) <;> (intros; first | (with_reducible assumption) | omega | (simp only [Blk.len, List.length_set, List.length_append, List.length_cons, List.length_nil]; omega))) | ((try simp only [Bool.or_eq_true, Bool.or_eq_false_iff, Bool.and_eq_true, Bool.and_eq_false_iff, decide_eq_true_eq, decide_eq_false_iff_not, Bool.not_eq_true', Bool.not_eq_false'] at *); (try simp only [Blk.len] at *); first | omega | (intros; omega)) | (simp_all; done))))
  (refine fin_ret ?_; exact ret1 (by rfl) (by (simp only [onR, gI, Bool.and_assoc])) (by rfl))

end Go.Proofs.Ytcnfggpcploehaa

/- The reference of layer 11: Path. -/
namespace Go.Proofs.Ytcnfggpcploehaa
set_option maxRecDepth 10000
open Go.Wk

set_option maxHeartbeats 4000000 in
theorem rp_inner {Q : Exit → Fr → List Blk → Prop} {w0 : World} {t : Topo} {down : List Bool} {d n : Int} {l acc : List Int} (hf : fitsB t down = true) (hl : IsDist t down d false l) (hbd : ∀ i : Int, 0 ≤ i → i < t.nodes → gI l i ≤ 65535 * 64) (h0 : 0 ≤ n) (h1 : n < t.nodes) (hn : 0 ≤ gI l n) (hnd : n ≠ d) (hacc : acc.length ≤ 10000000)
    (hQ : ∀ a F S, nextP t down d l n = some a → subF F [(2, [], .d (iD (headT t a))), (12, [], .own 2), (10, [], .own 1), (4, [], .ptr 0 0), (1, [], .d (boolsD down)), (3, [], .d (iD d))] →
      subS S [tBlk t, .ints .i64 l, .ints .i64 (acc ++ [a])] → Q (.exit 2) F S) :
    AW Try.prog env (Base.of w0) Try.f56.ntmps (loopC Try.f56 11) Q
      [(13, [], .d (iD 0)), (2, [], .d (iD n)), (12, [], .own 2), (10, [], .own 1), (4, [], .ptr 0 0), (1, [], .d (boolsD down)), (3, [], .d (iD d))]
      [tBlk t, .ints .i64 l, .ints .i64 acc] := by
  have hv := fitsB_v hf
  have hnn := validB_head hv
  have hl2 := hl.len
  have hb2 : ∀ i : Int, 0 ≤ i → i < t.nodes → gI l i ≤ 65535 * 64 ∧ -1 ≤ gI l i := fun i i0 i1 => ⟨hbd i i0 i1, by have := hl.sign i i0 i1; omega⟩
  refine aw_loop (ι := Nat) (fun j => [(13, [], .d (iD j)), (2, [], .d (iD n)), (12, [], .own 2), (10, [], .own 1), (4, [], .ptr 0 0), (1, [], .d (boolsD down)), (3, [], .d (iD d))])
    (fun j => [tBlk t, .ints .i64 l, .ints .i64 acc])
    (fun j => j ≤ 2 * t.links.length ∧ ∀ i : Nat, i < j → tailT t i = n → onP t down d l n i = false) (fun j => 2 * t.links.length - j) 0 ⟨by simp, fun i hi => by omega⟩ (fun _ => Nat.le_of_ble_eq_true rfl) (by refine weak_to ?_ ?_ rfl rfl
                                                                                                                                                                                                                   · repeat (first | exact subF_nil | refine subF_cons (by first | rfl | (simp [look]; done)) ?_)
                                                                                                                                                                                                                   · repeat (first | exact subS_nil | refine subS_cons (by first | rfl | (simp; done)) ?_)) fun j hj => ?_
  obtain ⟨hj, hno⟩ := hj
  by_cases hjl : j < 2 * t.links.length
  · have hOn := r_On t down l (j : Int) d hf (by omega) (by omega) hl2 hb2
    repeat' (first
    
      | refine aw_seq ?_
      | refine aw_region ?_
      | refine aw_region_q (by kernel_rfl) (by kernel_rfl) ?_
      | refine aw_block ?_
      | refine ao_nil ?_
      | refine ao_op rfl trivial ?_
      | refine aq_nil ?_
      | refine aq_op rfl trivial ?_
      | refine at_nil ?_
      | refine at_op rfl trivial ?_
      | refine am_nil ?_
      | refine am_op rfl trivial rfl ?_
      | refine aw_skip ?_
      | refine aw_condT rfl trivial ?_
      | refine aw_condF rfl trivial ?_
      | refine aw_condD rfl trivial (fun hc => ?_) (fun hc => ?_)
      | refine aw_condN rfl trivial (fun hc => ?_) (fun hc => ?_)
      | refine aw_condNB rfl trivial (fun hc => ?_) (fun hc => ?_)
      | refine aw_cond rfl trivial (fun hc => ?_) (fun hc => ?_)
      | refine aw_ret ?_
      | refine aw_exit ?_
      | refine ao_op rfl ?_ ?_
      | refine aq_op rfl ?_ ?_
      | refine at_op rfl ?_ ?_
      | refine am_op rfl ?_ rfl ?_
      | refine ao_box rfl trivial rfl rfl rfl ?_
      | refine ao_alloc rfl rfl rfl rfl ?_
      | refine ao_store rfl rfl trivial rfl trivial rfl rfl rfl rfl rfl ?_
      | (first | refine ao_call rfl (r_Tail _ _) rfl ?_ ?_ | refine aq_call rfl (r_Tail _ _) rfl ?_ ?_)
      | (first | refine ao_call rfl (r_Head _ _) rfl ?_ ?_ | refine aq_call rfl (r_Head _ _) rfl ?_ ?_)
      | (first | refine ao_call rfl (hOn) rfl ?_ ?_ | refine aq_call rfl (hOn) rfl ?_ ?_)
      | refine ao_lit rfl rfl rfl rfl trivial rfl rfl rfl rfl rfl rfl ?_
      | refine ao_app rfl rfl rfl rfl trivial rfl trivial rfl rfl trivial rfl rfl rfl rfl rfl (by simp [Blk.len]; omega) rfl rfl rfl ?_
      | (show allP _; first | trivial | exact ob1 (fun h => h) | exact ob2 (fun h => h) (fun h => h) | exact ob1 (fun h => ⟨h.1, trivial⟩) | (simp only [allP, obg, grd, allT, InR, decide_eq_true_eq, Bool.and_eq_true, Bool.not_eq_true', decide_eq_false_iff_not, List.nil_append, List.cons_append, List.append_nil, and_true, true_and]; first | omega | (intros; omega) | (simp only [Blk.len, List.length_set, List.length_append, List.length_cons, List.length_nil]; first | omega | (intros; omega)) | (refine ⟨?_, ?_⟩ <;> intros <;> first | (with_reducible assumption) | omega) | ((repeat' refine And.intro ?_ ?_) <;> (intros; first | (with_reducible assumption) | omega | (simp only [Blk.len, List.length_set, List.length_append, List.length_cons, List.length_nil]; omega))) | ((try simp only [Bool.or_eq_true, Bool.or_eq_false_iff, Bool.and_eq_true, Bool.and_eq_false_iff, decide_eq_true_eq, decide_eq_false_iff_not, Bool.not_eq_true', Bool.not_eq_false'] at *); (try simp only [Blk.len] at *); first | omega | (intros; omega)) | (simp_all; done))))
    all_goals try (exfalso; omega)
    · simp only [Bool.and_eq_true, decide_eq_true_eq] at hc
      have hon : onP t down d l n (j : Int) = true := by rw [← onR_P hc.1 hnd]; exact hc.2
      exact hQ _ _ _ (nextP_all hv hjl hc.1 hno hon) (by repeat (first | exact subF_nil | refine subF_cons rfl ?_)) (by (repeat (first | exact subS_nil | refine subS_cons (by first | rfl | rfl) ?_)))
    · refine ⟨j + 1, ⟨by omega, fun i hi ht => ?_⟩, by omega, ?_⟩
      · rcases Nat.lt_succ_iff_lt_or_eq.1 hi with h | rfl
        · exact hno i h ht
        · rw [decide_eq_true ht, Bool.true_and] at hc
          rw [← onR_P ht hnd]; exact hc
      · refine weak_to ?_ ?_ rfl rfl
        · repeat (first | exact subF_nil | refine subF_cons (by first | rfl | (simp [look]; done)) ?_)
        · repeat (first | exact subS_nil | refine subS_cons (by first | rfl | (simp; done)) ?_)
  · repeat' (first
    
      | refine aw_seq ?_
      | refine aw_region ?_
      | refine aw_region_q (by kernel_rfl) (by kernel_rfl) ?_
      | refine aw_block ?_
      | refine ao_nil ?_
      | refine ao_op rfl trivial ?_
      | refine aq_nil ?_
      | refine aq_op rfl trivial ?_
      | refine at_nil ?_
      | refine at_op rfl trivial ?_
      | refine am_nil ?_
      | refine am_op rfl trivial rfl ?_
      | refine aw_skip ?_
      | refine aw_condT rfl trivial ?_
      | refine aw_condF rfl trivial ?_
      | refine aw_condD rfl trivial (fun hc => ?_) (fun hc => ?_)
      | refine aw_condN rfl trivial (fun hc => ?_) (fun hc => ?_)
      | refine aw_condNB rfl trivial (fun hc => ?_) (fun hc => ?_)
      | refine aw_cond rfl trivial (fun hc => ?_) (fun hc => ?_)
      | refine aw_ret ?_
      | refine aw_exit ?_
      | refine ao_op rfl ?_ ?_
      | refine aq_op rfl ?_ ?_
      | refine at_op rfl ?_ ?_
      | refine am_op rfl ?_ rfl ?_
      | refine ao_box rfl trivial rfl rfl rfl ?_
      | refine ao_alloc rfl rfl rfl rfl ?_
      | refine ao_store rfl rfl trivial rfl trivial rfl rfl rfl rfl rfl ?_
      | (exfalso; omega)
      | (show allP _; first | trivial | exact ob1 (fun h => h) | exact ob2 (fun h => h) (fun h => h) | exact ob1 (fun h => ⟨h.1, trivial⟩) | (simp only [allP, obg, grd, allT, InR, decide_eq_true_eq, Bool.and_eq_true, Bool.not_eq_true', decide_eq_false_iff_not, List.nil_append, List.cons_append, List.append_nil, and_true, true_and]; first | omega | (intros; omega) | (simp only [Blk.len, List.length_set, List.length_append, List.length_cons, List.length_nil]; first | omega | (intros; omega)) | (refine ⟨?_, ?_⟩ <;> intros <;> first | (with_reducible assumption) | omega) | ((repeat' refine And.intro ?_ ?_) <;> (intros; first | (with_reducible assumption) | omega | (simp only [Blk.len, List.length_set, List.length_append, List.length_cons, List.length_nil]; omega))) | ((try simp only [Bool.or_eq_true, Bool.or_eq_false_iff, Bool.and_eq_true, Bool.and_eq_false_iff, decide_eq_true_eq, decide_eq_false_iff_not, Bool.not_eq_true', Bool.not_eq_false'] at *); (try simp only [Blk.len] at *); first | omega | (intros; omega)) | (simp_all; done))))
    exfalso
    obtain ⟨a, e, a0, a1, a2, a3, _⟩ := nextP_some hv hl h0 h1 hn hnd
    have := hno a.toNat (by omega) (by rw [show ((a.toNat : Nat) : Int) = a by omega]; exact a2)
    rw [show ((a.toNat : Nat) : Int) = a by omega, a3] at this
    cases this

set_option maxHeartbeats 4000000 in
theorem r_Path (t : Topo) (down : List Bool) (s d : Int) : Ctr Try.prog 56 [topoD t, boolsD down, iD s, iD d] [.ints .i64 (pathL t down s d)] (.tup [.own 0, .d (iD (errP t down s d))]) := by
  refine spec_of envOK (enters_of Try.func56 (by kernel_rfl) (by kernel_rfl)) Try.func56 rfl rfl _ rfl (Nat.le_of_ble_eq_true rfl) rfl fun w0 => ?_
  by_cases he : errS t down d = 0
  · have hl := distL_is (fr := false) he
    have hbd := distL_bnd (fr := false) he
    obtain ⟨hf, d0, d1⟩ := errS_0 he
    have hll := hl.len
    generalize hg : distL t down d false = l at *
    repeat' (first
    
      | refine aw_seq ?_
      | refine aw_region ?_
      | refine aw_region_q (by kernel_rfl) (by kernel_rfl) ?_
      | refine aw_block ?_
      | refine ao_nil ?_
      | refine ao_op rfl trivial ?_
      | refine aq_nil ?_
      | refine aq_op rfl trivial ?_
      | refine at_nil ?_
      | refine at_op rfl trivial ?_
      | refine am_nil ?_
      | refine am_op rfl trivial rfl ?_
      | refine aw_skip ?_
      | refine aw_condT rfl trivial ?_
      | refine aw_condF rfl trivial ?_
      | refine aw_condD rfl trivial (fun hc => ?_) (fun hc => ?_)
      | refine aw_condN rfl trivial (fun hc => ?_) (fun hc => ?_)
      | refine aw_condNB rfl trivial (fun hc => ?_) (fun hc => ?_)
      | refine aw_cond rfl trivial (fun hc => ?_) (fun hc => ?_)
      | refine aw_ret ?_
      | refine aw_exit ?_
      | refine ao_op rfl ?_ ?_
      | refine aq_op rfl ?_ ?_
      | refine at_op rfl ?_ ?_
      | refine am_op rfl ?_ rfl ?_
      | refine ao_box rfl trivial rfl rfl rfl ?_
      | refine ao_alloc rfl rfl rfl rfl ?_
      | refine ao_store rfl rfl trivial rfl trivial rfl rfl rfl rfl rfl ?_
      | refine ao_callR rfl ((hg ▸ r_Dist t down d)) trivial rfl rfl ?_
      | (show allP _; first | trivial | exact ob1 (fun h => h) | exact ob2 (fun h => h) (fun h => h) | exact ob1 (fun h => ⟨h.1, trivial⟩) | (simp only [allP, obg, grd, allT, InR, decide_eq_true_eq, Bool.and_eq_true, Bool.not_eq_true', decide_eq_false_iff_not, List.nil_append, List.cons_append, List.append_nil, and_true, true_and]; first | omega | (intros; omega) | (simp only [Blk.len, List.length_set, List.length_append, List.length_cons, List.length_nil]; first | omega | (intros; omega)) | (refine ⟨?_, ?_⟩ <;> intros <;> first | (with_reducible assumption) | omega) | ((repeat' refine And.intro ?_ ?_) <;> (intros; first | (with_reducible assumption) | omega | (simp only [Blk.len, List.length_set, List.length_append, List.length_cons, List.length_nil]; omega))) | ((try simp only [Bool.or_eq_true, Bool.or_eq_false_iff, Bool.and_eq_true, Bool.and_eq_false_iff, decide_eq_true_eq, decide_eq_false_iff_not, Bool.not_eq_true', Bool.not_eq_false'] at *); (try simp only [Blk.len] at *); first | omega | (intros; omega)) | (simp_all; done))))
    · exact absurd he hc
    · refine fin_ret ?_
      have e : errP t down s d = 2 := by unfold errP; rw [if_pos he, hc]; rfl
      exact retNil2 rfl (by simp [pathL, e, Blk.len]) (by rw [e]) trivial rfl
    · rename_i hs
      refine fin_ret ?_
      have e : errP t down s d = 11 := by unfold errP; rw [if_pos he, hs, hg, if_pos hc]; rfl
      exact retNil2 rfl (by simp [pathL, e, Blk.len]) (by rw [e]) trivial rfl
    rename_i hs
    have e : errP t down s d = 0 := by unfold errP; rw [if_pos he, hs, hg, if_neg hc]; rfl
    obtain ⟨_, s0, s1, sn⟩ := errP_0 e
    rw [hg] at sn
    have hv := fitsB_v hf
    have hnn := validB_head hv
    refine aw_weak (F' := [(2, [], .d (iD s)), (12, [], .nil), (10, [], .own 1), (4, [], .ptr 0 0), (1, [], .d (boolsD down)), (3, [], .d (iD d))]) (S' := [tBlk t, .ints .i64 l]) (by refine weak_to ?_ ?_ rfl rfl
                                                                                                                                                                                       · repeat (first | exact subF_nil | refine subF_cons (by first | rfl | (simp [look]; done)) ?_)
                                                                                                                                                                                       · repeat (first | exact subS_nil | refine subS_cons (by first | rfl | (simp; done)) ?_)) (Nat.le_of_ble_eq_true rfl) ?_
    refine aw_weak (weak_nil (t := 12) (.ints .i64 []) rfl rfl rfl rfl rfl) (Nat.le_of_ble_eq_true rfl) ?_
    refine aw_loop (ι := Int × List Int) (fun x => [(2, [], .d (iD x.1)), (12, [], .own 2), (10, [], .own 1), (4, [], .ptr 0 0), (1, [], .d (boolsD down)), (3, [], .d (iD d))]) (fun x => [tBlk t, .ints .i64 l, .ints .i64 x.2])
      (fun x => 0 ≤ x.1 ∧ x.1 < t.nodes ∧ 0 ≤ gI l x.1 ∧ x.2 ++ pathF t down d l x.1 = pathF t down d l s ∧ x.2.length + gI l x.1 ≤ gI l s) (fun x => (gI l x.1).toNat) (s, []) ⟨s0, s1, sn, by simp, by simp⟩ (fun _ => Nat.le_of_ble_eq_true rfl) (by refine weak_to ?_ ?_ rfl rfl
                                                                                                                                                                                                                                                        · repeat (first | exact subF_nil | refine subF_cons (by first | rfl | (simp [look]; done)) ?_)
                                                                                                                                                                                                                                                        · repeat (first | exact subS_nil | refine subS_cons (by first | rfl | (simp; done)) ?_)) fun x hx => ?_
    obtain ⟨n, acc⟩ := x
    obtain ⟨n0, n1, nn, hacc, hlen⟩ := hx
    simp only at n0 n1 nn hacc hlen ⊢
    have hbs := hbd s s0 s1
    by_cases hnd : n = d
    · repeat' (first
      
        | refine aw_seq ?_
        | refine aw_region ?_
        | refine aw_region_q (by kernel_rfl) (by kernel_rfl) ?_
        | refine aw_block ?_
        | refine ao_nil ?_
        | refine ao_op rfl trivial ?_
        | refine aq_nil ?_
        | refine aq_op rfl trivial ?_
        | refine at_nil ?_
        | refine at_op rfl trivial ?_
        | refine am_nil ?_
        | refine am_op rfl trivial rfl ?_
        | refine aw_skip ?_
        | refine aw_condT rfl trivial ?_
        | refine aw_condF rfl trivial ?_
        | refine aw_condD rfl trivial (fun hc => ?_) (fun hc => ?_)
        | refine aw_condN rfl trivial (fun hc => ?_) (fun hc => ?_)
        | refine aw_condNB rfl trivial (fun hc => ?_) (fun hc => ?_)
        | refine aw_cond rfl trivial (fun hc => ?_) (fun hc => ?_)
        | refine aw_ret ?_
        | refine aw_exit ?_
        | refine ao_op rfl ?_ ?_
        | refine aq_op rfl ?_ ?_
        | refine at_op rfl ?_ ?_
        | refine am_op rfl ?_ rfl ?_
        | refine ao_box rfl trivial rfl rfl rfl ?_
        | refine ao_alloc rfl rfl rfl rfl ?_
        | refine ao_store rfl rfl trivial rfl trivial rfl rfl rfl rfl rfl ?_
      
        | (show allP _; first | trivial | exact ob1 (fun h => h) | exact ob2 (fun h => h) (fun h => h) | exact ob1 (fun h => ⟨h.1, trivial⟩) | (simp only [allP, obg, grd, allT, InR, decide_eq_true_eq, Bool.and_eq_true, Bool.not_eq_true', decide_eq_false_iff_not, List.nil_append, List.cons_append, List.append_nil, and_true, true_and]; first | omega | (intros; omega) | (simp only [Blk.len, List.length_set, List.length_append, List.length_cons, List.length_nil]; first | omega | (intros; omega)) | (refine ⟨?_, ?_⟩ <;> intros <;> first | (with_reducible assumption) | omega) | ((repeat' refine And.intro ?_ ?_) <;> (intros; first | (with_reducible assumption) | omega | (simp only [Blk.len, List.length_set, List.length_append, List.length_cons, List.length_nil]; omega))) | ((try simp only [Bool.or_eq_true, Bool.or_eq_false_iff, Bool.and_eq_true, Bool.and_eq_false_iff, decide_eq_true_eq, decide_eq_false_iff_not, Bool.not_eq_true', Bool.not_eq_false'] at *); (try simp only [Blk.len] at *); first | omega | (intros; omega)) | (simp_all; done))))
      all_goals try (exfalso; omega)
      refine fin_ret ?_
      rw [hnd, pathF_end, List.append_nil] at hacc
      exact retOwn2 rfl rfl (by rw [hacc]; simp only [pathL, e, if_true, hg]) (by rw [e]) trivial rfl
    · repeat' (first
      
        | refine aw_seq ?_
        | refine aw_region ?_
        | refine aw_region_q (by kernel_rfl) (by kernel_rfl) ?_
        | refine aw_block ?_
        | refine ao_nil ?_
        | refine ao_op rfl trivial ?_
        | refine aq_nil ?_
        | refine aq_op rfl trivial ?_
        | refine at_nil ?_
        | refine at_op rfl trivial ?_
        | refine am_nil ?_
        | refine am_op rfl trivial rfl ?_
        | refine aw_skip ?_
        | refine aw_condT rfl trivial ?_
        | refine aw_condF rfl trivial ?_
        | refine aw_condD rfl trivial (fun hc => ?_) (fun hc => ?_)
        | refine aw_condN rfl trivial (fun hc => ?_) (fun hc => ?_)
        | refine aw_condNB rfl trivial (fun hc => ?_) (fun hc => ?_)
        | refine aw_cond rfl trivial (fun hc => ?_) (fun hc => ?_)
        | refine aw_ret ?_
        | refine aw_exit ?_
        | refine ao_op rfl ?_ ?_
        | refine aq_op rfl ?_ ?_
        | refine at_op rfl ?_ ?_
        | refine am_op rfl ?_ rfl ?_
        | refine ao_box rfl trivial rfl rfl rfl ?_
        | refine ao_alloc rfl rfl rfl rfl ?_
        | refine ao_store rfl rfl trivial rfl trivial rfl rfl rfl rfl rfl ?_
      
        | (show allP _; first | trivial | exact ob1 (fun h => h) | exact ob2 (fun h => h) (fun h => h) | exact ob1 (fun h => ⟨h.1, trivial⟩) | (simp only [allP, obg, grd, allT, InR, decide_eq_true_eq, Bool.and_eq_true, Bool.not_eq_true', decide_eq_false_iff_not, List.nil_append, List.cons_append, List.append_nil, and_true, true_and]; first | omega | (intros; omega) | (simp only [Blk.len, List.length_set, List.length_append, List.length_cons, List.length_nil]; first | omega | (intros; omega)) | (refine ⟨?_, ?_⟩ <;> intros <;> first | (with_reducible assumption) | omega) | ((repeat' refine And.intro ?_ ?_) <;> (intros; first | (with_reducible assumption) | omega | (simp only [Blk.len, List.length_set, List.length_append, List.length_cons, List.length_nil]; omega))) | ((try simp only [Bool.or_eq_true, Bool.or_eq_false_iff, Bool.and_eq_true, Bool.and_eq_false_iff, decide_eq_true_eq, decide_eq_false_iff_not, Bool.not_eq_true', Bool.not_eq_false'] at *); (try simp only [Blk.len] at *); first | omega | (intros; omega)) | (simp_all; done))))
      all_goals try (exfalso; omega)
      refine aw_weak (F' := [(13, [], .d (iD 0)), (2, [], .d (iD n)), (12, [], .own 2), (10, [], .own 1), (4, [], .ptr 0 0), (1, [], .d (boolsD down)), (3, [], .d (iD d))])
        (S' := [tBlk t, .ints .i64 l, .ints .i64 acc]) (by refine weak_to ?_ ?_ rfl rfl
                                                           · repeat (first | exact subF_nil | refine subF_cons (by first | rfl | (simp [look]; done)) ?_)
                                                           · repeat (first | exact subS_nil | refine subS_cons (by first | rfl | (simp; done)) ?_)) (Nat.le_of_ble_eq_true rfl) ?_
      refine rp_inner hf hl hbd n0 n1 nn hnd (by omega) fun a F S ha hF hS => ?_
      obtain ⟨b, e1, _, _, _, eon, b4, b5, b6, b7⟩ := nextP_some hv hl n0 n1 nn hnd
      rw [ha] at e1; cases e1
      have hon := onP_iff.1 eon
      refine ⟨(headT t a, acc ++ [a]), ⟨b6, b7, b4, ?_, ?_⟩, ?_, ?_⟩
      · rw [← hacc, pathF_step hv hl n0 n1 nn hnd ha]; simp
      · simp only [List.length_append, List.length_cons, List.length_nil]; omega
      · simp only; omega
      · exact weak_to hF hS rfl rfl
  · repeat' (first
    
      | refine aw_seq ?_
      | refine aw_region ?_
      | refine aw_region_q (by kernel_rfl) (by kernel_rfl) ?_
      | refine aw_block ?_
      | refine ao_nil ?_
      | refine ao_op rfl trivial ?_
      | refine aq_nil ?_
      | refine aq_op rfl trivial ?_
      | refine at_nil ?_
      | refine at_op rfl trivial ?_
      | refine am_nil ?_
      | refine am_op rfl trivial rfl ?_
      | refine aw_skip ?_
      | refine aw_condT rfl trivial ?_
      | refine aw_condF rfl trivial ?_
      | refine aw_condD rfl trivial (fun hc => ?_) (fun hc => ?_)
      | refine aw_condN rfl trivial (fun hc => ?_) (fun hc => ?_)
      | refine aw_condNB rfl trivial (fun hc => ?_) (fun hc => ?_)
      | refine aw_cond rfl trivial (fun hc => ?_) (fun hc => ?_)
      | refine aw_ret ?_
      | refine aw_exit ?_
      | refine ao_op rfl ?_ ?_
      | refine aq_op rfl ?_ ?_
      | refine at_op rfl ?_ ?_
      | refine am_op rfl ?_ rfl ?_
      | refine ao_box rfl trivial rfl rfl rfl ?_
      | refine ao_alloc rfl rfl rfl rfl ?_
      | refine ao_store rfl rfl trivial rfl trivial rfl rfl rfl rfl rfl ?_
      | refine ao_callR rfl (r_Dist t down d) trivial rfl rfl ?_
      | (show allP _; first | trivial | exact ob1 (fun h => h) | exact ob2 (fun h => h) (fun h => h) | exact ob1 (fun h => ⟨h.1, trivial⟩) | (simp only [allP, obg, grd, allT, InR, decide_eq_true_eq, Bool.and_eq_true, Bool.not_eq_true', decide_eq_false_iff_not, List.nil_append, List.cons_append, List.append_nil, and_true, true_and]; first | omega | (intros; omega) | (simp only [Blk.len, List.length_set, List.length_append, List.length_cons, List.length_nil]; first | omega | (intros; omega)) | (refine ⟨?_, ?_⟩ <;> intros <;> first | (with_reducible assumption) | omega) | ((repeat' refine And.intro ?_ ?_) <;> (intros; first | (with_reducible assumption) | omega | (simp only [Blk.len, List.length_set, List.length_append, List.length_cons, List.length_nil]; omega))) | ((try simp only [Bool.or_eq_true, Bool.or_eq_false_iff, Bool.and_eq_true, Bool.and_eq_false_iff, decide_eq_true_eq, decide_eq_false_iff_not, Bool.not_eq_true', Bool.not_eq_false'] at *); (try simp only [Blk.len] at *); first | omega | (intros; omega)) | (simp_all; done))))
    · refine fin_ret ?_
      have e : errP t down s d = errS t down d := by unfold errP; rw [if_neg he]
      exact retNil2 rfl (by simp [pathL, e, he, Blk.len]) (by rw [e]) trivial rfl
    all_goals exact absurd (by assumption) he
end Go.Proofs.Ytcnfggpcploehaa

/- Laws of layer 11: the example. -/
namespace Go.Proofs.Ytcnfggpcploehaa
set_option maxRecDepth 10000
open Go.Wk

/-- A check of distances. -/
def chkDist (t : Topo) (down : List Bool) (n : Int) (fr : Bool) (l : List Int) : Bool :=
  decide ((l.length : Int) = t.nodes) && decide (gI l n = 0) && (arcsR t.nodes.toNat).all (fun i => decide (gI l i = -1) || decide (0 ≤ gI l i)) &&
    (arcsR (2 * t.links.length)).all (fun a => !(upB down a && (decide (nearT t fr a = n) || !overT t (nearT t fr a)) && decide (0 ≤ gI l (nearT t fr a))) || (decide (0 ≤ gI l (farT t fr a)) && decide (gI l (farT t fr a) ≤ gI l (nearT t fr a) + costT t a))) &&
    (arcsR t.nodes.toNat).all (fun i => decide (i = n) || decide (gI l i < 0) || (arcsR (2 * t.links.length)).any fun a => upB down a && (decide (nearT t fr a = n) || !overT t (nearT t fr a)) && decide (farT t fr a = i) && decide (0 ≤ gI l (nearT t fr a)) && decide (gI l i = gI l (nearT t fr a) + costT t a))
theorem chkDist_is {t : Topo} {down : List Bool} {n : Int} {fr : Bool} {l : List Int} (h : chkDist t down n fr l = true) : IsDist t down n fr l := by
  simp only [chkDist, Bool.and_eq_true, decide_eq_true_eq, List.all_eq_true, Bool.or_eq_true, Bool.not_eq_true', Bool.and_eq_false_iff, decide_eq_false_iff_not, Bool.not_eq_false', List.any_eq_true] at h
  obtain ⟨⟨⟨⟨h1, h2⟩, h3⟩, h4⟩, h5⟩ := h
  have hn : t.nodes = (t.nodes.toNat : Int) := by omega
  refine ⟨h1, h2, fun i i0 i1 => h3 i (mem_arcsR.2 (by omega)), fun a a0 a1 hok hq => ?_, fun i i0 i1 hin hh => ?_⟩
  · rcases h4 a (mem_arcsR.2 (by omega)) with h | h
    · obtain ⟨o1, o2⟩ := hok
      rcases h with (h | h) | h
      · rw [o1] at h; cases h
      · rcases o2 with o2 | o2
        · rw [decide_eq_true o2] at h; simp at h
        · rw [o2] at h; simp at h
      · exact absurd hq h
    · exact h
  · rcases h5 i (mem_arcsR.2 (by omega)) with (h | h) | ⟨a, ha, h⟩
    · exact absurd h hin
    · omega
    · obtain ⟨⟨⟨⟨q1, q2⟩, q3⟩, q4⟩, q5⟩ := h
      have := mem_arcsR.1 ha
      exact ⟨a, this.1, by omega, ⟨q1, q2⟩, q3, q4, q5⟩

theorem distL_chk {t : Topo} {down : List Bool} {n : Int} {fr : Bool} {l : List Int} (he : errS t down n = 0) (h : chkDist t down n fr l = true) : distL t down n fr = l := by
  unfold distL
  rw [if_pos he, (chkDist_is h).eq (fitsB_v (errS_0 he).1)]

def sqT2 : Topo := ⟨4, [false, true, false, false], [sqL 0, sqL 1, sqL 2, sqL 3]⟩
theorem sq_d : distL sqT [] 2 false = [2, 1, 0, 1] := distL_chk (by kernel_rfl) (by kernel_rfl)
theorem sq2_d : distL sqT2 [] 2 false = [2, 1, 0, 1] := distL_chk (by kernel_rfl) (by kernel_rfl)
theorem sq_e : errS sqT [] 2 = 0 := by kernel_rfl
theorem sq2_e : errS sqT2 [] 2 = 0 := by kernel_rfl
theorem sq_p : errP sqT [] 0 2 = 0 := by
  unfold errP; rw [if_pos sq_e, sq_d]; decide
theorem sq2_p : errP sqT2 [] 0 2 = 0 := by
  unfold errP; rw [if_pos sq2_e, sq2_d]; decide
theorem sq_path : pathL sqT [] 0 2 = [0, 2] := by
  unfold pathL; rw [if_pos sq_p, sq_d]; kernel_rfl
theorem sq2_path : pathL sqT2 [] 0 2 = [7, 5] := by
  unfold pathL; rw [if_pos sq2_p, sq2_d]; kernel_rfl

theorem a_Dist : Ctr Try.prog 58 [sqD nilD, nilD, iD 2] [.ints .i64 [2, 1, 0, 1]] (.tup [.own 0, .d (iD 0)]) := by
  have := c_Dist sqT [] 2
  rw [sq_d, sq_e] at this
  exact this.args ⟨sqD_le DLe.nil, DLe.nil, DLe.refl _, trivial⟩
theorem a_Path : Ctr Try.prog 79 [sqD nilD, nilD, iD 0, iD 2] [.ints .i64 [0, 2]] (.tup [.own 0, .d (iD 0)]) := by
  have := c_Path sqT [] 0 2
  rw [sq_path, sq_p] at this
  exact this.args ⟨sqD_le DLe.nil, DLe.nil, DLe.refl _, DLe.refl _, trivial⟩
theorem a_Dist2 : Ctr Try.prog 58 [sqD (boolsD [false, true, false, false]), nilD, iD 2] [.ints .i64 [2, 1, 0, 1]] (.tup [.own 0, .d (iD 0)]) := by
  have := c_Dist sqT2 [] 2
  rw [sq2_d, sq2_e] at this
  exact this.args ⟨sqD_le (DLe.refl _), DLe.nil, DLe.refl _, trivial⟩
theorem a_Path2 : Ctr Try.prog 79 [sqD (boolsD [false, true, false, false]), nilD, iD 0, iD 2] [.ints .i64 [7, 5]] (.tup [.own 0, .d (iD 0)]) := by
  have := c_Path sqT2 [] 0 2
  rw [sq2_path, sq2_p] at this
  exact this.args ⟨sqD_le (DLe.refl _), DLe.nil, DLe.refl _, DLe.refl _, trivial⟩

theorem a_Same (a b : List Int) (h : a.length ≤ 100) : Ctr Try.prog 22 [intsD a, intsD b] [] (.d (bD (decide (a = b)))) := r_SameInts a b (by omega)

end Go.Proofs.Ytcnfggpcploehaa
