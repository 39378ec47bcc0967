/- Laid together: C27b, WkX, WkY, Mo, L27, L27a, L11b, L11c, L11d, L27b, L11e, Mx, L11f, L27c, Mq, R26. -/
import Derived.Deep.Slices
import Derived.ProofKit
import Derived.Carry
import Derived.Test.YtcnfggpcploehaaQ5

set_option linter.all false

/- Layer 27: search and its closures. -/
namespace Go.Proofs.Ytcnfggpcploehaa
set_option maxRecDepth 10000
open Go.Wk

theorem k27_Path1 (p : List Int) : CtrO Try.prog 55 [.own 1, .ptr 0 0] [.cells [.nil], .ints .i64 p] [.cells [.own 1], .ints .i64 p] (.tup []) := by
  refine spec_objP envOK (enters_of Try.func55 (by kernel_rfl) (by kernel_rfl)) Try.func55 rfl rfl _ rfl (Nat.le_of_ble_eq_true rfl) rfl (by simp [kindsP, Blk.isRow]) fun w0 ρ0 => ?_
  repeat' (first
  
    | refine aw_seq ?_
    | refine aw_region ?_
    | refine aw_region_q (by kernel_rfl) (by kernel_rfl) ?_
    | refine aw_block ?_
    | refine ao_nil ?_
    | refine ao_op rfl trivial ?_
    | refine aq_nil ?_
    | refine aq_op rfl trivial ?_
    | refine at_nil ?_
    | refine at_op rfl trivial ?_
    | refine am_nil ?_
    | refine am_op rfl trivial rfl ?_
    | refine aw_skip ?_
    | refine aw_condT rfl trivial ?_
    | refine aw_condF rfl trivial ?_
    | refine aw_condD rfl trivial (fun hc => ?_) (fun hc => ?_)
    | refine aw_condN rfl trivial (fun hc => ?_) (fun hc => ?_)
    | refine aw_condNB rfl trivial (fun hc => ?_) (fun hc => ?_)
    | refine aw_cond rfl trivial (fun hc => ?_) (fun hc => ?_)
    | refine aw_ret ?_
    | refine aw_exit ?_
    | refine ao_op rfl ?_ ?_
    | refine aq_op rfl ?_ ?_
    | refine at_op rfl ?_ ?_
    | refine am_op rfl ?_ rfl ?_
    | refine ao_box rfl trivial rfl rfl rfl ?_
    | refine ao_alloc rfl rfl rfl rfl ?_
    | refine ao_store rfl rfl trivial rfl trivial rfl rfl rfl rfl rfl ?_
  
    | (show allP _; first | trivial | exact ob1 (fun h => h) | exact ob2 (fun h => h) (fun h => h) | exact ob1 (fun h => ⟨h.1, trivial⟩) | (simp only [allP, obg, grd, allT, InR, decide_eq_true_eq, Bool.and_eq_true, Bool.not_eq_true', decide_eq_false_iff_not, List.nil_append, List.cons_append, List.append_nil, and_true, true_and]; first | omega | (intros; omega) | (simp only [Blk.len, List.length_set, List.length_append, List.length_cons, List.length_nil]; first | omega | (intros; omega)) | (refine ⟨?_, ?_⟩ <;> intros <;> first | (with_reducible assumption) | omega) | ((repeat' refine And.intro ?_ ?_) <;> (intros; first | (with_reducible assumption) | omega | (simp only [Blk.len, List.length_set, List.length_append, List.length_cons, List.length_nil]; omega))) | ((try simp only [Bool.or_eq_true, Bool.or_eq_false_iff, Bool.and_eq_true, Bool.and_eq_false_iff, decide_eq_true_eq, decide_eq_false_iff_not, Bool.not_eq_true', Bool.not_eq_false'] at *); (try simp only [Blk.len] at *); first | omega | (intros; omega)) | (simp_all; done))))
  (first | refine retON rfl (by (repeat (first | exact subS_nil | refine subS_cons (by first | rfl | rfl) ?_))) rfl | refine retON' rfl (by (repeat (first | exact subS_nil | refine subS_cons (by first | rfl | rfl) ?_))) rfl)

theorem k27_Reaches1 (p : List Int) : CtrO Try.prog 60 [.own 0] [.ints .i64 p] [.ints .i64 p] (.tup []) := by
  refine spec_objP envOK (enters_of Try.func60 (by kernel_rfl) (by kernel_rfl)) Try.func60 rfl rfl _ rfl (Nat.le_of_ble_eq_true rfl) rfl (by simp [kindsP, Blk.isRow]) fun w0 ρ0 => ?_
  repeat' (first
  
    | refine aw_seq ?_
    | refine aw_region ?_
    | refine aw_region_q (by kernel_rfl) (by kernel_rfl) ?_
    | refine aw_block ?_
    | refine ao_nil ?_
    | refine ao_op rfl trivial ?_
    | refine aq_nil ?_
    | refine aq_op rfl trivial ?_
    | refine at_nil ?_
    | refine at_op rfl trivial ?_
    | refine am_nil ?_
    | refine am_op rfl trivial rfl ?_
    | refine aw_skip ?_
    | refine aw_condT rfl trivial ?_
    | refine aw_condF rfl trivial ?_
    | refine aw_condD rfl trivial (fun hc => ?_) (fun hc => ?_)
    | refine aw_condN rfl trivial (fun hc => ?_) (fun hc => ?_)
    | refine aw_condNB rfl trivial (fun hc => ?_) (fun hc => ?_)
    | refine aw_cond rfl trivial (fun hc => ?_) (fun hc => ?_)
    | refine aw_ret ?_
    | refine aw_exit ?_
    | refine ao_op rfl ?_ ?_
    | refine aq_op rfl ?_ ?_
    | refine at_op rfl ?_ ?_
    | refine am_op rfl ?_ rfl ?_
    | refine ao_box rfl trivial rfl rfl rfl ?_
    | refine ao_alloc rfl rfl rfl rfl ?_
    | refine ao_store rfl rfl trivial rfl trivial rfl rfl rfl rfl rfl ?_
  
    | (show allP _; first | trivial | exact ob1 (fun h => h) | exact ob2 (fun h => h) (fun h => h) | exact ob1 (fun h => ⟨h.1, trivial⟩) | (simp only [allP, obg, grd, allT, InR, decide_eq_true_eq, Bool.and_eq_true, Bool.not_eq_true', decide_eq_false_iff_not, List.nil_append, List.cons_append, List.append_nil, and_true, true_and]; first | omega | (intros; omega) | (simp only [Blk.len, List.length_set, List.length_append, List.length_cons, List.length_nil]; first | omega | (intros; omega)) | (refine ⟨?_, ?_⟩ <;> intros <;> first | (with_reducible assumption) | omega) | ((repeat' refine And.intro ?_ ?_) <;> (intros; first | (with_reducible assumption) | omega | (simp only [Blk.len, List.length_set, List.length_append, List.length_cons, List.length_nil]; omega))) | ((try simp only [Bool.or_eq_true, Bool.or_eq_false_iff, Bool.and_eq_true, Bool.and_eq_false_iff, decide_eq_true_eq, decide_eq_false_iff_not, Bool.not_eq_true', Bool.not_eq_false'] at *); (try simp only [Blk.len] at *); first | omega | (intros; omega)) | (simp_all; done))))
  (first | refine retON rfl (by (repeat (first | exact subS_nil | refine subS_cons (by first | rfl | rfl) ?_))) rfl | refine retON' rfl (by (repeat (first | exact subS_nil | refine subS_cons (by first | rfl | rfl) ?_))) rfl)

theorem s27_Path0 (t : Topo) (down : List Bool) (n d : Int) (h : errP t down n d = 0) : CtrO Try.prog 54 [.d (topoD t), .d (boolsD down), .d (iD n), .d (iD d), .clo 55 [.ptr 0 0]] [.cells [.nil]]
    [.cells [.own 1], .ints .i64 (pathL t down n d)] (.d (iD 0)) := by
  refine spec_mem envOK (enters_of Try.func54 (by kernel_rfl) (by kernel_rfl)) Try.func54 rfl rfl _ rfl (Nat.le_of_ble_eq_true rfl) rfl (by simp [kindsP, Blk.isRow]) fun w0 ρ0 => ?_
  have hR := c_Path t down n d
  rw [h] at hR
  repeat' (first
  
    | refine aw_seq ?_
    | refine aw_region ?_
    | refine aw_region_q (by kernel_rfl) (by kernel_rfl) ?_
    | refine aw_block ?_
    | refine ao_nil ?_
    | refine ao_op rfl trivial ?_
    | refine aq_nil ?_
    | refine aq_op rfl trivial ?_
    | refine at_nil ?_
    | refine at_op rfl trivial ?_
    | refine am_nil ?_
    | refine am_op rfl trivial rfl ?_
    | refine aw_skip ?_
    | refine aw_condT rfl trivial ?_
    | refine aw_condF rfl trivial ?_
    | refine aw_condD rfl trivial (fun hc => ?_) (fun hc => ?_)
    | refine aw_condN rfl trivial (fun hc => ?_) (fun hc => ?_)
    | refine aw_condNB rfl trivial (fun hc => ?_) (fun hc => ?_)
    | refine aw_cond rfl trivial (fun hc => ?_) (fun hc => ?_)
    | refine aw_ret ?_
    | refine aw_exit ?_
    | refine ao_op rfl ?_ ?_
    | refine aq_op rfl ?_ ?_
    | refine at_op rfl ?_ ?_
    | refine am_op rfl ?_ rfl ?_
    | refine ao_box rfl trivial rfl rfl rfl ?_
    | refine ao_alloc rfl rfl rfl rfl ?_
    | refine ao_store rfl rfl trivial rfl trivial rfl rfl rfl rfl rfl ?_
    | refine ao_callR rfl (hR) trivial rfl rfl ?_
    | refine ao_callC rfl (k27_Path1 _) [0, 2] trivial rfl rfl (by repeat (first | exact ArgsOK.nil | refine ArgsOK.cons ?_ ?_ | exact ArgOK.d _ | exact ArgOK.nil | exact ArgOK.rpp _ | exact ArgOK.ptr rfl | exact ArgOK.own rfl | exact ArgOK.ep rfl | exact ArgOK.sl rfl | refine ArgOK.clo ?_ | refine ArgOK.agg ?_ | exact ArgOK.data rfl rfl | refine ArgOK.rp rfl rfl ?_ rfl | exact DatOK.nil | refine DatOK.cons rfl rfl ?_ | exact ArgOK.bot _)) rfl rfl rfl rfl (by simp [kindsP, Blk.isRow]) (by simp [bflL, bfl, vflL, vfl, D.flat, D.scal, Blk.flat]) rfl rfl rfl rfl rfl rfl rfl ?_
    | (show allP _; first | trivial | exact ob1 (fun h => h) | exact ob2 (fun h => h) (fun h => h) | exact ob1 (fun h => ⟨h.1, trivial⟩) | (simp only [allP, obg, grd, allT, InR, decide_eq_true_eq, Bool.and_eq_true, Bool.not_eq_true', decide_eq_false_iff_not, List.nil_append, List.cons_append, List.append_nil, and_true, true_and]; first | omega | (intros; omega) | (simp only [Blk.len, List.length_set, List.length_append, List.length_cons, List.length_nil]; first | omega | (intros; omega)) | (refine ⟨?_, ?_⟩ <;> intros <;> first | (with_reducible assumption) | omega) | ((repeat' refine And.intro ?_ ?_) <;> (intros; first | (with_reducible assumption) | omega | (simp only [Blk.len, List.length_set, List.length_append, List.length_cons, List.length_nil]; omega))) | ((try simp only [Bool.or_eq_true, Bool.or_eq_false_iff, Bool.and_eq_true, Bool.and_eq_false_iff, decide_eq_true_eq, decide_eq_false_iff_not, Bool.not_eq_true', Bool.not_eq_false'] at *); (try simp only [Blk.len] at *); first | omega | (intros; omega)) | (simp_all; done))))
  (exact retM1 [0, 2] rfl rfl rfl rfl (by repeat (first | exact BlksOK.nil | refine BlksOK.cells (by repeat (first | exact ArgsOK.nil | refine ArgsOK.cons ?_ ?_ | exact ArgOK.d _ | exact ArgOK.nil | exact ArgOK.rpp _ | exact ArgOK.ptr rfl | exact ArgOK.own rfl | exact ArgOK.ep rfl | exact ArgOK.sl rfl | refine ArgOK.clo ?_ | refine ArgOK.agg ?_ | exact ArgOK.data rfl rfl | refine ArgOK.rp rfl rfl ?_ rfl | exact DatOK.nil | refine DatOK.cons rfl rfl ?_ | exact ArgOK.bot _ | exact ArgOK.deq (by rfl))) ?_ | refine BlksOK.row rfl ?_ | exact BlksOK.gone ?_ | refine BlksOK.rowE rfl (by rfl) ?_)) (by repeat (first | exact ArgsOK.nil | refine ArgsOK.cons ?_ ?_ | exact ArgOK.d _ | exact ArgOK.nil | exact ArgOK.rpp _ | exact ArgOK.ptr rfl | exact ArgOK.own rfl | exact ArgOK.ep rfl | exact ArgOK.sl rfl | refine ArgOK.clo ?_ | refine ArgOK.agg ?_ | exact ArgOK.data rfl rfl | refine ArgOK.rp rfl rfl ?_ rfl | exact DatOK.nil | refine DatOK.cons rfl rfl ?_ | exact ArgOK.bot _ | exact ArgOK.deq (by rfl))))
theorem s27_Path1 (t : Topo) (down : List Bool) (n d : Int) (h : errP t down n d ≠ 0) : CtrO Try.prog 54 [.d (topoD t), .d (boolsD down), .d (iD n), .d (iD d), .clo 55 [.ptr 0 0]] [.cells [.nil]]
    [.cells [.nil]] (.d (iD (errP t down n d))) := by
  refine spec_mem envOK (enters_of Try.func54 (by kernel_rfl) (by kernel_rfl)) Try.func54 rfl rfl _ rfl (Nat.le_of_ble_eq_true rfl) rfl (by simp [kindsP, Blk.isRow]) fun w0 ρ0 => ?_
  repeat' (first
  
    | refine aw_seq ?_
    | refine aw_region ?_
    | refine aw_region_q (by kernel_rfl) (by kernel_rfl) ?_
    | refine aw_block ?_
    | refine ao_nil ?_
    | refine ao_op rfl trivial ?_
    | refine aq_nil ?_
    | refine aq_op rfl trivial ?_
    | refine at_nil ?_
    | refine at_op rfl trivial ?_
    | refine am_nil ?_
    | refine am_op rfl trivial rfl ?_
    | refine aw_skip ?_
    | refine aw_condT rfl trivial ?_
    | refine aw_condF rfl trivial ?_
    | refine aw_condD rfl trivial (fun hc => ?_) (fun hc => ?_)
    | refine aw_condN rfl trivial (fun hc => ?_) (fun hc => ?_)
    | refine aw_condNB rfl trivial (fun hc => ?_) (fun hc => ?_)
    | refine aw_cond rfl trivial (fun hc => ?_) (fun hc => ?_)
    | refine aw_ret ?_
    | refine aw_exit ?_
    | refine ao_op rfl ?_ ?_
    | refine aq_op rfl ?_ ?_
    | refine at_op rfl ?_ ?_
    | refine am_op rfl ?_ rfl ?_
    | refine ao_box rfl trivial rfl rfl rfl ?_
    | refine ao_alloc rfl rfl rfl rfl ?_
    | refine ao_store rfl rfl trivial rfl trivial rfl rfl rfl rfl rfl ?_
    | (exfalso; exact h (by assumption))
    | refine ao_callR rfl (c_Path t down n d) trivial rfl rfl ?_
    | (show allP _; first | trivial | exact ob1 (fun h => h) | exact ob2 (fun h => h) (fun h => h) | exact ob1 (fun h => ⟨h.1, trivial⟩) | (simp only [allP, obg, grd, allT, InR, decide_eq_true_eq, Bool.and_eq_true, Bool.not_eq_true', decide_eq_false_iff_not, List.nil_append, List.cons_append, List.append_nil, and_true, true_and]; first | omega | (intros; omega) | (simp only [Blk.len, List.length_set, List.length_append, List.length_cons, List.length_nil]; first | omega | (intros; omega)) | (refine ⟨?_, ?_⟩ <;> intros <;> first | (with_reducible assumption) | omega) | ((repeat' refine And.intro ?_ ?_) <;> (intros; first | (with_reducible assumption) | omega | (simp only [Blk.len, List.length_set, List.length_append, List.length_cons, List.length_nil]; omega))) | ((try simp only [Bool.or_eq_true, Bool.or_eq_false_iff, Bool.and_eq_true, Bool.and_eq_false_iff, decide_eq_true_eq, decide_eq_false_iff_not, Bool.not_eq_true', Bool.not_eq_false'] at *); (try simp only [Blk.len] at *); first | omega | (intros; omega)) | (simp_all; done))))
  (exact retM1 [0] rfl rfl rfl rfl (by repeat (first | exact BlksOK.nil | refine BlksOK.cells (by repeat (first | exact ArgsOK.nil | refine ArgsOK.cons ?_ ?_ | exact ArgOK.d _ | exact ArgOK.nil | exact ArgOK.rpp _ | exact ArgOK.ptr rfl | exact ArgOK.own rfl | exact ArgOK.ep rfl | exact ArgOK.sl rfl | refine ArgOK.clo ?_ | refine ArgOK.agg ?_ | exact ArgOK.data rfl rfl | refine ArgOK.rp rfl rfl ?_ rfl | exact DatOK.nil | refine DatOK.cons rfl rfl ?_ | exact ArgOK.bot _ | exact ArgOK.deq (by rfl))) ?_ | refine BlksOK.row rfl ?_ | exact BlksOK.gone ?_ | refine BlksOK.rowE rfl (by rfl) ?_)) (by repeat (first | exact ArgsOK.nil | refine ArgsOK.cons ?_ ?_ | exact ArgOK.d _ | exact ArgOK.nil | exact ArgOK.rpp _ | exact ArgOK.ptr rfl | exact ArgOK.own rfl | exact ArgOK.ep rfl | exact ArgOK.sl rfl | refine ArgOK.clo ?_ | refine ArgOK.agg ?_ | exact ArgOK.data rfl rfl | refine ArgOK.rp rfl rfl ?_ rfl | exact DatOK.nil | refine DatOK.cons rfl rfl ?_ | exact ArgOK.bot _ | exact ArgOK.deq (by rfl))))
theorem s27_Reaches (t : Topo) (down : List Bool) (n d : Int) : CtrO Try.prog 54 [.d (topoD t), .d (boolsD down), .d (iD n), .d (iD d), .d (.fn 60)] [] [] (.d (iD (errP t down n d))) := by
  refine spec_mem envOK (enters_of Try.func54 (by kernel_rfl) (by kernel_rfl)) Try.func54 rfl rfl _ rfl (Nat.le_of_ble_eq_true rfl) rfl (by simp [kindsP, Blk.isRow]) fun w0 ρ0 => ?_
  repeat' (first
  
    | refine aw_seq ?_
    | refine aw_region ?_
    | refine aw_region_q (by kernel_rfl) (by kernel_rfl) ?_
    | refine aw_block ?_
    | refine ao_nil ?_
    | refine ao_op rfl trivial ?_
    | refine aq_nil ?_
    | refine aq_op rfl trivial ?_
    | refine at_nil ?_
    | refine at_op rfl trivial ?_
    | refine am_nil ?_
    | refine am_op rfl trivial rfl ?_
    | refine aw_skip ?_
    | refine aw_condT rfl trivial ?_
    | refine aw_condF rfl trivial ?_
    | refine aw_condD rfl trivial (fun hc => ?_) (fun hc => ?_)
    | refine aw_condN rfl trivial (fun hc => ?_) (fun hc => ?_)
    | refine aw_condNB rfl trivial (fun hc => ?_) (fun hc => ?_)
    | refine aw_cond rfl trivial (fun hc => ?_) (fun hc => ?_)
    | refine aw_ret ?_
    | refine aw_exit ?_
    | refine ao_op rfl ?_ ?_
    | refine aq_op rfl ?_ ?_
    | refine at_op rfl ?_ ?_
    | refine am_op rfl ?_ rfl ?_
    | refine ao_box rfl trivial rfl rfl rfl ?_
    | refine ao_alloc rfl rfl rfl rfl ?_
    | refine ao_store rfl rfl trivial rfl trivial rfl rfl rfl rfl rfl ?_
    | refine ao_callR rfl (c_Path t down n d) trivial rfl rfl ?_
    | refine ao_callC rfl (k27_Reaches1 _) [1] trivial rfl rfl (by repeat (first | exact ArgsOK.nil | refine ArgsOK.cons ?_ ?_ | exact ArgOK.d _ | exact ArgOK.nil | exact ArgOK.rpp _ | exact ArgOK.ptr rfl | exact ArgOK.own rfl | exact ArgOK.ep rfl | exact ArgOK.sl rfl | refine ArgOK.clo ?_ | refine ArgOK.agg ?_ | exact ArgOK.data rfl rfl | refine ArgOK.rp rfl rfl ?_ rfl | exact DatOK.nil | refine DatOK.cons rfl rfl ?_ | exact ArgOK.bot _)) rfl rfl rfl rfl (by simp [kindsP, Blk.isRow]) (by simp [bflL, bfl, vflL, vfl, D.flat, D.scal, Blk.flat]) rfl rfl rfl rfl rfl rfl rfl ?_
    | (show allP _; first | trivial | exact ob1 (fun h => h) | exact ob2 (fun h => h) (fun h => h) | exact ob1 (fun h => ⟨h.1, trivial⟩) | (simp only [allP, obg, grd, allT, InR, decide_eq_true_eq, Bool.and_eq_true, Bool.not_eq_true', decide_eq_false_iff_not, List.nil_append, List.cons_append, List.append_nil, and_true, true_and]; first | omega | (intros; omega) | (simp only [Blk.len, List.length_set, List.length_append, List.length_cons, List.length_nil]; first | omega | (intros; omega)) | (refine ⟨?_, ?_⟩ <;> intros <;> first | (with_reducible assumption) | omega) | ((repeat' refine And.intro ?_ ?_) <;> (intros; first | (with_reducible assumption) | omega | (simp only [Blk.len, List.length_set, List.length_append, List.length_cons, List.length_nil]; omega))) | ((try simp only [Bool.or_eq_true, Bool.or_eq_false_iff, Bool.and_eq_true, Bool.and_eq_false_iff, decide_eq_true_eq, decide_eq_false_iff_not, Bool.not_eq_true', Bool.not_eq_false'] at *); (try simp only [Blk.len] at *); first | omega | (intros; omega)) | (simp_all; done))))
  all_goals (exact retM1 [] rfl rfl rfl rfl (by repeat (first | exact BlksOK.nil | refine BlksOK.cells (by repeat (first | exact ArgsOK.nil | refine ArgsOK.cons ?_ ?_ | exact ArgOK.d _ | exact ArgOK.nil | exact ArgOK.rpp _ | exact ArgOK.ptr rfl | exact ArgOK.own rfl | exact ArgOK.ep rfl | exact ArgOK.sl rfl | refine ArgOK.clo ?_ | refine ArgOK.agg ?_ | exact ArgOK.data rfl rfl | refine ArgOK.rp rfl rfl ?_ rfl | exact DatOK.nil | refine DatOK.cons rfl rfl ?_ | exact ArgOK.bot _ | exact ArgOK.deq (by rfl))) ?_ | refine BlksOK.row rfl ?_ | exact BlksOK.gone ?_ | refine BlksOK.rowE rfl (by rfl) ?_)) (by repeat (first | exact ArgsOK.nil | refine ArgsOK.cons ?_ ?_ | exact ArgOK.d _ | exact ArgOK.nil | exact ArgOK.rpp _ | exact ArgOK.ptr rfl | exact ArgOK.own rfl | exact ArgOK.ep rfl | exact ArgOK.sl rfl | refine ArgOK.clo ?_ | refine ArgOK.agg ?_ | exact ArgOK.data rfl rfl | refine ArgOK.rp rfl rfl ?_ rfl | exact DatOK.nil | refine DatOK.cons rfl rfl ?_ | exact ArgOK.bot _ | exact ArgOK.deq (by rfl))))
theorem c27_Reaches (t : Topo) (down : List Bool) (n d : Int) : Ctr Try.prog 23 [topoD t, boolsD down, iD n, iD d] [] (.d (bD (decide (errP t down n d = 0)))) := by
  refine spec_of envOK (enters_of Try.func23 (by kernel_rfl) (by kernel_rfl)) Try.func23 rfl rfl _ rfl (Nat.le_of_ble_eq_true rfl) rfl fun w0 => ?_
  repeat' (first
  
    | refine aw_seq ?_
    | refine aw_region ?_
    | refine aw_region_q (by kernel_rfl) (by kernel_rfl) ?_
    | refine aw_block ?_
    | refine ao_nil ?_
    | refine ao_op rfl trivial ?_
    | refine aq_nil ?_
    | refine aq_op rfl trivial ?_
    | refine at_nil ?_
    | refine at_op rfl trivial ?_
    | refine am_nil ?_
    | refine am_op rfl trivial rfl ?_
    | refine aw_skip ?_
    | refine aw_condT rfl trivial ?_
    | refine aw_condF rfl trivial ?_
    | refine aw_condD rfl trivial (fun hc => ?_) (fun hc => ?_)
    | refine aw_condN rfl trivial (fun hc => ?_) (fun hc => ?_)
    | refine aw_condNB rfl trivial (fun hc => ?_) (fun hc => ?_)
    | refine aw_cond rfl trivial (fun hc => ?_) (fun hc => ?_)
    | refine aw_ret ?_
    | refine aw_exit ?_
    | refine ao_op rfl ?_ ?_
    | refine aq_op rfl ?_ ?_
    | refine at_op rfl ?_ ?_
    | refine am_op rfl ?_ rfl ?_
    | refine ao_box rfl trivial rfl rfl rfl ?_
    | refine ao_alloc rfl rfl rfl rfl ?_
    | refine ao_store rfl rfl trivial rfl trivial rfl rfl rfl rfl rfl ?_
    | refine ao_callC rfl (s27_Reaches t down n d) [] trivial rfl rfl (by repeat (first | exact ArgsOK.nil | refine ArgsOK.cons ?_ ?_ | exact ArgOK.d _ | exact ArgOK.nil | exact ArgOK.rpp _ | exact ArgOK.ptr rfl | exact ArgOK.own rfl | exact ArgOK.ep rfl | exact ArgOK.sl rfl | refine ArgOK.clo ?_ | refine ArgOK.agg ?_ | exact ArgOK.data rfl rfl | refine ArgOK.rp rfl rfl ?_ rfl | exact DatOK.nil | refine DatOK.cons rfl rfl ?_ | exact ArgOK.bot _)) rfl rfl rfl rfl (by simp [kindsP, Blk.isRow]) (by simp [bflL, bfl, vflL, vfl, D.flat, D.scal, Blk.flat]) rfl rfl rfl rfl rfl rfl rfl ?_
    | (show allP _; first | trivial | exact ob1 (fun h => h) | exact ob2 (fun h => h) (fun h => h) | exact ob1 (fun h => ⟨h.1, trivial⟩) | (simp only [allP, obg, grd, allT, InR, decide_eq_true_eq, Bool.and_eq_true, Bool.not_eq_true', decide_eq_false_iff_not, List.nil_append, List.cons_append, List.append_nil, and_true, true_and]; first | omega | (intros; omega) | (simp only [Blk.len, List.length_set, List.length_append, List.length_cons, List.length_nil]; first | omega | (intros; omega)) | (refine ⟨?_, ?_⟩ <;> intros <;> first | (with_reducible assumption) | omega) | ((repeat' refine And.intro ?_ ?_) <;> (intros; first | (with_reducible assumption) | omega | (simp only [Blk.len, List.length_set, List.length_append, List.length_cons, List.length_nil]; omega))) | ((try simp only [Bool.or_eq_true, Bool.or_eq_false_iff, Bool.and_eq_true, Bool.and_eq_false_iff, decide_eq_true_eq, decide_eq_false_iff_not, Bool.not_eq_true', Bool.not_eq_false'] at *); (try simp only [Blk.len] at *); first | omega | (intros; omega)) | (simp_all; done))))
  (refine fin_ret ?_; exact ret1 (by rfl) (by rfl) (by rfl))
theorem pathL_nok {t : Topo} {down : List Bool} {s d : Int} (h : errP t down s d ≠ 0) : pathL t down s d = [] := by unfold pathL; rw [if_neg h]
theorem pathL_ok {t : Topo} {down : List Bool} {s d : Int} (h : errP t down s d = 0) : pathL t down s d = pathF t down d (distL t down d false) s := by unfold pathL; rw [if_pos h]
theorem pathL_cost {t : Topo} {down : List Bool} {s d : Int} (h : errP t down s d = 0) : pth9 t s (pathL t down s d) = (d, gI (distL t down d false) s, 0) ∧ costP t (pathL t down s d) = gI (distL t down d false) s := by
  obtain ⟨herr, s0, s1, sn⟩ := errP_0 h
  have hv := fitsB_v (errS_0 herr).1
  have hI := distL_is (fr := false) herr
  have h9 := pthF_pathF hv hI (gI (distL t down d false) s).toNat s 0 true s0 s1 sn (by omega) (.inl rfl)
  rw [← pathL_ok h] at h9
  have hp := pathF_parts hv hI (gI (distL t down d false) s).toNat s s0 s1 sn (by omega)
  rw [← pathL_ok h] at hp
  have h2 := pthF_Pth (down := down) hv _ _ _ _ _ _ h9 (fun a ha => by
    obtain ⟨i, hi, rfl⟩ := List.mem_iff_getElem.1 ha
    have := (hp i hi).1
    rwa [List.getD_eq_getElem?_getD, List.getElem?_eq_getElem hi] at this)
  refine ⟨by unfold pth9; rw [if_pos hv, if_neg (by omega), h9]; simp, by have := h2.2.1; omega⟩

theorem c27_Path (t : Topo) (down : List Bool) (n d : Int) : Ctr Try.prog 18 [topoD t, boolsD down, iD n, iD d] [.ints .i64 (pathL t down n d)] (.tup [.own 0, .d (iD (errP t down n d))]) := by
  by_cases h : errP t down n d = 0
  · refine spec_of envOK (enters_of Try.func18 (by kernel_rfl) (by kernel_rfl)) Try.func18 rfl rfl _ rfl (Nat.le_of_ble_eq_true rfl) rfl fun w0 => ?_
    repeat' (first
    
      | refine aw_seq ?_
      | refine aw_region ?_
      | refine aw_region_q (by kernel_rfl) (by kernel_rfl) ?_
      | refine aw_block ?_
      | refine ao_nil ?_
      | refine ao_op rfl trivial ?_
      | refine aq_nil ?_
      | refine aq_op rfl trivial ?_
      | refine at_nil ?_
      | refine at_op rfl trivial ?_
      | refine am_nil ?_
      | refine am_op rfl trivial rfl ?_
      | refine aw_skip ?_
      | refine aw_condT rfl trivial ?_
      | refine aw_condF rfl trivial ?_
      | refine aw_condD rfl trivial (fun hc => ?_) (fun hc => ?_)
      | refine aw_condN rfl trivial (fun hc => ?_) (fun hc => ?_)
      | refine aw_condNB rfl trivial (fun hc => ?_) (fun hc => ?_)
      | refine aw_cond rfl trivial (fun hc => ?_) (fun hc => ?_)
      | refine aw_ret ?_
      | refine aw_exit ?_
      | refine ao_op rfl ?_ ?_
      | refine aq_op rfl ?_ ?_
      | refine at_op rfl ?_ ?_
      | refine am_op rfl ?_ rfl ?_
      | refine ao_box rfl trivial rfl rfl rfl ?_
      | refine ao_alloc rfl rfl rfl rfl ?_
      | refine ao_store rfl rfl trivial rfl trivial rfl rfl rfl rfl rfl ?_
      | refine ao_callC rfl (s27_Path0 t down n d h) [1] trivial rfl rfl (by repeat (first | exact ArgsOK.nil | refine ArgsOK.cons ?_ ?_ | exact ArgOK.d _ | exact ArgOK.nil | exact ArgOK.rpp _ | exact ArgOK.ptr rfl | exact ArgOK.own rfl | exact ArgOK.ep rfl | exact ArgOK.sl rfl | refine ArgOK.clo ?_ | refine ArgOK.agg ?_ | exact ArgOK.data rfl rfl | refine ArgOK.rp rfl rfl ?_ rfl | exact DatOK.nil | refine DatOK.cons rfl rfl ?_ | exact ArgOK.bot _)) rfl rfl rfl rfl (by simp [kindsP, Blk.isRow]) (by simp [bflL, bfl, vflL, vfl, D.flat, D.scal, Blk.flat]) rfl rfl rfl rfl rfl rfl rfl ?_
      | (show allP _; first | trivial | exact ob1 (fun h => h) | exact ob2 (fun h => h) (fun h => h) | exact ob1 (fun h => ⟨h.1, trivial⟩) | (simp only [allP, obg, grd, allT, InR, decide_eq_true_eq, Bool.and_eq_true, Bool.not_eq_true', decide_eq_false_iff_not, List.nil_append, List.cons_append, List.append_nil, and_true, true_and]; first | omega | (intros; omega) | (simp only [Blk.len, List.length_set, List.length_append, List.length_cons, List.length_nil]; first | omega | (intros; omega)) | (refine ⟨?_, ?_⟩ <;> intros <;> first | (with_reducible assumption) | omega) | ((repeat' refine And.intro ?_ ?_) <;> (intros; first | (with_reducible assumption) | omega | (simp only [Blk.len, List.length_set, List.length_append, List.length_cons, List.length_nil]; omega))) | ((try simp only [Bool.or_eq_true, Bool.or_eq_false_iff, Bool.and_eq_true, Bool.and_eq_false_iff, decide_eq_true_eq, decide_eq_false_iff_not, Bool.not_eq_true', Bool.not_eq_false'] at *); (try simp only [Blk.len] at *); first | omega | (intros; omega)) | (simp_all; done))))
    refine fin_ret ?_; exact retOwn2 rfl rfl rfl (by rw [h]) trivial rfl
  · refine spec_of envOK (enters_of Try.func18 (by kernel_rfl) (by kernel_rfl)) Try.func18 rfl rfl _ rfl (Nat.le_of_ble_eq_true rfl) rfl fun w0 => ?_
    repeat' (first
    
      | refine aw_seq ?_
      | refine aw_region ?_
      | refine aw_region_q (by kernel_rfl) (by kernel_rfl) ?_
      | refine aw_block ?_
      | refine ao_nil ?_
      | refine ao_op rfl trivial ?_
      | refine aq_nil ?_
      | refine aq_op rfl trivial ?_
      | refine at_nil ?_
      | refine at_op rfl trivial ?_
      | refine am_nil ?_
      | refine am_op rfl trivial rfl ?_
      | refine aw_skip ?_
      | refine aw_condT rfl trivial ?_
      | refine aw_condF rfl trivial ?_
      | refine aw_condD rfl trivial (fun hc => ?_) (fun hc => ?_)
      | refine aw_condN rfl trivial (fun hc => ?_) (fun hc => ?_)
      | refine aw_condNB rfl trivial (fun hc => ?_) (fun hc => ?_)
      | refine aw_cond rfl trivial (fun hc => ?_) (fun hc => ?_)
      | refine aw_ret ?_
      | refine aw_exit ?_
      | refine ao_op rfl ?_ ?_
      | refine aq_op rfl ?_ ?_
      | refine at_op rfl ?_ ?_
      | refine am_op rfl ?_ rfl ?_
      | refine ao_box rfl trivial rfl rfl rfl ?_
      | refine ao_alloc rfl rfl rfl rfl ?_
      | refine ao_store rfl rfl trivial rfl trivial rfl rfl rfl rfl rfl ?_
      | refine ao_callC rfl (s27_Path1 t down n d h) [1] trivial rfl rfl (by repeat (first | exact ArgsOK.nil | refine ArgsOK.cons ?_ ?_ | exact ArgOK.d _ | exact ArgOK.nil | exact ArgOK.rpp _ | exact ArgOK.ptr rfl | exact ArgOK.own rfl | exact ArgOK.ep rfl | exact ArgOK.sl rfl | refine ArgOK.clo ?_ | refine ArgOK.agg ?_ | exact ArgOK.data rfl rfl | refine ArgOK.rp rfl rfl ?_ rfl | exact DatOK.nil | refine DatOK.cons rfl rfl ?_ | exact ArgOK.bot _)) rfl rfl rfl rfl (by simp [kindsP, Blk.isRow]) (by simp [bflL, bfl, vflL, vfl, D.flat, D.scal, Blk.flat]) rfl rfl rfl rfl rfl rfl rfl ?_
      | (show allP _; first | trivial | exact ob1 (fun h => h) | exact ob2 (fun h => h) (fun h => h) | exact ob1 (fun h => ⟨h.1, trivial⟩) | (simp only [allP, obg, grd, allT, InR, decide_eq_true_eq, Bool.and_eq_true, Bool.not_eq_true', decide_eq_false_iff_not, List.nil_append, List.cons_append, List.append_nil, and_true, true_and]; first | omega | (intros; omega) | (simp only [Blk.len, List.length_set, List.length_append, List.length_cons, List.length_nil]; first | omega | (intros; omega)) | (refine ⟨?_, ?_⟩ <;> intros <;> first | (with_reducible assumption) | omega) | ((repeat' refine And.intro ?_ ?_) <;> (intros; first | (with_reducible assumption) | omega | (simp only [Blk.len, List.length_set, List.length_append, List.length_cons, List.length_nil]; omega))) | ((try simp only [Bool.or_eq_true, Bool.or_eq_false_iff, Bool.and_eq_true, Bool.and_eq_false_iff, decide_eq_true_eq, decide_eq_false_iff_not, Bool.not_eq_true', Bool.not_eq_false'] at *); (try simp only [Blk.len] at *); first | omega | (intros; omega)) | (simp_all; done))))
    refine fin_ret ?_; exact retNil2 rfl (by rw [pathL_nok h]; rfl) rfl trivial rfl

theorem k27_Extra1 (t : Topo) (down : List Bool) (n d : Int) (he : errP t down n d = 0) : CtrO Try.prog 57 [.d (intsD (pathL t down n d)), .rp [iD t.nodes, boolsD t.overload, linksD t.links], .rp [iD d], .rp [iD n], .ptr 0 0] [.cells [.d (iD 0)]] [.cells [.d (iD (extraL t down n d))]] (.tup []) := by
  refine spec_mem envOK (enters_of Try.func57 (by kernel_rfl) (by kernel_rfl)) Try.func57 rfl rfl _ rfl (Nat.le_of_ble_eq_true rfl) rfl (by simp [kindsP, Blk.isRow]) fun w0 ρ0 => ?_
  obtain ⟨herr, n0, n1, sn⟩ := errP_0 he
  have hR := (c_Dist t [] d).args (ds' := [topoD t, nilD, iD d]) ⟨DLe.refl _, DLe.nil, DLe.refl _, trivial⟩
  have hbd := distL_bnd (fr := false) (errS_nil herr) n n0 n1
  have hI := distL_is (fr := false) (errS_nil herr)
  have hsg := hI.sign n n0 n1
  have hlen := hI.len
  have hbd2 := distL_bnd (fr := false) herr n n0 n1
  have hpl := pathL_len t down n d
  have hP := c_Path9 t n (pathL t down n d) (by omega)
  rw [(pathL_cost he).1] at hP
  have hx : extraL t down n d = gI (distL t down d false) n - gI (distL t [] d false) n := by unfold extraL; rw [if_pos he, (pathL_cost he).2]
  rw [hx]
  simp only at hP
  generalize distL t [] d false = l at *
  generalize distL t down d false = l' at *
  have hll : ((Blk.ints .i64 l).len : Int) = l.length := rfl
  repeat' (first
  
    | refine aw_seq ?_
    | refine aw_region ?_
    | refine aw_region_q (by kernel_rfl) (by kernel_rfl) ?_
    | refine aw_block ?_
    | refine ao_nil ?_
    | refine ao_op rfl trivial ?_
    | refine aq_nil ?_
    | refine aq_op rfl trivial ?_
    | refine at_nil ?_
    | refine at_op rfl trivial ?_
    | refine am_nil ?_
    | refine am_op rfl trivial rfl ?_
    | refine aw_skip ?_
    | refine aw_condT rfl trivial ?_
    | refine aw_condF rfl trivial ?_
    | refine aw_condD rfl trivial (fun hc => ?_) (fun hc => ?_)
    | refine aw_condN rfl trivial (fun hc => ?_) (fun hc => ?_)
    | refine aw_condNB rfl trivial (fun hc => ?_) (fun hc => ?_)
    | refine aw_cond rfl trivial (fun hc => ?_) (fun hc => ?_)
    | refine aw_ret ?_
    | refine aw_exit ?_
    | refine ao_op rfl ?_ ?_
    | refine aq_op rfl ?_ ?_
    | refine at_op rfl ?_ ?_
    | refine am_op rfl ?_ rfl ?_
    | refine ao_box rfl trivial rfl rfl rfl ?_
    | refine ao_alloc rfl rfl rfl rfl ?_
    | refine ao_store rfl rfl trivial rfl trivial rfl rfl rfl rfl rfl ?_
    | refine ao_callR rfl (hR) trivial rfl rfl ?_
    | refine ao_callR rfl (hP) trivial rfl rfl ?_
    | (show allP _; first | trivial | exact ob1 (fun h => h) | exact ob2 (fun h => h) (fun h => h) | exact ob1 (fun h => ⟨h.1, trivial⟩) | (simp only [allP, obg, grd, allT, InR, decide_eq_true_eq, Bool.and_eq_true, Bool.not_eq_true', decide_eq_false_iff_not, List.nil_append, List.cons_append, List.append_nil, and_true, true_and]; first | omega | (intros; omega) | (simp only [Blk.len, List.length_set, List.length_append, List.length_cons, List.length_nil]; first | omega | (intros; omega)) | (refine ⟨?_, ?_⟩ <;> intros <;> first | (with_reducible assumption) | omega) | ((repeat' refine And.intro ?_ ?_) <;> (intros; first | (with_reducible assumption) | omega | (simp only [Blk.len, List.length_set, List.length_append, List.length_cons, List.length_nil]; omega))) | ((try simp only [Bool.or_eq_true, Bool.or_eq_false_iff, Bool.and_eq_true, Bool.and_eq_false_iff, decide_eq_true_eq, decide_eq_false_iff_not, Bool.not_eq_true', Bool.not_eq_false'] at *); (try simp only [Blk.len] at *); first | omega | (intros; omega)) | (simp_all; done))))
  · simp only [gI] at *
    first | trivial | exact ob1 (fun h => h) | exact ob2 (fun h => h) (fun h => h) | exact ob1 (fun h => ⟨h.1, trivial⟩) | (simp only [allP, obg, grd, allT, InR, decide_eq_true_eq, Bool.and_eq_true, Bool.not_eq_true', decide_eq_false_iff_not, List.nil_append, List.cons_append, List.append_nil, and_true, true_and]; first | omega | (intros; omega) | (simp only [Blk.len, List.length_set, List.length_append, List.length_cons, List.length_nil]; first | omega | (intros; omega)) | (refine ⟨?_, ?_⟩ <;> intros <;> first | (with_reducible assumption) | omega) | ((repeat' refine And.intro ?_ ?_) <;> (intros; first | (with_reducible assumption) | omega | (simp only [Blk.len, List.length_set, List.length_append, List.length_cons, List.length_nil]; omega))) | ((try simp only [Bool.or_eq_true, Bool.or_eq_false_iff, Bool.and_eq_true, Bool.and_eq_false_iff, decide_eq_true_eq, decide_eq_false_iff_not, Bool.not_eq_true', Bool.not_eq_false'] at *); (try simp only [Blk.len] at *); first | omega | (intros; omega)) | (simp_all; done))
  · (exact retM0 [0] (by first | exact .inr rfl | exact .inl rfl) rfl rfl rfl rfl (by repeat (first | exact BlksOK.nil | refine BlksOK.cells (by repeat (first | exact ArgsOK.nil | refine ArgsOK.cons ?_ ?_ | exact ArgOK.d _ | exact ArgOK.nil | exact ArgOK.rpp _ | exact ArgOK.ptr rfl | exact ArgOK.own rfl | exact ArgOK.ep rfl | exact ArgOK.sl rfl | refine ArgOK.clo ?_ | refine ArgOK.agg ?_ | exact ArgOK.data rfl rfl | refine ArgOK.rp rfl rfl ?_ rfl | exact DatOK.nil | refine DatOK.cons rfl rfl ?_ | exact ArgOK.bot _ | exact ArgOK.deq (by rfl))) ?_ | refine BlksOK.row rfl ?_ | exact BlksOK.gone ?_ | refine BlksOK.rowE rfl (by rfl) ?_)))
theorem s27_Extra0 (t : Topo) (down : List Bool) (n d : Int) (h : errP t down n d = 0) : CtrO Try.prog 54 [.d (topoD t), .d (boolsD down), .d (iD n), .d (iD d), .clo 57 [.rp [iD t.nodes, boolsD t.overload, linksD t.links], .rp [iD d], .rp [iD n], .ptr 0 0]] [.cells [.d (iD 0)]]
    [.cells [.d (iD (extraL t down n d))]] (.d (iD 0)) := by
  refine spec_mem envOK (enters_of Try.func54 (by kernel_rfl) (by kernel_rfl)) Try.func54 rfl rfl _ rfl (Nat.le_of_ble_eq_true rfl) rfl (by simp [kindsP, Blk.isRow]) fun w0 ρ0 => ?_
  have hR := c_Path t down n d
  rw [h] at hR
  repeat' (first
  
    | refine aw_seq ?_
    | refine aw_region ?_
    | refine aw_region_q (by kernel_rfl) (by kernel_rfl) ?_
    | refine aw_block ?_
    | refine ao_nil ?_
    | refine ao_op rfl trivial ?_
    | refine aq_nil ?_
    | refine aq_op rfl trivial ?_
    | refine at_nil ?_
    | refine at_op rfl trivial ?_
    | refine am_nil ?_
    | refine am_op rfl trivial rfl ?_
    | refine aw_skip ?_
    | refine aw_condT rfl trivial ?_
    | refine aw_condF rfl trivial ?_
    | refine aw_condD rfl trivial (fun hc => ?_) (fun hc => ?_)
    | refine aw_condN rfl trivial (fun hc => ?_) (fun hc => ?_)
    | refine aw_condNB rfl trivial (fun hc => ?_) (fun hc => ?_)
    | refine aw_cond rfl trivial (fun hc => ?_) (fun hc => ?_)
    | refine aw_ret ?_
    | refine aw_exit ?_
    | refine ao_op rfl ?_ ?_
    | refine aq_op rfl ?_ ?_
    | refine at_op rfl ?_ ?_
    | refine am_op rfl ?_ rfl ?_
    | refine ao_box rfl trivial rfl rfl rfl ?_
    | refine ao_alloc rfl rfl rfl rfl ?_
    | refine ao_store rfl rfl trivial rfl trivial rfl rfl rfl rfl rfl ?_
    | refine ao_callR rfl (hR) trivial rfl rfl ?_
    | refine ao_callC rfl (k27_Extra1 t down n d h) [0] trivial rfl rfl (by repeat (first | exact ArgsOK.nil | refine ArgsOK.cons ?_ ?_ | exact ArgOK.d _ | exact ArgOK.nil | exact ArgOK.rpp _ | exact ArgOK.ptr rfl | exact ArgOK.own rfl | exact ArgOK.ep rfl | exact ArgOK.sl rfl | refine ArgOK.clo ?_ | refine ArgOK.agg ?_ | exact ArgOK.data rfl rfl | refine ArgOK.rp rfl rfl ?_ rfl | exact DatOK.nil | refine DatOK.cons rfl rfl ?_ | exact ArgOK.bot _)) rfl rfl rfl rfl (by simp [kindsP, Blk.isRow]) (by simp [bflL, bfl, vflL, vfl, D.flat, D.scal, Blk.flat]) rfl rfl rfl rfl rfl rfl rfl ?_
    | (show allP _; first | trivial | exact ob1 (fun h => h) | exact ob2 (fun h => h) (fun h => h) | exact ob1 (fun h => ⟨h.1, trivial⟩) | (simp only [allP, obg, grd, allT, InR, decide_eq_true_eq, Bool.and_eq_true, Bool.not_eq_true', decide_eq_false_iff_not, List.nil_append, List.cons_append, List.append_nil, and_true, true_and]; first | omega | (intros; omega) | (simp only [Blk.len, List.length_set, List.length_append, List.length_cons, List.length_nil]; first | omega | (intros; omega)) | (refine ⟨?_, ?_⟩ <;> intros <;> first | (with_reducible assumption) | omega) | ((repeat' refine And.intro ?_ ?_) <;> (intros; first | (with_reducible assumption) | omega | (simp only [Blk.len, List.length_set, List.length_append, List.length_cons, List.length_nil]; omega))) | ((try simp only [Bool.or_eq_true, Bool.or_eq_false_iff, Bool.and_eq_true, Bool.and_eq_false_iff, decide_eq_true_eq, decide_eq_false_iff_not, Bool.not_eq_true', Bool.not_eq_false'] at *); (try simp only [Blk.len] at *); first | omega | (intros; omega)) | (simp_all; done))))
  (exact retM1 [0] rfl rfl rfl rfl (by repeat (first | exact BlksOK.nil | refine BlksOK.cells (by repeat (first | exact ArgsOK.nil | refine ArgsOK.cons ?_ ?_ | exact ArgOK.d _ | exact ArgOK.nil | exact ArgOK.rpp _ | exact ArgOK.ptr rfl | exact ArgOK.own rfl | exact ArgOK.ep rfl | exact ArgOK.sl rfl | refine ArgOK.clo ?_ | refine ArgOK.agg ?_ | exact ArgOK.data rfl rfl | refine ArgOK.rp rfl rfl ?_ rfl | exact DatOK.nil | refine DatOK.cons rfl rfl ?_ | exact ArgOK.bot _ | exact ArgOK.deq (by rfl))) ?_ | refine BlksOK.row rfl ?_ | exact BlksOK.gone ?_ | refine BlksOK.rowE rfl (by rfl) ?_)) (by repeat (first | exact ArgsOK.nil | refine ArgsOK.cons ?_ ?_ | exact ArgOK.d _ | exact ArgOK.nil | exact ArgOK.rpp _ | exact ArgOK.ptr rfl | exact ArgOK.own rfl | exact ArgOK.ep rfl | exact ArgOK.sl rfl | refine ArgOK.clo ?_ | refine ArgOK.agg ?_ | exact ArgOK.data rfl rfl | refine ArgOK.rp rfl rfl ?_ rfl | exact DatOK.nil | refine DatOK.cons rfl rfl ?_ | exact ArgOK.bot _ | exact ArgOK.deq (by rfl))))
theorem s27_Extra1 (t : Topo) (down : List Bool) (n d : Int) (h : errP t down n d ≠ 0) : CtrO Try.prog 54 [.d (topoD t), .d (boolsD down), .d (iD n), .d (iD d), .clo 57 [.rp [iD t.nodes, boolsD t.overload, linksD t.links], .rp [iD d], .rp [iD n], .ptr 0 0]] [.cells [.d (iD 0)]]
    [.cells [.d (iD 0)]] (.d (iD (errP t down n d))) := by
  refine spec_mem envOK (enters_of Try.func54 (by kernel_rfl) (by kernel_rfl)) Try.func54 rfl rfl _ rfl (Nat.le_of_ble_eq_true rfl) rfl (by simp [kindsP, Blk.isRow]) fun w0 ρ0 => ?_
  repeat' (first
  
    | refine aw_seq ?_
    | refine aw_region ?_
    | refine aw_region_q (by kernel_rfl) (by kernel_rfl) ?_
    | refine aw_block ?_
    | refine ao_nil ?_
    | refine ao_op rfl trivial ?_
    | refine aq_nil ?_
    | refine aq_op rfl trivial ?_
    | refine at_nil ?_
    | refine at_op rfl trivial ?_
    | refine am_nil ?_
    | refine am_op rfl trivial rfl ?_
    | refine aw_skip ?_
    | refine aw_condT rfl trivial ?_
    | refine aw_condF rfl trivial ?_
    | refine aw_condD rfl trivial (fun hc => ?_) (fun hc => ?_)
    | refine aw_condN rfl trivial (fun hc => ?_) (fun hc => ?_)
    | refine aw_condNB rfl trivial (fun hc => ?_) (fun hc => ?_)
    | refine aw_cond rfl trivial (fun hc => ?_) (fun hc => ?_)
    | refine aw_ret ?_
    | refine aw_exit ?_
    | refine ao_op rfl ?_ ?_
    | refine aq_op rfl ?_ ?_
    | refine at_op rfl ?_ ?_
    | refine am_op rfl ?_ rfl ?_
    | refine ao_box rfl trivial rfl rfl rfl ?_
    | refine ao_alloc rfl rfl rfl rfl ?_
    | refine ao_store rfl rfl trivial rfl trivial rfl rfl rfl rfl rfl ?_
    | (exfalso; exact h (by assumption))
    | refine ao_callR rfl (c_Path t down n d) trivial rfl rfl ?_
    | (show allP _; first | trivial | exact ob1 (fun h => h) | exact ob2 (fun h => h) (fun h => h) | exact ob1 (fun h => ⟨h.1, trivial⟩) | (simp only [allP, obg, grd, allT, InR, decide_eq_true_eq, Bool.and_eq_true, Bool.not_eq_true', decide_eq_false_iff_not, List.nil_append, List.cons_append, List.append_nil, and_true, true_and]; first | omega | (intros; omega) | (simp only [Blk.len, List.length_set, List.length_append, List.length_cons, List.length_nil]; first | omega | (intros; omega)) | (refine ⟨?_, ?_⟩ <;> intros <;> first | (with_reducible assumption) | omega) | ((repeat' refine And.intro ?_ ?_) <;> (intros; first | (with_reducible assumption) | omega | (simp only [Blk.len, List.length_set, List.length_append, List.length_cons, List.length_nil]; omega))) | ((try simp only [Bool.or_eq_true, Bool.or_eq_false_iff, Bool.and_eq_true, Bool.and_eq_false_iff, decide_eq_true_eq, decide_eq_false_iff_not, Bool.not_eq_true', Bool.not_eq_false'] at *); (try simp only [Blk.len] at *); first | omega | (intros; omega)) | (simp_all; done))))
  (exact retM1 [0] rfl rfl rfl rfl (by repeat (first | exact BlksOK.nil | refine BlksOK.cells (by repeat (first | exact ArgsOK.nil | refine ArgsOK.cons ?_ ?_ | exact ArgOK.d _ | exact ArgOK.nil | exact ArgOK.rpp _ | exact ArgOK.ptr rfl | exact ArgOK.own rfl | exact ArgOK.ep rfl | exact ArgOK.sl rfl | refine ArgOK.clo ?_ | refine ArgOK.agg ?_ | exact ArgOK.data rfl rfl | refine ArgOK.rp rfl rfl ?_ rfl | exact DatOK.nil | refine DatOK.cons rfl rfl ?_ | exact ArgOK.bot _ | exact ArgOK.deq (by rfl))) ?_ | refine BlksOK.row rfl ?_ | exact BlksOK.gone ?_ | refine BlksOK.rowE rfl (by rfl) ?_)) (by repeat (first | exact ArgsOK.nil | refine ArgsOK.cons ?_ ?_ | exact ArgOK.d _ | exact ArgOK.nil | exact ArgOK.rpp _ | exact ArgOK.ptr rfl | exact ArgOK.own rfl | exact ArgOK.ep rfl | exact ArgOK.sl rfl | refine ArgOK.clo ?_ | refine ArgOK.agg ?_ | exact ArgOK.data rfl rfl | refine ArgOK.rp rfl rfl ?_ rfl | exact DatOK.nil | refine DatOK.cons rfl rfl ?_ | exact ArgOK.bot _ | exact ArgOK.deq (by rfl))))
theorem c27_Extra (t : Topo) (down : List Bool) (n d : Int) : Ctr Try.prog 20 [topoD t, boolsD down, iD n, iD d] [] (.tup [.d (iD (extraL t down n d)), .d (iD (errP t down n d))]) := by
  by_cases h : errP t down n d = 0
  · refine spec_of envOK (enters_of Try.func20 (by kernel_rfl) (by kernel_rfl)) Try.func20 rfl rfl _ rfl (Nat.le_of_ble_eq_true rfl) rfl fun w0 => ?_
    repeat' (first
    
      | refine aw_seq ?_
      | refine aw_region ?_
      | refine aw_region_q (by kernel_rfl) (by kernel_rfl) ?_
      | refine aw_block ?_
      | refine ao_nil ?_
      | refine ao_op rfl trivial ?_
      | refine aq_nil ?_
      | refine aq_op rfl trivial ?_
      | refine at_nil ?_
      | refine at_op rfl trivial ?_
      | refine am_nil ?_
      | refine am_op rfl trivial rfl ?_
      | refine aw_skip ?_
      | refine aw_condT rfl trivial ?_
      | refine aw_condF rfl trivial ?_
      | refine aw_condD rfl trivial (fun hc => ?_) (fun hc => ?_)
      | refine aw_condN rfl trivial (fun hc => ?_) (fun hc => ?_)
      | refine aw_condNB rfl trivial (fun hc => ?_) (fun hc => ?_)
      | refine aw_cond rfl trivial (fun hc => ?_) (fun hc => ?_)
      | refine aw_ret ?_
      | refine aw_exit ?_
      | refine ao_op rfl ?_ ?_
      | refine aq_op rfl ?_ ?_
      | refine at_op rfl ?_ ?_
      | refine am_op rfl ?_ rfl ?_
      | refine ao_box rfl trivial rfl rfl rfl ?_
      | refine ao_alloc rfl rfl rfl rfl ?_
      | refine ao_store rfl rfl trivial rfl trivial rfl rfl rfl rfl rfl ?_
      | refine ao_callC rfl (s27_Extra0 t down n d h) [3] trivial rfl rfl (by repeat (first | exact ArgsOK.nil | refine ArgsOK.cons ?_ ?_ | exact ArgOK.d _ | exact ArgOK.nil | exact ArgOK.rpp _ | exact ArgOK.ptr rfl | exact ArgOK.own rfl | exact ArgOK.ep rfl | exact ArgOK.sl rfl | refine ArgOK.clo ?_ | refine ArgOK.agg ?_ | exact ArgOK.data rfl rfl | refine ArgOK.rp rfl rfl ?_ rfl | exact DatOK.nil | refine DatOK.cons rfl rfl ?_ | exact ArgOK.bot _)) rfl rfl rfl rfl (by simp [kindsP, Blk.isRow]) (by simp [bflL, bfl, vflL, vfl, D.flat, D.scal, Blk.flat]) rfl rfl rfl rfl rfl rfl rfl ?_
      | (show allP _; first | trivial | exact ob1 (fun h => h) | exact ob2 (fun h => h) (fun h => h) | exact ob1 (fun h => ⟨h.1, trivial⟩) | (simp only [allP, obg, grd, allT, InR, decide_eq_true_eq, Bool.and_eq_true, Bool.not_eq_true', decide_eq_false_iff_not, List.nil_append, List.cons_append, List.append_nil, and_true, true_and]; first | omega | (intros; omega) | (simp only [Blk.len, List.length_set, List.length_append, List.length_cons, List.length_nil]; first | omega | (intros; omega)) | (refine ⟨?_, ?_⟩ <;> intros <;> first | (with_reducible assumption) | omega) | ((repeat' refine And.intro ?_ ?_) <;> (intros; first | (with_reducible assumption) | omega | (simp only [Blk.len, List.length_set, List.length_append, List.length_cons, List.length_nil]; omega))) | ((try simp only [Bool.or_eq_true, Bool.or_eq_false_iff, Bool.and_eq_true, Bool.and_eq_false_iff, decide_eq_true_eq, decide_eq_false_iff_not, Bool.not_eq_true', Bool.not_eq_false'] at *); (try simp only [Blk.len] at *); first | omega | (intros; omega)) | (simp_all; done))))
    refine fin_ret ?_; exact ret2 (by rfl) (by rfl) (by rw [h]) (by rfl) (by rfl)
  · refine spec_of envOK (enters_of Try.func20 (by kernel_rfl) (by kernel_rfl)) Try.func20 rfl rfl _ rfl (Nat.le_of_ble_eq_true rfl) rfl fun w0 => ?_
    repeat' (first
    
      | refine aw_seq ?_
      | refine aw_region ?_
      | refine aw_region_q (by kernel_rfl) (by kernel_rfl) ?_
      | refine aw_block ?_
      | refine ao_nil ?_
      | refine ao_op rfl trivial ?_
      | refine aq_nil ?_
      | refine aq_op rfl trivial ?_
      | refine at_nil ?_
      | refine at_op rfl trivial ?_
      | refine am_nil ?_
      | refine am_op rfl trivial rfl ?_
      | refine aw_skip ?_
      | refine aw_condT rfl trivial ?_
      | refine aw_condF rfl trivial ?_
      | refine aw_condD rfl trivial (fun hc => ?_) (fun hc => ?_)
      | refine aw_condN rfl trivial (fun hc => ?_) (fun hc => ?_)
      | refine aw_condNB rfl trivial (fun hc => ?_) (fun hc => ?_)
      | refine aw_cond rfl trivial (fun hc => ?_) (fun hc => ?_)
      | refine aw_ret ?_
      | refine aw_exit ?_
      | refine ao_op rfl ?_ ?_
      | refine aq_op rfl ?_ ?_
      | refine at_op rfl ?_ ?_
      | refine am_op rfl ?_ rfl ?_
      | refine ao_box rfl trivial rfl rfl rfl ?_
      | refine ao_alloc rfl rfl rfl rfl ?_
      | refine ao_store rfl rfl trivial rfl trivial rfl rfl rfl rfl rfl ?_
      | refine ao_callC rfl (s27_Extra1 t down n d h) [3] trivial rfl rfl (by repeat (first | exact ArgsOK.nil | refine ArgsOK.cons ?_ ?_ | exact ArgOK.d _ | exact ArgOK.nil | exact ArgOK.rpp _ | exact ArgOK.ptr rfl | exact ArgOK.own rfl | exact ArgOK.ep rfl | exact ArgOK.sl rfl | refine ArgOK.clo ?_ | refine ArgOK.agg ?_ | exact ArgOK.data rfl rfl | refine ArgOK.rp rfl rfl ?_ rfl | exact DatOK.nil | refine DatOK.cons rfl rfl ?_ | exact ArgOK.bot _)) rfl rfl rfl rfl (by simp [kindsP, Blk.isRow]) (by simp [bflL, bfl, vflL, vfl, D.flat, D.scal, Blk.flat]) rfl rfl rfl rfl rfl rfl rfl ?_
      | (show allP _; first | trivial | exact ob1 (fun h => h) | exact ob2 (fun h => h) (fun h => h) | exact ob1 (fun h => ⟨h.1, trivial⟩) | (simp only [allP, obg, grd, allT, InR, decide_eq_true_eq, Bool.and_eq_true, Bool.not_eq_true', decide_eq_false_iff_not, List.nil_append, List.cons_append, List.append_nil, and_true, true_and]; first | omega | (intros; omega) | (simp only [Blk.len, List.length_set, List.length_append, List.length_cons, List.length_nil]; first | omega | (intros; omega)) | (refine ⟨?_, ?_⟩ <;> intros <;> first | (with_reducible assumption) | omega) | ((repeat' refine And.intro ?_ ?_) <;> (intros; first | (with_reducible assumption) | omega | (simp only [Blk.len, List.length_set, List.length_append, List.length_cons, List.length_nil]; omega))) | ((try simp only [Bool.or_eq_true, Bool.or_eq_false_iff, Bool.and_eq_true, Bool.and_eq_false_iff, decide_eq_true_eq, decide_eq_false_iff_not, Bool.not_eq_true', Bool.not_eq_false'] at *); (try simp only [Blk.len] at *); first | omega | (intros; omega)) | (simp_all; done))))
    refine fin_ret ?_; exact ret2 (by rfl) (by unfold extraL; rw [if_neg h]) (by rfl) (by rfl) (by rfl)
end Go.Proofs.Ytcnfggpcploehaa

/- From a contract to a law's row: arguments that read as data. -/
namespace Go.Wk
set_option maxRecDepth 10000
open Go.RowKit Go.Deep

/-! ### Shapes -/

inductive Sc where
  | int (k : IntKind)
  | bool
  | str
inductive Shp where
  | sc (s : Sc)
  | sl (es : List Sc)

def Sc.fit : Sc → D → Prop
  | .int k, .int k' n => k' = k ∧ (Lit.int k n).wf = true
  | .bool, .bool _ => True
  | .str, .str _ => True
  | _, _ => False
def Sc.G (s : Sc) (v : Value) : Prop := ∃ x : D, s.fit x ∧ ∀ R w, RelD R w v x
def fitL : List Sc → List D → Prop
  | [], [] => True
  | s :: r, x :: q => s.fit x ∧ fitL r q
  | _, _ => False
def Shp.fit : Shp → D → Prop
  | .sc s, x => s.fit x
  | .sl es, .arr e n get => e = es.length ∧ n ≤ maxLen ∧ ∀ i, i < n → fitL es (get i)
  | _, _ => False
def Shp.G (w : World) (s : Shp) (v : Value) : Prop := ∃ x : D, s.fit x ∧ RelD (fun k => k < w.heap.size) w v x

/-- The kinds of whole numbers. -/
def IntOK (P : Program) : Env → Prop
  | [] => True
  | (t, ⟨.int, _, _, .int k _⟩) :: r => P.underlying t = some (.int k) ∧ IntOK P r
  | _ :: r => IntOK P r
theorem IntOK.get {P : Program} {env : Env} (h : IntOK P env) {t : TypeId} {s b : Nat} {k : IntKind} {n : Int} (ht : ti? env t = some ⟨.int, s, b, .int k n⟩) : P.underlying t = some (.int k) := by
  induction env with
  | nil => simp [ti?] at ht
  | cons x r ih =>
    obtain ⟨k', y⟩ := x
    simp only [ti?] at ht
    cases hb : Nat.beq k' t with
    | true =>
      have := Nat.eq_of_beq_eq_true hb; subst this
      simp only [hb, cond_true, Option.some.injEq] at ht
      subst ht
      exact h.1
    | false =>
      simp only [hb, cond_false] at ht
      refine ih ?_ ht
      unfold IntOK at h
      split at h
      · rename_i h'; simp at h'
      · rename_i h'; obtain ⟨_, rfl⟩ := List.cons.inj h'; exact h.2
      · rename_i h'; obtain ⟨_, rfl⟩ := List.cons.inj h'; exact h

section flat
variable {α : Type}
def flF (rec : TypeId → Option (List α)) : Nat → List (Nat × TypeId) → Option (List α)
  | _, [] => some []
  | acc, (off, t) :: r => match rec t with
    | some es => bif Nat.beq off acc then (match flF rec (acc + es.length) r with
        | some q => some (es ++ q)
        | none => none) else none
    | none => none
def flRep : Nat → List α → List α
  | 0, _ => []
  | n + 1, es => es ++ flRep n es
theorem flRep_len (n : Nat) (es : List α) : (flRep n es).length = n * es.length := by
  induction n with
  | zero => simp [flRep]
  | succ n ih => simp [flRep, ih, Nat.succ_mul, Nat.add_comm]

def Pw (G : α → Value → Prop) (es : List α) (cs : List Value) : Prop := cs.length = es.length ∧ ∀ (i : Nat) v s, cs[i]? = some v → es[i]? = some s → G s v

theorem flF_pw {rec : TypeId → Option (List α)} {G : α → Value → Prop} {cs : List Value} : ∀ {fs : List (Nat × TypeId)} {acc : Nat} {q : List α}, flF rec acc fs = some q →
    (∀ off t, (off, t) ∈ fs → ∀ es, rec t = some es → Pw G es ((cs.drop off).take es.length)) → ∀ (i : Nat) s v, q[i]? = some s → cs[acc + i]? = some v → G s v
  | [], acc, q, h, _ => by simp [flF] at h; subst h; intro i s v hs; simp at hs
  | (off, t) :: r, acc, q, h, hall => by
    simp only [flF] at h
    split at h
    · rename_i es hes
      cases hb : Nat.beq off acc with
      | false => simp [hb] at h
      | true =>
        have := Nat.eq_of_beq_eq_true hb; subst this
        simp only [hb, cond_true] at h
        split at h
        · rename_i q' hq
          simp at h; subst h
          intro i s v hs hv
          have hp := hall off t (by simp) es hes
          by_cases hi : i < es.length
          · rw [List.getElem?_append_left hi] at hs
            exact hp.2 i v s (by rw [List.getElem?_take, if_pos hi, List.getElem?_drop]; exact hv) hs
          · rw [List.getElem?_append_right (by omega)] at hs
            exact flF_pw hq (fun off' t' hm => hall off' t' (by simp [hm])) (i - es.length) s v hs (by rw [show off + es.length + (i - es.length) = off + i by omega]; exact hv)
        · simp at h
    · simp at h
theorem flRep_pw {G : α → Value → Prop} {cs : List Value} {es : List α} : ∀ {n base : Nat}, (∀ j, j < n → Pw G es ((cs.drop ((base + j) * es.length)).take es.length)) → ∀ (i : Nat) s v, (flRep n es)[i]? = some s → cs[base * es.length + i]? = some v → G s v
  | 0, _, _ => by intro i s v hs; simp [flRep] at hs
  | n + 1, base, hall => by
    intro i s v hs hv
    simp only [flRep] at hs
    by_cases hi : i < es.length
    · rw [List.getElem?_append_left hi] at hs
      exact (hall 0 (by omega)).2 i v s (by rw [Nat.add_zero, List.getElem?_take, if_pos hi, List.getElem?_drop]; exact hv) hs
    · rw [List.getElem?_append_right (by omega)] at hs
      exact flRep_pw (base := base + 1) (fun j hj => by rw [show base + 1 + j = base + (j + 1) by omega]; exact hall (j + 1) (by omega)) (i - es.length) s v hs (by rw [show (base + 1) * es.length + (i - es.length) = base * es.length + i by rw [Nat.add_mul, Nat.one_mul]; omega]; exact hv)
end flat

def szB {α : Type} (n : Nat) : Option (List α) → Option (List α)
  | some es => bif Nat.beq es.length n then some es else none
  | none => none
theorem szB_eq {α : Type} {n : Nat} {o : Option (List α)} {es : List α} (h : szB n o = some es) : o = some es ∧ es.length = n := by
  unfold szB at h
  split at h
  · rename_i es'
    cases hb : Nat.beq es'.length n with
    | false => simp [hb] at h
    | true => simp [hb] at h; subst h; exact ⟨rfl, Nat.eq_of_beq_eq_true hb⟩
  · simp at h

def scO (env : Env) : Nat → TypeId → Option (List Sc)
  | 0, _ => none
  | f + 1, t => match ti? env t with
    | some ⟨.bool, n, _, _⟩ => szB n (some [.bool])
    | some ⟨.int, n, _, .int k _⟩ => szB n (some [.int k])
    | some ⟨.str, n, _, _⟩ => szB n (some [.str])
    | some ⟨.struct fs, n, _, _⟩ => szB n (flF (scO env f) 0 fs)
    | some ⟨.array m e, n, _, _⟩ => szB n (match scO env f e with
      | some es => some (flRep m es)
      | none => none)
    | _ => none
def shpO (env : Env) : Nat → TypeId → Option (List Shp)
  | 0, _ => none
  | f + 1, t => match ti? env t with
    | some ⟨.bool, n, _, _⟩ => szB n (some [.sc .bool])
    | some ⟨.int, n, _, .int k _⟩ => szB n (some [.sc (.int k)])
    | some ⟨.str, n, _, _⟩ => szB n (some [.sc .str])
    | some ⟨.slice e, n, _, _⟩ => szB n (match scO env f e with
      | some es => some [.sl es]
      | none => none)
    | some ⟨.struct fs, n, _, _⟩ => szB n (flF (shpO env f) 0 fs)
    | some ⟨.array m e, n, _, _⟩ => szB n (match shpO env f e with
      | some es => some (flRep m es)
      | none => none)
    | _ => none

section
variable {P : Program} {env : Env}

theorem cellsOf_ti (hE : EnvOK P env) {t : TypeId} {ti : TI} (h : ti? env t = some ti) : P.cellsOf t = ti.size := by
  obtain ⟨i, hi, hs, _⟩ := (hE.get h).info
  simp [Program.cellsOf, hi, hs]
theorem scO_len (hE : EnvOK P env) {f : Nat} {t : TypeId} {es : List Sc} (h : scO env f t = some es) : es.length = P.cellsOf t := by
  cases f with
  | zero => simp [scO] at h
  | succ f =>
    simp only [scO] at h
    split at h
    all_goals first
      | (rename_i ht; rw [cellsOf_ti hE ht]; exact (szB_eq h).2)
      | simp at h
theorem shpO_len (hE : EnvOK P env) {f : Nat} {t : TypeId} {es : List Shp} (h : shpO env f t = some es) : es.length = P.cellsOf t := by
  cases f with
  | zero => simp [shpO] at h
  | succ f =>
    simp only [shpO] at h
    split at h
    all_goals first
      | (rename_i ht; rw [cellsOf_ti hE ht]; exact (szB_eq h).2)
      | simp at h

variable {H : Type} {enc : TypeId × Value → H} {w : World} {base : Nat} {spare : Nat → Bool} {held : Bool}

theorem szB_some {α : Type} {n : Nat} {o : Option (List α)} {es : List α} (h : szB n o = some es) : o = some es := (szB_eq h).1

theorem trod_flF {α : Type} {G : α → Value → Prop} {rec : TypeId → Option (List α)} (hlen : ∀ t es, rec t = some es → es.length = P.cellsOf t)
    (hrec : ∀ t es, rec t = some es → ∀ (fuel : Nat) (cs : List Value) (x : DataW H × List MemPlace), DataW.trod enc P w base spare held fuel t cs = some x → Pw G es cs)
    {t : TypeId} {fs : Array Field} {q : List α} (ht : P.underlying t = some (.struct fs)) (hq : flF rec 0 (fs.toList.map fun f => (f.offset, f.type)) = some q) (hl : q.length = P.cellsOf t)
    {fuel : Nat} {cs : List Value} {x : DataW H × List MemPlace} (h : DataW.trod enc P w base spare held fuel t cs = some x) : Pw G q cs := by
  obtain ⟨xs, n, _, _, hcs, hxs, hf⟩ := DataW.trod_struct ht h
  refine ⟨by omega, fun i v s hv hs => ?_⟩
  refine flF_pw (cs := cs) hq (fun off t' hm es hes => ?_) i s v hs (by simpa using hv)
  obtain ⟨f, hfm, he⟩ := List.mem_map.1 hm
  simp only [Prod.mk.injEq] at he
  obtain ⟨rfl, rfl⟩ := he
  obtain ⟨k, hk, hfk⟩ := List.mem_iff_getElem.1 hfm
  have hk' : fs[k]? = some f := by
    have hk2 : k < fs.size := by simpa using hk
    rw [Array.getElem?_eq_getElem hk2]
    simpa using hfk
  have h1 := hf k f hk'
  have hk3 : k < xs.length := by rw [hxs]; simpa using hk
  rw [List.getElem?_eq_getElem hk3] at h1
  have := hrec _ es hes _ _ _ h1
  rwa [hlen _ es hes]

theorem trod_arr {α : Type} {G : α → Value → Prop} {t e : TypeId} {m : Nat} {es : List α} (hes : es.length = P.cellsOf e)
    (hrec : ∀ (fuel : Nat) (cs : List Value) (x : DataW H × List MemPlace), DataW.trod enc P w base spare held fuel e cs = some x → Pw G es cs)
    (ht : P.underlying t = some (.array m e)) (hl : (flRep m es).length = P.cellsOf t)
    {fuel : Nat} {cs : List Value} {x : DataW H × List MemPlace} (h : DataW.trod enc P w base spare held fuel t cs = some x) : Pw G (flRep m es) cs := by
  cases fuel with
  | zero => simp [DataW.trod] at h
  | succ n =>
    simp only [DataW.trod, ht] at h
    split at h
    · rename_i hcs
      refine ⟨by omega, fun i v s hv hs => ?_⟩
      refine flRep_pw (cs := cs) (base := 0) (n := m) (es := es) (fun j hj => ?_) i s v hs (by simpa using hv)
      cases hm : (List.range m).mapM fun i => DataW.trod enc P w base spare held n e ((cs.drop (i * P.cellsOf e)).take (P.cellsOf e)) with
      | none => rw [hm] at h; simp at h
      | some ys =>
        have hget : ∀ {l : List Nat} {ys : List (DataW H × List MemPlace)}, l.mapM (fun i => DataW.trod enc P w base spare held n e ((cs.drop (i * P.cellsOf e)).take (P.cellsOf e))) = some ys → ∀ x ∈ l, ∃ y, DataW.trod enc P w base spare held n e ((cs.drop (x * P.cellsOf e)).take (P.cellsOf e)) = some y := by
          intro l
          induction l with
          | nil => simp
          | cons a r ih =>
            intro ys hys
            simp only [List.mapM_cons, Option.bind_eq_bind, Option.pure_def] at hys
            cases ha : DataW.trod enc P w base spare held n e ((cs.drop (a * P.cellsOf e)).take (P.cellsOf e)) with
            | none => simp [ha] at hys
            | some b =>
              cases hr : r.mapM fun i => DataW.trod enc P w base spare held n e ((cs.drop (i * P.cellsOf e)).take (P.cellsOf e)) with
              | none => simp [ha, hr] at hys
              | some q =>
                intro x hx
                rcases List.mem_cons.1 hx with rfl | hx
                · exact ⟨b, ha⟩
                · exact ih hr x hx
        obtain ⟨y, hy⟩ := hget hm j (List.mem_range.2 hj)
        have := hrec _ _ _ hy
        rw [Nat.zero_add, hes]; exact this
    · cases h

theorem Pw_one {α : Type} {G : α → Value → Prop} {a : α} {v : Value} (h : G a v) : Pw G [a] [v] := by
  refine ⟨rfl, fun i u s hu hs => ?_⟩
  cases i with
  | zero => simp at hu hs; subst hu hs; exact h
  | succ i => simp at hu

theorem trod_sc (hE : EnvOK P env) (hI : IntOK P env) : ∀ (f : Nat) (t : TypeId) (es : List Sc), scO env f t = some es → ∀ (fuel : Nat) (cs : List Value) (x : DataW H × List MemPlace),
    DataW.trod enc P w base spare held fuel t cs = some x → Pw Sc.G es cs := by
  intro f
  induction f with
  | zero => intro t es h; simp [scO] at h
  | succ f ih =>
    intro t es hs fuel cs x h
    have hlen := scO_len hE hs
    simp only [scO] at hs
    split at hs
    · rename_i ht
      obtain ⟨d, hd, hk⟩ := (hE.get ht).desc
      have := desc_bool hk; subst this
      have := szB_some hs; simp at this; subst this
      obtain ⟨b, rfl, _⟩ := DataW.trod_bool hd h
      exact Pw_one ⟨.bool b, trivial, fun _ _ => .bool b⟩
    · rename_i ht
      have hd := hI.get ht
      have := szB_some hs; simp at this; subst this
      obtain ⟨b, rfl, _, hw⟩ := DataW.trod_int hd h
      exact Pw_one ⟨.int _ b, ⟨rfl, hw⟩, fun _ _ => .int _ b⟩
    · rename_i ht
      obtain ⟨d, hd, hk⟩ := (hE.get ht).desc
      have := desc_str hk; subst this
      have := szB_some hs; simp at this; subst this
      obtain ⟨b, rfl, _, hw⟩ := DataW.trod_string hd h
      exact Pw_one ⟨.str b, trivial, fun _ _ => .str b⟩
    · rename_i ht
      obtain ⟨d, hd, hk⟩ := (hE.get ht).desc
      obtain ⟨fl, rfl, rfl⟩ := desc_struct hk
      exact trod_flF (rec := scO env f) (fun t es => scO_len hE) (fun t es hes fuel cs x hx => ih t es hes fuel cs x hx) hd (szB_some hs) hlen h
    · rename_i ht
      obtain ⟨d, hd, hk⟩ := (hE.get ht).desc
      have := desc_array hk; subst this
      have hs' := szB_some hs
      split at hs'
      · rename_i es' hes
        simp at hs'; subst hs'
        exact trod_arr (scO_len hE hes) (fun fuel cs x hx => ih _ es' hes fuel cs x hx) hd hlen h
      · simp at hs'
    · simp at hs

theorem fitL_of : ∀ {es : List Sc} {vs : List Value}, Pw Sc.G es vs → ∃ ds : List D, fitL es ds ∧ ds.length = vs.length ∧ ∀ (i : Nat) v x, vs[i]? = some v → ds[i]? = some x → ∀ R w, RelD R w v x
  | [], vs, h => ⟨[], trivial, by have := h.1; simp at this; simp [this], fun i v x _ hx => by simp at hx⟩
  | s :: r, vs, h => by
    cases vs with
    | nil => have := h.1; simp at this
    | cons v q =>
      obtain ⟨ds, h1, h2, h3⟩ := fitL_of (es := r) (vs := q) ⟨by have := h.1; simpa using this, fun i u s' hu hs' => h.2 (i + 1) u s' (by simpa using hu) (by simpa using hs')⟩
      obtain ⟨x, hx, hr⟩ := h.2 0 v s (by simp) (by simp)
      refine ⟨x :: ds, ⟨hx, h1⟩, by simp [h2], fun i u y hu hy => ?_⟩
      cases i with
      | zero => simp at hu hy; subst hu hy; exact hr
      | succ i => exact h3 i u y (by simpa using hu) (by simpa using hy)

/-- The cells of an argument: a slice's address leads to a block. -/
def AdrOK (w : World) (v : Value) : Prop := ∀ a len cap, v = .slice (some a) len cap → a.spot = none ∧ a.block < w.heap.size

theorem trod_shp (hE : EnvOK P env) (hI : IntOK P env) : ∀ (f : Nat) (t : TypeId) (es : List Shp), shpO env f t = some es → ∀ (fuel : Nat) (cs : List Value) (x : DataW H × List MemPlace),
    DataW.trod enc P w base spare held fuel t cs = some x → Pw (fun s v => AdrOK w v → Shp.G w s v) es cs := by
  intro f
  induction f with
  | zero => intro t es h; simp [shpO] at h
  | succ f ih =>
    intro t es hs fuel cs x h
    have hlen := shpO_len hE hs
    simp only [shpO] at hs
    split at hs
    · rename_i ht
      obtain ⟨d, hd, hk⟩ := (hE.get ht).desc
      have := desc_bool hk; subst this
      have := szB_some hs; simp at this; subst this
      obtain ⟨b, rfl, _⟩ := DataW.trod_bool hd h
      exact Pw_one fun _ => ⟨.bool b, trivial, .bool b⟩
    · rename_i ht
      have hd := hI.get ht
      have := szB_some hs; simp at this; subst this
      obtain ⟨b, rfl, _, hw⟩ := DataW.trod_int hd h
      exact Pw_one fun _ => ⟨.int _ b, ⟨rfl, hw⟩, .int _ b⟩
    · rename_i ht
      obtain ⟨d, hd, hk⟩ := (hE.get ht).desc
      have := desc_str hk; subst this
      have := szB_some hs; simp at this; subst this
      obtain ⟨b, rfl, _, hw⟩ := DataW.trod_string hd h
      exact Pw_one fun _ => ⟨.str b, trivial, .str b⟩
    · rename_i e n by_ z ht
      obtain ⟨d, hd, hk⟩ := (hE.get ht).desc
      have := desc_slice hk; subst this
      have hs' := szB_some hs
      split at hs'
      · rename_i es' hes
        simp at hs'; subst hs'
        have hel := scO_len hE hes
        rcases open_slice hd h with ⟨rfl, _⟩ | ⟨a, len, cap, m, n', Dt, Pl, rfl, hb, hlc, hcm, hm, _, hx⟩
        · exact Pw_one fun _ => ⟨.arr es'.length 0 (fun _ => []), ⟨rfl, by simp, fun i hi => by omega⟩, .nil _ _⟩
        · refine Pw_one fun hadr => ?_
          obtain ⟨hspot, hblk⟩ := hadr a len cap rfl
          have hlm : len ≤ m := by rw [hm]; split <;> omega
          have key : ∀ i, i < len → ∃ (vs : List Value) (ds : List D), vs.length = es'.length ∧ fitL es' ds ∧ ds.length = es'.length ∧ (∀ j, j < es'.length → w.cell? ⟨a.block, a.off + (i * es'.length + j), none⟩ = vs[j]?) ∧ ∀ (j : Nat) v x, vs[j]? = some v → ds[j]? = some x → ∀ R w, RelD R w v x := by
            intro i hi
            obtain ⟨cs', h1, h2⟩ := hx i (by omega)
            obtain ⟨_, c2, c3⟩ := World.cells?_some h1
            have hp := trod_sc hE hI f e es' hes _ _ _ h2
            obtain ⟨ds, f1, f2, f3⟩ := fitL_of hp
            refine ⟨cs', ds, hp.1, f1, by rw [f2, hp.1], fun j hj => ?_, f3⟩
            have := c3 j (by rw [← hel]; exact hj)
            rw [← this]
            congr 1
            obtain ⟨ab, ao, as0⟩ := a
            simp only at hspot; subst hspot
            rw [add_off, add_off]
            congr 1
            rw [hel]; simp only; omega
          let vsF : Nat → List Value := fun i => if h : i < len then (key i h).choose else []
          let dsF : Nat → List D := fun i => if h : i < len then (key i h).choose_spec.choose else []
          have hF : ∀ i, i < len → (vsF i).length = es'.length ∧ fitL es' (dsF i) ∧ (dsF i).length = es'.length ∧ (∀ j, j < es'.length → w.cell? ⟨a.block, a.off + (i * es'.length + j), none⟩ = (vsF i)[j]?) ∧ ∀ (j : Nat) v x, (vsF i)[j]? = some v → (dsF i)[j]? = some x → ∀ R w, RelD R w v x := fun i hi => by
            simp only [vsF, dsF, dif_pos hi]
            exact (key i hi).choose_spec.choose_spec
          refine ⟨.arr es'.length len dsF, ⟨rfl, by omega, fun i hi => (hF i hi).2.1⟩, ?_⟩
          obtain ⟨ab, ao, as0⟩ := a
          simp only at hspot hblk; subst hspot
          refine .arr ab ao len cap es'.length dsF (fun i j => (vsF i).getD j (.bool false)) hblk (by omega) (fun i hi => (hF i hi).2.2.1) (fun i j hi hj => ?_) (fun i j x hi hx => ?_)
          · have h4 := (hF i hi).2.2.2.1 j hj
            simp only at h4
            rw [h4, List.getD_eq_getElem?_getD, List.getElem?_eq_getElem (by rw [(hF i hi).1]; exact hj)]; rfl
          · have hj : j < es'.length := by rw [← (hF i hi).2.2.1]; exact (List.getElem?_eq_some_iff.1 hx).1
            refine (hF i hi).2.2.2.2 j _ x ?_ hx _ _
            rw [List.getD_eq_getElem?_getD, List.getElem?_eq_getElem (by rw [(hF i hi).1]; exact hj)]; rfl
      · simp at hs'
    · rename_i ht
      obtain ⟨d, hd, hk⟩ := (hE.get ht).desc
      obtain ⟨fl, rfl, rfl⟩ := desc_struct hk
      exact trod_flF (rec := shpO env f) (fun t es => shpO_len hE) (fun t es hes fuel cs x hx => ih t es hes fuel cs x hx) hd (szB_some hs) hlen h
    · rename_i ht
      obtain ⟨d, hd, hk⟩ := (hE.get ht).desc
      have := desc_array hk; subst this
      have hs' := szB_some hs
      split at hs'
      · rename_i es' hes
        simp at hs'; subst hs'
        exact trod_arr (shpO_len hE hes) (fun fuel cs x hx => ih _ es' hes fuel cs x hx) hd hlen h
      · simp at hs'
    · simp at hs

end
end Go.Wk

/- From a contract to a law's row. -/
namespace Go.Wk
set_option maxRecDepth 10000
open Go.RowKit Go.Deep

section
variable {P : Program} {env : Env} {H : Type} {enc : TypeId × Value → H} {W : World} {base : Nat} {spare : Nat → Bool} {held : Bool}

theorem cell_adr {u : TypeId} {v : Value} (h : Cell.okWide P W .any base u v) : AdrOK W v := by
  rintro a len cap rfl
  have h2 : Cell.ok P W .any base u (.slice (some a) len cap) := by
    unfold Cell.okWide at h
    split at h
    all_goals first
      | exact h
      | (rename_i he; cases he)
      | (rename_i he _; cases he)
  unfold Cell.ok at h2
  split at h2
  all_goals try (rename_i he; cases he; done)
  all_goals try (exact h2.elim)
  · rename_i he
    cases he
    obtain ⟨_, _, _, hs, row, cells, hsh, _⟩ := h2
    refine ⟨hs, ?_⟩
    unfold World.shape? at hsh
    cases hb : W.heap[a.block]? with
    | none => rw [hb] at hsh; simp at hsh
    | some o => exact (Array.getElem?_eq_some_iff.1 hb).1

def fitS : List Shp → List D → Prop
  | [], [] => True
  | s :: r, x :: q => s.fit x ∧ fitS r q
  | _, _ => False

theorem fitS_of : ∀ {es : List Shp} {vs : List Value}, Pw (fun s v => AdrOK W v → Shp.G W s v) es vs → (∀ v ∈ vs, AdrOK W v) → ∃ ds : List D, fitS es ds ∧ ds.length = vs.length ∧ ∀ (i : Nat) v x, vs[i]? = some v → ds[i]? = some x → RelD (fun k => k < W.heap.size) W v x
  | [], vs, h, _ => ⟨[], trivial, by have := h.1; simp at this; simp [this], fun i v x _ hx => by simp at hx⟩
  | s :: r, vs, h, ha => by
    cases vs with
    | nil => have := h.1; simp at this
    | cons v q =>
      obtain ⟨ds, h1, h2, h3⟩ := fitS_of (es := r) (vs := q) ⟨by have := h.1; simpa using this, fun i u s' hu hs' => h.2 (i + 1) u s' (by simpa using hu) (by simpa using hs')⟩ (fun v hv => ha v (by simp [hv]))
      obtain ⟨x, hx, hr⟩ := h.2 0 v s (by simp) (by simp) (ha v (by simp))
      refine ⟨x :: ds, ⟨hx, h1⟩, by simp [h2], fun i u y hu hy => ?_⟩
      cases i with
      | zero => simp at hu hy; subst hu hy; exact hr
      | succ i => exact h3 i u y (by simpa using hu) (by simpa using hy)

/-- An argument that is a struct or an array. -/
theorem arg_agg (hE : EnvOK P env) (hI : IntOK P env) {t : TypeId} {ti : TI} {es : List Shp} (ht : ti? env t = some ti) (ha : ti.k.agg = true) (hs : shpO env 10 t = some es) {v : Value} {d : DataW H} {p : List MemPlace} (hok : Value.okWide P W .any base t v) (h : DataW.Trod enc P W 0 spare held t v d p) :
    ∃ ds, fitS es ds ∧ RelD (fun k => k < W.heap.size) W v (.agg ds) := by
  obtain ⟨fuel, hf⟩ := h
  obtain ⟨dd, hd, hk⟩ := (hE.get ht).desc
  have hcs : ∃ cs, v = .agg cs ∧ ∀ c ∈ cs.toList, AdrOK W c := by
    have key : (∃ cs, v = .agg cs ∧ cs.size = P.cellsOf t ∧ Row.okWide P W .any base t cs) := by
      unfold Value.okWide at hok
      rw [hd] at hok
      cases dd <;> first
        | exact hok
        | (simp [summ] at hk; rw [← hk] at ha; simp [Kd.agg] at ha; done)
    obtain ⟨cs, rfl, _, ts, _, _, hr⟩ := key
    refine ⟨cs, rfl, fun c hc => ?_⟩
    obtain ⟨k, hk, hck⟩ := List.mem_iff_getElem.1 hc
    have hk2 : k < cs.size := by simpa using hk
    obtain ⟨u, _, hu⟩ := hr k c (by rw [Array.getElem?_eq_getElem hk2]; simpa using hck)
    exact cell_adr hu
  obtain ⟨cs, rfl, hadr⟩ := hcs
  have hp := trod_shp hE hI 10 t es hs _ _ _ hf
  obtain ⟨ds, h1, h2, h3⟩ := fitS_of hp hadr
  refine ⟨ds, h1, ?_⟩
  have := RelD.agg (R := fun k => k < W.heap.size) (w := W) cs.toList ds (by simpa [Value.cells] using h2.symm) (fun i v x hv hx => h3 i v x (by simpa [Value.cells] using hv) hx)
  simpa using this

/-- An argument of one cell. -/
theorem arg_one (hE : EnvOK P env) (hI : IntOK P env) {t : TypeId} {ti : TI} {s : Shp} (ht : ti? env t = some ti) (ha : ti.k.agg = false) (hs : shpO env 10 t = some [s]) {v : Value} {d : DataW H} {p : List MemPlace} (hok : Value.okWide P W .any base t v) (h : DataW.Trod enc P W 0 spare held t v d p) :
    ∃ x, s.fit x ∧ RelD (fun k => k < W.heap.size) W v x := by
  obtain ⟨fuel, hf⟩ := h
  obtain ⟨dd, hd, hk⟩ := (hE.get ht).desc
  have hc : Cell.okWide P W .any base t v := by
    unfold Value.okWide at hok
    rw [hd] at hok
    cases dd <;> first
      | exact hok
      | (simp [summ] at hk; rw [← hk] at ha; simp [Kd.agg] at ha; done)
  have hcell : v.cells = #[v] := by
    cases v <;> first
      | rfl
      | (exfalso
         unfold Cell.okWide at hc
         split at hc
         all_goals first
           | (rename_i he; cases he; done)
           | (rename_i he _; cases he; done)
           | skip
         unfold Cell.ok at hc
         split at hc
         all_goals first
           | (rename_i he; cases he; done)
           | exact hc)
  have hp := trod_shp hE hI 10 t [s] hs _ _ _ hf
  rw [hcell] at hp
  obtain ⟨x, hx, hr⟩ := hp.2 0 v s (by simp) (by simp) (cell_adr hc)
  exact ⟨x, hx, hr⟩

theorem trodAll_stays (hl : laidOutB P = true) {W' : World} (hb : Below W.heap.size W W') : ∀ {ts : List TypeId} {vs : List Value} {ds : List (DataW H)} {ps : List MemPlace}, (∀ t ∈ ts, P.readableRec t = true ∧ t < P.types.size) →
    DataW.TrodAll enc P W 0 (fun _ => true) true ts vs ds ps → (∀ x ∈ ps, x.block < W.heap.size) → DataW.TrodAll enc P W' 0 (fun b => decide (b < W.heap.size)) true ts vs ds ps
  | [], [], [], _, _, h, _ => h
  | t :: ts, v :: vs, d :: ds, ps, ht, h, hlt => by
    obtain ⟨p, q, h1, h2, rfl⟩ := h
    exact ⟨p, q, Below.trod hl (ht t (by simp)).1 (ht t (by simp)).2 h1 hb (fun x hx => hlt x (by simp [hx])), trodAll_stays hl hb (fun t ht' => ht t (by simp [ht'])) h2 (fun x hx => hlt x (by simp [hx])), rfl⟩
  | [], _ :: _, _, _, _, h, _ => h.elim
  | [], [], _ :: _, _, _, h, _ => h.elim
  | _ :: _, [], _, _, _, h, _ => h.elim
  | _ :: _, _ :: _, [], _, _, h, _ => h.elim

end

/-- The row of a law, lifted. -/
theorem law_lifted {C : Checked} {os : Os} {f : FuncId} {fn : Func} {s : ChangeSpec} {conds : List PathCond} {fresh handsOn : Bool} {H : Type} {enc : TypeId × Value → H}
    (own : ownKnob C.prog.godebug = none) (started : os.Started) (noInit : C.prog.inits.idxOf? f = none) (hfn : C.prog.funcs[f]? = some fn)
    (witness : ∃ (w : World) (tape : Tape) (i : Input), w.os = os ∧ (w.forCall tape i).Shaped C.prog ∧ i.vars = [] ∧ Input.okWide C.prog (w.forCall tape i) .any w.heap.size f i ∧
      s.pre6 enc C.prog fn conds false (w.forCall tape i).memory i.args ∧ ({} : Assume).holds C.prog (lone (Frame.enter C.prog f i.args .normal) [] (w.forCall tape i)))
    (hl : laidOutB C.prog = true) (hvars : s.vars = []) (hread : ∀ t ∈ fn.params.toList, C.prog.readableRec t = true ∧ t < C.prog.types.size) {tb : TypeId} (hres : fn.resultTypes = #[tb]) (htb : C.prog.underlying tb = some .bool)
    (hspec : ∀ ds : List (DataW H), ds.length = fn.params.size → (s.fn H (ds ++ [])).results = [.lit (.bool true)] ∧ (s.fn H (ds ++ [])).args = ds ∧ (s.fn H (ds ++ [])).vars = [])
    (key : ∀ (W : World) (base : Nat) (args : Array Value) (ds : List (DataW H)) (p : List MemPlace), (∀ (j : Nat) t v, fn.params[j]? = some t → args[j]? = some v → Value.okWide C.prog W .any base t v) →
      DataW.TrodAll enc C.prog W 0 (fun _ => true) true fn.params.toList args.toList ds p → ∃ xs : List D, RelDs (fun k => k < W.heap.size) W args.toList xs ∧ Ctr C.prog f xs [] (.d (.bool true))) :
    ReturnsInHanded {} C os f .any (s.pre6 enc C.prog fn conds false) (s.post enc C.prog fn false fresh handsOn false) := by
  refine returnsInHanded_of_change own started noInit hfn witness ?_
  intro W base args ds gs before hval hW hcnd _
  have hlt := hW.lt
  obtain ⟨p, q, hA, hV, rfl, hfz, hnd⟩ := hW
  obtain ⟨xs, hxs, hctr⟩ := key W base args ds p hval hA
  have hV' := hV
  rw [hvars] at hV
  have hg : gs = [] ∧ q = [] := by
    cases gs with
    | nil => exact ⟨rfl, hV⟩
    | cons g r => exact hV.elim
  obtain ⟨rfl, rfl⟩ := hg
  have hlen : ∀ {ts : List TypeId} {vs : List Value} {ds : List (DataW H)} {ps : List MemPlace}, DataW.TrodAll enc C.prog W 0 (fun _ => true) true ts vs ds ps → ds.length = ts.length := by
    intro ts
    induction ts with
    | nil => intro vs ds ps h; cases vs <;> cases ds <;> first | rfl | exact h.elim
    | cons t r ih =>
      intro vs ds ps h
      cases vs with
      | nil => exact h.elim
      | cons v q => cases ds with
        | nil => exact h.elim
        | cons d e => obtain ⟨_, _, _, h2, _⟩ := h; simp [ih h2]
  obtain ⟨s1, s2, s3⟩ := hspec ds (by have := hlen hA; simpa using this)
  refine (hctr.2 W args.toList hxs).mono ?_
  rintro e W' ⟨v, ρ, rfl, hout⟩
  refine ⟨v, rfl, ds, [], p ++ [], [], p, [], ⟨p, [], hA, hV', rfl, hfz, hnd⟩, ?_, ?_, ?_, hout.ext.frame _, fun h => by cases h⟩
  · have hv : v = .bool true := by
      have := hout.val
      cases this with | d h => cases h; rfl
    rw [s1, hres, hv]
    exact ⟨[], [], ⟨1, by simp [DataW.trod, htb, Value.cells]⟩, rfl, rfl⟩
  · rw [s2]
    exact trodAll_stays hl hout.ext hread hA (fun x hx => hlt x (by simp [hx]))
  · rw [s3, hvars]; rfl

end Go.Wk

/- The data of the program, out of what an argument reads as. -/
namespace Go.Wk
set_option maxRecDepth 10000

theorem fit_int {k : IntKind} {x : D} (h : (Sc.int k).fit x) : ∃ n, x = .int k n ∧ (Lit.int k n).wf = true := by
  cases x <;> first | exact h.elim | (obtain ⟨rfl, hw⟩ := h; exact ⟨_, rfl, hw⟩)
theorem fit_bool {x : D} (h : Sc.bool.fit x) : ∃ b, x = .bool b := by
  cases x <;> first | exact h.elim | exact ⟨_, rfl⟩
theorem fitL_get : ∀ {es : List Sc} {xs : List D}, fitL es xs → xs.length = es.length ∧ ∀ (i : Nat) s x, es[i]? = some s → xs[i]? = some x → s.fit x
  | [], [], _ => by simp
  | [], _ :: _, h => h.elim
  | _ :: _, [], h => h.elim
  | s :: r, x :: q, h => by
    obtain ⟨h1, h2⟩ := fitL_get h.2
    refine ⟨by simp [h1], fun i a b ha hb => ?_⟩
    cases i with
    | zero => simp at ha hb; subst ha hb; exact h.1
    | succ i => exact h2 i a b (by simpa using ha) (by simpa using hb)
theorem fitS_get : ∀ {es : List Shp} {xs : List D}, fitS es xs → xs.length = es.length ∧ ∀ (i : Nat) s x, es[i]? = some s → xs[i]? = some x → s.fit x
  | [], [], _ => by simp
  | [], _ :: _, h => h.elim
  | _ :: _, [], h => h.elim
  | s :: r, x :: q, h => by
    obtain ⟨h1, h2⟩ := fitS_get h.2
    refine ⟨by simp [h1], fun i a b ha hb => ?_⟩
    cases i with
    | zero => simp at ha hb; subst ha hb; exact h.1
    | succ i => exact h2 i a b (by simpa using ha) (by simpa using hb)
theorem fit_sl {es : List Sc} {x : D} (h : (Shp.sl es).fit x) : ∃ n get, x = .arr es.length n get ∧ n ≤ maxLen ∧ ∀ i, i < n → fitL es (get i) := by
  cases x <;> first | exact h.elim | (obtain ⟨rfl, h1, h2⟩ := h; exact ⟨_, _, rfl, h1, h2⟩)

theorem getD_map {α : Type} {n : Nat} {f : Nat → α} {d : α} {i : Nat} (hi : i < n) : ((List.range n).map f).getD i d = f i := by
  simp [List.getD_eq_getElem?_getD, hi]

theorem open_bools {x : D} (h : (Shp.sl [.bool]).fit x) : ∃ bs : List Bool, DLe x (boolsD bs) ∧ bs.length ≤ maxLen := by
  obtain ⟨n, get, rfl, hn, hf⟩ := fit_sl h
  have key : ∀ i, i < n → ∃ b, get i = [.bool b] := fun i hi => by
    have := hf i hi
    match get i, this with
    | [x], h => obtain ⟨b, rfl⟩ := fit_bool h.1; exact ⟨b, rfl⟩
  refine ⟨(List.range n).map fun i => if h : i < n then (key i h).choose else false, ?_, by simpa using hn⟩
  unfold boolsD
  rw [show ((List.range n).map fun i => if h : i < n then (key i h).choose else false).length = n by simp]
  refine DLe.arr fun i hi => ?_
  rw [getD_map hi, dif_pos hi]
  exact (key i hi).choose_spec
theorem open_ints {x : D} (h : (Shp.sl [.int .i64]).fit x) : ∃ xs : List Int, DLe x (intsD xs) ∧ xs.length ≤ maxLen ∧ ∀ y ∈ xs, (Lit.int .i64 y).wf = true := by
  obtain ⟨n, get, rfl, hn, hf⟩ := fit_sl h
  have key : ∀ i, i < n → ∃ b, get i = [.int .i64 b] ∧ (Lit.int .i64 b).wf = true := fun i hi => by
    have := hf i hi
    match get i, this with
    | [x], h => obtain ⟨b, rfl, hw⟩ := fit_int h.1; exact ⟨b, rfl, hw⟩
  refine ⟨(List.range n).map fun i => if h : i < n then (key i h).choose else 0, ?_, by simpa using hn, fun y hy => ?_⟩
  · unfold intsD
    rw [show ((List.range n).map fun i => if h : i < n then (key i h).choose else 0).length = n by simp]
    refine DLe.arr fun i hi => ?_
    rw [getD_map hi, dif_pos hi]
    exact (key i hi).choose_spec.1
  · obtain ⟨i, hi, rfl⟩ := List.mem_map.1 hy
    rw [dif_pos (List.mem_range.1 hi)]
    exact (key i (List.mem_range.1 hi)).choose_spec.2
theorem open_links {x : D} (h : (Shp.sl [.int .i64, .int .i64, .int .i64, .int .i64, .int .i64, .int .i64, .int .i64]).fit x) : ∃ ls : List Lk, DLe x (linksD ls) ∧ ls.length ≤ maxLen := by
  obtain ⟨n, get, rfl, hn, hf⟩ := fit_sl h
  have key : ∀ i, i < n → ∃ l : Lk, get i = lkD l := fun i hi => by
    have := hf i hi
    match get i, this with
    | [x0, x1, x2, x3, x4, x5, x6], ⟨h0, h1, h2, h3, h4, h5, h6, _⟩ =>
      obtain ⟨a0, rfl, _⟩ := fit_int h0
      obtain ⟨a1, rfl, _⟩ := fit_int h1
      obtain ⟨a2, rfl, _⟩ := fit_int h2
      obtain ⟨a3, rfl, _⟩ := fit_int h3
      obtain ⟨a4, rfl, _⟩ := fit_int h4
      obtain ⟨a5, rfl, _⟩ := fit_int h5
      obtain ⟨a6, rfl, _⟩ := fit_int h6
      exact ⟨⟨a0, a1, a2, a3, a4, a5, a6⟩, rfl⟩
  refine ⟨(List.range n).map fun i => if h : i < n then (key i h).choose else default, ?_, by simpa using hn⟩
  unfold linksD
  rw [show ((List.range n).map fun i => if h : i < n then (key i h).choose else default).length = n by simp]
  refine DLe.arr fun i hi => ?_
  rw [getD_map hi, dif_pos hi]
  exact (key i hi).choose_spec

abbrev topoS : List Shp := [.sc (.int .i64), .sl [.bool], .sl [.int .i64, .int .i64, .int .i64, .int .i64, .int .i64, .int .i64, .int .i64]]
theorem open_topo {ds : List D} (h : fitS topoS ds) : ∃ t : Topo, DLe (.agg ds) (topoD t) := by
  match ds, h with
  | [x0, x1, x2], ⟨h0, h1, h2, _⟩ =>
    obtain ⟨n, rfl, _⟩ := fit_int h0
    obtain ⟨bs, hb, _⟩ := open_bools h1
    obtain ⟨ls, hl, _⟩ := open_links h2
    exact ⟨⟨n, bs, ls⟩, DLe.agg ⟨DLe.refl _, hb, hl, trivial⟩⟩

abbrev queryS : List Shp := [.sc (.int .i64), .sl [.bool], .sl [.int .i64, .int .i64, .int .i64, .int .i64, .int .i64, .int .i64, .int .i64], .sl [.bool], .sc (.int .i64), .sc (.int .i64)]
def qD (t : Topo) (down : List Bool) (x y : Int) : D := .agg [.int .i64 t.nodes, boolsD t.overload, linksD t.links, boolsD down, .int .i64 x, .int .i64 y]
theorem open_query {ds : List D} (h : fitS queryS ds) : ∃ (t : Topo) (down : List Bool) (x y : Int), DLe (.agg ds) (qD t down x y) ∧ (Lit.int .i64 x).wf = true ∧ (Lit.int .i64 y).wf = true := by
  match ds, h with
  | [x0, x1, x2, x3, x4, x5], ⟨h0, h1, h2, h3, h4, h5, _⟩ =>
    obtain ⟨n, rfl, _⟩ := fit_int h0
    obtain ⟨bs, hb, _⟩ := open_bools h1
    obtain ⟨ls, hl, _⟩ := open_links h2
    obtain ⟨ds, hd, _⟩ := open_bools h3
    obtain ⟨x, rfl, hx⟩ := fit_int h4
    obtain ⟨y, rfl, hy⟩ := fit_int h5
    exact ⟨⟨n, bs, ls⟩, ds, x, y, DLe.agg ⟨DLe.refl _, hb, hl, hd, DLe.refl _, DLe.refl _, trivial⟩, hx, hy⟩

theorem open_pair {ds : List D} (h : fitS [.sc (.int .i64), .sc (.int .i64)] ds) : ∃ a b : Int, ds = [.int .i64 a, .int .i64 b] := by
  match ds, h with
  | [x0, x1], ⟨h0, h1, _⟩ =>
    obtain ⟨a, rfl, _⟩ := fit_int h0
    obtain ⟨b, rfl, _⟩ := fit_int h1
    exact ⟨a, b, rfl⟩

theorem relDs_nil {R : Nat → Prop} {w : World} : RelDs R w [] [] := ⟨rfl, fun i v x h => by simp at h⟩
theorem relDs_cons {R : Nat → Prop} {w : World} {v : Value} {x : D} {vs : List Value} {xs : List D} (h : RelD R w v x) (k : RelDs R w vs xs) : RelDs R w (v :: vs) (x :: xs) := by
  refine ⟨by simp [k.1], fun i u y hu hy => ?_⟩
  cases i with
  | zero => simp at hu hy; subst hu hy; exact h
  | succ i => exact k.2 i u y (by simpa using hu) (by simpa using hy)

end Go.Wk

/- Laws of layer 27: the example. -/
namespace Go.Proofs.Ytcnfggpcploehaa
set_option maxRecDepth 10000
open Go.Wk

def sqM : List Bool := [true, true, false, false, false, false, false, false]
theorem l27_square : Ctr Try.prog 53 [] [] (.tup [.d (sqD nilD), .d (boolsD sqM)]) := by
  refine spec_data envOK (enters_of Try.func53 (by kernel_rfl) (by kernel_rfl)) Try.func53 rfl rfl _ rfl (Nat.le_of_ble_eq_true rfl) rfl fun w0 => ?_
  repeat' (first
  
    | refine aw_seq ?_
    | refine aw_region ?_
    | refine aw_region_q (by kernel_rfl) (by kernel_rfl) ?_
    | refine aw_block ?_
    | refine ao_nil ?_
    | refine ao_op rfl trivial ?_
    | refine aq_nil ?_
    | refine aq_op rfl trivial ?_
    | refine at_nil ?_
    | refine at_op rfl trivial ?_
    | refine am_nil ?_
    | refine am_op rfl trivial rfl ?_
    | refine aw_skip ?_
    | refine aw_condT rfl trivial ?_
    | refine aw_condF rfl trivial ?_
    | refine aw_condD rfl trivial (fun hc => ?_) (fun hc => ?_)
    | refine aw_condN rfl trivial (fun hc => ?_) (fun hc => ?_)
    | refine aw_condNB rfl trivial (fun hc => ?_) (fun hc => ?_)
    | refine aw_cond rfl trivial (fun hc => ?_) (fun hc => ?_)
    | refine aw_ret ?_
    | refine aw_exit ?_
    | refine ao_op rfl ?_ ?_
    | refine aq_op rfl ?_ ?_
    | refine at_op rfl ?_ ?_
    | refine am_op rfl ?_ rfl ?_
    | refine ao_box rfl trivial rfl rfl rfl ?_
    | refine ao_alloc rfl rfl rfl rfl ?_
    | refine ao_store rfl rfl trivial rfl trivial rfl rfl rfl rfl rfl ?_
  
    | (show allP _; first | trivial | exact ob1 (fun h => h) | exact ob2 (fun h => h) (fun h => h) | exact ob1 (fun h => ⟨h.1, trivial⟩) | (simp only [allP, obg, grd, allT, InR, decide_eq_true_eq, Bool.and_eq_true, Bool.not_eq_true', decide_eq_false_iff_not, List.nil_append, List.cons_append, List.append_nil, and_true, true_and]; first | omega | (intros; omega) | (simp only [Blk.len, List.length_set, List.length_append, List.length_cons, List.length_nil]; first | omega | (intros; omega)) | (refine ⟨?_, ?_⟩ <;> intros <;> first | (with_reducible assumption) | omega) | ((repeat' refine And.intro ?_ ?_) <;> (intros; first | (with_reducible assumption) | omega | (simp only [Blk.len, List.length_set, List.length_append, List.length_cons, List.length_nil]; omega))) | ((try simp only [Bool.or_eq_true, Bool.or_eq_false_iff, Bool.and_eq_true, Bool.and_eq_false_iff, decide_eq_true_eq, decide_eq_false_iff_not, Bool.not_eq_true', Bool.not_eq_false'] at *); (try simp only [Blk.len] at *); first | omega | (intros; omega)) | (simp_all; done))))
  refine aw_weak (weak_nilc (hn := 1) (j := 2) (.row 7 0 (fun k => lkD (sqL k))) rfl rfl rfl rfl rfl rfl rfl rfl) (Nat.le_of_ble_eq_true rfl) ?_
  refine aw_loop (ι := Nat) (fun i => [(5, [], .d (iD i)), (2, [], .ptr 1 0), (0, [], .ptr 0 0)]) (fun i => [.cells [.d (iD 0), .nil, .nil], .cells [.d (iD 4), .nil, .own 2], .row 7 i (fun k => lkD (sqL k))])
    (fun i => i ≤ 4) (fun i => 4 - i) 0 (by omega) (fun _ => Nat.le_of_ble_eq_true rfl) (by refine weak_to ?_ ?_ rfl rfl
                                                                                            · repeat (first | exact subF_nil | refine subF_cons (by first | rfl | (simp [look]; done)) ?_)
                                                                                            · repeat (first | exact subS_nil | refine subS_cons (by first | rfl | (simp; done)) ?_)) fun i hi => ?_
  repeat' (first
  
    | refine aw_seq ?_
    | refine aw_region ?_
    | refine aw_region_q (by kernel_rfl) (by kernel_rfl) ?_
    | refine aw_block ?_
    | refine ao_nil ?_
    | refine ao_op rfl trivial ?_
    | refine aq_nil ?_
    | refine aq_op rfl trivial ?_
    | refine at_nil ?_
    | refine at_op rfl trivial ?_
    | refine am_nil ?_
    | refine am_op rfl trivial rfl ?_
    | refine aw_skip ?_
    | refine aw_condT rfl trivial ?_
    | refine aw_condF rfl trivial ?_
    | refine aw_condD rfl trivial (fun hc => ?_) (fun hc => ?_)
    | refine aw_condN rfl trivial (fun hc => ?_) (fun hc => ?_)
    | refine aw_condNB rfl trivial (fun hc => ?_) (fun hc => ?_)
    | refine aw_cond rfl trivial (fun hc => ?_) (fun hc => ?_)
    | refine aw_ret ?_
    | refine aw_exit ?_
    | refine ao_op rfl ?_ ?_
    | refine aq_op rfl ?_ ?_
    | refine at_op rfl ?_ ?_
    | refine am_op rfl ?_ rfl ?_
    | refine ao_box rfl trivial rfl rfl rfl ?_
    | refine ao_alloc rfl rfl rfl rfl ?_
    | refine ao_store rfl rfl trivial rfl trivial rfl rfl rfl rfl rfl ?_
    | refine ao_lit rfl rfl rfl rfl trivial rfl rfl rfl rfl rfl rfl ?_
    | refine ao_app rfl rfl rfl rfl trivial rfl trivial rfl rfl (litB_ones rfl) rfl rfl rfl rfl rfl (by simp [Blk.len]; omega) rfl rfl rfl ?_
    | (show allP _; first | trivial | exact ob1 (fun h => h) | exact ob2 (fun h => h) (fun h => h) | exact ob1 (fun h => ⟨h.1, trivial⟩) | (simp only [allP, obg, grd, allT, InR, decide_eq_true_eq, Bool.and_eq_true, Bool.not_eq_true', decide_eq_false_iff_not, List.nil_append, List.cons_append, List.append_nil, and_true, true_and]; first | omega | (intros; omega) | (simp only [Blk.len, List.length_set, List.length_append, List.length_cons, List.length_nil]; first | omega | (intros; omega)) | (refine ⟨?_, ?_⟩ <;> intros <;> first | (with_reducible assumption) | omega) | ((repeat' refine And.intro ?_ ?_) <;> (intros; first | (with_reducible assumption) | omega | (simp only [Blk.len, List.length_set, List.length_append, List.length_cons, List.length_nil]; omega))) | ((try simp only [Bool.or_eq_true, Bool.or_eq_false_iff, Bool.and_eq_true, Bool.and_eq_false_iff, decide_eq_true_eq, decide_eq_false_iff_not, Bool.not_eq_true', Bool.not_eq_false'] at *); (try simp only [Blk.len] at *); first | omega | (intros; omega)) | (simp_all; done))))
  · refine ⟨i + 1, by omega, by omega, ?_⟩
    refine Weak.trans (weak_row (nm := 2) (e := 7) (m := i + 1) (g' := fun k => lkD (sqL k)) rfl (fun k hk => ?_) rfl) (by refine weak_to ?_ ?_ rfl rfl
                                                                                                                           · repeat (first | exact subF_nil | refine subF_cons (by first | rfl | (simp [look]; done)) ?_)
                                                                                                                           · repeat (first | exact subS_nil | refine subS_cons (by first | rfl | (simp; done)) ?_)) (Nat.le_of_ble_eq_true rfl)
    by_cases h : k < i
    · simp [h]
    · have : k = i := by omega
      subst this
      simp [lkD, sqL]
  · have h4 : i = 4 := by omega
    subst h4
    exact ⟨.inr rfl, _, rfl, _, rfl, ⟨⟨rfl, rfl⟩, rfl, ⟨_, rfl, rfl, fun k hk x hx => by simp [lkD] at hx; rcases hx with rfl | rfl | rfl | rfl | rfl | rfl | rfl <;> rfl, rfl⟩, trivial⟩, ⟨_, rfl, rfl, trivial, rfl⟩, trivial⟩

def sqPr : Int → Int → Bool := fun a b => a == b
theorem sqm_e (d : Int) (h : d = 0 ∨ d = 1 ∨ d = 2) : errS sqT sqM d = 0 := by rcases h with rfl | rfl | rfl <;> kernel_rfl
theorem sqm_d1 : distL sqT sqM 1 false = [3, 0, 1, 2] := distL_chk (by kernel_rfl) (by kernel_rfl)
theorem sqm_d2 : distL sqT sqM 2 false = [2, 1, 0, 1] := distL_chk (by kernel_rfl) (by kernel_rfl)
theorem sq_d1 : distL sqT [] 1 false = [1, 0, 1, 2] := distL_chk (by kernel_rfl) (by kernel_rfl)
theorem sqm_p1 : errP sqT sqM 0 1 = 0 := by unfold errP; rw [if_pos (sqm_e 1 (by simp)), sqm_d1]; decide
theorem sqm_p2 : errP sqT sqM 0 2 = 0 := by unfold errP; rw [if_pos (sqm_e 2 (by simp)), sqm_d2]; decide
theorem sqm_path : pathL sqT sqM 0 1 = [7, 5, 3] := by unfold pathL; rw [if_pos sqm_p1, sqm_d1]; kernel_rfl
theorem a27_Path : Ctr Try.prog 18 [sqD nilD, boolsD sqM, iD 0, iD 1] [.ints .i64 [7, 5, 3]] (.tup [.own 0, .d (iD 0)]) := by
  have := c27_Path sqT sqM 0 1
  rw [sqm_path, sqm_p1] at this
  exact this.args ⟨sqD_le DLe.nil, DLe.refl _, DLe.refl _, DLe.refl _, trivial⟩
theorem a27_Extra1 : Ctr Try.prog 20 [sqD nilD, boolsD sqM, iD 0, iD 1] [] (.tup [.d (iD 2), .d (iD 0)]) := by
  have := c27_Extra sqT sqM 0 1
  have hx : extraL sqT sqM 0 1 = 2 := by unfold extraL; rw [if_pos sqm_p1, (pathL_cost sqm_p1).2, sqm_d1, sq_d1]; decide
  rw [hx, sqm_p1] at this
  exact this.args ⟨sqD_le DLe.nil, DLe.refl _, DLe.refl _, DLe.refl _, trivial⟩
theorem a27_Extra2 : Ctr Try.prog 20 [sqD nilD, boolsD sqM, iD 0, iD 2] [] (.tup [.d (iD 0), .d (iD 0)]) := by
  have := c27_Extra sqT sqM 0 2
  have hx : extraL sqT sqM 0 2 = 0 := by unfold extraL; rw [if_pos sqm_p2, (pathL_cost sqm_p2).2, sqm_d2, sq_d]; decide
  rw [hx, sqm_p2] at this
  exact this.args ⟨sqD_le DLe.nil, DLe.refl _, DLe.refl _, DLe.refl _, trivial⟩
theorem a27_Reaches : Ctr Try.prog 23 [sqD nilD, boolsD sqM, iD 0, iD 1] [] (.d (bD true)) := by
  have := c27_Reaches sqT sqM 0 1
  rw [sqm_p1] at this
  exact this.args ⟨sqD_le DLe.nil, DLe.refl _, DLe.refl _, DLe.refl _, trivial⟩

set_option maxHeartbeats 1000000 in
theorem l27_awake : Ctr Try.prog 16 [] [] (.d (bD true)) := by
  refine spec_of envOK (enters_of Try.func16 (by kernel_rfl) (by kernel_rfl)) Try.func16 rfl rfl _ rfl (Nat.le_of_ble_eq_true rfl) rfl fun w0 => ?_
  repeat' (first
  
    | refine aw_seq ?_
    | refine aw_region ?_
    | refine aw_region_q (by kernel_rfl) (by kernel_rfl) ?_
    | refine aw_block ?_
    | refine ao_nil ?_
    | refine ao_op rfl trivial ?_
    | refine aq_nil ?_
    | refine aq_op rfl trivial ?_
    | refine at_nil ?_
    | refine at_op rfl trivial ?_
    | refine am_nil ?_
    | refine am_op rfl trivial rfl ?_
    | refine aw_skip ?_
    | refine aw_condT rfl trivial ?_
    | refine aw_condF rfl trivial ?_
    | refine aw_condD rfl trivial (fun hc => ?_) (fun hc => ?_)
    | refine aw_condN rfl trivial (fun hc => ?_) (fun hc => ?_)
    | refine aw_condNB rfl trivial (fun hc => ?_) (fun hc => ?_)
    | refine aw_cond rfl trivial (fun hc => ?_) (fun hc => ?_)
    | refine aw_ret ?_
    | refine aw_exit ?_
    | refine ao_op rfl ?_ ?_
    | refine aq_op rfl ?_ ?_
    | refine at_op rfl ?_ ?_
    | refine am_op rfl ?_ rfl ?_
    | refine ao_box rfl trivial rfl rfl rfl ?_
    | refine ao_alloc rfl rfl rfl rfl ?_
    | refine ao_store rfl rfl trivial rfl trivial rfl rfl rfl rfl rfl ?_
    | refine ao_callR rfl (l27_square) trivial rfl rfl ?_
    | refine ao_callR rfl (a27_Path) trivial rfl rfl ?_
    | refine ao_callR rfl (a27_Extra1) trivial rfl rfl ?_
    | refine ao_callR rfl (a27_Extra2) trivial rfl rfl ?_
    | (first | refine ao_call rfl (a27_Reaches) rfl ?_ ?_ | refine aq_call rfl (a27_Reaches) rfl ?_ ?_)
    | refine ao_call rfl (a_Same _ _ (by decide)) rfl ?_ ?_
    | refine ao_lit rfl rfl rfl rfl trivial rfl rfl rfl rfl rfl rfl ?_
    | refine ao_litT rfl (by (simp [allT])) rfl rfl rfl rfl trivial rfl rfl rfl rfl rfl rfl ?_
    | (show allP _; first | trivial | exact ob1 (fun h => h) | exact ob2 (fun h => h) (fun h => h) | exact ob1 (fun h => ⟨h.1, trivial⟩) | (simp only [allP, obg, grd, allT, InR, decide_eq_true_eq, Bool.and_eq_true, Bool.not_eq_true', decide_eq_false_iff_not, List.nil_append, List.cons_append, List.append_nil, and_true, true_and]; first | omega | (intros; omega) | (simp only [Blk.len, List.length_set, List.length_append, List.length_cons, List.length_nil]; first | omega | (intros; omega)) | (refine ⟨?_, ?_⟩ <;> intros <;> first | (with_reducible assumption) | omega) | ((repeat' refine And.intro ?_ ?_) <;> (intros; first | (with_reducible assumption) | omega | (simp only [Blk.len, List.length_set, List.length_append, List.length_cons, List.length_nil]; omega))) | ((try simp only [Bool.or_eq_true, Bool.or_eq_false_iff, Bool.and_eq_true, Bool.and_eq_false_iff, decide_eq_true_eq, decide_eq_false_iff_not, Bool.not_eq_true', Bool.not_eq_false'] at *); (try simp only [Blk.len] at *); first | omega | (intros; omega)) | (simp_all; done))))
  (refine fin_ret ?_; exact ret1 (by rfl) (by (first | rfl | decide | (simp; done))) (by rfl))

theorem l27_large (t : Topo) (down : List Bool) (x y : Int) : Ctr Try.prog 17 [qD t down x y] [] (.d (bD (decide (12 < t.nodes) || decide (20 < (t.links.length : Int)) || decide (60 < (down.length : Int))))) := by
  refine spec_of envOK (enters_of Try.func17 (by kernel_rfl) (by kernel_rfl)) Try.func17 rfl rfl _ rfl (Nat.le_of_ble_eq_true rfl) rfl fun w0 => ?_
  repeat' (first
  
    | refine aw_seq ?_
    | refine aw_region ?_
    | refine aw_region_q (by kernel_rfl) (by kernel_rfl) ?_
    | refine aw_block ?_
    | refine ao_nil ?_
    | refine ao_op rfl trivial ?_
    | refine aq_nil ?_
    | refine aq_op rfl trivial ?_
    | refine at_nil ?_
    | refine at_op rfl trivial ?_
    | refine am_nil ?_
    | refine am_op rfl trivial rfl ?_
    | refine aw_skip ?_
    | refine aw_condT rfl trivial ?_
    | refine aw_condF rfl trivial ?_
    | refine aw_condD rfl trivial (fun hc => ?_) (fun hc => ?_)
    | refine aw_condN rfl trivial (fun hc => ?_) (fun hc => ?_)
    | refine aw_condNB rfl trivial (fun hc => ?_) (fun hc => ?_)
    | refine aw_cond rfl trivial (fun hc => ?_) (fun hc => ?_)
    | refine aw_ret ?_
    | refine aw_exit ?_
    | refine ao_op rfl ?_ ?_
    | refine aq_op rfl ?_ ?_
    | refine at_op rfl ?_ ?_
    | refine am_op rfl ?_ rfl ?_
    | refine ao_box rfl trivial rfl rfl rfl ?_
    | refine ao_alloc rfl rfl rfl rfl ?_
    | refine ao_store rfl rfl trivial rfl trivial rfl rfl rfl rfl rfl ?_
  
    | (show allP _; first | trivial | exact ob1 (fun h => h) | exact ob2 (fun h => h) (fun h => h) | exact ob1 (fun h => ⟨h.1, trivial⟩) | (simp only [allP, obg, grd, allT, InR, decide_eq_true_eq, Bool.and_eq_true, Bool.not_eq_true', decide_eq_false_iff_not, List.nil_append, List.cons_append, List.append_nil, and_true, true_and]; first | omega | (intros; omega) | (simp only [Blk.len, List.length_set, List.length_append, List.length_cons, List.length_nil]; first | omega | (intros; omega)) | (refine ⟨?_, ?_⟩ <;> intros <;> first | (with_reducible assumption) | omega) | ((repeat' refine And.intro ?_ ?_) <;> (intros; first | (with_reducible assumption) | omega | (simp only [Blk.len, List.length_set, List.length_append, List.length_cons, List.length_nil]; omega))) | ((try simp only [Bool.or_eq_true, Bool.or_eq_false_iff, Bool.and_eq_true, Bool.and_eq_false_iff, decide_eq_true_eq, decide_eq_false_iff_not, Bool.not_eq_true', Bool.not_eq_false'] at *); (try simp only [Blk.len] at *); first | omega | (intros; omega)) | (simp_all; done))))
  (refine fin_ret ?_; exact ret1 (by rfl) (by (simp only [Bool.or_assoc])) (by rfl))
end Go.Proofs.Ytcnfggpcploehaa

/- Laws of layer 27: Path, Safe. -/
namespace Go.Proofs.Ytcnfggpcploehaa
set_option maxRecDepth 10000
open Go.Wk

set_option maxHeartbeats 1000000 in
theorem l_PostconvPath (t : Topo) (down : List Bool) (x y : Int) : Ctr Try.prog 3 [qD t down x y] [] (.d (bD true)) := by
  refine spec_of envOK (enters_of Try.func3 (by kernel_rfl) (by kernel_rfl)) Try.func3 rfl rfl _ rfl (Nat.le_of_ble_eq_true rfl) rfl fun w0 => ?_
  have hpl := pathL_len t down x y
  repeat' (first
  
    | refine aw_seq ?_
    | refine aw_region ?_
    | refine aw_region_q (by kernel_rfl) (by kernel_rfl) ?_
    | refine aw_block ?_
    | refine ao_nil ?_
    | refine ao_op rfl trivial ?_
    | refine aq_nil ?_
    | refine aq_op rfl trivial ?_
    | refine at_nil ?_
    | refine at_op rfl trivial ?_
    | refine am_nil ?_
    | refine am_op rfl trivial rfl ?_
    | refine aw_skip ?_
    | refine aw_condT rfl trivial ?_
    | refine aw_condF rfl trivial ?_
    | refine aw_condD rfl trivial (fun hc => ?_) (fun hc => ?_)
    | refine aw_condN rfl trivial (fun hc => ?_) (fun hc => ?_)
    | refine aw_condNB rfl trivial (fun hc => ?_) (fun hc => ?_)
    | refine aw_cond rfl trivial (fun hc => ?_) (fun hc => ?_)
    | refine aw_ret ?_
    | refine aw_exit ?_
    | refine ao_op rfl ?_ ?_
    | refine aq_op rfl ?_ ?_
    | refine at_op rfl ?_ ?_
    | refine am_op rfl ?_ rfl ?_
    | refine ao_box rfl trivial rfl rfl rfl ?_
    | refine ao_alloc rfl rfl rfl rfl ?_
    | refine ao_store rfl rfl trivial rfl trivial rfl rfl rfl rfl rfl ?_
    | (first | refine ao_call rfl (l27_awake) rfl ?_ ?_ | refine aq_call rfl (l27_awake) rfl ?_ ?_)
    | (first | refine ao_call rfl (l27_large t down x y) rfl ?_ ?_ | refine aq_call rfl (l27_large t down x y) rfl ?_ ?_)
    | refine ao_callR rfl (c27_Path t down x y) trivial rfl rfl ?_
    | refine ao_callR rfl (r27_Path t down x y) trivial rfl rfl ?_
    | refine ao_callR rfl (c27_Extra t down x y) trivial rfl rfl ?_
    | refine ao_callR rfl (r27_Extra t down x y) trivial rfl rfl ?_
    | (first | refine ao_call rfl (c27_Reaches t down x y) rfl ?_ ?_ | refine aq_call rfl (c27_Reaches t down x y) rfl ?_ ?_)
    | (first | refine ao_call rfl (r_SameInts (pathL t down x y) (pathL t down x y) (by omega)) rfl ?_ ?_ | refine aq_call rfl (r_SameInts (pathL t down x y) (pathL t down x y) (by omega)) rfl ?_ ?_)
    | (show allP _; first | trivial | exact ob1 (fun h => h) | exact ob2 (fun h => h) (fun h => h) | exact ob1 (fun h => ⟨h.1, trivial⟩) | (simp only [allP, obg, grd, allT, InR, decide_eq_true_eq, Bool.and_eq_true, Bool.not_eq_true', decide_eq_false_iff_not, List.nil_append, List.cons_append, List.append_nil, and_true, true_and]; first | omega | (intros; omega) | (simp only [Blk.len, List.length_set, List.length_append, List.length_cons, List.length_nil]; first | omega | (intros; omega)) | (refine ⟨?_, ?_⟩ <;> intros <;> first | (with_reducible assumption) | omega) | ((repeat' refine And.intro ?_ ?_) <;> (intros; first | (with_reducible assumption) | omega | (simp only [Blk.len, List.length_set, List.length_append, List.length_cons, List.length_nil]; omega))) | ((try simp only [Bool.or_eq_true, Bool.or_eq_false_iff, Bool.and_eq_true, Bool.and_eq_false_iff, decide_eq_true_eq, decide_eq_false_iff_not, Bool.not_eq_true', Bool.not_eq_false'] at *); (try simp only [Blk.len] at *); first | omega | (intros; omega)) | (simp_all; done))))
  all_goals first | ((refine fin_ret ?_; exact ret1 (by rfl) (by rfl) (by rfl))) | ((refine fin_ret ?_; exact ret1 (by rfl) (by (simp)) (by rfl)))

theorem l_PostconvSafe (t : Topo) (down : List Bool) (x y : Int) : Ctr Try.prog 7 [qD t down x y] [] (.d (bD true)) := by
  refine spec_of envOK (enters_of Try.func7 (by kernel_rfl) (by kernel_rfl)) Try.func7 rfl rfl _ rfl (Nat.le_of_ble_eq_true rfl) rfl fun w0 => ?_
  repeat' (first
  
    | refine aw_seq ?_
    | refine aw_region ?_
    | refine aw_region_q (by kernel_rfl) (by kernel_rfl) ?_
    | refine aw_block ?_
    | refine ao_nil ?_
    | refine ao_op rfl trivial ?_
    | refine aq_nil ?_
    | refine aq_op rfl trivial ?_
    | refine at_nil ?_
    | refine at_op rfl trivial ?_
    | refine am_nil ?_
    | refine am_op rfl trivial rfl ?_
    | refine aw_skip ?_
    | refine aw_condT rfl trivial ?_
    | refine aw_condF rfl trivial ?_
    | refine aw_condD rfl trivial (fun hc => ?_) (fun hc => ?_)
    | refine aw_condN rfl trivial (fun hc => ?_) (fun hc => ?_)
    | refine aw_condNB rfl trivial (fun hc => ?_) (fun hc => ?_)
    | refine aw_cond rfl trivial (fun hc => ?_) (fun hc => ?_)
    | refine aw_ret ?_
    | refine aw_exit ?_
    | refine ao_op rfl ?_ ?_
    | refine aq_op rfl ?_ ?_
    | refine at_op rfl ?_ ?_
    | refine am_op rfl ?_ rfl ?_
    | refine ao_box rfl trivial rfl rfl rfl ?_
    | refine ao_alloc rfl rfl rfl rfl ?_
    | refine ao_store rfl rfl trivial rfl trivial rfl rfl rfl rfl rfl ?_
    | (first | refine ao_call rfl (l27_awake) rfl ?_ ?_ | refine aq_call rfl (l27_awake) rfl ?_ ?_)
    | (first | refine ao_call rfl (l27_large t down x y) rfl ?_ ?_ | refine aq_call rfl (l27_large t down x y) rfl ?_ ?_)
    | (first | refine ao_call rfl (c27_Safe t down x y) rfl ?_ ?_ | refine aq_call rfl (c27_Safe t down x y) rfl ?_ ?_)
    | (first | refine ao_call rfl (r27_Safe t down x y) rfl ?_ ?_ | refine aq_call rfl (r27_Safe t down x y) rfl ?_ ?_)
    | (show allP _; first | trivial | exact ob1 (fun h => h) | exact ob2 (fun h => h) (fun h => h) | exact ob1 (fun h => ⟨h.1, trivial⟩) | (simp only [allP, obg, grd, allT, InR, decide_eq_true_eq, Bool.and_eq_true, Bool.not_eq_true', decide_eq_false_iff_not, List.nil_append, List.cons_append, List.append_nil, and_true, true_and]; first | omega | (intros; omega) | (simp only [Blk.len, List.length_set, List.length_append, List.length_cons, List.length_nil]; first | omega | (intros; omega)) | (refine ⟨?_, ?_⟩ <;> intros <;> first | (with_reducible assumption) | omega) | ((repeat' refine And.intro ?_ ?_) <;> (intros; first | (with_reducible assumption) | omega | (simp only [Blk.len, List.length_set, List.length_append, List.length_cons, List.length_nil]; omega))) | ((try simp only [Bool.or_eq_true, Bool.or_eq_false_iff, Bool.and_eq_true, Bool.and_eq_false_iff, decide_eq_true_eq, decide_eq_false_iff_not, Bool.not_eq_true', Bool.not_eq_false'] at *); (try simp only [Blk.len] at *); first | omega | (intros; omega)) | (simp_all; done))))
  all_goals first | ((refine fin_ret ?_; exact ret1 (by rfl) (by rfl) (by rfl))) | ((refine fin_ret ?_; exact ret1 (by rfl) (by (simp)) (by rfl)))
end Go.Proofs.Ytcnfggpcploehaa

/- Laws of layer 11: Dist, From, Path against the reference. -/
namespace Go.Proofs.Ytcnfggpcploehaa
set_option maxRecDepth 10000
open Go.Wk

theorem distL_len (t : Topo) (down : List Bool) (n : Int) (fr : Bool) : (distL t down n fr).length ≤ 64 := by
  by_cases h : errS t down n = 0
  · have := (distL_is (fr := fr) h).len
    have hv := validB_head (fitsB_v (errS_0 h).1)
    omega
  · unfold distL; rw [if_neg h]; simp
end Go.Proofs.Ytcnfggpcploehaa

/- Laws of layer 11: least. -/
namespace Go.Proofs.Ytcnfggpcploehaa
set_option maxRecDepth 10000
open Go.Wk

theorem pthF_in : ∀ {l : List Int} {t : Topo} {first : Bool} {n c to cost : Int}, pthF t first n c l = (to, cost, 0) → ∀ a ∈ l, arcIn t a = true
  | [], _, _, _, _, _, _, _ => by simp
  | a :: r, t, first, n, c, to, cost, h => by
    simp only [pthF] at h
    split at h
    · simp at h
    · rename_i hin
      split at h
      · simp at h
      · intro b hb
        rcases List.mem_cons.1 hb with rfl | hb
        · simpa using hin
        · exact pthF_in h b hb

end Go.Proofs.Ytcnfggpcploehaa

/- Laws of layer 11: witness. -/
namespace Go.Proofs.Ytcnfggpcploehaa
set_option maxRecDepth 10000
open Go.Wk

theorem drop_le (p : List Int) (i : Nat) : DLe (.arr 1 ((Blk.ints .i64 p).len - i) (fun j => (Blk.ints .i64 p).get (i + j))) (intsD (p.drop i)) := by
  unfold intsD
  rw [show (p.drop i).length = (Blk.ints .i64 p).len - i by simp [Blk.len]]
  refine DLe.arr fun j hj => ?_
  simp [Blk.get, List.getD_eq_getElem?_getD]

end Go.Proofs.Ytcnfggpcploehaa

/- Laws of layer 27: Parts. -/
namespace Go.Proofs.Ytcnfggpcploehaa
set_option maxRecDepth 10000
open Go.Wk

abbrev qBlk (t : Topo) (down : List Bool) (x y : Int) : Blk := .cells [.d (iD t.nodes), .d (boolsD t.overload), .d (linksD t.links), .d (boolsD down), .d (iD x), .d (iD y)]
set_option maxHeartbeats 1000000 in
theorem l_PostconvParts (t : Topo) (down : List Bool) (s d : Int) : Ctr Try.prog 5 [qD t down s d] [] (.d (bD true)) := by
  refine spec_of envOK (enters_of Try.func5 (by kernel_rfl) (by kernel_rfl)) Try.func5 rfl rfl _ rfl (Nat.le_of_ble_eq_true rfl) rfl fun w0 => ?_
  by_cases he : errP t down s d = 0
  · obtain ⟨herr, s0, s1, sn⟩ := errP_0 he
    obtain ⟨hf, d0, d1⟩ := errS_0 herr
    have hv := fitsB_v hf
    have hI := distL_is (fr := false) herr
    have hpl := pathL_ok he
    have hplen := pathL_len t down s d
    have hP := c27_Path t down s d
    rw [he] at hP
    have hparts := pathF_parts hv hI (gI (distL t down d false) s).toNat s s0 s1 sn (by omega)
    rw [← hpl] at hparts
    have hnext : ∀ a : Int, 0 ≤ a → a < 2 * t.links.length → 0 ≤ gI (distL t down d false) (tailT t a) → errP t down (tailT t a) d = 0 ∧ pathL t down (tailT t a) d = pathF t down d (distL t down d false) (tailT t a) := fun a a0 a1 hn => by
      have hb := arc_ok hv a0 a1
      have : errP t down (tailT t a) d = 0 := by
        unfold errP
        rw [if_pos herr, decide_eq_false (by omega : ¬ tailT t a < 0), decide_eq_false (by omega : ¬ t.nodes ≤ tailT t a), if_neg (by omega)]; rfl
      exact ⟨this, by unfold pathL; rw [if_pos this]⟩
    have hend : pathL t down s d = [] → s = d := fun h => by
      have := (pathL_cost he).1
      rw [h] at this
      unfold pth9 at this
      rw [if_pos hv, if_neg (by omega)] at this
      simp only [pthF, Prod.mk.injEq] at this
      exact this.1
    generalize pathL t down s d = p at *
    repeat' (first
    
      | refine aw_seq ?_
      | refine aw_region ?_
      | refine aw_region_q (by kernel_rfl) (by kernel_rfl) ?_
      | refine aw_block ?_
      | refine ao_nil ?_
      | refine ao_op rfl trivial ?_
      | refine aq_nil ?_
      | refine aq_op rfl trivial ?_
      | refine at_nil ?_
      | refine at_op rfl trivial ?_
      | refine am_nil ?_
      | refine am_op rfl trivial rfl ?_
      | refine aw_skip ?_
      | refine aw_condT rfl trivial ?_
      | refine aw_condF rfl trivial ?_
      | refine aw_condD rfl trivial (fun hc => ?_) (fun hc => ?_)
      | refine aw_condN rfl trivial (fun hc => ?_) (fun hc => ?_)
      | refine aw_condNB rfl trivial (fun hc => ?_) (fun hc => ?_)
      | refine aw_cond rfl trivial (fun hc => ?_) (fun hc => ?_)
      | refine aw_ret ?_
      | refine aw_exit ?_
      | refine ao_op rfl ?_ ?_
      | refine aq_op rfl ?_ ?_
      | refine at_op rfl ?_ ?_
      | refine am_op rfl ?_ rfl ?_
      | refine ao_box rfl trivial rfl rfl rfl ?_
      | refine ao_alloc rfl rfl rfl rfl ?_
      | refine ao_store rfl rfl trivial rfl trivial rfl rfl rfl rfl rfl ?_
      | (first | refine ao_call rfl (l27_awake) rfl ?_ ?_ | refine aq_call rfl (l27_awake) rfl ?_ ?_)
      | (first | refine ao_call rfl (l27_large t down s d) rfl ?_ ?_ | refine aq_call rfl (l27_large t down s d) rfl ?_ ?_)
      | refine ao_callR rfl (hP) trivial rfl rfl ?_
      | (show allP _; first | trivial | exact ob1 (fun h => h) | exact ob2 (fun h => h) (fun h => h) | exact ob1 (fun h => ⟨h.1, trivial⟩) | (simp only [allP, obg, grd, allT, InR, decide_eq_true_eq, Bool.and_eq_true, Bool.not_eq_true', decide_eq_false_iff_not, List.nil_append, List.cons_append, List.append_nil, and_true, true_and]; first | omega | (intros; omega) | (simp only [Blk.len, List.length_set, List.length_append, List.length_cons, List.length_nil]; first | omega | (intros; omega)) | (refine ⟨?_, ?_⟩ <;> intros <;> first | (with_reducible assumption) | omega) | ((repeat' refine And.intro ?_ ?_) <;> (intros; first | (with_reducible assumption) | omega | (simp only [Blk.len, List.length_set, List.length_append, List.length_cons, List.length_nil]; omega))) | ((try simp only [Bool.or_eq_true, Bool.or_eq_false_iff, Bool.and_eq_true, Bool.and_eq_false_iff, decide_eq_true_eq, decide_eq_false_iff_not, Bool.not_eq_true', Bool.not_eq_false'] at *); (try simp only [Blk.len] at *); first | omega | (intros; omega)) | (simp_all; done))))
    · (refine fin_ret ?_; exact ret1 (by rfl) (by rfl) (by rfl))
    refine aw_loop (ι := Nat) (fun i => [(34, [], .d (iD i)), (33, [], .d (iD p.length)), (3, [], .own 1), (1, [], .ptr 0 0)]) (fun _ => [qBlk t down s d, .ints .i64 p])
      (fun i => i ≤ p.length) (fun i => p.length - i) 0 (by simp) (fun _ => Nat.le_of_ble_eq_true rfl) (by refine weak_to ?_ ?_ rfl rfl
                                                                                                           · repeat (first | exact subF_nil | refine subF_cons (by first | rfl | (simp [look]; done)) ?_)
                                                                                                           · repeat (first | exact subS_nil | refine subS_cons (by first | rfl | (simp; done)) ?_)) fun i hi => ?_
    by_cases hil : i < p.length
    · obtain ⟨up, a0, a1, hn, hdrop⟩ := hparts i hil
      obtain ⟨e1, e2⟩ := hnext _ a0 a1 hn
      have hok := up_ok hf a0 a1
      have hP2 : Ctr Try.prog 18 [topoD t, boolsD down, iD (tailT t (p.getD (Int.toNat (i : Int)) 0)), iD d] [.ints .i64 (p.drop i)] (.tup [.own 0, .d (iD 0)]) := by
        have := c27_Path t down (tailT t (p.getD i 0)) d
        rw [e1, e2, ← hdrop] at this
        exact this
      have hS := (r_SameInts (p.drop i) (p.drop i) (by simp; omega)).args (ds' := [intsD (p.drop i), .arr 1 ((Blk.ints .i64 p).len - i) (fun j => (Blk.ints .i64 p).get (i + j))]) ⟨DLe.refl _, drop_le p i, trivial⟩
      have hb : allT [!(!decide ((0 : Int) = 0) || !upB down (p.getD (Int.toNat (i : Int)) 0))] → 0 ≤ (i : Int) ∧ (i : Int) < (Blk.ints .i64 p).len := fun _ => ⟨by omega, by simp [Blk.len]; omega⟩
      repeat' (first
        | refine aw_region_n (l0 := [_, _, _, _, _, _, _, _, _, _, _, _, _, _, _, _, _, _, _]) [] (by kernel_rfl) (by simp) ?_
        | refine aw_seq ?_
        | refine aw_region ?_
        | refine aw_region_q (by kernel_rfl) (by kernel_rfl) ?_
        | refine aw_block ?_
        | refine ao_nil ?_
        | refine ao_op rfl trivial ?_
        | refine aq_nil ?_
        | refine aq_op rfl trivial ?_
        | refine at_nil ?_
        | refine at_op rfl trivial ?_
        | refine am_nil ?_
        | refine am_op rfl trivial rfl ?_
        | refine aw_skip ?_
        | refine aw_condT rfl trivial ?_
        | refine aw_condF rfl trivial ?_
        | refine aw_condD rfl trivial (fun hc => ?_) (fun hc => ?_)
        | refine aw_condN rfl trivial (fun hc => ?_) (fun hc => ?_)
        | refine aw_condNB rfl trivial (fun hc => ?_) (fun hc => ?_)
        | refine aw_cond rfl trivial (fun hc => ?_) (fun hc => ?_)
        | refine aw_ret ?_
        | refine aw_exit ?_
        | refine ao_op rfl ?_ ?_
        | refine aq_op rfl ?_ ?_
        | refine at_op rfl ?_ ?_
        | refine am_op rfl ?_ rfl ?_
        | refine ao_box rfl trivial rfl rfl rfl ?_
        | refine ao_alloc rfl rfl rfl rfl ?_
        | refine ao_store rfl rfl trivial rfl trivial rfl rfl rfl rfl rfl ?_
            
        | (show allP _; first | trivial | exact ob1 (fun h => h) | exact ob2 (fun h => h) (fun h => h) | exact ob1 (fun h => ⟨h.1, trivial⟩) | (simp only [allP, obg, grd, allT, InR, decide_eq_true_eq, Bool.and_eq_true, Bool.not_eq_true', decide_eq_false_iff_not, List.nil_append, List.cons_append, List.append_nil, and_true, true_and]; first | omega | (intros; omega) | (simp only [Blk.len, List.length_set, List.length_append, List.length_cons, List.length_nil]; first | omega | (intros; omega)) | (refine ⟨?_, ?_⟩ <;> intros <;> first | (with_reducible assumption) | omega) | ((repeat' refine And.intro ?_ ?_) <;> (intros; first | (with_reducible assumption) | omega | (simp only [Blk.len, List.length_set, List.length_append, List.length_cons, List.length_nil]; omega))) | ((try simp only [Bool.or_eq_true, Bool.or_eq_false_iff, Bool.and_eq_true, Bool.and_eq_false_iff, decide_eq_true_eq, decide_eq_false_iff_not, Bool.not_eq_true', Bool.not_eq_false'] at *); (try simp only [Blk.len] at *); first | omega | (intros; omega)) | (simp_all; done))))
      all_goals try (exfalso; omega)
      refine an_q 0 (by kernel_rfl) (by kernel_rfl) rfl rfl (by first | trivial | exact ob1 (fun h => h) | exact ob2 (fun h => h) (fun h => h) | exact ob1 (fun h => ⟨h.1, trivial⟩) | (simp only [allP, obg, grd, allT, InR, decide_eq_true_eq, Bool.and_eq_true, Bool.not_eq_true', decide_eq_false_iff_not, List.nil_append, List.cons_append, List.append_nil, and_true, true_and]; first | omega | (intros; omega) | (simp only [Blk.len, List.length_set, List.length_append, List.length_cons, List.length_nil]; first | omega | (intros; omega)) | (refine ⟨?_, ?_⟩ <;> intros <;> first | (with_reducible assumption) | omega) | ((repeat' refine And.intro ?_ ?_) <;> (intros; first | (with_reducible assumption) | omega | (simp only [Blk.len, List.length_set, List.length_append, List.length_cons, List.length_nil]; omega))) | ((try simp only [Bool.or_eq_true, Bool.or_eq_false_iff, Bool.and_eq_true, Bool.and_eq_false_iff, decide_eq_true_eq, decide_eq_false_iff_not, Bool.not_eq_true', Bool.not_eq_false'] at *); (try simp only [Blk.len] at *); first | omega | (intros; omega)) | (simp_all; done))) (by kernel_rfl) ?_
      refine an_q 1 (by kernel_rfl) (by kernel_rfl) rfl rfl (by first | trivial | exact ob1 (fun h => h) | exact ob2 (fun h => h) (fun h => h) | exact ob1 (fun h => ⟨h.1, trivial⟩) | (simp only [allP, obg, grd, allT, InR, decide_eq_true_eq, Bool.and_eq_true, Bool.not_eq_true', decide_eq_false_iff_not, List.nil_append, List.cons_append, List.append_nil, and_true, true_and]; first | omega | (intros; omega) | (simp only [Blk.len, List.length_set, List.length_append, List.length_cons, List.length_nil]; first | omega | (intros; omega)) | (refine ⟨?_, ?_⟩ <;> intros <;> first | (with_reducible assumption) | omega) | ((repeat' refine And.intro ?_ ?_) <;> (intros; first | (with_reducible assumption) | omega | (simp only [Blk.len, List.length_set, List.length_append, List.length_cons, List.length_nil]; omega))) | ((try simp only [Bool.or_eq_true, Bool.or_eq_false_iff, Bool.and_eq_true, Bool.and_eq_false_iff, decide_eq_true_eq, decide_eq_false_iff_not, Bool.not_eq_true', Bool.not_eq_false'] at *); (try simp only [Blk.len] at *); first | omega | (intros; omega)) | (simp_all; done))) (by kernel_rfl) ?_
      refine an_q 2 (by kernel_rfl) (by kernel_rfl) rfl rfl (by first | trivial | exact ob1 (fun h => h) | exact ob2 (fun h => h) (fun h => h) | exact ob1 (fun h => ⟨h.1, trivial⟩) | (simp only [allP, obg, grd, allT, InR, decide_eq_true_eq, Bool.and_eq_true, Bool.not_eq_true', decide_eq_false_iff_not, List.nil_append, List.cons_append, List.append_nil, and_true, true_and]; first | omega | (intros; omega) | (simp only [Blk.len, List.length_set, List.length_append, List.length_cons, List.length_nil]; first | omega | (intros; omega)) | (refine ⟨?_, ?_⟩ <;> intros <;> first | (with_reducible assumption) | omega) | ((repeat' refine And.intro ?_ ?_) <;> (intros; first | (with_reducible assumption) | omega | (simp only [Blk.len, List.length_set, List.length_append, List.length_cons, List.length_nil]; omega))) | ((try simp only [Bool.or_eq_true, Bool.or_eq_false_iff, Bool.and_eq_true, Bool.and_eq_false_iff, decide_eq_true_eq, decide_eq_false_iff_not, Bool.not_eq_true', Bool.not_eq_false'] at *); (try simp only [Blk.len] at *); first | omega | (intros; omega)) | (simp_all; done))) (by kernel_rfl) ?_
      refine an_q 3 (by kernel_rfl) (by kernel_rfl) rfl rfl (by first | trivial | exact ob1 (fun h => h) | exact ob2 (fun h => h) (fun h => h) | exact ob1 (fun h => ⟨h.1, trivial⟩) | (simp only [allP, obg, grd, allT, InR, decide_eq_true_eq, Bool.and_eq_true, Bool.not_eq_true', decide_eq_false_iff_not, List.nil_append, List.cons_append, List.append_nil, and_true, true_and]; first | omega | (intros; omega) | (simp only [Blk.len, List.length_set, List.length_append, List.length_cons, List.length_nil]; first | omega | (intros; omega)) | (refine ⟨?_, ?_⟩ <;> intros <;> first | (with_reducible assumption) | omega) | ((repeat' refine And.intro ?_ ?_) <;> (intros; first | (with_reducible assumption) | omega | (simp only [Blk.len, List.length_set, List.length_append, List.length_cons, List.length_nil]; omega))) | ((try simp only [Bool.or_eq_true, Bool.or_eq_false_iff, Bool.and_eq_true, Bool.and_eq_false_iff, decide_eq_true_eq, decide_eq_false_iff_not, Bool.not_eq_true', Bool.not_eq_false'] at *); (try simp only [Blk.len] at *); first | omega | (intros; omega)) | (simp_all; done))) (by kernel_rfl) ?_
      refine an_q 4 (by kernel_rfl) (by kernel_rfl) rfl rfl (by first | trivial | exact ob1 (fun h => h) | exact ob2 (fun h => h) (fun h => h) | exact ob1 (fun h => ⟨h.1, trivial⟩) | (simp only [allP, obg, grd, allT, InR, decide_eq_true_eq, Bool.and_eq_true, Bool.not_eq_true', decide_eq_false_iff_not, List.nil_append, List.cons_append, List.append_nil, and_true, true_and]; first | omega | (intros; omega) | (simp only [Blk.len, List.length_set, List.length_append, List.length_cons, List.length_nil]; first | omega | (intros; omega)) | (refine ⟨?_, ?_⟩ <;> intros <;> first | (with_reducible assumption) | omega) | ((repeat' refine And.intro ?_ ?_) <;> (intros; first | (with_reducible assumption) | omega | (simp only [Blk.len, List.length_set, List.length_append, List.length_cons, List.length_nil]; omega))) | ((try simp only [Bool.or_eq_true, Bool.or_eq_false_iff, Bool.and_eq_true, Bool.and_eq_false_iff, decide_eq_true_eq, decide_eq_false_iff_not, Bool.not_eq_true', Bool.not_eq_false'] at *); (try simp only [Blk.len] at *); first | omega | (intros; omega)) | (simp_all; done))) (by kernel_rfl) ?_
      refine an_q 5 (by kernel_rfl) (by kernel_rfl) rfl rfl (by first | trivial | exact ob1 (fun h => h) | exact ob2 (fun h => h) (fun h => h) | exact ob1 (fun h => ⟨h.1, trivial⟩) | (simp only [allP, obg, grd, allT, InR, decide_eq_true_eq, Bool.and_eq_true, Bool.not_eq_true', decide_eq_false_iff_not, List.nil_append, List.cons_append, List.append_nil, and_true, true_and]; first | omega | (intros; omega) | (simp only [Blk.len, List.length_set, List.length_append, List.length_cons, List.length_nil]; first | omega | (intros; omega)) | (refine ⟨?_, ?_⟩ <;> intros <;> first | (with_reducible assumption) | omega) | ((repeat' refine And.intro ?_ ?_) <;> (intros; first | (with_reducible assumption) | omega | (simp only [Blk.len, List.length_set, List.length_append, List.length_cons, List.length_nil]; omega))) | ((try simp only [Bool.or_eq_true, Bool.or_eq_false_iff, Bool.and_eq_true, Bool.and_eq_false_iff, decide_eq_true_eq, decide_eq_false_iff_not, Bool.not_eq_true', Bool.not_eq_false'] at *); (try simp only [Blk.len] at *); first | omega | (intros; omega)) | (simp_all; done))) (by kernel_rfl) ?_
      refine an_q 6 (by kernel_rfl) (by kernel_rfl) rfl rfl (by first | trivial | exact ob1 (fun h => h) | exact ob2 (fun h => h) (fun h => h) | exact ob1 (fun h => ⟨h.1, trivial⟩) | (simp only [allP, obg, grd, allT, InR, decide_eq_true_eq, Bool.and_eq_true, Bool.not_eq_true', decide_eq_false_iff_not, List.nil_append, List.cons_append, List.append_nil, and_true, true_and]; first | omega | (intros; omega) | (simp only [Blk.len, List.length_set, List.length_append, List.length_cons, List.length_nil]; first | omega | (intros; omega)) | (refine ⟨?_, ?_⟩ <;> intros <;> first | (with_reducible assumption) | omega) | ((repeat' refine And.intro ?_ ?_) <;> (intros; first | (with_reducible assumption) | omega | (simp only [Blk.len, List.length_set, List.length_append, List.length_cons, List.length_nil]; omega))) | ((try simp only [Bool.or_eq_true, Bool.or_eq_false_iff, Bool.and_eq_true, Bool.and_eq_false_iff, decide_eq_true_eq, decide_eq_false_iff_not, Bool.not_eq_true', Bool.not_eq_false'] at *); (try simp only [Blk.len] at *); first | omega | (intros; omega)) | (simp_all; done))) (by kernel_rfl) ?_
      refine an_q 7 (by kernel_rfl) (by kernel_rfl) rfl rfl (by first | trivial | exact ob1 (fun h => h) | exact ob2 (fun h => h) (fun h => h) | exact ob1 (fun h => ⟨h.1, trivial⟩) | (simp only [allP, obg, grd, allT, InR, decide_eq_true_eq, Bool.and_eq_true, Bool.not_eq_true', decide_eq_false_iff_not, List.nil_append, List.cons_append, List.append_nil, and_true, true_and]; first | omega | (intros; omega) | (simp only [Blk.len, List.length_set, List.length_append, List.length_cons, List.length_nil]; first | omega | (intros; omega)) | (refine ⟨?_, ?_⟩ <;> intros <;> first | (with_reducible assumption) | omega) | ((repeat' refine And.intro ?_ ?_) <;> (intros; first | (with_reducible assumption) | omega | (simp only [Blk.len, List.length_set, List.length_append, List.length_cons, List.length_nil]; omega))) | ((try simp only [Bool.or_eq_true, Bool.or_eq_false_iff, Bool.and_eq_true, Bool.and_eq_false_iff, decide_eq_true_eq, decide_eq_false_iff_not, Bool.not_eq_true', Bool.not_eq_false'] at *); (try simp only [Blk.len] at *); first | omega | (intros; omega)) | (simp_all; done))) (by kernel_rfl) ?_
      refine an_q 8 (by kernel_rfl) (by kernel_rfl) rfl rfl (by first | trivial | exact ob1 (fun h => h) | exact ob2 (fun h => h) (fun h => h) | exact ob1 (fun h => ⟨h.1, trivial⟩) | (simp only [allP, obg, grd, allT, InR, decide_eq_true_eq, Bool.and_eq_true, Bool.not_eq_true', decide_eq_false_iff_not, List.nil_append, List.cons_append, List.append_nil, and_true, true_and]; first | omega | (intros; omega) | (simp only [Blk.len, List.length_set, List.length_append, List.length_cons, List.length_nil]; first | omega | (intros; omega)) | (refine ⟨?_, ?_⟩ <;> intros <;> first | (with_reducible assumption) | omega) | ((repeat' refine And.intro ?_ ?_) <;> (intros; first | (with_reducible assumption) | omega | (simp only [Blk.len, List.length_set, List.length_append, List.length_cons, List.length_nil]; omega))) | ((try simp only [Bool.or_eq_true, Bool.or_eq_false_iff, Bool.and_eq_true, Bool.and_eq_false_iff, decide_eq_true_eq, decide_eq_false_iff_not, Bool.not_eq_true', Bool.not_eq_false'] at *); (try simp only [Blk.len] at *); first | omega | (intros; omega)) | (simp_all; done))) (by kernel_rfl) ?_
      refine an_q 9 (by kernel_rfl) (by kernel_rfl) rfl rfl (by first | trivial | exact ob1 (fun h => h) | exact ob2 (fun h => h) (fun h => h) | exact ob1 (fun h => ⟨h.1, trivial⟩) | (simp only [allP, obg, grd, allT, InR, decide_eq_true_eq, Bool.and_eq_true, Bool.not_eq_true', decide_eq_false_iff_not, List.nil_append, List.cons_append, List.append_nil, and_true, true_and]; first | omega | (intros; omega) | (simp only [Blk.len, List.length_set, List.length_append, List.length_cons, List.length_nil]; first | omega | (intros; omega)) | (refine ⟨?_, ?_⟩ <;> intros <;> first | (with_reducible assumption) | omega) | ((repeat' refine And.intro ?_ ?_) <;> (intros; first | (with_reducible assumption) | omega | (simp only [Blk.len, List.length_set, List.length_append, List.length_cons, List.length_nil]; omega))) | ((try simp only [Bool.or_eq_true, Bool.or_eq_false_iff, Bool.and_eq_true, Bool.and_eq_false_iff, decide_eq_true_eq, decide_eq_false_iff_not, Bool.not_eq_true', Bool.not_eq_false'] at *); (try simp only [Blk.len] at *); first | omega | (intros; omega)) | (simp_all; done))) (by kernel_rfl) ?_
      refine an_q 11 (by kernel_rfl) (by kernel_rfl) rfl rfl (by first | trivial | exact ob1 (fun h => h) | exact ob2 (fun h => h) (fun h => h) | exact ob1 (fun h => ⟨h.1, trivial⟩) | (simp only [allP, obg, grd, allT, InR, decide_eq_true_eq, Bool.and_eq_true, Bool.not_eq_true', decide_eq_false_iff_not, List.nil_append, List.cons_append, List.append_nil, and_true, true_and]; first | omega | (intros; omega) | (simp only [Blk.len, List.length_set, List.length_append, List.length_cons, List.length_nil]; first | omega | (intros; omega)) | (refine ⟨?_, ?_⟩ <;> intros <;> first | (with_reducible assumption) | omega) | ((repeat' refine And.intro ?_ ?_) <;> (intros; first | (with_reducible assumption) | omega | (simp only [Blk.len, List.length_set, List.length_append, List.length_cons, List.length_nil]; omega))) | ((try simp only [Bool.or_eq_true, Bool.or_eq_false_iff, Bool.and_eq_true, Bool.and_eq_false_iff, decide_eq_true_eq, decide_eq_false_iff_not, Bool.not_eq_true', Bool.not_eq_false'] at *); (try simp only [Blk.len] at *); first | omega | (intros; omega)) | (simp_all; done))) (by kernel_rfl) ?_
      refine an_q 12 (by kernel_rfl) (by kernel_rfl) rfl rfl (by first | trivial | exact ob1 (fun h => h) | exact ob2 (fun h => h) (fun h => h) | exact ob1 (fun h => ⟨h.1, trivial⟩) | (simp only [allP, obg, grd, allT, InR, decide_eq_true_eq, Bool.and_eq_true, Bool.not_eq_true', decide_eq_false_iff_not, List.nil_append, List.cons_append, List.append_nil, and_true, true_and]; first | omega | (intros; omega) | (simp only [Blk.len, List.length_set, List.length_append, List.length_cons, List.length_nil]; first | omega | (intros; omega)) | (refine ⟨?_, ?_⟩ <;> intros <;> first | (with_reducible assumption) | omega) | ((repeat' refine And.intro ?_ ?_) <;> (intros; first | (with_reducible assumption) | omega | (simp only [Blk.len, List.length_set, List.length_append, List.length_cons, List.length_nil]; omega))) | ((try simp only [Bool.or_eq_true, Bool.or_eq_false_iff, Bool.and_eq_true, Bool.and_eq_false_iff, decide_eq_true_eq, decide_eq_false_iff_not, Bool.not_eq_true', Bool.not_eq_false'] at *); (try simp only [Blk.len] at *); first | omega | (intros; omega)) | (simp_all; done))) (by kernel_rfl) ?_
      refine an_1 10 (by kernel_rfl) rfl ?_
      refine ax_call rfl (r_Tail _ _) rfl (by first | trivial | exact ob1 (fun h => h) | exact ob2 (fun h => h) (fun h => h) | exact ob1 (fun h => ⟨h.1, trivial⟩) | (simp only [allP, obg, grd, allT, InR, decide_eq_true_eq, Bool.and_eq_true, Bool.not_eq_true', decide_eq_false_iff_not, List.nil_append, List.cons_append, List.append_nil, and_true, true_and]; first | omega | (intros; omega) | (simp only [Blk.len, List.length_set, List.length_append, List.length_cons, List.length_nil]; first | omega | (intros; omega)) | (refine ⟨?_, ?_⟩ <;> intros <;> first | (with_reducible assumption) | omega) | ((repeat' refine And.intro ?_ ?_) <;> (intros; first | (with_reducible assumption) | omega | (simp only [Blk.len, List.length_set, List.length_append, List.length_cons, List.length_nil]; omega))) | ((try simp only [Bool.or_eq_true, Bool.or_eq_false_iff, Bool.and_eq_true, Bool.and_eq_false_iff, decide_eq_true_eq, decide_eq_false_iff_not, Bool.not_eq_true', Bool.not_eq_false'] at *); (try simp only [Blk.len] at *); first | omega | (intros; omega)) | (simp_all; done))) ?_
      refine an_1 13 (by kernel_rfl) rfl ?_
      refine ax_callR rfl (hP2) trivial rfl rfl ?_
      refine an_q 14 (by kernel_rfl) (by kernel_rfl) rfl rfl (by first | trivial | exact ob1 (fun h => h) | exact ob2 (fun h => h) (fun h => h) | exact ob1 (fun h => ⟨h.1, trivial⟩) | (simp only [allP, obg, grd, allT, InR, decide_eq_true_eq, Bool.and_eq_true, Bool.not_eq_true', decide_eq_false_iff_not, List.nil_append, List.cons_append, List.append_nil, and_true, true_and]; first | omega | (intros; omega) | (simp only [Blk.len, List.length_set, List.length_append, List.length_cons, List.length_nil]; first | omega | (intros; omega)) | (refine ⟨?_, ?_⟩ <;> intros <;> first | (with_reducible assumption) | omega) | ((repeat' refine And.intro ?_ ?_) <;> (intros; first | (with_reducible assumption) | omega | (simp only [Blk.len, List.length_set, List.length_append, List.length_cons, List.length_nil]; omega))) | ((try simp only [Bool.or_eq_true, Bool.or_eq_false_iff, Bool.and_eq_true, Bool.and_eq_false_iff, decide_eq_true_eq, decide_eq_false_iff_not, Bool.not_eq_true', Bool.not_eq_false'] at *); (try simp only [Blk.len] at *); first | omega | (intros; omega)) | (simp_all; done))) (by kernel_rfl) ?_
      refine an_q 15 (by kernel_rfl) (by kernel_rfl) rfl rfl (by first | trivial | exact ob1 (fun h => h) | exact ob2 (fun h => h) (fun h => h) | exact ob1 (fun h => ⟨h.1, trivial⟩) | (simp only [allP, obg, grd, allT, InR, decide_eq_true_eq, Bool.and_eq_true, Bool.not_eq_true', decide_eq_false_iff_not, List.nil_append, List.cons_append, List.append_nil, and_true, true_and]; first | omega | (intros; omega) | (simp only [Blk.len, List.length_set, List.length_append, List.length_cons, List.length_nil]; first | omega | (intros; omega)) | (refine ⟨?_, ?_⟩ <;> intros <;> first | (with_reducible assumption) | omega) | ((repeat' refine And.intro ?_ ?_) <;> (intros; first | (with_reducible assumption) | omega | (simp only [Blk.len, List.length_set, List.length_append, List.length_cons, List.length_nil]; omega))) | ((try simp only [Bool.or_eq_true, Bool.or_eq_false_iff, Bool.and_eq_true, Bool.and_eq_false_iff, decide_eq_true_eq, decide_eq_false_iff_not, Bool.not_eq_true', Bool.not_eq_false'] at *); (try simp only [Blk.len] at *); first | omega | (intros; omega)) | (simp_all; done))) (by kernel_rfl) ?_
      refine an_q 16 (by kernel_rfl) (by kernel_rfl) rfl rfl (by first | trivial | exact ob1 (fun h => h) | exact ob2 (fun h => h) (fun h => h) | exact ob1 (fun h => ⟨h.1, trivial⟩) | (simp only [allP, obg, grd, allT, InR, decide_eq_true_eq, Bool.and_eq_true, Bool.not_eq_true', decide_eq_false_iff_not, List.nil_append, List.cons_append, List.append_nil, and_true, true_and]; first | omega | (intros; omega) | (simp only [Blk.len, List.length_set, List.length_append, List.length_cons, List.length_nil]; first | omega | (intros; omega)) | (refine ⟨?_, ?_⟩ <;> intros <;> first | (with_reducible assumption) | omega) | ((repeat' refine And.intro ?_ ?_) <;> (intros; first | (with_reducible assumption) | omega | (simp only [Blk.len, List.length_set, List.length_append, List.length_cons, List.length_nil]; omega))) | ((try simp only [Bool.or_eq_true, Bool.or_eq_false_iff, Bool.and_eq_true, Bool.and_eq_false_iff, decide_eq_true_eq, decide_eq_false_iff_not, Bool.not_eq_true', Bool.not_eq_false'] at *); (try simp only [Blk.len] at *); first | omega | (intros; omega)) | (simp_all; done))) (by kernel_rfl) ?_
      refine an_q 17 (by kernel_rfl) (by kernel_rfl) rfl rfl (by first | trivial | exact ob1 (fun h => h) | exact ob2 (fun h => h) (fun h => h) | exact ob1 (fun h => ⟨h.1, trivial⟩) | (simp only [allP, obg, grd, allT, InR, decide_eq_true_eq, Bool.and_eq_true, Bool.not_eq_true', decide_eq_false_iff_not, List.nil_append, List.cons_append, List.append_nil, and_true, true_and]; first | omega | (intros; omega) | (simp only [Blk.len, List.length_set, List.length_append, List.length_cons, List.length_nil]; first | omega | (intros; omega)) | (refine ⟨?_, ?_⟩ <;> intros <;> first | (with_reducible assumption) | omega) | ((repeat' refine And.intro ?_ ?_) <;> (intros; first | (with_reducible assumption) | omega | (simp only [Blk.len, List.length_set, List.length_append, List.length_cons, List.length_nil]; omega))) | ((try simp only [Bool.or_eq_true, Bool.or_eq_false_iff, Bool.and_eq_true, Bool.and_eq_false_iff, decide_eq_true_eq, decide_eq_false_iff_not, Bool.not_eq_true', Bool.not_eq_false'] at *); (try simp only [Blk.len] at *); first | omega | (intros; omega)) | (simp_all; done))) (by kernel_rfl) ?_
      refine an_q 18 (by kernel_rfl) (by kernel_rfl) rfl rfl (by first | trivial | exact ob1 (fun h => h) | exact ob2 (fun h => h) (fun h => h) | exact ob1 (fun h => ⟨h.1, trivial⟩) | (simp only [allP, obg, grd, allT, InR, decide_eq_true_eq, Bool.and_eq_true, Bool.not_eq_true', decide_eq_false_iff_not, List.nil_append, List.cons_append, List.append_nil, and_true, true_and]; first | omega | (intros; omega) | (simp only [Blk.len, List.length_set, List.length_append, List.length_cons, List.length_nil]; first | omega | (intros; omega)) | (refine ⟨?_, ?_⟩ <;> intros <;> first | (with_reducible assumption) | omega) | ((repeat' refine And.intro ?_ ?_) <;> (intros; first | (with_reducible assumption) | omega | (simp only [Blk.len, List.length_set, List.length_append, List.length_cons, List.length_nil]; omega))) | ((try simp only [Bool.or_eq_true, Bool.or_eq_false_iff, Bool.and_eq_true, Bool.and_eq_false_iff, decide_eq_true_eq, decide_eq_false_iff_not, Bool.not_eq_true', Bool.not_eq_false'] at *); (try simp only [Blk.len] at *); first | omega | (intros; omega)) | (simp_all; done))) (by kernel_rfl) ?_
      refine an_nil (by kernel_rfl) ?_
      repeat' (first
      
        | refine aw_seq ?_
        | refine aw_region ?_
        | refine aw_region_q (by kernel_rfl) (by kernel_rfl) ?_
        | refine aw_block ?_
        | refine ao_nil ?_
        | refine ao_op rfl trivial ?_
        | refine aq_nil ?_
        | refine aq_op rfl trivial ?_
        | refine at_nil ?_
        | refine at_op rfl trivial ?_
        | refine am_nil ?_
        | refine am_op rfl trivial rfl ?_
        | refine aw_skip ?_
        | refine aw_condT rfl trivial ?_
        | refine aw_condF rfl trivial ?_
        | refine aw_condD rfl trivial (fun hc => ?_) (fun hc => ?_)
        | refine aw_condN rfl trivial (fun hc => ?_) (fun hc => ?_)
        | refine aw_condNB rfl trivial (fun hc => ?_) (fun hc => ?_)
        | refine aw_cond rfl trivial (fun hc => ?_) (fun hc => ?_)
        | refine aw_ret ?_
        | refine aw_exit ?_
        | refine ao_op rfl ?_ ?_
        | refine aq_op rfl ?_ ?_
        | refine at_op rfl ?_ ?_
        | refine am_op rfl ?_ rfl ?_
        | refine ao_box rfl trivial rfl rfl rfl ?_
        | refine ao_alloc rfl rfl rfl rfl ?_
        | refine ao_store rfl rfl trivial rfl trivial rfl rfl rfl rfl rfl ?_
        | (first | refine ao_call rfl (r_Up down _ hok) rfl ?_ ?_ | refine aq_call rfl (r_Up down _ hok) rfl ?_ ?_)
        | refine ao_slLo rfl rfl rfl rfl (by first | trivial | exact ob1 (fun h => h)) rfl (by first | trivial | exact ob1 (fun h => h)) rfl rfl (fun _ => ⟨by omega, by simp [Blk.len]; omega⟩) rfl ?_
        | (first | refine ao_call rfl (hS) rfl ?_ ?_ | refine aq_call rfl (hS) rfl ?_ ?_)
        | (show allP _; first | trivial | exact ob1 (fun h => h) | exact ob2 (fun h => h) (fun h => h) | exact ob1 (fun h => ⟨h.1, trivial⟩) | (simp only [allP, obg, grd, allT, InR, decide_eq_true_eq, Bool.and_eq_true, Bool.not_eq_true', decide_eq_false_iff_not, List.nil_append, List.cons_append, List.append_nil, and_true, true_and]; first | omega | (intros; omega) | (simp only [Blk.len, List.length_set, List.length_append, List.length_cons, List.length_nil]; first | omega | (intros; omega)) | (refine ⟨?_, ?_⟩ <;> intros <;> first | (with_reducible assumption) | omega) | ((repeat' refine And.intro ?_ ?_) <;> (intros; first | (with_reducible assumption) | omega | (simp only [Blk.len, List.length_set, List.length_append, List.length_cons, List.length_nil]; omega))) | ((try simp only [Bool.or_eq_true, Bool.or_eq_false_iff, Bool.and_eq_true, Bool.and_eq_false_iff, decide_eq_true_eq, decide_eq_false_iff_not, Bool.not_eq_true', Bool.not_eq_false'] at *); (try simp only [Blk.len] at *); first | omega | (intros; omega)) | (simp_all; done))))
      · exfalso
        simp only [Int.toNat_natCast, up] at hc
        simp at hc
      · refine ⟨i + 1, by omega, by omega, ?_⟩
        refine weak_to ?_ ?_ rfl rfl
        · repeat (first | exact subF_nil | refine subF_cons (by first | rfl | (simp [look]; done)) ?_)
        · repeat (first | exact subS_nil | refine subS_cons (by first | rfl | (simp; done)) ?_)
    · repeat' (first
      
        | refine aw_seq ?_
        | refine aw_region ?_
        | refine aw_region_q (by kernel_rfl) (by kernel_rfl) ?_
        | refine aw_block ?_
        | refine ao_nil ?_
        | refine ao_op rfl trivial ?_
        | refine aq_nil ?_
        | refine aq_op rfl trivial ?_
        | refine at_nil ?_
        | refine at_op rfl trivial ?_
        | refine am_nil ?_
        | refine am_op rfl trivial rfl ?_
        | refine aw_skip ?_
        | refine aw_condT rfl trivial ?_
        | refine aw_condF rfl trivial ?_
        | refine aw_condD rfl trivial (fun hc => ?_) (fun hc => ?_)
        | refine aw_condN rfl trivial (fun hc => ?_) (fun hc => ?_)
        | refine aw_condNB rfl trivial (fun hc => ?_) (fun hc => ?_)
        | refine aw_cond rfl trivial (fun hc => ?_) (fun hc => ?_)
        | refine aw_ret ?_
        | refine aw_exit ?_
        | refine ao_op rfl ?_ ?_
        | refine aq_op rfl ?_ ?_
        | refine at_op rfl ?_ ?_
        | refine am_op rfl ?_ rfl ?_
        | refine ao_box rfl trivial rfl rfl rfl ?_
        | refine ao_alloc rfl rfl rfl rfl ?_
        | refine ao_store rfl rfl trivial rfl trivial rfl rfl rfl rfl rfl ?_
        | (exfalso; omega)
        | (show allP _; first | trivial | exact ob1 (fun h => h) | exact ob2 (fun h => h) (fun h => h) | exact ob1 (fun h => ⟨h.1, trivial⟩) | (simp only [allP, obg, grd, allT, InR, decide_eq_true_eq, Bool.and_eq_true, Bool.not_eq_true', decide_eq_false_iff_not, List.nil_append, List.cons_append, List.append_nil, and_true, true_and]; first | omega | (intros; omega) | (simp only [Blk.len, List.length_set, List.length_append, List.length_cons, List.length_nil]; first | omega | (intros; omega)) | (refine ⟨?_, ?_⟩ <;> intros <;> first | (with_reducible assumption) | omega) | ((repeat' refine And.intro ?_ ?_) <;> (intros; first | (with_reducible assumption) | omega | (simp only [Blk.len, List.length_set, List.length_append, List.length_cons, List.length_nil]; omega))) | ((try simp only [Bool.or_eq_true, Bool.or_eq_false_iff, Bool.and_eq_true, Bool.and_eq_false_iff, decide_eq_true_eq, decide_eq_false_iff_not, Bool.not_eq_true', Bool.not_eq_false'] at *); (try simp only [Blk.len] at *); first | omega | (intros; omega)) | (simp_all; done))))
      (refine fin_ret ?_; exact ret1 (by rfl) (by (cases p with
        | nil => simp [hend rfl]
        | cons a r => simp [Blk.len])) (by rfl))
  · repeat' (first
    
      | refine aw_seq ?_
      | refine aw_region ?_
      | refine aw_region_q (by kernel_rfl) (by kernel_rfl) ?_
      | refine aw_block ?_
      | refine ao_nil ?_
      | refine ao_op rfl trivial ?_
      | refine aq_nil ?_
      | refine aq_op rfl trivial ?_
      | refine at_nil ?_
      | refine at_op rfl trivial ?_
      | refine am_nil ?_
      | refine am_op rfl trivial rfl ?_
      | refine aw_skip ?_
      | refine aw_condT rfl trivial ?_
      | refine aw_condF rfl trivial ?_
      | refine aw_condD rfl trivial (fun hc => ?_) (fun hc => ?_)
      | refine aw_condN rfl trivial (fun hc => ?_) (fun hc => ?_)
      | refine aw_condNB rfl trivial (fun hc => ?_) (fun hc => ?_)
      | refine aw_cond rfl trivial (fun hc => ?_) (fun hc => ?_)
      | refine aw_ret ?_
      | refine aw_exit ?_
      | refine ao_op rfl ?_ ?_
      | refine aq_op rfl ?_ ?_
      | refine at_op rfl ?_ ?_
      | refine am_op rfl ?_ rfl ?_
      | refine ao_box rfl trivial rfl rfl rfl ?_
      | refine ao_alloc rfl rfl rfl rfl ?_
      | refine ao_store rfl rfl trivial rfl trivial rfl rfl rfl rfl rfl ?_
      | (first | refine ao_call rfl (l27_awake) rfl ?_ ?_ | refine aq_call rfl (l27_awake) rfl ?_ ?_)
      | (first | refine ao_call rfl (l27_large t down s d) rfl ?_ ?_ | refine aq_call rfl (l27_large t down s d) rfl ?_ ?_)
      | refine ao_callR rfl (c27_Path _ _ _ _) trivial rfl rfl ?_
      | (show allP _; first | trivial | exact ob1 (fun h => h) | exact ob2 (fun h => h) (fun h => h) | exact ob1 (fun h => ⟨h.1, trivial⟩) | (simp only [allP, obg, grd, allT, InR, decide_eq_true_eq, Bool.and_eq_true, Bool.not_eq_true', decide_eq_false_iff_not, List.nil_append, List.cons_append, List.append_nil, and_true, true_and]; first | omega | (intros; omega) | (simp only [Blk.len, List.length_set, List.length_append, List.length_cons, List.length_nil]; first | omega | (intros; omega)) | (refine ⟨?_, ?_⟩ <;> intros <;> first | (with_reducible assumption) | omega) | ((repeat' refine And.intro ?_ ?_) <;> (intros; first | (with_reducible assumption) | omega | (simp only [Blk.len, List.length_set, List.length_append, List.length_cons, List.length_nil]; omega))) | ((try simp only [Bool.or_eq_true, Bool.or_eq_false_iff, Bool.and_eq_true, Bool.and_eq_false_iff, decide_eq_true_eq, decide_eq_false_iff_not, Bool.not_eq_true', Bool.not_eq_false'] at *); (try simp only [Blk.len] at *); first | omega | (intros; omega)) | (simp_all; done))))
    · (refine fin_ret ?_; exact ret1 (by rfl) (by rfl) (by rfl))
    · (refine fin_ret ?_; exact ret1 (by rfl) (by (simp [Blk.len, pathL_nok he])) (by rfl))
    · exact absurd (by assumption) he
end Go.Proofs.Ytcnfggpcploehaa

/- Laws of layer 11: both. -/
namespace Go.Proofs.Ytcnfggpcploehaa
set_option maxRecDepth 10000
open Go.Wk

end Go.Proofs.Ytcnfggpcploehaa

/- A mask with one arc more, plainly. -/
namespace Go.Proofs.Ytcnfggpcploehaa
set_option maxRecDepth 10000
open Go.Wk

def moreL (t : Topo) (down : List Bool) (a : Int) : List Bool := (down ++ (List.replicate (2 * (t.links.length : Int)).toNat false).drop down.length).set a.toNat true

section
variable {t : Topo} {down : List Bool} {a d : Int} {x y : List Int}

theorem fits_len (hf : fitsB t down = true) : down.length = 0 ∨ (down.length : Int) = 2 * t.links.length := by
  simp only [fitsB, Bool.and_eq_true, Bool.or_eq_true, decide_eq_true_eq] at hf
  exact hf.2
theorem more_len (hf : fitsB t down = true) : ((moreL t down a).length : Int) = 2 * t.links.length := by
  have := fits_len hf
  simp [moreL]; omega
theorem more_fits (hf : fitsB t down = true) : fitsB t (moreL t down a) = true := by
  simp only [fitsB, fitsB_v hf, more_len hf, decide_true, Bool.or_true, Bool.and_true]
theorem more_get (hf : fitsB t down = true) {b : Int} (a0 : 0 ≤ a) (a1 : a < 2 * t.links.length) (b0 : 0 ≤ b) (b1 : b < 2 * t.links.length) : (moreL t down a).getD b.toNat false = (decide (b = a) || (!decide (down.length = 0) && down.getD b.toNat false)) := by
  have hl := fits_len hf
  unfold moreL
  simp only [List.getD_eq_getElem?_getD]
  by_cases h : b = a
  · subst h
    rw [List.getElem?_set_self (by simp; omega)]
    simp
  · rw [List.getElem?_set_ne (by omega), decide_eq_false h, Bool.false_or]
    rcases hl with hl | hl
    · have : down = [] := List.eq_nil_of_length_eq_zero hl
      subst this
      simp
      rw [List.getElem?_replicate]
      split <;> rfl
    · rw [List.getElem?_append_left (by omega)]
      rw [decide_eq_false (by omega)]
      rfl
theorem more_up (hf : fitsB t down = true) {b : Int} (a0 : 0 ≤ a) (a1 : a < 2 * t.links.length) (b0 : 0 ≤ b) (b1 : b < 2 * t.links.length) : upB (moreL t down a) b = (upB down b && !decide (b = a)) := by
  have hl := more_len (a := a) hf
  unfold upB
  rw [more_get hf a0 a1 b0 b1, decide_eq_false (by omega)]
  cases decide (down.length = 0) <;> cases decide (b = a) <;> simp

theorem Pth.less (hf : fitsB t down = true) (a0 : 0 ≤ a) (a1 : a < 2 * t.links.length) : ∀ {L : List Int} {p q : Int}, Pth t (moreL t down a) p L q → Pth t down p L q
  | [], _, _, h => h
  | b :: r, _, _, ⟨h0, h1, h2, h3, h4, h5⟩ => ⟨h0, h1, by rw [more_up hf a0 a1 h0 h1] at h2; simp at h2; exact h2.1, h3, h4, Pth.less hf a0 a1 h5⟩

theorem more_ge (hf : fitsB t down = true) (a0 : 0 ≤ a) (a1 : a < 2 * t.links.length) (hx : IsDist t down d false x) (hy : IsDist t (moreL t down a) d false y) {n : Int} (n0 : 0 ≤ n) (n1 : n < t.nodes) (h : 0 ≤ gI y n) : 0 ≤ gI x n ∧ gI x n ≤ gI y n := by
  obtain ⟨L, hL, hc⟩ := hy.some_to (fitsB_v hf) (gI y n).toNat n n0 n1 h (by omega)
  have := hx.walk_to (fitsB_v hf) L n (Pth.less hf a0 a1 hL)
  rw [hc] at this
  exact this

theorem more_same (hf : fitsB t down = true) (a0 : 0 ≤ a) (a1 : a < 2 * t.links.length) (hx : IsDist t down d false x) (hy : IsDist t (moreL t down a) d false y) (hon : onR t down x a d = false) : y = x := by
  refine hy.unique (fitsB_v hf) ⟨hx.len, hx.self, hx.sign, fun b b0 b1 hb hn => ?_, fun i i0 i1 hne hi => ?_⟩
  · refine hx.close b b0 b1 ⟨?_, hb.2⟩ hn
    have := hb.1
    rw [more_up hf a0 a1 b0 b1] at this
    simp at this; exact this.1
  · obtain ⟨b, b0, b1, b2, b3, b4, b5⟩ := hx.ground i i0 i1 hne hi
    have hba : b ≠ a := by
      rintro rfl
      have h2 := b2.2
      simp only [nearT, farT, cond_false] at b3 b4 b5 h2
      have : onR t down x b d = true := by
        simp only [onR, transB, b2.1, b3, decide_eq_false hne, decide_eq_true b4, decide_eq_true b5, Bool.not_false, Bool.and_true, Bool.true_and, Bool.or_eq_true, decide_eq_true_eq, Bool.not_eq_true']
        exact h2
      rw [hon] at this; cases this
    exact ⟨b, b0, b1, ⟨by rw [more_up hf a0 a1 b0 b1, b2.1, decide_eq_false hba]; rfl, b2.2⟩, b3, b4, b5⟩
end
end Go.Proofs.Ytcnfggpcploehaa

/- Laws of layer 11: monotone. -/
namespace Go.Proofs.Ytcnfggpcploehaa
set_option maxRecDepth 10000
open Go.Wk

section
variable {P : Program} {env : Env} {w0 : Base} {n : Nat} {l0 : List Oper} {K : Fr → List Blk → Prop} {l : List Oper} {F : Fr} {S : List Blk}
theorem ao_copyB {d : Nat} {s x : Operand} {t tx ty e e' : TypeId} {pos : String} {after : Array Edge} {te : TI} {i1 i2 j1 j2 : Nat} {z1 z2 : Value} {nm : Nat} {xs ys : List Bool} {ps qs : List Prop} {S' : List Blk}
    (hT : ti? env t = some ⟨.slice e, i1, i2, z1⟩) (hTx : ti? env tx = some ⟨.slice e', j1, j2, z2⟩) (he : ti? env e = some te)
    (hs : rd F [] s = some (.own nm, ps)) (hps : allP ps) (hx : rd F [] x = some (.d (boolsD ys), qs)) (hqs : allP qs) (hblk : nthF S nm = some (.bools xs))
    (hsz : Nat.beq 1 te.size = true) (hpos : Nat.blt 0 te.size = true) (hesz : 1 = te.size) (hpl : 0 < xs.length) (hle : ys.length ≤ xs.length)
    (hS : setO S nm (.bools (ys ++ xs.drop ys.length)) = some S') (hd : Nat.blt d n = true) (k : AO P env w0 n l0 K l ((d, [], .d (.int .i64 ys.length)) :: F) S') :
    AO P env w0 n l0 K (⟨some d, .call ⟨.builtin .copy, #[s, x], #[t, tx]⟩, ty, pos, after, none⟩ :: l) F S :=
  ao_copy (.bools (ys ++ xs.drop ys.length)) hT hTx he hs hps hx hqs hblk rfl (yb := .row 1 ys.length fun i => [.bool (ys.getD i false)]) rfl rfl (fun i hi x hx => by simp [Blk.get] at hx; subst hx; rfl) hsz hpos hesz hpl hle rfl rfl
    (by simp [Blk.len]; omega) (fun i hi => by
      simp only [Blk.get, Blk.len, List.getD_eq_getElem?_getD]
      split
      · rename_i h; rw [List.getElem?_append_left h]
      · rename_i h; rw [List.getElem?_append_right (by omega), List.getElem?_drop]; congr 4; omega) hS hd k
end

end Go.Proofs.Ytcnfggpcploehaa

/- Laws of layer 27: More. -/
namespace Go.Proofs.Ytcnfggpcploehaa
set_option maxRecDepth 10000
open Go.Wk

def setL (down : List Bool) (a : Int) : List Bool := down.set a.toNat true
theorem setL_fits {t : Topo} {down : List Bool} {a : Int} : fitsB t (setL down a) = fitsB t down := by simp [fitsB, setL]
theorem setL_more {t : Topo} {down : List Bool} {a : Int} (hf : fitsB t down = true) (h : down.length ≠ 0) : setL down a = moreL t down a := by
  have := fits_len hf
  unfold setL moreL
  rw [List.drop_eq_nil_of_le (by simp; omega), List.append_nil]
theorem errP_more {t : Topo} {down : List Bool} {a s d : Int} (a0 : 0 ≤ a) (a1 : a < down.length) :
    (errP t down s d ≠ 0 → errP t (setL down a) s d = errP t down s d) ∧ (errP t down s d = 0 → errP t (setL down a) s d = 11 ∨ (errP t (setL down a) s d = 0 ∧ extraL t down s d ≤ extraL t (setL down a) s d)) := by
  have hS : errS t (setL down a) d = errS t down d := by unfold errS; rw [setL_fits]
  have key : errS t down d = 0 → 0 ≤ s → s < t.nodes → 0 ≤ gI (distL t (setL down a) d false) s → 0 ≤ gI (distL t down d false) s ∧ gI (distL t down d false) s ≤ gI (distL t (setL down a) d false) s := fun h s0 s1 hn => by
    obtain ⟨hf, d0, d1⟩ := errS_0 h
    have hl := fits_len hf
    have hm := setL_more (a := a) hf (by omega)
    have hy := distL_is (fr := false) (hS.trans h)
    have hx := distL_is (fr := false) h
    rw [hm] at hy hn ⊢
    exact more_ge hf a0 (by omega) hx hy s0 s1 hn
  unfold errP
  rw [hS]
  by_cases h : errS t down d = 0
  · rw [if_pos h, if_pos h]
    by_cases h2 : s < 0 ∨ t.nodes ≤ s
    · have : (decide (s < 0) || decide (t.nodes ≤ s)) = true := by simpa using h2
      rw [this]
      exact ⟨fun _ => rfl, fun h => by simp at h⟩
    · have : (decide (s < 0) || decide (t.nodes ≤ s)) = false := by simpa using h2
      rw [this]
      simp only [cond_false]
      by_cases h3 : gI (distL t down d false) s < 0
      · rw [if_pos h3]
        have : gI (distL t (setL down a) d false) s < 0 := by
          refine Int.not_le.1 fun hn => ?_
          have := key h (by omega) (by omega) hn
          omega
        rw [if_pos this]
        exact ⟨fun _ => rfl, fun h => by simp at h⟩
      · rw [if_neg h3]
        refine ⟨fun h => absurd rfl h, fun _ => ?_⟩
        by_cases h4 : gI (distL t (setL down a) d false) s < 0
        · rw [if_pos h4]; exact .inl rfl
        · rw [if_neg h4]
          refine .inr ⟨rfl, ?_⟩
          have hk := key h (by omega) (by omega) (by omega)
          have p1 : errP t down s d = 0 := by unfold errP; rw [if_pos h, this]; simp only [cond_false]; rw [if_neg h3]
          have p2 : errP t (setL down a) s d = 0 := by unfold errP; rw [if_pos (hS.trans h), this]; simp only [cond_false]; rw [if_neg h4]
          unfold extraL
          rw [if_pos p1, if_pos p2, (pathL_cost p1).2, (pathL_cost p2).2]
          omega
  · rw [if_neg h, if_neg h]
    exact ⟨fun _ => rfl, fun h' => absurd h' h⟩

set_option maxHeartbeats 1000000 in
theorem l_PostconvMore (t : Topo) (down : List Bool) (s d a : Int) : Ctr Try.prog 6 [qD t down s d, iD a] [] (.d (bD true)) := by
  refine spec_of envOK (enters_of Try.func6 (by kernel_rfl) (by kernel_rfl)) Try.func6 rfl rfl _ rfl (Nat.le_of_ble_eq_true rfl) rfl fun w0 => ?_
  repeat' (first
  
    | refine aw_seq ?_
    | refine aw_region ?_
    | refine aw_region_q (by kernel_rfl) (by kernel_rfl) ?_
    | refine aw_block ?_
    | refine ao_nil ?_
    | refine ao_op rfl trivial ?_
    | refine aq_nil ?_
    | refine aq_op rfl trivial ?_
    | refine at_nil ?_
    | refine at_op rfl trivial ?_
    | refine am_nil ?_
    | refine am_op rfl trivial rfl ?_
    | refine aw_skip ?_
    | refine aw_condT rfl trivial ?_
    | refine aw_condF rfl trivial ?_
    | refine aw_condD rfl trivial (fun hc => ?_) (fun hc => ?_)
    | refine aw_condN rfl trivial (fun hc => ?_) (fun hc => ?_)
    | refine aw_condNB rfl trivial (fun hc => ?_) (fun hc => ?_)
    | refine aw_cond rfl trivial (fun hc => ?_) (fun hc => ?_)
    | refine aw_ret ?_
    | refine aw_exit ?_
    | refine ao_op rfl ?_ ?_
    | refine aq_op rfl ?_ ?_
    | refine at_op rfl ?_ ?_
    | refine am_op rfl ?_ rfl ?_
    | refine ao_box rfl trivial rfl rfl rfl ?_
    | refine ao_alloc rfl rfl rfl rfl ?_
    | refine ao_store rfl rfl trivial rfl trivial rfl rfl rfl rfl rfl ?_
    | (first | refine ao_call rfl (l27_awake) rfl ?_ ?_ | refine aq_call rfl (l27_awake) rfl ?_ ?_)
    | (first | refine ao_call rfl (l27_large t down s d) rfl ?_ ?_ | refine aq_call rfl (l27_large t down s d) rfl ?_ ?_)
    | (show allP _; first | trivial | exact ob1 (fun h => h) | exact ob2 (fun h => h) (fun h => h) | exact ob1 (fun h => ⟨h.1, trivial⟩) | (simp only [allP, obg, grd, allT, InR, decide_eq_true_eq, Bool.and_eq_true, Bool.not_eq_true', decide_eq_false_iff_not, List.nil_append, List.cons_append, List.append_nil, and_true, true_and]; first | omega | (intros; omega) | (simp only [Blk.len, List.length_set, List.length_append, List.length_cons, List.length_nil]; first | omega | (intros; omega)) | (refine ⟨?_, ?_⟩ <;> intros <;> first | (with_reducible assumption) | omega) | ((repeat' refine And.intro ?_ ?_) <;> (intros; first | (with_reducible assumption) | omega | (simp only [Blk.len, List.length_set, List.length_append, List.length_cons, List.length_nil]; omega))) | ((try simp only [Bool.or_eq_true, Bool.or_eq_false_iff, Bool.and_eq_true, Bool.and_eq_false_iff, decide_eq_true_eq, decide_eq_false_iff_not, Bool.not_eq_true', Bool.not_eq_false'] at *); (try simp only [Blk.len] at *); first | omega | (intros; omega)) | (simp_all; done))))
  · (refine fin_ret ?_; exact ret1 (by rfl) (by rfl) (by rfl))
  have hb : down.length ≤ 60 ∧ 0 ≤ a ∧ a < down.length := by
    simp only [Bool.or_eq_false_iff, decide_eq_false_iff_not] at hc
    omega
  obtain ⟨hb, a0, a1⟩ := hb
  have hia : a < (Blk.bools down).len := a1
  obtain ⟨e1, e2⟩ := errP_more (t := t) (s := s) (d := d) a0 a1
  have hE := c27_Extra t (setL down a) s d
  repeat' (first
  
    | refine aw_seq ?_
    | refine aw_region ?_
    | refine aw_region_q (by kernel_rfl) (by kernel_rfl) ?_
    | refine aw_block ?_
    | refine ao_nil ?_
    | refine ao_op rfl trivial ?_
    | refine aq_nil ?_
    | refine aq_op rfl trivial ?_
    | refine at_nil ?_
    | refine at_op rfl trivial ?_
    | refine am_nil ?_
    | refine am_op rfl trivial rfl ?_
    | refine aw_skip ?_
    | refine aw_condT rfl trivial ?_
    | refine aw_condF rfl trivial ?_
    | refine aw_condD rfl trivial (fun hc => ?_) (fun hc => ?_)
    | refine aw_condN rfl trivial (fun hc => ?_) (fun hc => ?_)
    | refine aw_condNB rfl trivial (fun hc => ?_) (fun hc => ?_)
    | refine aw_cond rfl trivial (fun hc => ?_) (fun hc => ?_)
    | refine aw_ret ?_
    | refine aw_exit ?_
    | refine ao_op rfl ?_ ?_
    | refine aq_op rfl ?_ ?_
    | refine at_op rfl ?_ ?_
    | refine am_op rfl ?_ rfl ?_
    | refine ao_box rfl trivial rfl rfl rfl ?_
    | refine ao_alloc rfl rfl rfl rfl ?_
    | refine ao_store rfl rfl trivial rfl trivial rfl rfl rfl rfl rfl ?_
    | refine ao_lit rfl rfl rfl rfl trivial rfl rfl rfl rfl rfl rfl ?_
    | refine ao_app0 (.bools down) rfl rfl rfl rfl trivial rfl trivial rfl rfl (fun i hi x hx => by simp [Blk.get] at hx; subst hx; rfl) rfl rfl rfl rfl rfl rfl (rfl) (fun i hi => rfl) rfl rfl rfl rfl (by simp [Blk.len]; omega) rfl rfl rfl ?_
    | refine ao_store_ep rfl rfl trivial rfl trivial rfl rfl rfl rfl rfl rfl ?_
    | refine ao_callR rfl (c27_Extra t down s d) trivial rfl rfl ?_
    | refine ao_callR rfl (hE) trivial rfl rfl ?_
    | (show allP _; first | trivial | exact ob1 (fun h => h) | exact ob2 (fun h => h) (fun h => h) | exact ob1 (fun h => ⟨h.1, trivial⟩) | (simp only [allP, obg, grd, allT, InR, decide_eq_true_eq, Bool.and_eq_true, Bool.not_eq_true', decide_eq_false_iff_not, List.nil_append, List.cons_append, List.append_nil, and_true, true_and]; first | omega | (intros; omega) | (simp only [Blk.len, List.length_set, List.length_append, List.length_cons, List.length_nil]; first | omega | (intros; omega)) | (refine ⟨?_, ?_⟩ <;> intros <;> first | (with_reducible assumption) | omega) | ((repeat' refine And.intro ?_ ?_) <;> (intros; first | (with_reducible assumption) | omega | (simp only [Blk.len, List.length_set, List.length_append, List.length_cons, List.length_nil]; omega))) | ((try simp only [Bool.or_eq_true, Bool.or_eq_false_iff, Bool.and_eq_true, Bool.and_eq_false_iff, decide_eq_true_eq, decide_eq_false_iff_not, Bool.not_eq_true', Bool.not_eq_false'] at *); (try simp only [Blk.len] at *); first | omega | (intros; omega)) | (simp_all; done))))
  · (refine fin_ret ?_; exact ret1 (by rfl) (by (rw [decide_eq_true (e1 (by assumption))])) (by rfl))
  · have he : errP t down s d = 0 := by assumption
    rcases e2 he with h | ⟨h, h'⟩
    · (refine fin_ret ?_; exact ret1 (by rfl) (by (rw [h]; rfl)) (by rfl))
    · (refine fin_ret ?_; exact ret1 (by rfl) (by (rw [h, decide_eq_true h']; rfl)) (by rfl))
end Go.Proofs.Ytcnfggpcploehaa

/- Uses of a mask, plainly. -/
namespace Go.Proofs.Ytcnfggpcploehaa
set_option maxRecDepth 10000
open Go.Wk

def onU (t : Topo) (f g : List Int) (a x y : Int) : Bool :=
  !(decide (gI f (tailT t a) < 0) || decide (gI g (headT t a) < 0) || !transB t (tailT t a) x || !transB t (headT t a) y || decide (x = y)) && decide (gI f (tailT t a) + costT t a + gI g (headT t a) = gI g x)
def usesL (t : Topo) (down : List Bool) (f g : List Int) (x y : Int) : Bool := (arcsR (2 * t.links.length)).any fun a => !upB down a && onU t f g a x y
noncomputable def usesB (t : Topo) (down : List Bool) (x y : Int) : Bool :=
  fitsB t down && decide (0 ≤ x) && decide (x < t.nodes) && decide (0 ≤ y) && decide (y < t.nodes) && usesL t down (distL t [] x true) (distL t [] y false) x y

section
variable {t : Topo} {down : List Bool} {x y : Int} {f g : List Int}
theorem Pth.cat : ∀ {A B : List Int} {x u y : Int}, Pth t down x A u → Pth t down u B y → (A ≠ [] → B ≠ [] → overT t u = false) → Pth t down x (A ++ B) y
  | [], B, x, u, y, h, k, _ => by
    have : x = u := h
    subst this; exact k
  | a :: r, B, x, u, y, ⟨h0, h1, h2, h3, h4, h5⟩, k, ho => by
    refine ⟨h0, h1, h2, h3, fun hne => ?_, Pth.cat h5 k fun hr hB => ho (by simp) hB⟩
    by_cases hr : r = []
    · subst hr
      have : headT t a = u := h5
      rw [this]
      exact ho (by simp) (by simpa using hne)
    · exact h4 hr
theorem Pth.split : ∀ {A B : List Int} {x y : Int} {a : Int}, Pth t down x (A ++ a :: B) y → Pth t down x A (tailT t a) ∧ Pth t down (headT t a) B y ∧ 0 ≤ a ∧ a < 2 * t.links.length ∧ upB down a = true ∧ (A ≠ [] → overT t (tailT t a) = false) ∧ (B ≠ [] → overT t (headT t a) = false)
  | [], B, x, y, a, ⟨h0, h1, h2, h3, h4, h5⟩ => ⟨h3.symm, h5, h0, h1, h2, fun h => absurd rfl h, h4⟩
  | b :: r, B, x, y, a, ⟨h0, h1, h2, h3, h4, h5⟩ => by
    obtain ⟨p1, p2, p3, p4, p5, p6, p7⟩ := Pth.split h5
    refine ⟨⟨h0, h1, h2, h3, fun hr => h4 (by simp), p1⟩, p2, p3, p4, p5, fun _ => ?_, p7⟩
    by_cases hr : r = []
    · subst hr
      have : headT t b = tailT t a := p1
      rw [← this]; exact h4 (by simp)
    · exact p6 hr
theorem Pth.mono {m : List Bool} (h : ∀ a, 0 ≤ a → a < 2 * (t.links.length : Int) → upB down a = true → upB m a = true) : ∀ {L : List Int} {x y : Int}, Pth t down x L y → Pth t m x L y
  | [], _, _, k => k
  | _ :: _, _, _, ⟨h0, h1, h2, h3, h4, h5⟩ => ⟨h0, h1, h _ h0 h1 h2, h3, h4, Pth.mono h h5⟩
theorem Pth.at {m : List Bool} : ∀ {L : List Int} {x y : Int}, Pth t down x L y → (∀ a ∈ L, upB m a = true) → Pth t m x L y
  | [], _, _, k, _ => k
  | _ :: _, _, _, ⟨h0, h1, _, h3, h4, h5⟩, h => ⟨h0, h1, h _ (by simp), h3, h4, Pth.at h5 fun a ha => h a (by simp [ha])⟩
theorem up_nil (a : Int) : upB [] a = true := rfl
theorem Pth.free {L : List Int} (h : Pth t down x L y) : Pth t [] x L y := h.mono fun _ _ _ _ => rfl
theorem trans_iff {n e : Int} : transB t n e = true ↔ n = e ∨ overT t n = false := by simp [transB]

theorem Pth.nn (hv : validB t = true) : ∀ {L : List Int} {x y : Int}, Pth t down x L y → 0 ≤ costP t L ∧ (L ≠ [] → 0 < costP t L)
  | [], _, _, _ => by simp [costP]
  | b :: r, _, _, ⟨b0, b1, _, _, _, b5⟩ => by
    have hb := arc_ok hv b0 b1
    have := (Pth.nn hv b5).1
    rw [costP_cons]
    omega
/-- Every arc of a shortest path is on one. -/
theorem on_of (hv : validB t = true) (x0 : 0 ≤ x) (x1 : x < t.nodes) (hf : IsDist t [] x true f) (hg : IsDist t [] y false g) {A B : List Int} {a : Int} (hp : Pth t [] x (A ++ a :: B) y) (hc : costP t (A ++ a :: B) = gI g x) : onU t f g a x y = true := by
  obtain ⟨p1, p2, p3, p4, _, p6, p7⟩ := Pth.split hp
  have ha := arc_ok hv p3 p4
  obtain ⟨f0, f1⟩ := hf.walk_from hv A.length A _ rfl p1
  obtain ⟨g0, g1⟩ := hg.walk_to hv B _ p2
  rw [costP_app, costP_cons] at hc
  have hu : transB t (tailT t a) x = true := trans_iff.2 (by
    by_cases h : A = []
    · subst h; exact .inl (show x = tailT t a from p1).symm
    · exact .inr (p6 h))
  have hw : transB t (headT t a) y = true := trans_iff.2 (by
    by_cases h : B = []
    · subst h; exact .inl p2
    · exact .inr (p7 h))
  have hxy : x ≠ y := by
    rintro rfl
    have := hg.self
    have h1 : 0 ≤ costP t A := by omega
    have h2 : 0 ≤ costP t B := by omega
    omega
  obtain ⟨A', q1, q2⟩ := hf.some_from hv (gI f (tailT t a)).toNat _ ha.1 ha.2.1 f0 (by omega)
  obtain ⟨B', r1, r2⟩ := hg.some_to hv (gI g (headT t a)).toNat _ ha.2.2.1 ha.2.2.2.1 g0 (by omega)
  have hcat : Pth t [] x (A' ++ a :: B') y := q1.cat ⟨p3, p4, rfl, rfl, fun h => by
      rcases trans_iff.1 hw with h' | h'
      · rw [h'] at r1 r2
        exfalso
        have := hg.self
        rw [this] at r2
        match B', h, r1, r2 with
        | b :: r, _, ⟨b0, b1, _, _, _, b5⟩, r2 =>
          rw [costP_cons] at r2
          have hb := arc_ok hv b0 b1
          have := (hg.walk_to hv r _ b5)
          omega
      · exact h', r1⟩ fun h _ => by
    rcases trans_iff.1 hu with h' | h'
    · exfalso
      rw [h'] at q1 q2
      have hs := hf.self
      rw [hs] at q2
      match A', h, q1, q2 with
      | b :: r, _, ⟨b0, b1, _, _, _, b5⟩, q2 =>
        rw [costP_cons] at q2
        have hb := arc_ok hv b0 b1
        have := Pth.nn hv b5
        omega
    · exact h'
  have := hg.walk_to hv _ _ hcat
  rw [costP_app, costP_cons] at this
  simp only [onU, Bool.and_eq_true, Bool.not_eq_true', Bool.or_eq_false_iff, decide_eq_false_iff_not, decide_eq_true_eq, hu, hw]
  simp only [Bool.not_true, and_true, true_and]
  refine ⟨⟨⟨by omega, by omega⟩, hxy⟩, by omega⟩

/-- An arc that is on a shortest path, with one. -/
theorem on_path (hv : validB t = true) (x0 : 0 ≤ x) (x1 : x < t.nodes) (hf : IsDist t [] x true f) (hg : IsDist t [] y false g) {a : Int} (a0 : 0 ≤ a) (a1 : a < 2 * t.links.length) (h : onU t f g a x y = true) :
    ∃ A B, Pth t [] x (A ++ a :: B) y ∧ costP t (A ++ a :: B) = gI g x ∧ x ≠ y := by
  simp only [onU, Bool.and_eq_true, Bool.not_eq_true', Bool.or_eq_false_iff, decide_eq_false_iff_not, decide_eq_true_eq, Bool.not_eq_false'] at h
  obtain ⟨⟨⟨⟨⟨h1, h2⟩, hu⟩, hw⟩, hxy⟩, hc⟩ := h
  have ha := arc_ok hv a0 a1
  obtain ⟨A', q1, q2⟩ := hf.some_from hv (gI f (tailT t a)).toNat _ ha.1 ha.2.1 (by omega) (by omega)
  obtain ⟨B', r1, r2⟩ := hg.some_to hv (gI g (headT t a)).toNat _ ha.2.2.1 ha.2.2.2.1 (by omega) (by omega)
  refine ⟨A', B', q1.cat ⟨a0, a1, rfl, rfl, fun h => ?_, r1⟩ fun h _ => ?_, by rw [costP_app, costP_cons]; omega, hxy⟩
  · rcases trans_iff.1 hw with h' | h'
    · exfalso
      have hs := hg.self
      have := (Pth.nn hv r1).2 h
      rw [h'] at r2; omega
    · exact h'
  · rcases trans_iff.1 hu with h' | h'
    · exfalso
      have hs := hf.self
      have := (Pth.nn hv q1).2 h
      rw [h'] at q2; omega
    · exact h'

/-- What does not use the mask keeps its distance. -/
theorem unused_to (hv : validB t = true) (x0 : 0 ≤ x) (x1 : x < t.nodes) (hf : IsDist t [] x true f) (hg : IsDist t [] y false g) {g' : List Int} (hg' : IsDist t down y false g') (h : usesL t down f g x y = false) : gI g' x = gI g x := by
  have hany : ∀ a : Int, 0 ≤ a → a < 2 * t.links.length → onU t f g a x y = true → upB down a = true := fun a a0 a1 ho => by
    have := List.any_eq_false.1 h a (mem_arcsR.2 ⟨a0, by omega⟩)
    rw [ho, Bool.and_true] at this
    simpa using this
  have keep : ∀ (L : List Int), Pth t [] x L y → costP t L = gI g x → Pth t down x L y := fun L hL hc => hL.at fun a ha => by
    obtain ⟨A, B, rfl⟩ := List.append_of_mem ha
    have h2 := hL.split
    exact hany a h2.2.2.1 h2.2.2.2.1 (on_of hv x0 x1 hf hg hL hc)
  by_cases hx : 0 ≤ gI g x
  · obtain ⟨L, hL, hc⟩ := hg.some_to hv (gI g x).toNat x x0 x1 hx (by omega)
    obtain ⟨k1, k2⟩ := hg'.walk_to hv L x (keep L hL hc)
    obtain ⟨L', hL', hc'⟩ := hg'.some_to hv (gI g' x).toNat x x0 x1 k1 (by omega)
    have := hg.walk_to hv L' x hL'.free
    omega
  · have h1 := hg.sign x x0 x1
    have h2 := hg'.sign x x0 x1
    by_cases hx' : 0 ≤ gI g' x
    · obtain ⟨L', hL', hc'⟩ := hg'.some_to hv (gI g' x).toNat x x0 x1 hx' (by omega)
      have := hg.walk_to hv L' x hL'.free
      omega
    · omega
end
end Go.Proofs.Ytcnfggpcploehaa

/- The reference of layer 26: Uses. -/
namespace Go.Proofs.Ytcnfggpcploehaa
set_option maxRecDepth 10000
open Go.Wk

theorem r26_through (t : Topo) (n e : Int) : Ctr Try.prog 86 [topoD t, iD n, iD e] [] (.d (bD (transB t n e))) := by
  refine spec_of envOK (enters_of Try.func86 (by kernel_rfl) (by kernel_rfl)) Try.func86 rfl rfl _ rfl (Nat.le_of_ble_eq_true rfl) rfl fun w0 => ?_
  repeat' (first
  
    | refine aw_seq ?_
    | refine aw_region ?_
    | refine aw_region_q (by kernel_rfl) (by kernel_rfl) ?_
    | refine aw_block ?_
    | refine ao_nil ?_
    | refine ao_op rfl trivial ?_
    | refine aq_nil ?_
    | refine aq_op rfl trivial ?_
    | refine at_nil ?_
    | refine at_op rfl trivial ?_
    | refine am_nil ?_
    | refine am_op rfl trivial rfl ?_
    | refine aw_skip ?_
    | refine aw_condT rfl trivial ?_
    | refine aw_condF rfl trivial ?_
    | refine aw_condD rfl trivial (fun hc => ?_) (fun hc => ?_)
    | refine aw_condN rfl trivial (fun hc => ?_) (fun hc => ?_)
    | refine aw_condNB rfl trivial (fun hc => ?_) (fun hc => ?_)
    | refine aw_cond rfl trivial (fun hc => ?_) (fun hc => ?_)
    | refine aw_ret ?_
    | refine aw_exit ?_
    | refine ao_op rfl ?_ ?_
    | refine aq_op rfl ?_ ?_
    | refine at_op rfl ?_ ?_
    | refine am_op rfl ?_ rfl ?_
    | refine ao_box rfl trivial rfl rfl rfl ?_
    | refine ao_alloc rfl rfl rfl rfl ?_
    | refine ao_store rfl rfl trivial rfl trivial rfl rfl rfl rfl rfl ?_
    | (first | refine ao_call rfl (r_Overloaded _ _) rfl ?_ ?_ | refine aq_call rfl (r_Overloaded _ _) rfl ?_ ?_)
    | (show allP _; first | trivial | exact ob1 (fun h => h) | exact ob2 (fun h => h) (fun h => h) | exact ob1 (fun h => ⟨h.1, trivial⟩) | (simp only [allP, obg, grd, allT, InR, decide_eq_true_eq, Bool.and_eq_true, Bool.not_eq_true', decide_eq_false_iff_not, List.nil_append, List.cons_append, List.append_nil, and_true, true_and]; first | omega | (intros; omega) | (simp only [Blk.len, List.length_set, List.length_append, List.length_cons, List.length_nil]; first | omega | (intros; omega)) | (refine ⟨?_, ?_⟩ <;> intros <;> first | (with_reducible assumption) | omega) | ((repeat' refine And.intro ?_ ?_) <;> (intros; first | (with_reducible assumption) | omega | (simp only [Blk.len, List.length_set, List.length_append, List.length_cons, List.length_nil]; omega))) | ((try simp only [Bool.or_eq_true, Bool.or_eq_false_iff, Bool.and_eq_true, Bool.and_eq_false_iff, decide_eq_true_eq, decide_eq_false_iff_not, Bool.not_eq_true', Bool.not_eq_false'] at *); (try simp only [Blk.len] at *); first | omega | (intros; omega)) | (simp_all; done))))
  (refine fin_ret ?_; exact ret1 (by rfl) (by rfl) (by rfl))

set_option maxHeartbeats 1000000 in
theorem r26_on (t : Topo) (f g : List Int) (a x y : Int) (hv : validB t = true) (h0 : 0 ≤ a) (h1 : a < 2 * t.links.length) (x0 : 0 ≤ x) (x1 : x < t.nodes) (hf : (f.length : Int) = t.nodes) (hg : (g.length : Int) = t.nodes) (hfb : ∀ i : Int, 0 ≤ i → i < t.nodes → gI f i ≤ 65535 * 64 ∧ -1 ≤ gI f i) (hgb : ∀ i : Int, 0 ≤ i → i < t.nodes → gI g i ≤ 65535 * 64 ∧ -1 ≤ gI g i) :
    Ctr Try.prog 63 [topoD t, intsD f, intsD g, iD a, iD x, iD y] [] (.d (bD (onU t f g a x y))) := by
  refine spec_of envOK (enters_of Try.func63 (by kernel_rfl) (by kernel_rfl)) Try.func63 rfl rfl _ rfl (Nat.le_of_ble_eq_true rfl) rfl fun w0 => ?_
  have hnn := validB_head hv
  have hk := arc_ok hv h0 h1
  have hy1 : f.getD (tailT t a).toNat 0 ≤ 65535 * 64 ∧ -1 ≤ f.getD (tailT t a).toNat 0 := hfb _ hk.1 hk.2.1
  have hy2 : g.getD (headT t a).toNat 0 ≤ 65535 * 64 ∧ -1 ≤ g.getD (headT t a).toNat 0 := hgb _ hk.2.2.1 hk.2.2.2.1
  clear hfb hgb
  repeat' (first
  
    | refine aw_seq ?_
    | refine aw_region ?_
    | refine aw_region_q (by kernel_rfl) (by kernel_rfl) ?_
    | refine aw_block ?_
    | refine ao_nil ?_
    | refine ao_op rfl trivial ?_
    | refine aq_nil ?_
    | refine aq_op rfl trivial ?_
    | refine at_nil ?_
    | refine at_op rfl trivial ?_
    | refine am_nil ?_
    | refine am_op rfl trivial rfl ?_
    | refine aw_skip ?_
    | refine aw_condT rfl trivial ?_
    | refine aw_condF rfl trivial ?_
    | refine aw_condD rfl trivial (fun hc => ?_) (fun hc => ?_)
    | refine aw_condN rfl trivial (fun hc => ?_) (fun hc => ?_)
    | refine aw_condNB rfl trivial (fun hc => ?_) (fun hc => ?_)
    | refine aw_cond rfl trivial (fun hc => ?_) (fun hc => ?_)
    | refine aw_ret ?_
    | refine aw_exit ?_
    | refine ao_op rfl ?_ ?_
    | refine aq_op rfl ?_ ?_
    | refine at_op rfl ?_ ?_
    | refine am_op rfl ?_ rfl ?_
    | refine ao_box rfl trivial rfl rfl rfl ?_
    | refine ao_alloc rfl rfl rfl rfl ?_
    | refine ao_store rfl rfl trivial rfl trivial rfl rfl rfl rfl rfl ?_
    | (first | refine ao_call rfl (r_Tail _ _) rfl ?_ ?_ | refine aq_call rfl (r_Tail _ _) rfl ?_ ?_)
    | (first | refine ao_call rfl (r_Head _ _) rfl ?_ ?_ | refine aq_call rfl (r_Head _ _) rfl ?_ ?_)
    | (first | refine ao_call rfl (r26_through _ _ _) rfl ?_ ?_ | refine aq_call rfl (r26_through _ _ _) rfl ?_ ?_)
    | (first | refine ao_call rfl (r_Cost _ _) rfl ?_ ?_ | refine aq_call rfl (r_Cost _ _) rfl ?_ ?_)
    | (show allP _; first | trivial | exact ob1 (fun h => h) | exact ob2 (fun h => h) (fun h => h) | exact ob1 (fun h => ⟨h.1, trivial⟩) | (simp only [allP, obg, grd, allT, InR, decide_eq_true_eq, Bool.and_eq_true, Bool.not_eq_true', decide_eq_false_iff_not, List.nil_append, List.cons_append, List.append_nil, and_true, true_and]; first | omega | (intros; omega) | (simp only [Blk.len, List.length_set, List.length_append, List.length_cons, List.length_nil]; first | omega | (intros; omega)) | (refine ⟨?_, ?_⟩ <;> intros <;> first | (with_reducible assumption) | omega) | ((repeat' refine And.intro ?_ ?_) <;> (intros; first | (with_reducible assumption) | omega | (simp only [Blk.len, List.length_set, List.length_append, List.length_cons, List.length_nil]; omega))) | ((try simp only [Bool.or_eq_true, Bool.or_eq_false_iff, Bool.and_eq_true, Bool.and_eq_false_iff, decide_eq_true_eq, decide_eq_false_iff_not, Bool.not_eq_true', Bool.not_eq_false'] at *); (try simp only [Blk.len] at *); first | omega | (intros; omega)) | (simp_all; done))))
  · (refine fin_ret ?_; exact ret1 (by rfl) (by (simp only [onU, gI]; rw [hc]; rfl)) (by rfl))
  · (refine fin_ret ?_; exact ret1 (by rfl) (by (simp only [onU, gI]; rw [hc]; rfl)) (by rfl))

theorem usesL_step {t : Topo} {down : List Bool} {f g : List Int} {x y : Int} {n : Nat} (h : ∀ a : Nat, a < 2 * t.links.length → a < n → (!upB down a && onU t f g a x y) = false) (hn : 2 * t.links.length ≤ n) : usesL t down f g x y = false := by
  unfold usesL
  rw [List.any_eq_false]
  intro a ha
  obtain ⟨h0, h1⟩ := mem_arcsR.1 ha
  have := h a.toNat (by omega) (by omega)
  rw [show ((a.toNat : Nat) : Int) = a by omega] at this
  simp [this]

set_option maxHeartbeats 1000000 in
theorem r26_Uses (t : Topo) (down : List Bool) (x y : Int) : Ctr Try.prog 25 [topoD t, boolsD down, iD x, iD y] [] (.d (bD (usesB t down x y))) := by
  refine spec_of envOK (enters_of Try.func25 (by kernel_rfl) (by kernel_rfl)) Try.func25 rfl rfl _ rfl (Nat.le_of_ble_eq_true rfl) rfl fun w0 => ?_
  by_cases hin : fitsB t down = true ∧ 0 ≤ x ∧ x < t.nodes ∧ 0 ≤ y ∧ y < t.nodes
  · obtain ⟨hfit, x0, x1, y0, y1⟩ := hin
    have hv := fitsB_v hfit
    have hnn := validB_head hv
    have hfn : fitsB t [] = true := by simp [fitsB, hv]
    have ex := errS_ok hfn x0 x1
    have ey := errS_ok hfn y0 y1
    have hF := distL_is (fr := true) ex
    have hG := distL_is (fr := false) ey
    have hfb := distL_bnd (fr := true) ex
    have hgb := distL_bnd (fr := false) ey
    have hR := (r_From t [] x).args (ds' := [topoD t, nilD, iD x]) ⟨DLe.refl _, DLe.nil, DLe.refl _, trivial⟩
    have hS := (r_Dist t [] y).args (ds' := [topoD t, nilD, iD y]) ⟨DLe.refl _, DLe.nil, DLe.refl _, trivial⟩
    have hu : usesB t down x y = usesL t down (distL t [] x true) (distL t [] y false) x y := by
      simp [usesB, hfit, x0, x1, y0, y1]
    rw [hu]
    rw [ex] at hR
    rw [ey] at hS
    have hfl := hF.len
    have hgl := hG.len
    have hfs := hF.sign
    have hgs := hG.sign
    generalize distL t [] x true = f at *
    generalize distL t [] y false = g at *
    repeat' (first
    
      | refine aw_seq ?_
      | refine aw_region ?_
      | refine aw_region_q (by kernel_rfl) (by kernel_rfl) ?_
      | refine aw_block ?_
      | refine ao_nil ?_
      | refine ao_op rfl trivial ?_
      | refine aq_nil ?_
      | refine aq_op rfl trivial ?_
      | refine at_nil ?_
      | refine at_op rfl trivial ?_
      | refine am_nil ?_
      | refine am_op rfl trivial rfl ?_
      | refine aw_skip ?_
      | refine aw_condT rfl trivial ?_
      | refine aw_condF rfl trivial ?_
      | refine aw_condD rfl trivial (fun hc => ?_) (fun hc => ?_)
      | refine aw_condN rfl trivial (fun hc => ?_) (fun hc => ?_)
      | refine aw_condNB rfl trivial (fun hc => ?_) (fun hc => ?_)
      | refine aw_cond rfl trivial (fun hc => ?_) (fun hc => ?_)
      | refine aw_ret ?_
      | refine aw_exit ?_
      | refine ao_op rfl ?_ ?_
      | refine aq_op rfl ?_ ?_
      | refine at_op rfl ?_ ?_
      | refine am_op rfl ?_ rfl ?_
      | refine ao_box rfl trivial rfl rfl rfl ?_
      | refine ao_alloc rfl rfl rfl rfl ?_
      | refine ao_store rfl rfl trivial rfl trivial rfl rfl rfl rfl rfl ?_
      | (first | refine ao_call rfl (r_Fits _ _) rfl ?_ ?_ | refine aq_call rfl (r_Fits _ _) rfl ?_ ?_)
      | refine ao_callR rfl (hR) trivial rfl rfl ?_
      | refine ao_callR rfl (hS) trivial rfl rfl ?_
      | (show allP _; first | trivial | exact ob1 (fun h => h) | exact ob2 (fun h => h) (fun h => h) | exact ob1 (fun h => ⟨h.1, trivial⟩) | (simp only [allP, obg, grd, allT, InR, decide_eq_true_eq, Bool.and_eq_true, Bool.not_eq_true', decide_eq_false_iff_not, List.nil_append, List.cons_append, List.append_nil, and_true, true_and]; first | omega | (intros; omega) | (simp only [Blk.len, List.length_set, List.length_append, List.length_cons, List.length_nil]; first | omega | (intros; omega)) | (refine ⟨?_, ?_⟩ <;> intros <;> first | (with_reducible assumption) | omega) | ((repeat' refine And.intro ?_ ?_) <;> (intros; first | (with_reducible assumption) | omega | (simp only [Blk.len, List.length_set, List.length_append, List.length_cons, List.length_nil]; omega))) | ((try simp only [Bool.or_eq_true, Bool.or_eq_false_iff, Bool.and_eq_true, Bool.and_eq_false_iff, decide_eq_true_eq, decide_eq_false_iff_not, Bool.not_eq_true', Bool.not_eq_false'] at *); (try simp only [Blk.len] at *); first | omega | (intros; omega)) | (simp_all; done))))
    · exfalso
      rw [hfit] at hc
      simp only [Bool.not_true, Bool.false_or, Bool.or_eq_true, decide_eq_true_eq] at hc
      omega
    refine aw_loop (ι := Nat) (fun i => [(13, [], .d (iD i)), (11, [], .own 2), (9, [], .own 1), (4, [], .ptr 0 0), (1, [], .d (boolsD down)), (2, [], .d (iD x)), (3, [], .d (iD y))]) (fun _ => [tBlk t, .ints .i64 f, .ints .i64 g])
      (fun i => i ≤ 2 * t.links.length ∧ ∀ a : Nat, a < 2 * t.links.length → a < i → (!upB down a && onU t f g a x y) = false) (fun i => 2 * t.links.length - i) 0 ⟨by simp, fun a _ h => absurd h (Nat.not_lt_zero _)⟩ (fun _ => Nat.le_of_ble_eq_true rfl) (by refine weak_to ?_ ?_ rfl rfl
                                                                                                                                                                                                                                                                 · repeat (first | exact subF_nil | refine subF_cons (by first | rfl | (simp [look]; done)) ?_)
                                                                                                                                                                                                                                                                 · repeat (first | exact subS_nil | refine subS_cons (by first | rfl | (simp; done)) ?_)) fun i hi => ?_
    obtain ⟨hi, hno⟩ := hi
    by_cases hil : i < 2 * t.links.length
    · have hok := up_ok (a := (i : Int)) hfit (by omega) (by omega)
      have hon := r26_on t f g (i : Int) x y hv (by omega) (by omega) x0 x1 hfl hgl (fun j j0 j1 => ⟨hfb j j0 j1, by have := hfs j j0 j1; omega⟩) (fun j j0 j1 => ⟨hgb j j0 j1, by have := hgs j j0 j1; omega⟩)
      repeat' (first
      
        | refine aw_seq ?_
        | refine aw_region ?_
        | refine aw_region_q (by kernel_rfl) (by kernel_rfl) ?_
        | refine aw_block ?_
        | refine ao_nil ?_
        | refine ao_op rfl trivial ?_
        | refine aq_nil ?_
        | refine aq_op rfl trivial ?_
        | refine at_nil ?_
        | refine at_op rfl trivial ?_
        | refine am_nil ?_
        | refine am_op rfl trivial rfl ?_
        | refine aw_skip ?_
        | refine aw_condT rfl trivial ?_
        | refine aw_condF rfl trivial ?_
        | refine aw_condD rfl trivial (fun hc => ?_) (fun hc => ?_)
        | refine aw_condN rfl trivial (fun hc => ?_) (fun hc => ?_)
        | refine aw_condNB rfl trivial (fun hc => ?_) (fun hc => ?_)
        | refine aw_cond rfl trivial (fun hc => ?_) (fun hc => ?_)
        | refine aw_ret ?_
        | refine aw_exit ?_
        | refine ao_op rfl ?_ ?_
        | refine aq_op rfl ?_ ?_
        | refine at_op rfl ?_ ?_
        | refine am_op rfl ?_ rfl ?_
        | refine ao_box rfl trivial rfl rfl rfl ?_
        | refine ao_alloc rfl rfl rfl rfl ?_
        | refine ao_store rfl rfl trivial rfl trivial rfl rfl rfl rfl rfl ?_
        | (exfalso; omega)
        | (first | refine ao_call rfl (r_Up down _ hok) rfl ?_ ?_ | refine aq_call rfl (r_Up down _ hok) rfl ?_ ?_)
        | (first | refine ao_call rfl (hon) rfl ?_ ?_ | refine aq_call rfl (hon) rfl ?_ ?_)
        | (show allP _; first | trivial | exact ob1 (fun h => h) | exact ob2 (fun h => h) (fun h => h) | exact ob1 (fun h => ⟨h.1, trivial⟩) | (simp only [allP, obg, grd, allT, InR, decide_eq_true_eq, Bool.and_eq_true, Bool.not_eq_true', decide_eq_false_iff_not, List.nil_append, List.cons_append, List.append_nil, and_true, true_and]; first | omega | (intros; omega) | (simp only [Blk.len, List.length_set, List.length_append, List.length_cons, List.length_nil]; first | omega | (intros; omega)) | (refine ⟨?_, ?_⟩ <;> intros <;> first | (with_reducible assumption) | omega) | ((repeat' refine And.intro ?_ ?_) <;> (intros; first | (with_reducible assumption) | omega | (simp only [Blk.len, List.length_set, List.length_append, List.length_cons, List.length_nil]; omega))) | ((try simp only [Bool.or_eq_true, Bool.or_eq_false_iff, Bool.and_eq_true, Bool.and_eq_false_iff, decide_eq_true_eq, decide_eq_false_iff_not, Bool.not_eq_true', Bool.not_eq_false'] at *); (try simp only [Blk.len] at *); first | omega | (intros; omega)) | (simp_all; done))))
      · (refine fin_ret ?_; exact ret1 (by rfl) (by (rw [show usesL t down f g x y = true from List.any_eq_true.2 ⟨(i : Int), mem_arcsR.2 ⟨by omega, by omega⟩, hc⟩])) (by rfl))
      · refine ⟨i + 1, ⟨by omega, fun a h1 h2 => ?_⟩, by omega, ?_⟩
        · rcases Nat.lt_succ_iff_lt_or_eq.1 h2 with h | rfl
          · exact hno a h1 h
          · exact hc
        · refine weak_to ?_ ?_ rfl rfl
          · repeat (first | exact subF_nil | refine subF_cons (by first | rfl | (simp [look]; done)) ?_)
          · repeat (first | exact subS_nil | refine subS_cons (by first | rfl | (simp; done)) ?_)
    · repeat' (first
      
        | refine aw_seq ?_
        | refine aw_region ?_
        | refine aw_region_q (by kernel_rfl) (by kernel_rfl) ?_
        | refine aw_block ?_
        | refine ao_nil ?_
        | refine ao_op rfl trivial ?_
        | refine aq_nil ?_
        | refine aq_op rfl trivial ?_
        | refine at_nil ?_
        | refine at_op rfl trivial ?_
        | refine am_nil ?_
        | refine am_op rfl trivial rfl ?_
        | refine aw_skip ?_
        | refine aw_condT rfl trivial ?_
        | refine aw_condF rfl trivial ?_
        | refine aw_condD rfl trivial (fun hc => ?_) (fun hc => ?_)
        | refine aw_condN rfl trivial (fun hc => ?_) (fun hc => ?_)
        | refine aw_condNB rfl trivial (fun hc => ?_) (fun hc => ?_)
        | refine aw_cond rfl trivial (fun hc => ?_) (fun hc => ?_)
        | refine aw_ret ?_
        | refine aw_exit ?_
        | refine ao_op rfl ?_ ?_
        | refine aq_op rfl ?_ ?_
        | refine at_op rfl ?_ ?_
        | refine am_op rfl ?_ rfl ?_
        | refine ao_box rfl trivial rfl rfl rfl ?_
        | refine ao_alloc rfl rfl rfl rfl ?_
        | refine ao_store rfl rfl trivial rfl trivial rfl rfl rfl rfl rfl ?_
        | (exfalso; omega)
        | (show allP _; first | trivial | exact ob1 (fun h => h) | exact ob2 (fun h => h) (fun h => h) | exact ob1 (fun h => ⟨h.1, trivial⟩) | (simp only [allP, obg, grd, allT, InR, decide_eq_true_eq, Bool.and_eq_true, Bool.not_eq_true', decide_eq_false_iff_not, List.nil_append, List.cons_append, List.append_nil, and_true, true_and]; first | omega | (intros; omega) | (simp only [Blk.len, List.length_set, List.length_append, List.length_cons, List.length_nil]; first | omega | (intros; omega)) | (refine ⟨?_, ?_⟩ <;> intros <;> first | (with_reducible assumption) | omega) | ((repeat' refine And.intro ?_ ?_) <;> (intros; first | (with_reducible assumption) | omega | (simp only [Blk.len, List.length_set, List.length_append, List.length_cons, List.length_nil]; omega))) | ((try simp only [Bool.or_eq_true, Bool.or_eq_false_iff, Bool.and_eq_true, Bool.and_eq_false_iff, decide_eq_true_eq, decide_eq_false_iff_not, Bool.not_eq_true', Bool.not_eq_false'] at *); (try simp only [Blk.len] at *); first | omega | (intros; omega)) | (simp_all; done))))
      (refine fin_ret ?_; exact ret1 (by rfl) (by (rw [usesL_step hno (by omega)])) (by rfl))
  · have hu : usesB t down x y = false := by
      refine Bool.eq_false_iff.2 fun h => hin ?_
      simp only [usesB, Bool.and_eq_true, decide_eq_true_eq] at h
      exact ⟨h.1.1.1.1.1, h.1.1.1.1.2, h.1.1.1.2, h.1.1.2, h.1.2⟩
    repeat' (first
    
      | refine aw_seq ?_
      | refine aw_region ?_
      | refine aw_region_q (by kernel_rfl) (by kernel_rfl) ?_
      | refine aw_block ?_
      | refine ao_nil ?_
      | refine ao_op rfl trivial ?_
      | refine aq_nil ?_
      | refine aq_op rfl trivial ?_
      | refine at_nil ?_
      | refine at_op rfl trivial ?_
      | refine am_nil ?_
      | refine am_op rfl trivial rfl ?_
      | refine aw_skip ?_
      | refine aw_condT rfl trivial ?_
      | refine aw_condF rfl trivial ?_
      | refine aw_condD rfl trivial (fun hc => ?_) (fun hc => ?_)
      | refine aw_condN rfl trivial (fun hc => ?_) (fun hc => ?_)
      | refine aw_condNB rfl trivial (fun hc => ?_) (fun hc => ?_)
      | refine aw_cond rfl trivial (fun hc => ?_) (fun hc => ?_)
      | refine aw_ret ?_
      | refine aw_exit ?_
      | refine ao_op rfl ?_ ?_
      | refine aq_op rfl ?_ ?_
      | refine at_op rfl ?_ ?_
      | refine am_op rfl ?_ rfl ?_
      | refine ao_box rfl trivial rfl rfl rfl ?_
      | refine ao_alloc rfl rfl rfl rfl ?_
      | refine ao_store rfl rfl trivial rfl trivial rfl rfl rfl rfl rfl ?_
      | (first | refine ao_call rfl (r_Fits _ _) rfl ?_ ?_ | refine aq_call rfl (r_Fits _ _) rfl ?_ ?_)
      | (show allP _; first | trivial | exact ob1 (fun h => h) | exact ob2 (fun h => h) (fun h => h) | exact ob1 (fun h => ⟨h.1, trivial⟩) | (simp only [allP, obg, grd, allT, InR, decide_eq_true_eq, Bool.and_eq_true, Bool.not_eq_true', decide_eq_false_iff_not, List.nil_append, List.cons_append, List.append_nil, and_true, true_and]; first | omega | (intros; omega) | (simp only [Blk.len, List.length_set, List.length_append, List.length_cons, List.length_nil]; first | omega | (intros; omega)) | (refine ⟨?_, ?_⟩ <;> intros <;> first | (with_reducible assumption) | omega) | ((repeat' refine And.intro ?_ ?_) <;> (intros; first | (with_reducible assumption) | omega | (simp only [Blk.len, List.length_set, List.length_append, List.length_cons, List.length_nil]; omega))) | ((try simp only [Bool.or_eq_true, Bool.or_eq_false_iff, Bool.and_eq_true, Bool.and_eq_false_iff, decide_eq_true_eq, decide_eq_false_iff_not, Bool.not_eq_true', Bool.not_eq_false'] at *); (try simp only [Blk.len] at *); first | omega | (intros; omega)) | (simp_all; done))))
    · (refine fin_ret ?_; exact ret1 (by rfl) (by (rw [hu])) (by rfl))
    · exfalso
      refine hin ?_
      simp only [Bool.or_eq_false_iff, decide_eq_false_iff_not, Bool.not_eq_false'] at hc
      exact ⟨hc.1.1.1.1, by omega, by omega, by omega, by omega⟩
end Go.Proofs.Ytcnfggpcploehaa
