/- Laid together: C11b, C11c, C11d, C11e, Mbf, R11, R11a, R11b, R11c, L11a, L11b, WkX, WkY, Mo. -/
import Derived.Deep.Slices
import Derived.ProofKit
import Derived.Carry
import Derived.Test.YtnmajhoehmlcjaaQ3

set_option linter.all false

/- Layer 11: the search. -/
namespace Go.Proofs.Ytnmajhoehmlcjaa
open Go.Wk

set_option maxHeartbeats 4000000 in
theorem c_search (t : Topo) (down : List Bool) (n : Int) (fr : Bool) (fa fe : FuncId) (ha : ∀ y, Ctr Try.prog fa [topoD t, iD y] [.ints .i64 (arcsL t y fr)] (.own 0)) (he : ∀ a, Ctr Try.prog fe [topoD t, iD a] [] (.d (iD (farT t fr a)))) :
    Ctr Try.prog 26 [topoD t, boolsD down, iD n, .agg [.fn fa, .fn fe]] [.ints .i64 (distL t down n fr)] (.tup [.own 0, .d (iD (errS t down n))]) := by
  refine spec_of envOK (enters_of Try.func26 (by kernel_rfl) (by kernel_rfl)) Try.func26 rfl rfl _ rfl (Nat.le_of_ble_eq_true rfl) rfl fun w0 => ?_
  repeat' (first
  
    | refine aw_seq ?_
    | refine aw_region ?_
    | refine aw_region_q (by kernel_rfl) (by kernel_rfl) ?_
    | refine aw_block ?_
    | refine ao_nil ?_
    | refine ao_op rfl trivial ?_
    | refine aq_nil ?_
    | refine aq_op rfl trivial ?_
    | refine at_nil ?_
    | refine at_op rfl trivial ?_
    | refine am_nil ?_
    | refine am_op rfl trivial rfl ?_
    | refine aw_skip ?_
    | refine aw_condT rfl trivial ?_
    | refine aw_condF rfl trivial ?_
    | refine aw_condD rfl trivial (fun hc => ?_) (fun hc => ?_)
    | refine aw_condN rfl trivial (fun hc => ?_) (fun hc => ?_)
    | refine aw_condNB rfl trivial (fun hc => ?_) (fun hc => ?_)
    | refine aw_cond rfl trivial (fun hc => ?_) (fun hc => ?_)
    | refine aw_ret ?_
    | refine aw_exit ?_
    | refine ao_op rfl ?_ ?_
    | refine aq_op rfl ?_ ?_
    | refine at_op rfl ?_ ?_
    | refine am_op rfl ?_ rfl ?_
    | refine ao_box rfl trivial rfl rfl rfl ?_
    | refine ao_alloc rfl rfl rfl rfl ?_
    | refine ao_store rfl rfl trivial rfl trivial rfl rfl rfl rfl rfl ?_
    | refine ao_call rfl (c_fits _ _) rfl ?_ ?_
    | (show allP _; first | trivial | exact ob1 (fun h => h) | exact ob2 (fun h => h) (fun h => h) | exact ob1 (fun h => ⟨h.1, trivial⟩) | (simp only [allP, obg, grd, allT, InR, decide_eq_true_eq, Bool.and_eq_true, Bool.not_eq_true', decide_eq_false_iff_not, List.nil_append, List.cons_append, List.append_nil, and_true, true_and]; first | omega | (intros; omega) | (simp only [Blk.len, List.length_set, List.length_append, List.length_cons, List.length_nil]; first | omega | (intros; omega)) | (refine ⟨?_, ?_⟩ <;> intros <;> first | (with_reducible assumption) | omega) | ((repeat' refine And.intro ?_ ?_) <;> (intros; first | (with_reducible assumption) | omega | (simp only [Blk.len, List.length_set, List.length_append, List.length_cons, List.length_nil]; omega))) | ((try simp only [Bool.or_eq_true, Bool.or_eq_false_iff, Bool.and_eq_true, Bool.and_eq_false_iff, decide_eq_true_eq, decide_eq_false_iff_not, Bool.not_eq_true', Bool.not_eq_false'] at *); (try simp only [Blk.len] at *); first | omega | (intros; omega)) | (simp_all; done))))
  · have he : errS t down n = 1 := by unfold errS; rw [hc]; rfl
    refine fin_ret ?_; exact retNil2 rfl (by simp [distL, he, Blk.len]) (by rw [he]) trivial rfl
  · rename_i hf
    have he : errS t down n = 2 := by unfold errS; rw [hf, hc]; rfl
    refine fin_ret ?_; exact retNil2 rfl (by simp [distL, he, Blk.len]) (by rw [he]) trivial rfl
  rename_i hf
  have herr : errS t down n = 0 := by unfold errS; rw [hf, hc]; rfl
  obtain ⟨_, n0, n1⟩ := errS_0 herr
  have hv := fitsB_v hf
  have hnn := validB_head hv
  repeat' (first
  
    | refine aw_seq ?_
    | refine aw_region ?_
    | refine aw_region_q (by kernel_rfl) (by kernel_rfl) ?_
    | refine aw_block ?_
    | refine ao_nil ?_
    | refine ao_op rfl trivial ?_
    | refine aq_nil ?_
    | refine aq_op rfl trivial ?_
    | refine at_nil ?_
    | refine at_op rfl trivial ?_
    | refine am_nil ?_
    | refine am_op rfl trivial rfl ?_
    | refine aw_skip ?_
    | refine aw_condT rfl trivial ?_
    | refine aw_condF rfl trivial ?_
    | refine aw_condD rfl trivial (fun hc => ?_) (fun hc => ?_)
    | refine aw_condN rfl trivial (fun hc => ?_) (fun hc => ?_)
    | refine aw_condNB rfl trivial (fun hc => ?_) (fun hc => ?_)
    | refine aw_cond rfl trivial (fun hc => ?_) (fun hc => ?_)
    | refine aw_ret ?_
    | refine aw_exit ?_
    | refine ao_op rfl ?_ ?_
    | refine aq_op rfl ?_ ?_
    | refine at_op rfl ?_ ?_
    | refine am_op rfl ?_ rfl ?_
    | refine ao_box rfl trivial rfl rfl rfl ?_
    | refine ao_alloc rfl rfl rfl rfl ?_
    | refine ao_store rfl rfl trivial rfl trivial rfl rfl rfl rfl rfl ?_
    | refine ao_make rfl rfl rfl rfl trivial rfl trivial (by first | omega | (dsimp only; omega)) (by first | omega | (dsimp only; omega)) (by first | omega | (dsimp only; omega)) rfl rfl rfl ?_
    | (show allP _; first | trivial | exact ob1 (fun h => h) | exact ob2 (fun h => h) (fun h => h) | exact ob1 (fun h => ⟨h.1, trivial⟩) | (simp only [allP, obg, grd, allT, InR, decide_eq_true_eq, Bool.and_eq_true, Bool.not_eq_true', decide_eq_false_iff_not, List.nil_append, List.cons_append, List.append_nil, and_true, true_and]; first | omega | (intros; omega) | (simp only [Blk.len, List.length_set, List.length_append, List.length_cons, List.length_nil]; first | omega | (intros; omega)) | (refine ⟨?_, ?_⟩ <;> intros <;> first | (with_reducible assumption) | omega) | ((repeat' refine And.intro ?_ ?_) <;> (intros; first | (with_reducible assumption) | omega | (simp only [Blk.len, List.length_set, List.length_append, List.length_cons, List.length_nil]; omega))) | ((try simp only [Bool.or_eq_true, Bool.or_eq_false_iff, Bool.and_eq_true, Bool.and_eq_false_iff, decide_eq_true_eq, decide_eq_false_iff_not, Bool.not_eq_true', Bool.not_eq_false'] at *); (try simp only [Blk.len] at *); first | omega | (intros; omega)) | (simp_all; done))))
  rw [show (((Blk.ints IntKind.i64 (List.replicate t.nodes.toNat 0)).len : Nat) : Int) = t.nodes by simp [Blk.len]; omega]
  refine aw_loop (ι := List Int × Nat) (fun s => [(40, [], .d (iD s.2)), (39, [], .d (iD t.nodes)), (38, [], .own 2), (10, [], .own 2), (7, [], .ptr 1 0), (4, [], .ptr 0 0), (1, [], .d (boolsD down)), (2, [], .d (iD n))])
    (fun s => [.cells [.d (iD t.nodes), .d (boolsD t.overload), .d (linksD t.links)], .cells [.d (.fn fa), .d (.fn fe)], .ints .i64 s.1])
    (fun s => s.1.length = t.nodes.toNat ∧ s.2 ≤ t.nodes.toNat ∧ ∀ j, j < s.2 → s.1.getD j 0 = -1) (fun s => t.nodes.toNat - s.2) (List.replicate t.nodes.toNat 0, 0) ⟨by simp, by simp, fun j hj => by simp at hj⟩ (fun _ => Nat.le_of_ble_eq_true rfl) (by refine weak_to ?_ ?_ rfl rfl
                                                                                                                                                                                                                                                             · repeat (first | exact subF_nil | refine subF_cons (by first | rfl | (simp [look]; done)) ?_)
                                                                                                                                                                                                                                                             · repeat (first | exact subS_nil | refine subS_cons (by first | rfl | (simp; done)) ?_)) fun s hs => ?_
  obtain ⟨p, i⟩ := s
  obtain ⟨hp, hi, hj⟩ := hs
  simp only at hp hi hj ⊢
  repeat' (first
  
    | refine aw_seq ?_
    | refine aw_region ?_
    | refine aw_region_q (by kernel_rfl) (by kernel_rfl) ?_
    | refine aw_block ?_
    | refine ao_nil ?_
    | refine ao_op rfl trivial ?_
    | refine aq_nil ?_
    | refine aq_op rfl trivial ?_
    | refine at_nil ?_
    | refine at_op rfl trivial ?_
    | refine am_nil ?_
    | refine am_op rfl trivial rfl ?_
    | refine aw_skip ?_
    | refine aw_condT rfl trivial ?_
    | refine aw_condF rfl trivial ?_
    | refine aw_condD rfl trivial (fun hc => ?_) (fun hc => ?_)
    | refine aw_condN rfl trivial (fun hc => ?_) (fun hc => ?_)
    | refine aw_condNB rfl trivial (fun hc => ?_) (fun hc => ?_)
    | refine aw_cond rfl trivial (fun hc => ?_) (fun hc => ?_)
    | refine aw_ret ?_
    | refine aw_exit ?_
    | refine ao_op rfl ?_ ?_
    | refine aq_op rfl ?_ ?_
    | refine at_op rfl ?_ ?_
    | refine am_op rfl ?_ rfl ?_
    | refine ao_box rfl trivial rfl rfl rfl ?_
    | refine ao_alloc rfl rfl rfl rfl ?_
    | refine ao_store rfl rfl trivial rfl trivial rfl rfl rfl rfl rfl ?_
    | refine ao_store_ep rfl rfl trivial rfl trivial rfl rfl rfl rfl rfl rfl ?_
    | refine ao_callR rfl (h_New _ (by omega) (by omega)) trivial rfl rfl ?_
    | (show allP _; first | trivial | exact ob1 (fun h => h) | exact ob2 (fun h => h) (fun h => h) | exact ob1 (fun h => ⟨h.1, trivial⟩) | (simp only [allP, obg, grd, allT, InR, decide_eq_true_eq, Bool.and_eq_true, Bool.not_eq_true', decide_eq_false_iff_not, List.nil_append, List.cons_append, List.append_nil, and_true, true_and]; first | omega | (intros; omega) | (simp only [Blk.len, List.length_set, List.length_append, List.length_cons, List.length_nil]; first | omega | (intros; omega)) | (refine ⟨?_, ?_⟩ <;> intros <;> first | (with_reducible assumption) | omega) | ((repeat' refine And.intro ?_ ?_) <;> (intros; first | (with_reducible assumption) | omega | (simp only [Blk.len, List.length_set, List.length_append, List.length_cons, List.length_nil]; omega))) | ((try simp only [Bool.or_eq_true, Bool.or_eq_false_iff, Bool.and_eq_true, Bool.and_eq_false_iff, decide_eq_true_eq, decide_eq_false_iff_not, Bool.not_eq_true', Bool.not_eq_false'] at *); (try simp only [Blk.len] at *); first | omega | (intros; omega)) | (simp_all; done))))
  · rw [show (Int.toNat (i : Int)) = i from rfl]
    refine ⟨(p.set i (-1), i + 1), ⟨by simpa using hp, by simp only; omega, fun j hj' => ?_⟩, by simp only; omega, ?_⟩
    · simp only at hj' ⊢
      rw [getD_set]
      split
      · rfl
      · exact hj j (by omega)
    · refine weak_to ?_ ?_ rfl rfl
      · repeat (first | exact subF_nil | refine subF_cons (by first | rfl | (simp [look]; done)) ?_)
      · repeat (first | exact subS_nil | refine subS_cons (by first | rfl | (simp; done)) ?_)
  have hpe : p = List.replicate t.nodes.toNat (-1) := by
    refine extD (by simpa using hp) fun j hj' => ?_
    rw [hj j (by omega), List.getD_eq_getElem?_getD, List.getElem?_replicate, if_pos (by omega)]; rfl
  subst hpe
  have hI0 : InvP (List.replicate t.nodes.toNat 0) [] (List.replicate t.nodes.toNat (-1)) := ⟨⟨by simp, by simp, fun k hk => by simp at hk⟩, fun k hk => by simp at hk, fun x hx => .inl (by
    have hx' : x < t.nodes.toNat := by simpa using hx
    rw [List.getD_eq_getElem?_getD, List.getElem?_replicate, if_pos hx']; decide)⟩
  have D0 := DJ.init (down := down) (fr := fr) hv n0 n1
  refine ao_weak (F' := [(54, [], .d (iD n)), (53, [], .ptr 5 0), (12, [], .ptr 5 0), (10, [], .own 2), (7, [], .ptr 1 0), (4, [], .ptr 0 0), (1, [], .d (boolsD down)), (2, [], .d (iD n))])
    (S' := [.cells [.d (iD t.nodes), .d (boolsD t.overload), .d (linksD t.links)], .cells [.d (.fn fa), .d (.fn fe)], .ints .i64 (List.replicate t.nodes.toNat (-1)), .ints .i64 (List.replicate t.nodes.toNat 0), .ints .i64 (List.replicate t.nodes.toNat (-1)), .cells [.nil, .own 3, .own 4]]) ?_ (Nat.le_of_ble_eq_true rfl) ?_
  · refine weak_to ?_ ?_ rfl rfl
    · repeat (first | exact subF_nil | refine subF_cons (by first | rfl | (simp [look]; done)) ?_)
    · repeat (first | exact subS_nil | refine subS_cons (by first | rfl | (simp; done)) ?_)
  refine ao_weak (weak_nilc (hn := 5) (j := 0) (.ints .i64 []) rfl rfl rfl rfl rfl rfl rfl rfl) (Nat.le_of_ble_eq_true rfl) ?_
  repeat' (first
  
    | refine aw_seq ?_
    | refine aw_region ?_
    | refine aw_region_q (by kernel_rfl) (by kernel_rfl) ?_
    | refine aw_block ?_
    | refine ao_nil ?_
    | refine ao_op rfl trivial ?_
    | refine aq_nil ?_
    | refine aq_op rfl trivial ?_
    | refine at_nil ?_
    | refine at_op rfl trivial ?_
    | refine am_nil ?_
    | refine am_op rfl trivial rfl ?_
    | refine aw_skip ?_
    | refine aw_condT rfl trivial ?_
    | refine aw_condF rfl trivial ?_
    | refine aw_condD rfl trivial (fun hc => ?_) (fun hc => ?_)
    | refine aw_condN rfl trivial (fun hc => ?_) (fun hc => ?_)
    | refine aw_condNB rfl trivial (fun hc => ?_) (fun hc => ?_)
    | refine aw_cond rfl trivial (fun hc => ?_) (fun hc => ?_)
    | refine aw_ret ?_
    | refine aw_exit ?_
    | refine ao_op rfl ?_ ?_
    | refine aq_op rfl ?_ ?_
    | refine at_op rfl ?_ ?_
    | refine am_op rfl ?_ rfl ?_
    | refine ao_box rfl trivial rfl rfl rfl ?_
    | refine ao_alloc rfl rfl rfl rfl ?_
    | refine ao_store rfl rfl trivial rfl trivial rfl rfl rfl rfl rfl ?_
    | refine ao_callO rfl (h_Set [] (List.replicate t.nodes.toNat 0) (List.replicate t.nodes.toNat (-1)) n 0 (by simp; omega) (by simp; omega) hI0) [5, 6, 3, 4] trivial rfl rfl rfl rfl rfl rfl (by simp [kinds, Blk.isRow]) (by simp [bflats, bflat, vflats, vflat, D.flat, D.scal, Blk.flat]) rfl rfl rfl rfl rfl rfl ?_
    | (show allP _; first | trivial | exact ob1 (fun h => h) | exact ob2 (fun h => h) (fun h => h) | exact ob1 (fun h => ⟨h.1, trivial⟩) | (simp only [allP, obg, grd, allT, InR, decide_eq_true_eq, Bool.and_eq_true, Bool.not_eq_true', decide_eq_false_iff_not, List.nil_append, List.cons_append, List.append_nil, and_true, true_and]; first | omega | (intros; omega) | (simp only [Blk.len, List.length_set, List.length_append, List.length_cons, List.length_nil]; first | omega | (intros; omega)) | (refine ⟨?_, ?_⟩ <;> intros <;> first | (with_reducible assumption) | omega) | ((repeat' refine And.intro ?_ ?_) <;> (intros; first | (with_reducible assumption) | omega | (simp only [Blk.len, List.length_set, List.length_append, List.length_cons, List.length_nil]; omega))) | ((try simp only [Bool.or_eq_true, Bool.or_eq_false_iff, Bool.and_eq_true, Bool.and_eq_false_iff, decide_eq_true_eq, decide_eq_false_iff_not, Bool.not_eq_true', Bool.not_eq_false'] at *); (try simp only [Blk.len] at *); first | omega | (intros; omega)) | (simp_all; done))))
  generalize setF ⟨[], List.replicate t.nodes.toNat 0, List.replicate t.nodes.toNat (-1)⟩ n.toNat 0 = h0 at *
  refine aw_loop (ι := Int × List Int × Hp) (fun s => [(12, [], .ptr 5 0), (10, [], .own 2), (7, [], .ptr 1 0), (4, [], .ptr 0 0), (1, [], .d (boolsD down)), (2, [], .d (iD n))])
    (fun s => [.cells [.d (iD t.nodes), .d (boolsD t.overload), .d (linksD t.links)], .cells [.d (.fn fa), .d (.fn fe)], .ints .i64 s.2.1, .ints .i64 s.2.2.keys, .ints .i64 s.2.2.places, .cells [.own 6, .own 3, .own 4], .ints .i64 s.2.2.items])
    (fun s => DJ t down n fr s.1 s.2.1 s.2.2 (fun _ => False)) (fun s => s.2.1.length - cntD s.2.1) (0, List.replicate t.nodes.toNat (-1), h0) D0 (fun _ => Nat.le_of_ble_eq_true rfl) (by refine weak_to ?_ ?_ rfl rfl
                                                                                                                                                                                           · repeat (first | exact subF_nil | refine subF_cons (by first | rfl | (simp [look]; done)) ?_)
                                                                                                                                                                                           · repeat (first | exact subS_nil | refine subS_cons (by first | rfl | (simp; done)) ?_)) fun s hs => ?_
  obtain ⟨cur, dist, hp1⟩ := s
  simp only at hs ⊢
  by_cases hlen : hp1.items.length = 0
  · have hI := hs.fin hv n0 n1 hlen
    have hnil : hp1.items = [] := List.length_eq_zero_iff.1 hlen
    rw [hnil]
    repeat' (first
    
      | refine aw_seq ?_
      | refine aw_region ?_
      | refine aw_region_q (by kernel_rfl) (by kernel_rfl) ?_
      | refine aw_block ?_
      | refine ao_nil ?_
      | refine ao_op rfl trivial ?_
      | refine aq_nil ?_
      | refine aq_op rfl trivial ?_
      | refine at_nil ?_
      | refine at_op rfl trivial ?_
      | refine am_nil ?_
      | refine am_op rfl trivial rfl ?_
      | refine aw_skip ?_
      | refine aw_condT rfl trivial ?_
      | refine aw_condF rfl trivial ?_
      | refine aw_condD rfl trivial (fun hc => ?_) (fun hc => ?_)
      | refine aw_condN rfl trivial (fun hc => ?_) (fun hc => ?_)
      | refine aw_condNB rfl trivial (fun hc => ?_) (fun hc => ?_)
      | refine aw_cond rfl trivial (fun hc => ?_) (fun hc => ?_)
      | refine aw_ret ?_
      | refine aw_exit ?_
      | refine ao_op rfl ?_ ?_
      | refine aq_op rfl ?_ ?_
      | refine at_op rfl ?_ ?_
      | refine am_op rfl ?_ rfl ?_
      | refine ao_box rfl trivial rfl rfl rfl ?_
      | refine ao_alloc rfl rfl rfl rfl ?_
      | refine ao_store rfl rfl trivial rfl trivial rfl rfl rfl rfl rfl ?_
      | refine ao_callO rfl (h_Pop0 hp1.keys hp1.places) [5, 6, 3, 4] trivial rfl rfl rfl rfl rfl rfl (by simp [kinds, Blk.isRow]) (by simp [bflats, bflat, vflats, vflat, D.flat, D.scal, Blk.flat]) rfl rfl rfl rfl rfl rfl ?_
      | (show allP _; first | trivial | exact ob1 (fun h => h) | exact ob2 (fun h => h) (fun h => h) | exact ob1 (fun h => ⟨h.1, trivial⟩) | (simp only [allP, obg, grd, allT, InR, decide_eq_true_eq, Bool.and_eq_true, Bool.not_eq_true', decide_eq_false_iff_not, List.nil_append, List.cons_append, List.append_nil, and_true, true_and]; first | omega | (intros; omega) | (simp only [Blk.len, List.length_set, List.length_append, List.length_cons, List.length_nil]; first | omega | (intros; omega)) | (refine ⟨?_, ?_⟩ <;> intros <;> first | (with_reducible assumption) | omega) | ((repeat' refine And.intro ?_ ?_) <;> (intros; first | (with_reducible assumption) | omega | (simp only [Blk.len, List.length_set, List.length_append, List.length_cons, List.length_nil]; omega))) | ((try simp only [Bool.or_eq_true, Bool.or_eq_false_iff, Bool.and_eq_true, Bool.and_eq_false_iff, decide_eq_true_eq, decide_eq_false_iff_not, Bool.not_eq_true', Bool.not_eq_false'] at *); (try simp only [Blk.len] at *); first | omega | (intros; omega)) | (simp_all; done))))
    refine fin_ret ?_
    exact retOwn2 rfl rfl (by simp only [distL, herr, if_true]; rw [hI.eq hv]) (by rw [herr]) trivial rfl
  obtain ⟨y, y1, y0, yn, yd, yk, yk2, H, hc1, hc2⟩ := hs.pop hv n0 (by omega)
  have hl := hs.len
  have hkl := hs.klen
  have hPop : CtrO Try.prog 44 [.ptr 0 0] (hpS hp1.items hp1.keys hp1.places) (hpS (popF hp1).items (popF hp1).keys (popF hp1).places) (.tup [iV y, iV (gI hp1.keys y), .d (bD true)]) := by
    have := h_Pop hp1.items hp1.keys hp1.places (by omega) hs.hi.inv.ok
    rw [y1] at this
    rw [(pop_HI hs.hi (by omega)).2.1]
    exact this
  clear hI0 D0 hp hj hc hi
  generalize popF hp1 = h2 at *
  generalize gI hp1.keys y = k at *
  have hl2 := H.len
  have hkl2 := H.klen
  repeat' (first
  
    | refine aw_seq ?_
    | refine aw_region ?_
    | refine aw_region_q (by kernel_rfl) (by kernel_rfl) ?_
    | refine aw_block ?_
    | refine ao_nil ?_
    | refine ao_op rfl trivial ?_
    | refine aq_nil ?_
    | refine aq_op rfl trivial ?_
    | refine at_nil ?_
    | refine at_op rfl trivial ?_
    | refine am_nil ?_
    | refine am_op rfl trivial rfl ?_
    | refine aw_skip ?_
    | refine aw_condT rfl trivial ?_
    | refine aw_condF rfl trivial ?_
    | refine aw_condD rfl trivial (fun hc => ?_) (fun hc => ?_)
    | refine aw_condN rfl trivial (fun hc => ?_) (fun hc => ?_)
    | refine aw_condNB rfl trivial (fun hc => ?_) (fun hc => ?_)
    | refine aw_cond rfl trivial (fun hc => ?_) (fun hc => ?_)
    | refine aw_ret ?_
    | refine aw_exit ?_
    | refine ao_op rfl ?_ ?_
    | refine aq_op rfl ?_ ?_
    | refine at_op rfl ?_ ?_
    | refine am_op rfl ?_ rfl ?_
    | refine ao_box rfl trivial rfl rfl rfl ?_
    | refine ao_alloc rfl rfl rfl rfl ?_
    | refine ao_store rfl rfl trivial rfl trivial rfl rfl rfl rfl rfl ?_
    | refine ao_store_ep rfl rfl trivial rfl trivial rfl rfl rfl rfl rfl rfl ?_
    | refine ao_call rfl (c_Overloaded _ _) rfl ?_ ?_
    | refine ao_callO rfl (hPop) [5, 6, 3, 4] trivial rfl rfl rfl rfl rfl rfl (by simp [kinds, Blk.isRow]) (by simp [bflats, bflat, vflats, vflat, D.flat, D.scal, Blk.flat]) rfl rfl rfl rfl rfl rfl ?_
    | refine ao_callR rfl (ha _) trivial rfl rfl ?_
    | (show allP _; first | trivial | exact ob1 (fun h => h) | exact ob2 (fun h => h) (fun h => h) | exact ob1 (fun h => ⟨h.1, trivial⟩) | (simp only [allP, obg, grd, allT, InR, decide_eq_true_eq, Bool.and_eq_true, Bool.not_eq_true', decide_eq_false_iff_not, List.nil_append, List.cons_append, List.append_nil, and_true, true_and]; first | omega | (intros; omega) | (simp only [Blk.len, List.length_set, List.length_append, List.length_cons, List.length_nil]; first | omega | (intros; omega)) | (refine ⟨?_, ?_⟩ <;> intros <;> first | (with_reducible assumption) | omega) | ((repeat' refine And.intro ?_ ?_) <;> (intros; first | (with_reducible assumption) | omega | (simp only [Blk.len, List.length_set, List.length_append, List.length_cons, List.length_nil]; omega))) | ((try simp only [Bool.or_eq_true, Bool.or_eq_false_iff, Bool.and_eq_true, Bool.and_eq_false_iff, decide_eq_true_eq, decide_eq_false_iff_not, Bool.not_eq_true', Bool.not_eq_false'] at *); (try simp only [Blk.len] at *); first | omega | (intros; omega)) | (simp_all; done))))
  · simp only [Bool.and_eq_true, Bool.not_eq_true', decide_eq_false_iff_not] at hc
    refine ⟨(k, dist.set y.toNat k, h2), H.over hc.1 hc.2, by simp only; rw [hc2]; simp; omega, ?_⟩
    refine weak_to ?_ ?_ rfl rfl
    · repeat (first | exact subF_nil | refine subF_cons (by first | rfl | (simp [look]; done)) ?_)
    · repeat (first | exact subS_nil | refine subS_cons (by first | rfl | (simp; done)) ?_)
  have htr : y = n ∨ overT t y = false := by
    by_cases hyn : y = n
    · exact .inl hyn
    · right; rw [decide_eq_false hyn] at hc; simpa using hc
  have hset : gI (dist.set y.toNat k) y = k := by rw [gI_set y0 (by omega) y0, if_pos rfl]
  have hdn0 : gI (dist.set y.toNat k) n = 0 := H.n0 y0 yn (by rw [hset]; exact yk)
  clear hPop yd hs hc hkl h0
  generalize hdd : dist.set y.toNat k = dist2 at *
  have hll : (dist.length : Int) = dist2.length := by rw [← hdd]; simp
  refine aw_weak (F' := [(83, [], .d (iD 0)), (82, [], .d (iD (arcsL t y fr).length)), (81, [], .own 7), (14, [], .d (iD y)), (15, [], .d (iD k)), (12, [], .ptr 5 0), (10, [], .own 2), (7, [], .ptr 1 0), (4, [], .ptr 0 0), (1, [], .d (boolsD down)), (2, [], .d (iD n))])
    (S' := [tBlk t, .cells [.d (.fn fa), .d (.fn fe)], .ints .i64 dist2, .ints .i64 h2.keys, .ints .i64 h2.places, .cells [.own 6, .own 3, .own 4], .ints .i64 h2.items, .ints .i64 (arcsL t y fr)]) (by refine weak_to ?_ ?_ rfl rfl
                                                                                                                                                                                                         · repeat (first | exact subF_nil | refine subF_cons (by first | rfl | (simp [look]; done)) ?_)
                                                                                                                                                                                                         · repeat (first | exact subS_nil | refine subS_cons (by first | rfl | (simp; done)) ?_)) (Nat.le_of_ble_eq_true rfl) ?_
  refine s_inner he hf y0 yn yk (by omega) htr hset hdn0 H fun h3 F H3 hF => ?_
  refine ⟨(k, dist2, h3), H3, by simp only; omega, ?_⟩
  exact weak_to hF.2.2 (by (repeat (first | exact subS_nil | refine subS_cons (by first | rfl | rfl) ?_))) rfl rfl

end Go.Proofs.Ytnmajhoehmlcjaa

/- Layer 11: Dist, From. -/
namespace Go.Proofs.Ytnmajhoehmlcjaa
open Go.Wk

theorem c_Dist (t : Topo) (down : List Bool) (d : Int) : Ctr Try.prog 13 [topoD t, boolsD down, iD d] [.ints .i64 (distL t down d false)] (.tup [.own 0, .d (iD (errS t down d))]) := by
  refine spec_of envOK (enters_of Try.func13 (by kernel_rfl) (by kernel_rfl)) Try.func13 rfl rfl _ rfl (Nat.le_of_ble_eq_true rfl) rfl fun w0 => ?_
  repeat' (first
  
    | refine aw_seq ?_
    | refine aw_region ?_
    | refine aw_region_q (by kernel_rfl) (by kernel_rfl) ?_
    | refine aw_block ?_
    | refine ao_nil ?_
    | refine ao_op rfl trivial ?_
    | refine aq_nil ?_
    | refine aq_op rfl trivial ?_
    | refine at_nil ?_
    | refine at_op rfl trivial ?_
    | refine am_nil ?_
    | refine am_op rfl trivial rfl ?_
    | refine aw_skip ?_
    | refine aw_condT rfl trivial ?_
    | refine aw_condF rfl trivial ?_
    | refine aw_condD rfl trivial (fun hc => ?_) (fun hc => ?_)
    | refine aw_condN rfl trivial (fun hc => ?_) (fun hc => ?_)
    | refine aw_condNB rfl trivial (fun hc => ?_) (fun hc => ?_)
    | refine aw_cond rfl trivial (fun hc => ?_) (fun hc => ?_)
    | refine aw_ret ?_
    | refine aw_exit ?_
    | refine ao_op rfl ?_ ?_
    | refine aq_op rfl ?_ ?_
    | refine at_op rfl ?_ ?_
    | refine am_op rfl ?_ rfl ?_
    | refine ao_box rfl trivial rfl rfl rfl ?_
    | refine ao_alloc rfl rfl rfl rfl ?_
    | refine ao_store rfl rfl trivial rfl trivial rfl rfl rfl rfl rfl ?_
    | refine ao_callR rfl (c_search t down d false 27 28 (fun y => c_In t y) (fun a => c_Tail t a)) trivial rfl rfl ?_
    | (show allP _; first | trivial | exact ob1 (fun h => h) | exact ob2 (fun h => h) (fun h => h) | exact ob1 (fun h => ⟨h.1, trivial⟩) | (simp only [allP, obg, grd, allT, InR, decide_eq_true_eq, Bool.and_eq_true, Bool.not_eq_true', decide_eq_false_iff_not, List.nil_append, List.cons_append, List.append_nil, and_true, true_and]; first | omega | (intros; omega) | (simp only [Blk.len, List.length_set, List.length_append, List.length_cons, List.length_nil]; first | omega | (intros; omega)) | (refine ⟨?_, ?_⟩ <;> intros <;> first | (with_reducible assumption) | omega) | ((repeat' refine And.intro ?_ ?_) <;> (intros; first | (with_reducible assumption) | omega | (simp only [Blk.len, List.length_set, List.length_append, List.length_cons, List.length_nil]; omega))) | ((try simp only [Bool.or_eq_true, Bool.or_eq_false_iff, Bool.and_eq_true, Bool.and_eq_false_iff, decide_eq_true_eq, decide_eq_false_iff_not, Bool.not_eq_true', Bool.not_eq_false'] at *); (try simp only [Blk.len] at *); first | omega | (intros; omega)) | (simp_all; done))))
  refine fin_ret ?_; exact retOwn2 rfl rfl rfl rfl trivial rfl
theorem c_From (t : Topo) (down : List Bool) (s : Int) : Ctr Try.prog 23 [topoD t, boolsD down, iD s] [.ints .i64 (distL t down s true)] (.tup [.own 0, .d (iD (errS t down s))]) := by
  refine spec_of envOK (enters_of Try.func23 (by kernel_rfl) (by kernel_rfl)) Try.func23 rfl rfl _ rfl (Nat.le_of_ble_eq_true rfl) rfl fun w0 => ?_
  repeat' (first
  
    | refine aw_seq ?_
    | refine aw_region ?_
    | refine aw_region_q (by kernel_rfl) (by kernel_rfl) ?_
    | refine aw_block ?_
    | refine ao_nil ?_
    | refine ao_op rfl trivial ?_
    | refine aq_nil ?_
    | refine aq_op rfl trivial ?_
    | refine at_nil ?_
    | refine at_op rfl trivial ?_
    | refine am_nil ?_
    | refine am_op rfl trivial rfl ?_
    | refine aw_skip ?_
    | refine aw_condT rfl trivial ?_
    | refine aw_condF rfl trivial ?_
    | refine aw_condD rfl trivial (fun hc => ?_) (fun hc => ?_)
    | refine aw_condN rfl trivial (fun hc => ?_) (fun hc => ?_)
    | refine aw_condNB rfl trivial (fun hc => ?_) (fun hc => ?_)
    | refine aw_cond rfl trivial (fun hc => ?_) (fun hc => ?_)
    | refine aw_ret ?_
    | refine aw_exit ?_
    | refine ao_op rfl ?_ ?_
    | refine aq_op rfl ?_ ?_
    | refine at_op rfl ?_ ?_
    | refine am_op rfl ?_ rfl ?_
    | refine ao_box rfl trivial rfl rfl rfl ?_
    | refine ao_alloc rfl rfl rfl rfl ?_
    | refine ao_store rfl rfl trivial rfl trivial rfl rfl rfl rfl rfl ?_
    | refine ao_callR rfl (c_search t down s true 30 31 (fun y => c_Out t y) (fun a => c_Head t a)) trivial rfl rfl ?_
    | (show allP _; first | trivial | exact ob1 (fun h => h) | exact ob2 (fun h => h) (fun h => h) | exact ob1 (fun h => ⟨h.1, trivial⟩) | (simp only [allP, obg, grd, allT, InR, decide_eq_true_eq, Bool.and_eq_true, Bool.not_eq_true', decide_eq_false_iff_not, List.nil_append, List.cons_append, List.append_nil, and_true, true_and]; first | omega | (intros; omega) | (simp only [Blk.len, List.length_set, List.length_append, List.length_cons, List.length_nil]; first | omega | (intros; omega)) | (refine ⟨?_, ?_⟩ <;> intros <;> first | (with_reducible assumption) | omega) | ((repeat' refine And.intro ?_ ?_) <;> (intros; first | (with_reducible assumption) | omega | (simp only [Blk.len, List.length_set, List.length_append, List.length_cons, List.length_nil]; omega))) | ((try simp only [Bool.or_eq_true, Bool.or_eq_false_iff, Bool.and_eq_true, Bool.and_eq_false_iff, decide_eq_true_eq, decide_eq_false_iff_not, Bool.not_eq_true', Bool.not_eq_false'] at *); (try simp only [Blk.len] at *); first | omega | (intros; omega)) | (simp_all; done))))
  refine fin_ret ?_; exact retOwn2 rfl rfl rfl rfl trivial rfl
end Go.Proofs.Ytnmajhoehmlcjaa

/- Layer 11: Path: the arcs of a node. -/
namespace Go.Proofs.Ytnmajhoehmlcjaa
open Go.Wk

set_option maxHeartbeats 4000000 in
theorem p_inner {Q : Exit → Fr → List Blk → Prop} {w0 : World} {t : Topo} {down : List Bool} {d n : Int} {l acc : List Int} (hf : fitsB t down = true) (hl : IsDist t down d false l) (hbd : ∀ i : Int, 0 ≤ i → i < t.nodes → gI l i ≤ 65535 * 64) (h0 : 0 ≤ n) (h1 : n < t.nodes) (hn : 0 ≤ gI l n) (hnd : n ≠ d) (hacc : acc.length ≤ 10000000)
    (hQ : ∀ a F S, nextP t down d l n = some a → subF F [(13, [], .d (iD (headT t a))), (12, [], .own 2), (10, [], .own 1), (4, [], .ptr 0 0), (1, [], .d (boolsD down)), (3, [], .d (iD d))] →
      subS S [tBlk t, .ints .i64 l, .ints .i64 (acc ++ [a])] → Q (.exit 3) F S) :
    AW Try.prog env (Base.of w0) Try.f16.ntmps (loopC Try.f16 12) Q
      [(51, [], .d (iD 0)), (50, [], .d (iD (arcsL t n true).length)), (49, [], .own 3), (13, [], .d (iD n)), (12, [], .own 2), (10, [], .own 1), (4, [], .ptr 0 0), (1, [], .d (boolsD down)), (3, [], .d (iD d))]
      [tBlk t, .ints .i64 l, .ints .i64 acc, .ints .i64 (arcsL t n true)] := by
  have hv := fitsB_v hf
  have hnn := validB_head hv
  have hll := arcsL_len hv n true
  have hl2 := hl.len
  refine aw_loop (ι := Nat) (fun j => [(51, [], .d (iD j)), (50, [], .d (iD (arcsL t n true).length)), (49, [], .own 3), (13, [], .d (iD n)), (12, [], .own 2), (10, [], .own 1), (4, [], .ptr 0 0), (1, [], .d (boolsD down)), (3, [], .d (iD d))])
    (fun j => [tBlk t, .ints .i64 l, .ints .i64 acc, .ints .i64 (arcsL t n true)])
    (fun j => j ≤ (arcsL t n true).length ∧ ∀ i, i < j → onP t down d l n ((arcsL t n true).getD i 0) = false) (fun j => (arcsL t n true).length - j) 0 ⟨by simp, fun i hi => by omega⟩ (fun _ => Nat.le_of_ble_eq_true rfl) (by refine weak_to ?_ ?_ rfl rfl
                                                                                                                                                                                                                                 · repeat (first | exact subF_nil | refine subF_cons (by first | rfl | (simp [look]; done)) ?_)
                                                                                                                                                                                                                                 · repeat (first | exact subS_nil | refine subS_cons (by first | rfl | (simp; done)) ?_)) fun j hj => ?_
  obtain ⟨hj, hno⟩ := hj
  by_cases hjl : j < (arcsL t n true).length
  · obtain ⟨a0, a1, a2⟩ := (mem_arcsL hv).1 (getD_mem (d := 0) hjl)
    have hb := arc_ok hv a0 a1
    have hup : down.length = 0 ∨ 0 ≤ (arcsL t n true).getD j 0 ∧ (arcsL t n true).getD j 0 < down.length := by
      simp only [fitsB, Bool.and_eq_true, Bool.or_eq_true, decide_eq_true_eq] at hf
      omega
    have hx : 0 ≤ headT t ((arcsL t n true).getD (Int.toNat (j : Int)) 0) ∧ headT t ((arcsL t n true).getD (Int.toNat (j : Int)) 0) < l.length := by
      rw [show Int.toNat (j : Int) = j from rfl]; omega
    have hbx : l.getD (headT t ((arcsL t n true).getD (Int.toNat (j : Int)) 0)).toNat 0 ≤ 65535 * 64 := hbd _ hx.1 (by omega)
    have hbs : -1 ≤ l.getD (headT t ((arcsL t n true).getD (Int.toNat (j : Int)) 0)).toNat 0 := by
      have := hl.sign _ hx.1 (by omega)
      simp only [gI] at this; omega
    have hc1 : 1 ≤ costT t ((arcsL t n true).getD (Int.toNat (j : Int)) 0) ∧ costT t ((arcsL t n true).getD (Int.toNat (j : Int)) 0) ≤ 65535 := hb.2.2.2.2.2
    repeat' (first
    
      | refine aw_seq ?_
      | refine aw_region ?_
      | refine aw_region_q (by kernel_rfl) (by kernel_rfl) ?_
      | refine aw_block ?_
      | refine ao_nil ?_
      | refine ao_op rfl trivial ?_
      | refine aq_nil ?_
      | refine aq_op rfl trivial ?_
      | refine at_nil ?_
      | refine at_op rfl trivial ?_
      | refine am_nil ?_
      | refine am_op rfl trivial rfl ?_
      | refine aw_skip ?_
      | refine aw_condT rfl trivial ?_
      | refine aw_condF rfl trivial ?_
      | refine aw_condD rfl trivial (fun hc => ?_) (fun hc => ?_)
      | refine aw_condN rfl trivial (fun hc => ?_) (fun hc => ?_)
      | refine aw_condNB rfl trivial (fun hc => ?_) (fun hc => ?_)
      | refine aw_cond rfl trivial (fun hc => ?_) (fun hc => ?_)
      | refine aw_ret ?_
      | refine aw_exit ?_
      | refine ao_op rfl ?_ ?_
      | refine aq_op rfl ?_ ?_
      | refine at_op rfl ?_ ?_
      | refine am_op rfl ?_ rfl ?_
      | refine ao_box rfl trivial rfl rfl rfl ?_
      | refine ao_alloc rfl rfl rfl rfl ?_
      | refine ao_store rfl rfl trivial rfl trivial rfl rfl rfl rfl rfl ?_
      | (first | refine ao_call rfl (c_Head _ _) rfl ?_ ?_ | refine aq_call rfl (c_Head _ _) rfl ?_ ?_)
      | (first | refine ao_call rfl (c_up down _ hup) rfl ?_ ?_ | refine aq_call rfl (c_up down _ hup) rfl ?_ ?_)
      | (first | refine ao_call rfl (c_Cost _ _) rfl ?_ ?_ | refine aq_call rfl (c_Cost _ _) rfl ?_ ?_)
      | (first | refine ao_call rfl (c_Overloaded _ _) rfl ?_ ?_ | refine aq_call rfl (c_Overloaded _ _) rfl ?_ ?_)
      | refine ao_lit rfl rfl rfl rfl trivial rfl rfl rfl rfl rfl rfl ?_
      | refine ao_app rfl rfl rfl rfl trivial rfl trivial rfl rfl trivial rfl rfl rfl rfl rfl (by simp [Blk.len]; omega) rfl rfl rfl ?_
      | (show allP _; first | trivial | exact ob1 (fun h => h) | exact ob2 (fun h => h) (fun h => h) | exact ob1 (fun h => ⟨h.1, trivial⟩) | (simp only [allP, obg, grd, allT, InR, decide_eq_true_eq, Bool.and_eq_true, Bool.not_eq_true', decide_eq_false_iff_not, List.nil_append, List.cons_append, List.append_nil, and_true, true_and]; first | omega | (intros; omega) | (simp only [Blk.len, List.length_set, List.length_append, List.length_cons, List.length_nil]; first | omega | (intros; omega)) | (refine ⟨?_, ?_⟩ <;> intros <;> first | (with_reducible assumption) | omega) | ((repeat' refine And.intro ?_ ?_) <;> (intros; first | (with_reducible assumption) | omega | (simp only [Blk.len, List.length_set, List.length_append, List.length_cons, List.length_nil]; omega))) | ((try simp only [Bool.or_eq_true, Bool.or_eq_false_iff, Bool.and_eq_true, Bool.and_eq_false_iff, decide_eq_true_eq, decide_eq_false_iff_not, Bool.not_eq_true', Bool.not_eq_false'] at *); (try simp only [Blk.len] at *); first | omega | (intros; omega)) | (simp_all; done))))
    · have hon : onP t down d l n ((arcsL t n true).getD j 0) = true := by
        refine Eq.trans ?_ hc
        simp only [onP, gI, Bool.and_assoc, Int.toNat_natCast]
      exact hQ _ _ _ (nextP_at hjl hno hon) (by repeat (first | exact subF_nil | refine subF_cons rfl ?_)) (by (repeat (first | exact subS_nil | refine subS_cons (by first | rfl | rfl) ?_)))
    · have hon : onP t down d l n ((arcsL t n true).getD j 0) = false := by
        refine Eq.trans ?_ hc
        simp only [onP, gI, Bool.and_assoc, Int.toNat_natCast]
      refine ⟨j + 1, ⟨by omega, fun i hi => ?_⟩, by omega, ?_⟩
      · rcases Nat.lt_succ_iff_lt_or_eq.1 hi with h | rfl
        · exact hno i h
        · exact hon
      · refine weak_to ?_ ?_ rfl rfl
        · repeat (first | exact subF_nil | refine subF_cons (by first | rfl | (simp [look]; done)) ?_)
        · repeat (first | exact subS_nil | refine subS_cons (by first | rfl | (simp; done)) ?_)
    · exfalso; omega
  · repeat' (first
    
      | refine aw_seq ?_
      | refine aw_region ?_
      | refine aw_region_q (by kernel_rfl) (by kernel_rfl) ?_
      | refine aw_block ?_
      | refine ao_nil ?_
      | refine ao_op rfl trivial ?_
      | refine aq_nil ?_
      | refine aq_op rfl trivial ?_
      | refine at_nil ?_
      | refine at_op rfl trivial ?_
      | refine am_nil ?_
      | refine am_op rfl trivial rfl ?_
      | refine aw_skip ?_
      | refine aw_condT rfl trivial ?_
      | refine aw_condF rfl trivial ?_
      | refine aw_condD rfl trivial (fun hc => ?_) (fun hc => ?_)
      | refine aw_condN rfl trivial (fun hc => ?_) (fun hc => ?_)
      | refine aw_condNB rfl trivial (fun hc => ?_) (fun hc => ?_)
      | refine aw_cond rfl trivial (fun hc => ?_) (fun hc => ?_)
      | refine aw_ret ?_
      | refine aw_exit ?_
      | refine ao_op rfl ?_ ?_
      | refine aq_op rfl ?_ ?_
      | refine at_op rfl ?_ ?_
      | refine am_op rfl ?_ rfl ?_
      | refine ao_box rfl trivial rfl rfl rfl ?_
      | refine ao_alloc rfl rfl rfl rfl ?_
      | refine ao_store rfl rfl trivial rfl trivial rfl rfl rfl rfl rfl ?_
      | (exfalso; omega)
      | (show allP _; first | trivial | exact ob1 (fun h => h) | exact ob2 (fun h => h) (fun h => h) | exact ob1 (fun h => ⟨h.1, trivial⟩) | (simp only [allP, obg, grd, allT, InR, decide_eq_true_eq, Bool.and_eq_true, Bool.not_eq_true', decide_eq_false_iff_not, List.nil_append, List.cons_append, List.append_nil, and_true, true_and]; first | omega | (intros; omega) | (simp only [Blk.len, List.length_set, List.length_append, List.length_cons, List.length_nil]; first | omega | (intros; omega)) | (refine ⟨?_, ?_⟩ <;> intros <;> first | (with_reducible assumption) | omega) | ((repeat' refine And.intro ?_ ?_) <;> (intros; first | (with_reducible assumption) | omega | (simp only [Blk.len, List.length_set, List.length_append, List.length_cons, List.length_nil]; omega))) | ((try simp only [Bool.or_eq_true, Bool.or_eq_false_iff, Bool.and_eq_true, Bool.and_eq_false_iff, decide_eq_true_eq, decide_eq_false_iff_not, Bool.not_eq_true', Bool.not_eq_false'] at *); (try simp only [Blk.len] at *); first | omega | (intros; omega)) | (simp_all; done))))
    exact absurd (nextP_some hv hl h0 h1 hn hnd) (by rw [nextP_no (fun i hi => hno i (by omega))]; rintro ⟨a, h, _⟩; cases h)
end Go.Proofs.Ytnmajhoehmlcjaa

/- Layer 11: Path. -/
namespace Go.Proofs.Ytnmajhoehmlcjaa
open Go.Wk

set_option maxHeartbeats 4000000 in
theorem c_Path (t : Topo) (down : List Bool) (s d : Int) : Ctr Try.prog 16 [topoD t, boolsD down, iD s, iD d] [.ints .i64 (pathL t down s d)] (.tup [.own 0, .d (iD (errP t down s d))]) := by
  refine spec_of envOK (enters_of Try.func16 (by kernel_rfl) (by kernel_rfl)) Try.func16 rfl rfl _ rfl (Nat.le_of_ble_eq_true rfl) rfl fun w0 => ?_
  by_cases he : errS t down d = 0
  · have hl := distL_is (fr := false) he
    have hbd := distL_bnd (fr := false) he
    obtain ⟨hf, d0, d1⟩ := errS_0 he
    have hll := hl.len
    generalize hg : distL t down d false = l at *
    repeat' (first
    
      | refine aw_seq ?_
      | refine aw_region ?_
      | refine aw_region_q (by kernel_rfl) (by kernel_rfl) ?_
      | refine aw_block ?_
      | refine ao_nil ?_
      | refine ao_op rfl trivial ?_
      | refine aq_nil ?_
      | refine aq_op rfl trivial ?_
      | refine at_nil ?_
      | refine at_op rfl trivial ?_
      | refine am_nil ?_
      | refine am_op rfl trivial rfl ?_
      | refine aw_skip ?_
      | refine aw_condT rfl trivial ?_
      | refine aw_condF rfl trivial ?_
      | refine aw_condD rfl trivial (fun hc => ?_) (fun hc => ?_)
      | refine aw_condN rfl trivial (fun hc => ?_) (fun hc => ?_)
      | refine aw_condNB rfl trivial (fun hc => ?_) (fun hc => ?_)
      | refine aw_cond rfl trivial (fun hc => ?_) (fun hc => ?_)
      | refine aw_ret ?_
      | refine aw_exit ?_
      | refine ao_op rfl ?_ ?_
      | refine aq_op rfl ?_ ?_
      | refine at_op rfl ?_ ?_
      | refine am_op rfl ?_ rfl ?_
      | refine ao_box rfl trivial rfl rfl rfl ?_
      | refine ao_alloc rfl rfl rfl rfl ?_
      | refine ao_store rfl rfl trivial rfl trivial rfl rfl rfl rfl rfl ?_
      | refine ao_callR rfl ((hg ▸ c_Dist t down d)) trivial rfl rfl ?_
      | (show allP _; first | trivial | exact ob1 (fun h => h) | exact ob2 (fun h => h) (fun h => h) | exact ob1 (fun h => ⟨h.1, trivial⟩) | (simp only [allP, obg, grd, allT, InR, decide_eq_true_eq, Bool.and_eq_true, Bool.not_eq_true', decide_eq_false_iff_not, List.nil_append, List.cons_append, List.append_nil, and_true, true_and]; first | omega | (intros; omega) | (simp only [Blk.len, List.length_set, List.length_append, List.length_cons, List.length_nil]; first | omega | (intros; omega)) | (refine ⟨?_, ?_⟩ <;> intros <;> first | (with_reducible assumption) | omega) | ((repeat' refine And.intro ?_ ?_) <;> (intros; first | (with_reducible assumption) | omega | (simp only [Blk.len, List.length_set, List.length_append, List.length_cons, List.length_nil]; omega))) | ((try simp only [Bool.or_eq_true, Bool.or_eq_false_iff, Bool.and_eq_true, Bool.and_eq_false_iff, decide_eq_true_eq, decide_eq_false_iff_not, Bool.not_eq_true', Bool.not_eq_false'] at *); (try simp only [Blk.len] at *); first | omega | (intros; omega)) | (simp_all; done))))
    · exact absurd he hc
    · refine fin_ret ?_
      have e : errP t down s d = 2 := by unfold errP; rw [if_pos he, hc]; rfl
      exact retNil2 rfl (by simp [pathL, e, Blk.len]) (by rw [e]) trivial rfl
    · rename_i hs
      refine fin_ret ?_
      have e : errP t down s d = 11 := by unfold errP; rw [if_pos he, hs, hg, if_pos hc]; rfl
      exact retNil2 rfl (by simp [pathL, e, Blk.len]) (by rw [e]) trivial rfl
    rename_i hs
    have e : errP t down s d = 0 := by unfold errP; rw [if_pos he, hs, hg, if_neg hc]; rfl
    obtain ⟨_, s0, s1, sn⟩ := errP_0 e
    rw [hg] at sn
    have hv := fitsB_v hf
    have hnn := validB_head hv
    refine aw_weak (F' := [(13, [], .d (iD s)), (12, [], .nil), (10, [], .own 1), (4, [], .ptr 0 0), (1, [], .d (boolsD down)), (3, [], .d (iD d))]) (S' := [tBlk t, .ints .i64 l]) (by refine weak_to ?_ ?_ rfl rfl
                                                                                                                                                                                        · repeat (first | exact subF_nil | refine subF_cons (by first | rfl | (simp [look]; done)) ?_)
                                                                                                                                                                                        · repeat (first | exact subS_nil | refine subS_cons (by first | rfl | (simp; done)) ?_)) (Nat.le_of_ble_eq_true rfl) ?_
    refine aw_weak (weak_nil (t := 12) (.ints .i64 []) rfl rfl rfl rfl rfl) (Nat.le_of_ble_eq_true rfl) ?_
    refine aw_loop (ι := Int × List Int) (fun x => [(13, [], .d (iD x.1)), (12, [], .own 2), (10, [], .own 1), (4, [], .ptr 0 0), (1, [], .d (boolsD down)), (3, [], .d (iD d))]) (fun x => [tBlk t, .ints .i64 l, .ints .i64 x.2])
      (fun x => 0 ≤ x.1 ∧ x.1 < t.nodes ∧ 0 ≤ gI l x.1 ∧ x.2 ++ pathF t down d l x.1 = pathF t down d l s ∧ x.2.length + gI l x.1 ≤ gI l s) (fun x => (gI l x.1).toNat) (s, []) ⟨s0, s1, sn, by simp, by simp⟩ (fun _ => Nat.le_of_ble_eq_true rfl) (by refine weak_to ?_ ?_ rfl rfl
                                                                                                                                                                                                                                                        · repeat (first | exact subF_nil | refine subF_cons (by first | rfl | (simp [look]; done)) ?_)
                                                                                                                                                                                                                                                        · repeat (first | exact subS_nil | refine subS_cons (by first | rfl | (simp; done)) ?_)) fun x hx => ?_
    obtain ⟨n, acc⟩ := x
    obtain ⟨n0, n1, nn, hacc, hlen⟩ := hx
    simp only at n0 n1 nn hacc hlen ⊢
    have hbs := hbd s s0 s1
    by_cases hnd : n = d
    · repeat' (first
      
        | refine aw_seq ?_
        | refine aw_region ?_
        | refine aw_region_q (by kernel_rfl) (by kernel_rfl) ?_
        | refine aw_block ?_
        | refine ao_nil ?_
        | refine ao_op rfl trivial ?_
        | refine aq_nil ?_
        | refine aq_op rfl trivial ?_
        | refine at_nil ?_
        | refine at_op rfl trivial ?_
        | refine am_nil ?_
        | refine am_op rfl trivial rfl ?_
        | refine aw_skip ?_
        | refine aw_condT rfl trivial ?_
        | refine aw_condF rfl trivial ?_
        | refine aw_condD rfl trivial (fun hc => ?_) (fun hc => ?_)
        | refine aw_condN rfl trivial (fun hc => ?_) (fun hc => ?_)
        | refine aw_condNB rfl trivial (fun hc => ?_) (fun hc => ?_)
        | refine aw_cond rfl trivial (fun hc => ?_) (fun hc => ?_)
        | refine aw_ret ?_
        | refine aw_exit ?_
        | refine ao_op rfl ?_ ?_
        | refine aq_op rfl ?_ ?_
        | refine at_op rfl ?_ ?_
        | refine am_op rfl ?_ rfl ?_
        | refine ao_box rfl trivial rfl rfl rfl ?_
        | refine ao_alloc rfl rfl rfl rfl ?_
        | refine ao_store rfl rfl trivial rfl trivial rfl rfl rfl rfl rfl ?_
      
        | (show allP _; first | trivial | exact ob1 (fun h => h) | exact ob2 (fun h => h) (fun h => h) | exact ob1 (fun h => ⟨h.1, trivial⟩) | (simp only [allP, obg, grd, allT, InR, decide_eq_true_eq, Bool.and_eq_true, Bool.not_eq_true', decide_eq_false_iff_not, List.nil_append, List.cons_append, List.append_nil, and_true, true_and]; first | omega | (intros; omega) | (simp only [Blk.len, List.length_set, List.length_append, List.length_cons, List.length_nil]; first | omega | (intros; omega)) | (refine ⟨?_, ?_⟩ <;> intros <;> first | (with_reducible assumption) | omega) | ((repeat' refine And.intro ?_ ?_) <;> (intros; first | (with_reducible assumption) | omega | (simp only [Blk.len, List.length_set, List.length_append, List.length_cons, List.length_nil]; omega))) | ((try simp only [Bool.or_eq_true, Bool.or_eq_false_iff, Bool.and_eq_true, Bool.and_eq_false_iff, decide_eq_true_eq, decide_eq_false_iff_not, Bool.not_eq_true', Bool.not_eq_false'] at *); (try simp only [Blk.len] at *); first | omega | (intros; omega)) | (simp_all; done))))
      all_goals try (exfalso; omega)
      refine fin_ret ?_
      rw [hnd, pathF_end, List.append_nil] at hacc
      exact retOwn2 rfl rfl (by rw [hacc]; simp only [pathL, e, if_true, hg]) (by rw [e]) trivial rfl
    · repeat' (first
      
        | refine aw_seq ?_
        | refine aw_region ?_
        | refine aw_region_q (by kernel_rfl) (by kernel_rfl) ?_
        | refine aw_block ?_
        | refine ao_nil ?_
        | refine ao_op rfl trivial ?_
        | refine aq_nil ?_
        | refine aq_op rfl trivial ?_
        | refine at_nil ?_
        | refine at_op rfl trivial ?_
        | refine am_nil ?_
        | refine am_op rfl trivial rfl ?_
        | refine aw_skip ?_
        | refine aw_condT rfl trivial ?_
        | refine aw_condF rfl trivial ?_
        | refine aw_condD rfl trivial (fun hc => ?_) (fun hc => ?_)
        | refine aw_condN rfl trivial (fun hc => ?_) (fun hc => ?_)
        | refine aw_condNB rfl trivial (fun hc => ?_) (fun hc => ?_)
        | refine aw_cond rfl trivial (fun hc => ?_) (fun hc => ?_)
        | refine aw_ret ?_
        | refine aw_exit ?_
        | refine ao_op rfl ?_ ?_
        | refine aq_op rfl ?_ ?_
        | refine at_op rfl ?_ ?_
        | refine am_op rfl ?_ rfl ?_
        | refine ao_box rfl trivial rfl rfl rfl ?_
        | refine ao_alloc rfl rfl rfl rfl ?_
        | refine ao_store rfl rfl trivial rfl trivial rfl rfl rfl rfl rfl ?_
        | refine ao_callR rfl (c_Out t n) trivial rfl rfl ?_
        | (show allP _; first | trivial | exact ob1 (fun h => h) | exact ob2 (fun h => h) (fun h => h) | exact ob1 (fun h => ⟨h.1, trivial⟩) | (simp only [allP, obg, grd, allT, InR, decide_eq_true_eq, Bool.and_eq_true, Bool.not_eq_true', decide_eq_false_iff_not, List.nil_append, List.cons_append, List.append_nil, and_true, true_and]; first | omega | (intros; omega) | (simp only [Blk.len, List.length_set, List.length_append, List.length_cons, List.length_nil]; first | omega | (intros; omega)) | (refine ⟨?_, ?_⟩ <;> intros <;> first | (with_reducible assumption) | omega) | ((repeat' refine And.intro ?_ ?_) <;> (intros; first | (with_reducible assumption) | omega | (simp only [Blk.len, List.length_set, List.length_append, List.length_cons, List.length_nil]; omega))) | ((try simp only [Bool.or_eq_true, Bool.or_eq_false_iff, Bool.and_eq_true, Bool.and_eq_false_iff, decide_eq_true_eq, decide_eq_false_iff_not, Bool.not_eq_true', Bool.not_eq_false'] at *); (try simp only [Blk.len] at *); first | omega | (intros; omega)) | (simp_all; done))))
      all_goals try (exfalso; omega)
      refine aw_weak (F' := [(51, [], .d (iD 0)), (50, [], .d (iD (arcsL t n true).length)), (49, [], .own 3), (13, [], .d (iD n)), (12, [], .own 2), (10, [], .own 1), (4, [], .ptr 0 0), (1, [], .d (boolsD down)), (3, [], .d (iD d))])
        (S' := [tBlk t, .ints .i64 l, .ints .i64 acc, .ints .i64 (arcsL t n true)]) (by refine weak_to ?_ ?_ rfl rfl
                                                                                        · repeat (first | exact subF_nil | refine subF_cons (by first | rfl | (simp [look]; done)) ?_)
                                                                                        · repeat (first | exact subS_nil | refine subS_cons (by first | rfl | (simp; done)) ?_)) (Nat.le_of_ble_eq_true rfl) ?_
      refine p_inner hf hl hbd n0 n1 nn hnd (by omega) fun a F S ha hF hS => ?_
      obtain ⟨b, e1, _, _, _, eon, b4, b5, b6, b7⟩ := nextP_some hv hl n0 n1 nn hnd
      rw [ha] at e1; cases e1
      have hon := onP_iff.1 eon
      refine ⟨(headT t a, acc ++ [a]), ⟨b6, b7, b4, ?_, ?_⟩, ?_, ?_⟩
      · rw [← hacc, pathF_step hv hl n0 n1 nn hnd ha]; simp
      · simp only [List.length_append, List.length_cons, List.length_nil]; omega
      · simp only; omega
      · exact weak_to hF hS rfl rfl
  · repeat' (first
    
      | refine aw_seq ?_
      | refine aw_region ?_
      | refine aw_region_q (by kernel_rfl) (by kernel_rfl) ?_
      | refine aw_block ?_
      | refine ao_nil ?_
      | refine ao_op rfl trivial ?_
      | refine aq_nil ?_
      | refine aq_op rfl trivial ?_
      | refine at_nil ?_
      | refine at_op rfl trivial ?_
      | refine am_nil ?_
      | refine am_op rfl trivial rfl ?_
      | refine aw_skip ?_
      | refine aw_condT rfl trivial ?_
      | refine aw_condF rfl trivial ?_
      | refine aw_condD rfl trivial (fun hc => ?_) (fun hc => ?_)
      | refine aw_condN rfl trivial (fun hc => ?_) (fun hc => ?_)
      | refine aw_condNB rfl trivial (fun hc => ?_) (fun hc => ?_)
      | refine aw_cond rfl trivial (fun hc => ?_) (fun hc => ?_)
      | refine aw_ret ?_
      | refine aw_exit ?_
      | refine ao_op rfl ?_ ?_
      | refine aq_op rfl ?_ ?_
      | refine at_op rfl ?_ ?_
      | refine am_op rfl ?_ rfl ?_
      | refine ao_box rfl trivial rfl rfl rfl ?_
      | refine ao_alloc rfl rfl rfl rfl ?_
      | refine ao_store rfl rfl trivial rfl trivial rfl rfl rfl rfl rfl ?_
      | refine ao_callR rfl (c_Dist t down d) trivial rfl rfl ?_
      | (show allP _; first | trivial | exact ob1 (fun h => h) | exact ob2 (fun h => h) (fun h => h) | exact ob1 (fun h => ⟨h.1, trivial⟩) | (simp only [allP, obg, grd, allT, InR, decide_eq_true_eq, Bool.and_eq_true, Bool.not_eq_true', decide_eq_false_iff_not, List.nil_append, List.cons_append, List.append_nil, and_true, true_and]; first | omega | (intros; omega) | (simp only [Blk.len, List.length_set, List.length_append, List.length_cons, List.length_nil]; first | omega | (intros; omega)) | (refine ⟨?_, ?_⟩ <;> intros <;> first | (with_reducible assumption) | omega) | ((repeat' refine And.intro ?_ ?_) <;> (intros; first | (with_reducible assumption) | omega | (simp only [Blk.len, List.length_set, List.length_append, List.length_cons, List.length_nil]; omega))) | ((try simp only [Bool.or_eq_true, Bool.or_eq_false_iff, Bool.and_eq_true, Bool.and_eq_false_iff, decide_eq_true_eq, decide_eq_false_iff_not, Bool.not_eq_true', Bool.not_eq_false'] at *); (try simp only [Blk.len] at *); first | omega | (intros; omega)) | (simp_all; done))))
    · refine fin_ret ?_
      have e : errP t down s d = errS t down d := by unfold errP; rw [if_neg he]
      exact retNil2 rfl (by simp [pathL, e, he, Blk.len]) (by rw [e]) trivial rfl
    all_goals exact absurd (by assumption) he
end Go.Proofs.Ytnmajhoehmlcjaa

/- The search by repeated comparisons, plainly. -/
namespace Go.Proofs.Ytnmajhoehmlcjaa
open Go.Wk

def valB (x : Int) : Nat := if x < 0 then 4194305 else x.toNat
def msr (l : List Int) : Nat := (l.map valB).sum
theorem msr_set {l : List Int} {i : Nat} {v : Int} (hi : i < l.length) : msr (l.set i v) + valB (l.getD i 0) = msr l + valB v := by
  induction l generalizing i with
  | nil => simp at hi
  | cons x r ih =>
    cases i with
    | zero => simp only [List.set_cons_zero, msr, List.map_cons, List.sum_cons, List.getD_cons_zero]; omega
    | succ i =>
      have := ih (i := i) (by simpa using hi)
      simp only [List.set_cons_succ, msr, List.map_cons, List.sum_cons, List.getD_cons_succ] at this ⊢
      omega

structure BF (t : Topo) (down : List Bool) (n : Int) (fr : Bool) (l : List Int) : Prop where
  len : (l.length : Int) = t.nodes
  self : gI l n = 0
  sign : ∀ i : Int, 0 ≤ i → i < t.nodes → gI l i = -1 ∨ 0 ≤ gI l i
  bnd : ∀ i : Int, 0 ≤ i → i < t.nodes → 0 ≤ gI l i → gI l i + 65535 ≤ 65535 * (cntD l : Int)
  ground : ∀ i : Int, 0 ≤ i → i < t.nodes → i ≠ n → 0 ≤ gI l i → ∃ a : Int, 0 ≤ a ∧ a < 2 * t.links.length ∧ okA t down n fr a ∧ farT t fr a = i ∧ 0 ≤ gI l (nearT t fr a) ∧ gI l (nearT t fr a) + costT t a ≤ gI l i

/-- The arc asks for no change. -/
def closed (t : Topo) (down : List Bool) (n : Int) (fr : Bool) (l : List Int) (a : Int) : Prop :=
  okA t down n fr a → 0 ≤ gI l (nearT t fr a) → 0 ≤ gI l (farT t fr a) ∧ gI l (farT t fr a) ≤ gI l (nearT t fr a) + costT t a

section
variable {t : Topo} {down : List Bool} {n : Int} {fr : Bool} {l : List Int}

theorem BF.init (h0 : 0 ≤ n) (h1 : n < t.nodes) : BF t down n fr ((List.replicate t.nodes.toNat (-1)).set n.toNat 0) := by
  have hs : ∀ i : Int, 0 ≤ i → i < t.nodes → gI ((List.replicate t.nodes.toNat (-1)).set n.toNat 0) i = if i = n then 0 else -1 := fun i i0 i1 => by
    rw [gI_set h0 (by simp; omega) i0]
    split
    · rfl
    · exact gI_rep i0 (by omega)
  have hc : cntD ((List.replicate t.nodes.toNat (-1)).set n.toNat 0) = 1 := by
    rw [cntD_set (by simp; omega) (by have := gI_rep (m := t.nodes.toNat) (v := -1) h0 (by omega); simp only [gI] at this; omega) (by omega)]
    simp [cntD, List.countP_replicate]
  refine ⟨by simp; omega, by rw [hs n h0 h1, if_pos rfl], fun i i0 i1 => ?_, fun i i0 i1 hh => ?_, fun i i0 i1 hin hh => ?_⟩
  · rw [hs i i0 i1]; split <;> omega
  · rw [hs i i0 i1] at hh ⊢
    rw [hc]
    split <;> omega
  · rw [hs i i0 i1, if_neg hin] at hh; omega

theorem BF.le (hv : validB t = true) (H : BF t down n fr l) {i : Int} (i0 : 0 ≤ i) (i1 : i < t.nodes) : gI l i ≤ 65535 * 63 := by
  have hnn := validB_head hv
  have hc : cntD l ≤ l.length := List.countP_le_length
  have hl := H.len
  by_cases hi : 0 ≤ gI l i
  · have := H.bnd i i0 i1 hi; omega
  · omega

theorem BF.fin (H : BF t down n fr l) (hc : ∀ a : Int, 0 ≤ a → a < 2 * t.links.length → closed t down n fr l a) : IsDist t down n fr l := by
  refine ⟨H.len, H.self, H.sign, fun a a0 a1 hok hn => hc a a0 a1 hok hn, fun i i0 i1 hin hh => ?_⟩
  obtain ⟨a, a0, a1, a2, a3, a4, a5⟩ := H.ground i i0 i1 hin hh
  have := hc a a0 a1 a2 a4
  rw [a3] at this
  exact ⟨a, a0, a1, a2, a3, a4, by omega⟩

theorem BF.upd (hv : validB t = true) (h0 : 0 ≤ n) (H : BF t down n fr l) {a : Int} (a0 : 0 ≤ a) (a1 : a < 2 * t.links.length) (hok : okA t down n fr a) (hn : 0 ≤ gI l (nearT t fr a))
    (hlt : gI l (farT t fr a) < 0 ∨ gI l (nearT t fr a) + costT t a < gI l (farT t fr a)) :
    BF t down n fr (l.set (farT t fr a).toNat (gI l (nearT t fr a) + costT t a)) ∧ msr (l.set (farT t fr a).toNat (gI l (nearT t fr a) + costT t a)) < msr l := by
  have hl := H.len
  have hnn := validB_head hv
  obtain ⟨b1, b2, b3, b4, b5, b6, b7⟩ := arc_nf hv fr a0 a1
  have hnear := H.bnd _ b1 b2 hn
  have hself := H.self
  have hle := H.le hv b1 b2
  have hfx := H.sign _ b3 b4
  generalize hc : gI l (nearT t fr a) + costT t a = c at *
  generalize hx : farT t fr a = x at *
  have hset : ∀ i : Int, 0 ≤ i → gI (l.set x.toNat c) i = if i = x then c else gI l i := fun i i0 => gI_set b3 (by omega) i0
  have hxn : n ≠ x := fun e => by rw [← e] at hlt; omega
  have hcnt : gI l x < 0 ∧ cntD (l.set x.toNat c) = cntD l + 1 ∨ 0 ≤ gI l x ∧ c < gI l x ∧ cntD (l.set x.toNat c) = cntD l := by
    by_cases hneg : gI l x < 0
    · exact .inl ⟨hneg, cntD_set (by omega) hneg (by omega)⟩
    · refine .inr ⟨by omega, by omega, ?_⟩
      have q1 := cntD_set (l := l.set x.toNat (-1)) (i := x.toNat) (v := c) (by simp; omega) (by rw [getD_set, if_pos ⟨rfl, by omega⟩]; omega) (by omega)
      have q2 := cntD_set (l := l.set x.toNat (-1)) (i := x.toNat) (v := gI l x) (by simp; omega) (by rw [getD_set, if_pos ⟨rfl, by omega⟩]; omega) (by omega)
      rw [List.set_set] at q1 q2
      rw [set_same (l := l) rfl] at q2
      omega
  refine ⟨⟨by simpa using hl, by rw [hset n h0, if_neg hxn]; exact hself, fun i i0 i1 => ?_, fun i i0 i1 hh => ?_, fun i i0 i1 hin hh => ?_⟩, ?_⟩
  · rw [hset i i0]; split
    · right; omega
    · exact H.sign i i0 i1
  · rw [hset i i0] at hh ⊢
    by_cases hi : i = x
    · rw [if_pos hi] at hh ⊢
      rcases hcnt with ⟨_, e⟩ | ⟨q, q2, e⟩
      · rw [e]; omega
      · have := H.bnd x b3 b4 q; rw [e]; omega
    · rw [if_neg hi] at hh ⊢
      have := H.bnd i i0 i1 hh
      rcases hcnt with ⟨_, e⟩ | ⟨_, _, e⟩ <;> rw [e] <;> omega
  · rw [hset i i0] at hh ⊢
    by_cases hi : i = x
    · subst hi
      rw [if_pos rfl]
      exact ⟨a, a0, a1, hok, hx, by rw [hset _ b1, if_neg b5]; exact hn, by rw [hset _ b1, if_neg b5]; omega⟩
    · rw [if_neg hi] at hh ⊢
      obtain ⟨e, e0, e1, e2, e3, e4, e5⟩ := H.ground i i0 i1 hin hh
      have hb := arc_nf hv fr e0 e1
      refine ⟨e, e0, e1, e2, e3, ?_, ?_⟩
      · rw [hset _ hb.1]; split
        · omega
        · exact e4
      · rw [hset _ hb.1]; split
        · rename_i he
          rw [he] at e4 e5
          omega
        · exact e5
  · have hm := msr_set (l := l) (i := x.toNat) (v := c) (by omega)
    have e1 : valB c = c.toNat := if_neg (by omega)
    have e2 : valB (l.getD x.toNat 0) = if gI l x < 0 then 4194305 else (gI l x).toNat := rfl
    rw [e1, e2] at hm
    by_cases hneg : gI l x < 0
    · rw [if_pos hneg] at hm; omega
    · rw [if_neg hneg] at hm; omega

end
end Go.Proofs.Ytnmajhoehmlcjaa

/- The reference of layer 11. -/
namespace Go.Proofs.Ytnmajhoehmlcjaa
open Go.Wk

theorem r_Fits (t : Topo) (down : List Bool) : Ctr Try.prog 18 [topoD t, boolsD down] [] (.d (bD (fitsB t down))) := by
  refine spec_of envOK (enters_of Try.func18 (by kernel_rfl) (by kernel_rfl)) Try.func18 rfl rfl _ rfl (Nat.le_of_ble_eq_true rfl) rfl fun w0 => ?_
  have hl : validB t = false ∨ t.links.length ≤ 256 := by
    cases hv : validB t with
    | false => exact .inl rfl
    | true => exact .inr (validB_head hv).2.2.1
  rcases hl with hl | hl
  · repeat' (first
    
      | refine aw_seq ?_
      | refine aw_region ?_
      | refine aw_region_q (by kernel_rfl) (by kernel_rfl) ?_
      | refine aw_block ?_
      | refine ao_nil ?_
      | refine ao_op rfl trivial ?_
      | refine aq_nil ?_
      | refine aq_op rfl trivial ?_
      | refine at_nil ?_
      | refine at_op rfl trivial ?_
      | refine am_nil ?_
      | refine am_op rfl trivial rfl ?_
      | refine aw_skip ?_
      | refine aw_condT rfl trivial ?_
      | refine aw_condF rfl trivial ?_
      | refine aw_condD rfl trivial (fun hc => ?_) (fun hc => ?_)
      | refine aw_condN rfl trivial (fun hc => ?_) (fun hc => ?_)
      | refine aw_condNB rfl trivial (fun hc => ?_) (fun hc => ?_)
      | refine aw_cond rfl trivial (fun hc => ?_) (fun hc => ?_)
      | refine aw_ret ?_
      | refine aw_exit ?_
      | refine ao_op rfl ?_ ?_
      | refine aq_op rfl ?_ ?_
      | refine at_op rfl ?_ ?_
      | refine am_op rfl ?_ rfl ?_
      | refine ao_box rfl trivial rfl rfl rfl ?_
      | refine ao_alloc rfl rfl rfl rfl ?_
      | refine ao_store rfl rfl trivial rfl trivial rfl rfl rfl rfl rfl ?_
      | (first | refine ao_call rfl (r_Valid _) rfl ?_ ?_ | refine aq_call rfl (r_Valid _) rfl ?_ ?_)
      | (show allP _; first | trivial | exact ob1 (fun h => h) | exact ob2 (fun h => h) (fun h => h) | exact ob1 (fun h => ⟨h.1, trivial⟩) | (simp only [allP, obg, grd, allT, InR, decide_eq_true_eq, Bool.and_eq_true, Bool.not_eq_true', decide_eq_false_iff_not, List.nil_append, List.cons_append, List.append_nil, and_true, true_and]; first | omega | (intros; omega) | (simp only [Blk.len, List.length_set, List.length_append, List.length_cons, List.length_nil]; first | omega | (intros; omega)) | (refine ⟨?_, ?_⟩ <;> intros <;> first | (with_reducible assumption) | omega) | ((repeat' refine And.intro ?_ ?_) <;> (intros; first | (with_reducible assumption) | omega | (simp only [Blk.len, List.length_set, List.length_append, List.length_cons, List.length_nil]; omega))) | ((try simp only [Bool.or_eq_true, Bool.or_eq_false_iff, Bool.and_eq_true, Bool.and_eq_false_iff, decide_eq_true_eq, decide_eq_false_iff_not, Bool.not_eq_true', Bool.not_eq_false'] at *); (try simp only [Blk.len] at *); first | omega | (intros; omega)) | (simp_all; done))))
    (refine fin_ret ?_; exact ret1 (by rfl) (by (simp [fitsB])) (by rfl))
  · repeat' (first
    
      | refine aw_seq ?_
      | refine aw_region ?_
      | refine aw_region_q (by kernel_rfl) (by kernel_rfl) ?_
      | refine aw_block ?_
      | refine ao_nil ?_
      | refine ao_op rfl trivial ?_
      | refine aq_nil ?_
      | refine aq_op rfl trivial ?_
      | refine at_nil ?_
      | refine at_op rfl trivial ?_
      | refine am_nil ?_
      | refine am_op rfl trivial rfl ?_
      | refine aw_skip ?_
      | refine aw_condT rfl trivial ?_
      | refine aw_condF rfl trivial ?_
      | refine aw_condD rfl trivial (fun hc => ?_) (fun hc => ?_)
      | refine aw_condN rfl trivial (fun hc => ?_) (fun hc => ?_)
      | refine aw_condNB rfl trivial (fun hc => ?_) (fun hc => ?_)
      | refine aw_cond rfl trivial (fun hc => ?_) (fun hc => ?_)
      | refine aw_ret ?_
      | refine aw_exit ?_
      | refine ao_op rfl ?_ ?_
      | refine aq_op rfl ?_ ?_
      | refine at_op rfl ?_ ?_
      | refine am_op rfl ?_ rfl ?_
      | refine ao_box rfl trivial rfl rfl rfl ?_
      | refine ao_alloc rfl rfl rfl rfl ?_
      | refine ao_store rfl rfl trivial rfl trivial rfl rfl rfl rfl rfl ?_
      | (first | refine ao_call rfl (r_Valid _) rfl ?_ ?_ | refine aq_call rfl (r_Valid _) rfl ?_ ?_)
      | (show allP _; first | trivial | exact ob1 (fun h => h) | exact ob2 (fun h => h) (fun h => h) | exact ob1 (fun h => ⟨h.1, trivial⟩) | (simp only [allP, obg, grd, allT, InR, decide_eq_true_eq, Bool.and_eq_true, Bool.not_eq_true', decide_eq_false_iff_not, List.nil_append, List.cons_append, List.append_nil, and_true, true_and]; first | omega | (intros; omega) | (simp only [Blk.len, List.length_set, List.length_append, List.length_cons, List.length_nil]; first | omega | (intros; omega)) | (refine ⟨?_, ?_⟩ <;> intros <;> first | (with_reducible assumption) | omega) | ((repeat' refine And.intro ?_ ?_) <;> (intros; first | (with_reducible assumption) | omega | (simp only [Blk.len, List.length_set, List.length_append, List.length_cons, List.length_nil]; omega))) | ((try simp only [Bool.or_eq_true, Bool.or_eq_false_iff, Bool.and_eq_true, Bool.and_eq_false_iff, decide_eq_true_eq, decide_eq_false_iff_not, Bool.not_eq_true', Bool.not_eq_false'] at *); (try simp only [Blk.len] at *); first | omega | (intros; omega)) | (simp_all; done))))
    (refine fin_ret ?_; exact ret1 (by rfl) (by (simp [fitsB])) (by rfl))

theorem r_Up (down : List Bool) (a : Int) (h : down.length = 0 ∨ 0 ≤ a ∧ a < down.length) : Ctr Try.prog 20 [boolsD down, iD a] [] (.d (bD (upB down a))) := by
  refine spec_of envOK (enters_of Try.func20 (by kernel_rfl) (by kernel_rfl)) Try.func20 rfl rfl _ rfl (Nat.le_of_ble_eq_true rfl) rfl fun w0 => ?_
  repeat' (first
  
    | refine aw_seq ?_
    | refine aw_region ?_
    | refine aw_region_q (by kernel_rfl) (by kernel_rfl) ?_
    | refine aw_block ?_
    | refine ao_nil ?_
    | refine ao_op rfl trivial ?_
    | refine aq_nil ?_
    | refine aq_op rfl trivial ?_
    | refine at_nil ?_
    | refine at_op rfl trivial ?_
    | refine am_nil ?_
    | refine am_op rfl trivial rfl ?_
    | refine aw_skip ?_
    | refine aw_condT rfl trivial ?_
    | refine aw_condF rfl trivial ?_
    | refine aw_condD rfl trivial (fun hc => ?_) (fun hc => ?_)
    | refine aw_condN rfl trivial (fun hc => ?_) (fun hc => ?_)
    | refine aw_condNB rfl trivial (fun hc => ?_) (fun hc => ?_)
    | refine aw_cond rfl trivial (fun hc => ?_) (fun hc => ?_)
    | refine aw_ret ?_
    | refine aw_exit ?_
    | refine ao_op rfl ?_ ?_
    | refine aq_op rfl ?_ ?_
    | refine at_op rfl ?_ ?_
    | refine am_op rfl ?_ rfl ?_
    | refine ao_box rfl trivial rfl rfl rfl ?_
    | refine ao_alloc rfl rfl rfl rfl ?_
    | refine ao_store rfl rfl trivial rfl trivial rfl rfl rfl rfl rfl ?_
  
    | (show allP _; first | trivial | exact ob1 (fun h => h) | exact ob2 (fun h => h) (fun h => h) | exact ob1 (fun h => ⟨h.1, trivial⟩) | (simp only [allP, obg, grd, allT, InR, decide_eq_true_eq, Bool.and_eq_true, Bool.not_eq_true', decide_eq_false_iff_not, List.nil_append, List.cons_append, List.append_nil, and_true, true_and]; first | omega | (intros; omega) | (simp only [Blk.len, List.length_set, List.length_append, List.length_cons, List.length_nil]; first | omega | (intros; omega)) | (refine ⟨?_, ?_⟩ <;> intros <;> first | (with_reducible assumption) | omega) | ((repeat' refine And.intro ?_ ?_) <;> (intros; first | (with_reducible assumption) | omega | (simp only [Blk.len, List.length_set, List.length_append, List.length_cons, List.length_nil]; omega))) | ((try simp only [Bool.or_eq_true, Bool.or_eq_false_iff, Bool.and_eq_true, Bool.and_eq_false_iff, decide_eq_true_eq, decide_eq_false_iff_not, Bool.not_eq_true', Bool.not_eq_false'] at *); (try simp only [Blk.len] at *); first | omega | (intros; omega)) | (simp_all; done))))
  (refine fin_ret ?_; exact ret1 (by rfl) (by (simp [upB])) (by rfl))

def transB (t : Topo) (n e : Int) : Bool := decide (n = e) || !overT t n
theorem r_transit (t : Topo) (n e : Int) : Ctr Try.prog 40 [topoD t, iD n, iD e] [] (.d (bD (transB t n e))) := by
  refine spec_of envOK (enters_of Try.func40 (by kernel_rfl) (by kernel_rfl)) Try.func40 rfl rfl _ rfl (Nat.le_of_ble_eq_true rfl) rfl fun w0 => ?_
  repeat' (first
  
    | refine aw_seq ?_
    | refine aw_region ?_
    | refine aw_region_q (by kernel_rfl) (by kernel_rfl) ?_
    | refine aw_block ?_
    | refine ao_nil ?_
    | refine ao_op rfl trivial ?_
    | refine aq_nil ?_
    | refine aq_op rfl trivial ?_
    | refine at_nil ?_
    | refine at_op rfl trivial ?_
    | refine am_nil ?_
    | refine am_op rfl trivial rfl ?_
    | refine aw_skip ?_
    | refine aw_condT rfl trivial ?_
    | refine aw_condF rfl trivial ?_
    | refine aw_condD rfl trivial (fun hc => ?_) (fun hc => ?_)
    | refine aw_condN rfl trivial (fun hc => ?_) (fun hc => ?_)
    | refine aw_condNB rfl trivial (fun hc => ?_) (fun hc => ?_)
    | refine aw_cond rfl trivial (fun hc => ?_) (fun hc => ?_)
    | refine aw_ret ?_
    | refine aw_exit ?_
    | refine ao_op rfl ?_ ?_
    | refine aq_op rfl ?_ ?_
    | refine at_op rfl ?_ ?_
    | refine am_op rfl ?_ rfl ?_
    | refine ao_box rfl trivial rfl rfl rfl ?_
    | refine ao_alloc rfl rfl rfl rfl ?_
    | refine ao_store rfl rfl trivial rfl trivial rfl rfl rfl rfl rfl ?_
    | (first | refine ao_call rfl (r_Overloaded _ _) rfl ?_ ?_ | refine aq_call rfl (r_Overloaded _ _) rfl ?_ ?_)
    | (show allP _; first | trivial | exact ob1 (fun h => h) | exact ob2 (fun h => h) (fun h => h) | exact ob1 (fun h => ⟨h.1, trivial⟩) | (simp only [allP, obg, grd, allT, InR, decide_eq_true_eq, Bool.and_eq_true, Bool.not_eq_true', decide_eq_false_iff_not, List.nil_append, List.cons_append, List.append_nil, and_true, true_and]; first | omega | (intros; omega) | (simp only [Blk.len, List.length_set, List.length_append, List.length_cons, List.length_nil]; first | omega | (intros; omega)) | (refine ⟨?_, ?_⟩ <;> intros <;> first | (with_reducible assumption) | omega) | ((repeat' refine And.intro ?_ ?_) <;> (intros; first | (with_reducible assumption) | omega | (simp only [Blk.len, List.length_set, List.length_append, List.length_cons, List.length_nil]; omega))) | ((try simp only [Bool.or_eq_true, Bool.or_eq_false_iff, Bool.and_eq_true, Bool.and_eq_false_iff, decide_eq_true_eq, decide_eq_false_iff_not, Bool.not_eq_true', Bool.not_eq_false'] at *); (try simp only [Blk.len] at *); first | omega | (intros; omega)) | (simp_all; done))))
  (refine fin_ret ?_; exact ret1 (by rfl) (by rfl) (by rfl))

theorem cl_skip {t : Topo} {down : List Bool} {n : Int} {fr : Bool} {l : List Int} {a : Int} (h : (!upB down a || decide (gI l (nearT t fr a) < 0) || !transB t (nearT t fr a) n) = true) : closed t down n fr l a := by
  intro hok hn
  simp only [Bool.or_eq_true, Bool.not_eq_true', decide_eq_true_eq] at h
  rcases h with (h | h) | h
  · rw [hok.1] at h; cases h
  · omega
  · simp only [transB, Bool.or_eq_false_iff, decide_eq_false_iff_not, Bool.not_eq_false'] at h
    rcases hok.2 with h2 | h2
    · exact absurd h2 h.1
    · rw [h2] at h; cases h.2
theorem ok_of {t : Topo} {down : List Bool} {n : Int} {fr : Bool} {l : List Int} {a : Int} (h : (!upB down a || decide (gI l (nearT t fr a) < 0) || !transB t (nearT t fr a) n) = false) : okA t down n fr a ∧ 0 ≤ gI l (nearT t fr a) := by
  simp only [Bool.or_eq_false_iff, Bool.not_eq_false', decide_eq_false_iff_not] at h
  obtain ⟨⟨h1, h2⟩, h3⟩ := h
  refine ⟨⟨h1, ?_⟩, by omega⟩
  simp only [transB, Bool.or_eq_true, decide_eq_true_eq, Bool.not_eq_true'] at h3
  exact h3

set_option maxHeartbeats 4000000 in
theorem rs_inner {Q : Exit → Fr → List Blk → Prop} {w0 : World} {t : Topo} {down : List Bool} {n : Int} {fr : Bool} {l : List Int} (hf : fitsB t down = true) (h0 : 0 ≤ n) (h1 : n < t.nodes) (H : BF t down n fr l)
    (hQ : ∀ (l' : List Int) (ch : Bool) F S, BF t down n fr l' → (ch = false → l' = l ∧ IsDist t down n fr l) → (ch = true → msr l' < msr l) → subF F [(12, [], .d (bD ch)), (10, [], .own 1), (4, [], .ptr 0 0), (1, [], .d (boolsD down)), (2, [], .d (iD n)), (3, [], .d (bD fr))] →
      subS S [tBlk t, .ints .i64 l'] → Q (.exit 4) F S) :
    AW Try.prog env (Base.of w0) Try.f29.ntmps (loopC Try.f29 15) Q
      [(13, [], .d (iD 0)), (12, [], .d (bD false)), (10, [], .own 1), (4, [], .ptr 0 0), (1, [], .d (boolsD down)), (2, [], .d (iD n)), (3, [], .d (bD fr))] [tBlk t, .ints .i64 l] := by
  have hv := fitsB_v hf
  have hnn := validB_head hv
  refine aw_loop (ι := List Int × Bool × Nat) (fun s => [(13, [], .d (iD s.2.2)), (12, [], .d (bD s.2.1)), (10, [], .own 1), (4, [], .ptr 0 0), (1, [], .d (boolsD down)), (2, [], .d (iD n)), (3, [], .d (bD fr))])
    (fun s => [tBlk t, .ints .i64 s.1])
    (fun s => s.2.2 ≤ 2 * t.links.length ∧ BF t down n fr s.1 ∧ (s.2.1 = false → s.1 = l ∧ ∀ b : Nat, b < s.2.2 → closed t down n fr l b) ∧ (s.2.1 = true → msr s.1 < msr l)) (fun s => 2 * t.links.length - s.2.2) (l, false, 0)
    ⟨by simp, H, fun _ => ⟨rfl, fun b hb => by simp at hb⟩, fun h => by cases h⟩ (fun _ => Nat.le_of_ble_eq_true rfl) (by refine weak_to ?_ ?_ rfl rfl
                                                                                                                          · repeat (first | exact subF_nil | refine subF_cons (by first | rfl | (simp [look]; done)) ?_)
                                                                                                                          · repeat (first | exact subS_nil | refine subS_cons (by first | rfl | (simp; done)) ?_)) fun s hs => ?_
  obtain ⟨o, ch, a⟩ := s
  obtain ⟨ha, HB, hc0, hc1⟩ := hs
  simp only at ha HB hc0 hc1 ⊢
  have hol := HB.len
  by_cases hal : a < 2 * t.links.length
  · have hb := arc_ok hv (a := (a : Int)) (by omega) (by omega)
    have hup : down.length = 0 ∨ 0 ≤ (a : Int) ∧ (a : Int) < down.length := by
      simp only [fitsB, Bool.and_eq_true, Bool.or_eq_true, decide_eq_true_eq] at hf
      omega
    have hy1 : o.getD (headT t (a : Int)).toNat 0 ≤ 65535 * 63 := HB.le hv hb.2.2.1 hb.2.2.2.1
    have hy2 : o.getD (tailT t (a : Int)).toNat 0 ≤ 65535 * 63 := HB.le hv hb.1 hb.2.1
    cases fr
    · repeat' (first
      
        | refine aw_seq ?_
        | refine aw_region ?_
        | refine aw_region_q (by kernel_rfl) (by kernel_rfl) ?_
        | refine aw_block ?_
        | refine ao_nil ?_
        | refine ao_op rfl trivial ?_
        | refine aq_nil ?_
        | refine aq_op rfl trivial ?_
        | refine at_nil ?_
        | refine at_op rfl trivial ?_
        | refine am_nil ?_
        | refine am_op rfl trivial rfl ?_
        | refine aw_skip ?_
        | refine aw_condT rfl trivial ?_
        | refine aw_condF rfl trivial ?_
        | refine aw_condD rfl trivial (fun hc => ?_) (fun hc => ?_)
        | refine aw_condN rfl trivial (fun hc => ?_) (fun hc => ?_)
        | refine aw_condNB rfl trivial (fun hc => ?_) (fun hc => ?_)
        | refine aw_cond rfl trivial (fun hc => ?_) (fun hc => ?_)
        | refine aw_ret ?_
        | refine aw_exit ?_
        | refine ao_op rfl ?_ ?_
        | refine aq_op rfl ?_ ?_
        | refine at_op rfl ?_ ?_
        | refine am_op rfl ?_ rfl ?_
        | refine ao_box rfl trivial rfl rfl rfl ?_
        | refine ao_alloc rfl rfl rfl rfl ?_
        | refine ao_store rfl rfl trivial rfl trivial rfl rfl rfl rfl rfl ?_
        | (first | refine ao_call rfl (r_Tail _ _) rfl ?_ ?_ | refine aq_call rfl (r_Tail _ _) rfl ?_ ?_)
        | (first | refine ao_call rfl (r_Head _ _) rfl ?_ ?_ | refine aq_call rfl (r_Head _ _) rfl ?_ ?_)
        | (first | refine ao_call rfl (r_Up down _ hup) rfl ?_ ?_ | refine aq_call rfl (r_Up down _ hup) rfl ?_ ?_)
        | (first | refine ao_call rfl (r_transit _ _ _) rfl ?_ ?_ | refine aq_call rfl (r_transit _ _ _) rfl ?_ ?_)
        | (first | refine ao_call rfl (r_Cost _ _) rfl ?_ ?_ | refine aq_call rfl (r_Cost _ _) rfl ?_ ?_)
        | refine ao_store_ep rfl rfl trivial rfl trivial rfl rfl rfl rfl rfl rfl ?_
        | (show allP _; first | trivial | exact ob1 (fun h => h) | exact ob2 (fun h => h) (fun h => h) | exact ob1 (fun h => ⟨h.1, trivial⟩) | (simp only [allP, obg, grd, allT, InR, decide_eq_true_eq, Bool.and_eq_true, Bool.not_eq_true', decide_eq_false_iff_not, List.nil_append, List.cons_append, List.append_nil, and_true, true_and]; first | omega | (intros; omega) | (simp only [Blk.len, List.length_set, List.length_append, List.length_cons, List.length_nil]; first | omega | (intros; omega)) | (refine ⟨?_, ?_⟩ <;> intros <;> first | (with_reducible assumption) | omega) | ((repeat' refine And.intro ?_ ?_) <;> (intros; first | (with_reducible assumption) | omega | (simp only [Blk.len, List.length_set, List.length_append, List.length_cons, List.length_nil]; omega))) | ((try simp only [Bool.or_eq_true, Bool.or_eq_false_iff, Bool.and_eq_true, Bool.and_eq_false_iff, decide_eq_true_eq, decide_eq_false_iff_not, Bool.not_eq_true', Bool.not_eq_false'] at *); (try simp only [Blk.len] at *); first | omega | (intros; omega)) | (simp_all; done))))
      all_goals try (exfalso; omega)
      · have hcl : closed t down n false o (a : Int) := cl_skip hc
        refine ⟨(o, ch, a + 1), ⟨by simp only; omega, HB, fun h => ⟨(hc0 h).1, fun b hb => ?_⟩, hc1⟩, by simp only; omega, ?_⟩
        · rcases Nat.lt_succ_iff_lt_or_eq.1 hb with hb | rfl
          · exact (hc0 h).2 b hb
          · rw [(hc0 h).1] at hcl; exact hcl
        · refine weak_to ?_ ?_ rfl rfl
          · repeat (first | exact subF_nil | refine subF_cons (by first | rfl | (simp [look]; done)) ?_)
          · repeat (first | exact subS_nil | refine subS_cons (by first | rfl | (simp; done)) ?_)
      · rename_i hn
        obtain ⟨hok, hnn0⟩ := ok_of (fr := false) hn
        simp only [Bool.or_eq_true, decide_eq_true_eq] at hc
        obtain ⟨u1, u2⟩ := HB.upd hv h0 (by omega) (by omega) hok hnn0 hc
        refine ⟨(o.set (farT t false a).toNat (gI o (nearT t false a) + costT t a), true, a + 1), ⟨by simp only; omega, u1, (fun h => by cases h), fun _ => ?_⟩, by simp only; omega, ?_⟩
        · cases hch : ch with
          | false => rw [(hc0 hch).1] at u2 ⊢; exact u2
          | true => have := hc1 hch; simp only; omega
        · refine weak_to ?_ ?_ rfl rfl
          · repeat (first | exact subF_nil | refine subF_cons (by first | rfl | (simp [look]; done)) ?_)
          · repeat (first | exact subS_nil | refine subS_cons (by first | rfl | (simp; done)) ?_)
      · rename_i hn
        obtain ⟨hok, hnn0⟩ := ok_of (fr := false) hn
        have hcl : closed t down n false o (a : Int) := fun _ _ => by
          simp only [Bool.or_eq_false_iff, decide_eq_false_iff_not] at hc
          simp only [gI, nearT, farT, cond_true, cond_false] at hc ⊢
          omega
        refine ⟨(o, ch, a + 1), ⟨by simp only; omega, HB, fun h => ⟨(hc0 h).1, fun b hb => ?_⟩, hc1⟩, by simp only; omega, ?_⟩
        · rcases Nat.lt_succ_iff_lt_or_eq.1 hb with hb | rfl
          · exact (hc0 h).2 b hb
          · rw [(hc0 h).1] at hcl; exact hcl
        · refine weak_to ?_ ?_ rfl rfl
          · repeat (first | exact subF_nil | refine subF_cons (by first | rfl | (simp [look]; done)) ?_)
          · repeat (first | exact subS_nil | refine subS_cons (by first | rfl | (simp; done)) ?_)
    · repeat' (first
      
        | refine aw_seq ?_
        | refine aw_region ?_
        | refine aw_region_q (by kernel_rfl) (by kernel_rfl) ?_
        | refine aw_block ?_
        | refine ao_nil ?_
        | refine ao_op rfl trivial ?_
        | refine aq_nil ?_
        | refine aq_op rfl trivial ?_
        | refine at_nil ?_
        | refine at_op rfl trivial ?_
        | refine am_nil ?_
        | refine am_op rfl trivial rfl ?_
        | refine aw_skip ?_
        | refine aw_condT rfl trivial ?_
        | refine aw_condF rfl trivial ?_
        | refine aw_condD rfl trivial (fun hc => ?_) (fun hc => ?_)
        | refine aw_condN rfl trivial (fun hc => ?_) (fun hc => ?_)
        | refine aw_condNB rfl trivial (fun hc => ?_) (fun hc => ?_)
        | refine aw_cond rfl trivial (fun hc => ?_) (fun hc => ?_)
        | refine aw_ret ?_
        | refine aw_exit ?_
        | refine ao_op rfl ?_ ?_
        | refine aq_op rfl ?_ ?_
        | refine at_op rfl ?_ ?_
        | refine am_op rfl ?_ rfl ?_
        | refine ao_box rfl trivial rfl rfl rfl ?_
        | refine ao_alloc rfl rfl rfl rfl ?_
        | refine ao_store rfl rfl trivial rfl trivial rfl rfl rfl rfl rfl ?_
        | (first | refine ao_call rfl (r_Tail _ _) rfl ?_ ?_ | refine aq_call rfl (r_Tail _ _) rfl ?_ ?_)
        | (first | refine ao_call rfl (r_Head _ _) rfl ?_ ?_ | refine aq_call rfl (r_Head _ _) rfl ?_ ?_)
        | (first | refine ao_call rfl (r_Up down _ hup) rfl ?_ ?_ | refine aq_call rfl (r_Up down _ hup) rfl ?_ ?_)
        | (first | refine ao_call rfl (r_transit _ _ _) rfl ?_ ?_ | refine aq_call rfl (r_transit _ _ _) rfl ?_ ?_)
        | (first | refine ao_call rfl (r_Cost _ _) rfl ?_ ?_ | refine aq_call rfl (r_Cost _ _) rfl ?_ ?_)
        | refine ao_store_ep rfl rfl trivial rfl trivial rfl rfl rfl rfl rfl rfl ?_
        | (show allP _; first | trivial | exact ob1 (fun h => h) | exact ob2 (fun h => h) (fun h => h) | exact ob1 (fun h => ⟨h.1, trivial⟩) | (simp only [allP, obg, grd, allT, InR, decide_eq_true_eq, Bool.and_eq_true, Bool.not_eq_true', decide_eq_false_iff_not, List.nil_append, List.cons_append, List.append_nil, and_true, true_and]; first | omega | (intros; omega) | (simp only [Blk.len, List.length_set, List.length_append, List.length_cons, List.length_nil]; first | omega | (intros; omega)) | (refine ⟨?_, ?_⟩ <;> intros <;> first | (with_reducible assumption) | omega) | ((repeat' refine And.intro ?_ ?_) <;> (intros; first | (with_reducible assumption) | omega | (simp only [Blk.len, List.length_set, List.length_append, List.length_cons, List.length_nil]; omega))) | ((try simp only [Bool.or_eq_true, Bool.or_eq_false_iff, Bool.and_eq_true, Bool.and_eq_false_iff, decide_eq_true_eq, decide_eq_false_iff_not, Bool.not_eq_true', Bool.not_eq_false'] at *); (try simp only [Blk.len] at *); first | omega | (intros; omega)) | (simp_all; done))))
      all_goals try (exfalso; omega)
      · have hcl : closed t down n true o (a : Int) := cl_skip hc
        refine ⟨(o, ch, a + 1), ⟨by simp only; omega, HB, fun h => ⟨(hc0 h).1, fun b hb => ?_⟩, hc1⟩, by simp only; omega, ?_⟩
        · rcases Nat.lt_succ_iff_lt_or_eq.1 hb with hb | rfl
          · exact (hc0 h).2 b hb
          · rw [(hc0 h).1] at hcl; exact hcl
        · refine weak_to ?_ ?_ rfl rfl
          · repeat (first | exact subF_nil | refine subF_cons (by first | rfl | (simp [look]; done)) ?_)
          · repeat (first | exact subS_nil | refine subS_cons (by first | rfl | (simp; done)) ?_)
      · rename_i hn
        obtain ⟨hok, hnn0⟩ := ok_of (fr := true) hn
        simp only [Bool.or_eq_true, decide_eq_true_eq] at hc
        obtain ⟨u1, u2⟩ := HB.upd hv h0 (by omega) (by omega) hok hnn0 hc
        refine ⟨(o.set (farT t true a).toNat (gI o (nearT t true a) + costT t a), true, a + 1), ⟨by simp only; omega, u1, (fun h => by cases h), fun _ => ?_⟩, by simp only; omega, ?_⟩
        · cases hch : ch with
          | false => rw [(hc0 hch).1] at u2 ⊢; exact u2
          | true => have := hc1 hch; simp only; omega
        · refine weak_to ?_ ?_ rfl rfl
          · repeat (first | exact subF_nil | refine subF_cons (by first | rfl | (simp [look]; done)) ?_)
          · repeat (first | exact subS_nil | refine subS_cons (by first | rfl | (simp; done)) ?_)
      · rename_i hn
        obtain ⟨hok, hnn0⟩ := ok_of (fr := true) hn
        have hcl : closed t down n true o (a : Int) := fun _ _ => by
          simp only [Bool.or_eq_false_iff, decide_eq_false_iff_not] at hc
          simp only [gI, nearT, farT, cond_true, cond_false] at hc ⊢
          omega
        refine ⟨(o, ch, a + 1), ⟨by simp only; omega, HB, fun h => ⟨(hc0 h).1, fun b hb => ?_⟩, hc1⟩, by simp only; omega, ?_⟩
        · rcases Nat.lt_succ_iff_lt_or_eq.1 hb with hb | rfl
          · exact (hc0 h).2 b hb
          · rw [(hc0 h).1] at hcl; exact hcl
        · refine weak_to ?_ ?_ rfl rfl
          · repeat (first | exact subF_nil | refine subF_cons (by first | rfl | (simp [look]; done)) ?_)
          · repeat (first | exact subS_nil | refine subS_cons (by first | rfl | (simp; done)) ?_)
  · repeat' (first
    
      | refine aw_seq ?_
      | refine aw_region ?_
      | refine aw_region_q (by kernel_rfl) (by kernel_rfl) ?_
      | refine aw_block ?_
      | refine ao_nil ?_
      | refine ao_op rfl trivial ?_
      | refine aq_nil ?_
      | refine aq_op rfl trivial ?_
      | refine at_nil ?_
      | refine at_op rfl trivial ?_
      | refine am_nil ?_
      | refine am_op rfl trivial rfl ?_
      | refine aw_skip ?_
      | refine aw_condT rfl trivial ?_
      | refine aw_condF rfl trivial ?_
      | refine aw_condD rfl trivial (fun hc => ?_) (fun hc => ?_)
      | refine aw_condN rfl trivial (fun hc => ?_) (fun hc => ?_)
      | refine aw_condNB rfl trivial (fun hc => ?_) (fun hc => ?_)
      | refine aw_cond rfl trivial (fun hc => ?_) (fun hc => ?_)
      | refine aw_ret ?_
      | refine aw_exit ?_
      | refine ao_op rfl ?_ ?_
      | refine aq_op rfl ?_ ?_
      | refine at_op rfl ?_ ?_
      | refine am_op rfl ?_ rfl ?_
      | refine ao_box rfl trivial rfl rfl rfl ?_
      | refine ao_alloc rfl rfl rfl rfl ?_
      | refine ao_store rfl rfl trivial rfl trivial rfl rfl rfl rfl rfl ?_
      | (exfalso; omega)
      | (show allP _; first | trivial | exact ob1 (fun h => h) | exact ob2 (fun h => h) (fun h => h) | exact ob1 (fun h => ⟨h.1, trivial⟩) | (simp only [allP, obg, grd, allT, InR, decide_eq_true_eq, Bool.and_eq_true, Bool.not_eq_true', decide_eq_false_iff_not, List.nil_append, List.cons_append, List.append_nil, and_true, true_and]; first | omega | (intros; omega) | (simp only [Blk.len, List.length_set, List.length_append, List.length_cons, List.length_nil]; first | omega | (intros; omega)) | (refine ⟨?_, ?_⟩ <;> intros <;> first | (with_reducible assumption) | omega) | ((repeat' refine And.intro ?_ ?_) <;> (intros; first | (with_reducible assumption) | omega | (simp only [Blk.len, List.length_set, List.length_append, List.length_cons, List.length_nil]; omega))) | ((try simp only [Bool.or_eq_true, Bool.or_eq_false_iff, Bool.and_eq_true, Bool.and_eq_false_iff, decide_eq_true_eq, decide_eq_false_iff_not, Bool.not_eq_true', Bool.not_eq_false'] at *); (try simp only [Blk.len] at *); first | omega | (intros; omega)) | (simp_all; done))))
    refine hQ o ch _ _ HB (fun h => ?_) hc1 (by repeat (first | exact subF_nil | refine subF_cons rfl ?_)) (by (repeat (first | exact subS_nil | refine subS_cons (by first | rfl | rfl) ?_)))
    obtain ⟨e, hcl⟩ := hc0 h
    refine ⟨e, H.fin fun b b0 b1 => ?_⟩
    have := hcl b.toNat (by omega)
    rwa [show ((b.toNat : Nat) : Int) = b by omega] at this
end Go.Proofs.Ytnmajhoehmlcjaa

/- The reference of layer 11: search. -/
namespace Go.Proofs.Ytnmajhoehmlcjaa
open Go.Wk

theorem r_search (t : Topo) (down : List Bool) (n : Int) (fr : Bool) : Ctr Try.prog 29 [topoD t, boolsD down, iD n, bD fr] [.ints .i64 (distL t down n fr)] (.tup [.own 0, .d (iD (errS t down n))]) := by
  refine spec_of envOK (enters_of Try.func29 (by kernel_rfl) (by kernel_rfl)) Try.func29 rfl rfl _ rfl (Nat.le_of_ble_eq_true rfl) rfl fun w0 => ?_
  repeat' (first
  
    | refine aw_seq ?_
    | refine aw_region ?_
    | refine aw_region_q (by kernel_rfl) (by kernel_rfl) ?_
    | refine aw_block ?_
    | refine ao_nil ?_
    | refine ao_op rfl trivial ?_
    | refine aq_nil ?_
    | refine aq_op rfl trivial ?_
    | refine at_nil ?_
    | refine at_op rfl trivial ?_
    | refine am_nil ?_
    | refine am_op rfl trivial rfl ?_
    | refine aw_skip ?_
    | refine aw_condT rfl trivial ?_
    | refine aw_condF rfl trivial ?_
    | refine aw_condD rfl trivial (fun hc => ?_) (fun hc => ?_)
    | refine aw_condN rfl trivial (fun hc => ?_) (fun hc => ?_)
    | refine aw_condNB rfl trivial (fun hc => ?_) (fun hc => ?_)
    | refine aw_cond rfl trivial (fun hc => ?_) (fun hc => ?_)
    | refine aw_ret ?_
    | refine aw_exit ?_
    | refine ao_op rfl ?_ ?_
    | refine aq_op rfl ?_ ?_
    | refine at_op rfl ?_ ?_
    | refine am_op rfl ?_ rfl ?_
    | refine ao_box rfl trivial rfl rfl rfl ?_
    | refine ao_alloc rfl rfl rfl rfl ?_
    | refine ao_store rfl rfl trivial rfl trivial rfl rfl rfl rfl rfl ?_
    | refine ao_call rfl (r_Fits _ _) rfl ?_ ?_
    | (show allP _; first | trivial | exact ob1 (fun h => h) | exact ob2 (fun h => h) (fun h => h) | exact ob1 (fun h => ⟨h.1, trivial⟩) | (simp only [allP, obg, grd, allT, InR, decide_eq_true_eq, Bool.and_eq_true, Bool.not_eq_true', decide_eq_false_iff_not, List.nil_append, List.cons_append, List.append_nil, and_true, true_and]; first | omega | (intros; omega) | (simp only [Blk.len, List.length_set, List.length_append, List.length_cons, List.length_nil]; first | omega | (intros; omega)) | (refine ⟨?_, ?_⟩ <;> intros <;> first | (with_reducible assumption) | omega) | ((repeat' refine And.intro ?_ ?_) <;> (intros; first | (with_reducible assumption) | omega | (simp only [Blk.len, List.length_set, List.length_append, List.length_cons, List.length_nil]; omega))) | ((try simp only [Bool.or_eq_true, Bool.or_eq_false_iff, Bool.and_eq_true, Bool.and_eq_false_iff, decide_eq_true_eq, decide_eq_false_iff_not, Bool.not_eq_true', Bool.not_eq_false'] at *); (try simp only [Blk.len] at *); first | omega | (intros; omega)) | (simp_all; done))))
  · have he : errS t down n = 1 := by unfold errS; rw [hc]; rfl
    refine fin_ret ?_; exact retNil2 rfl (by simp [distL, he, Blk.len]) (by rw [he]) trivial rfl
  · rename_i hf
    have he : errS t down n = 2 := by unfold errS; rw [hf, hc]; rfl
    refine fin_ret ?_; exact retNil2 rfl (by simp [distL, he, Blk.len]) (by rw [he]) trivial rfl
  rename_i hf
  have herr : errS t down n = 0 := by unfold errS; rw [hf, hc]; rfl
  obtain ⟨_, n0, n1⟩ := errS_0 herr
  have hv := fitsB_v hf
  have hnn := validB_head hv
  repeat' (first
  
    | refine aw_seq ?_
    | refine aw_region ?_
    | refine aw_region_q (by kernel_rfl) (by kernel_rfl) ?_
    | refine aw_block ?_
    | refine ao_nil ?_
    | refine ao_op rfl trivial ?_
    | refine aq_nil ?_
    | refine aq_op rfl trivial ?_
    | refine at_nil ?_
    | refine at_op rfl trivial ?_
    | refine am_nil ?_
    | refine am_op rfl trivial rfl ?_
    | refine aw_skip ?_
    | refine aw_condT rfl trivial ?_
    | refine aw_condF rfl trivial ?_
    | refine aw_condD rfl trivial (fun hc => ?_) (fun hc => ?_)
    | refine aw_condN rfl trivial (fun hc => ?_) (fun hc => ?_)
    | refine aw_condNB rfl trivial (fun hc => ?_) (fun hc => ?_)
    | refine aw_cond rfl trivial (fun hc => ?_) (fun hc => ?_)
    | refine aw_ret ?_
    | refine aw_exit ?_
    | refine ao_op rfl ?_ ?_
    | refine aq_op rfl ?_ ?_
    | refine at_op rfl ?_ ?_
    | refine am_op rfl ?_ rfl ?_
    | refine ao_box rfl trivial rfl rfl rfl ?_
    | refine ao_alloc rfl rfl rfl rfl ?_
    | refine ao_store rfl rfl trivial rfl trivial rfl rfl rfl rfl rfl ?_
    | refine ao_make rfl rfl rfl rfl trivial rfl trivial (by first | omega | (dsimp only; omega)) (by first | omega | (dsimp only; omega)) (by first | omega | (dsimp only; omega)) rfl rfl rfl ?_
    | (show allP _; first | trivial | exact ob1 (fun h => h) | exact ob2 (fun h => h) (fun h => h) | exact ob1 (fun h => ⟨h.1, trivial⟩) | (simp only [allP, obg, grd, allT, InR, decide_eq_true_eq, Bool.and_eq_true, Bool.not_eq_true', decide_eq_false_iff_not, List.nil_append, List.cons_append, List.append_nil, and_true, true_and]; first | omega | (intros; omega) | (simp only [Blk.len, List.length_set, List.length_append, List.length_cons, List.length_nil]; first | omega | (intros; omega)) | (refine ⟨?_, ?_⟩ <;> intros <;> first | (with_reducible assumption) | omega) | ((repeat' refine And.intro ?_ ?_) <;> (intros; first | (with_reducible assumption) | omega | (simp only [Blk.len, List.length_set, List.length_append, List.length_cons, List.length_nil]; omega))) | ((try simp only [Bool.or_eq_true, Bool.or_eq_false_iff, Bool.and_eq_true, Bool.and_eq_false_iff, decide_eq_true_eq, decide_eq_false_iff_not, Bool.not_eq_true', Bool.not_eq_false'] at *); (try simp only [Blk.len] at *); first | omega | (intros; omega)) | (simp_all; done))))
  refine aw_loop (ι := List Int × Nat) (fun s => [(11, [], .d (iD s.2)), (10, [], .own 1), (4, [], .ptr 0 0), (1, [], .d (boolsD down)), (2, [], .d (iD n)), (3, [], .d (bD fr))])
    (fun s => [tBlk t, .ints .i64 s.1])
    (fun s => s.1.length = t.nodes.toNat ∧ s.2 ≤ t.nodes.toNat ∧ ∀ j, j < s.2 → s.1.getD j 0 = -1) (fun s => t.nodes.toNat - s.2) (List.replicate t.nodes.toNat 0, 0) ⟨by simp, by simp, fun j hj => by simp at hj⟩ (fun _ => Nat.le_of_ble_eq_true rfl) (by refine weak_to ?_ ?_ rfl rfl
                                                                                                                                                                                                                                                             · repeat (first | exact subF_nil | refine subF_cons (by first | rfl | (simp [look]; done)) ?_)
                                                                                                                                                                                                                                                             · repeat (first | exact subS_nil | refine subS_cons (by first | rfl | (simp; done)) ?_)) fun s hs => ?_
  obtain ⟨p, i⟩ := s
  obtain ⟨hp, hi, hj⟩ := hs
  simp only at hp hi hj ⊢
  have hbl : Blk.len (.ints .i64 p) = p.length := rfl
  repeat' (first
  
    | refine aw_seq ?_
    | refine aw_region ?_
    | refine aw_region_q (by kernel_rfl) (by kernel_rfl) ?_
    | refine aw_block ?_
    | refine ao_nil ?_
    | refine ao_op rfl trivial ?_
    | refine aq_nil ?_
    | refine aq_op rfl trivial ?_
    | refine at_nil ?_
    | refine at_op rfl trivial ?_
    | refine am_nil ?_
    | refine am_op rfl trivial rfl ?_
    | refine aw_skip ?_
    | refine aw_condT rfl trivial ?_
    | refine aw_condF rfl trivial ?_
    | refine aw_condD rfl trivial (fun hc => ?_) (fun hc => ?_)
    | refine aw_condN rfl trivial (fun hc => ?_) (fun hc => ?_)
    | refine aw_condNB rfl trivial (fun hc => ?_) (fun hc => ?_)
    | refine aw_cond rfl trivial (fun hc => ?_) (fun hc => ?_)
    | refine aw_ret ?_
    | refine aw_exit ?_
    | refine ao_op rfl ?_ ?_
    | refine aq_op rfl ?_ ?_
    | refine at_op rfl ?_ ?_
    | refine am_op rfl ?_ rfl ?_
    | refine ao_box rfl trivial rfl rfl rfl ?_
    | refine ao_alloc rfl rfl rfl rfl ?_
    | refine ao_store rfl rfl trivial rfl trivial rfl rfl rfl rfl rfl ?_
    | refine ao_store_ep rfl rfl trivial rfl trivial rfl rfl rfl rfl rfl rfl ?_
    | (show allP _; first | trivial | exact ob1 (fun h => h) | exact ob2 (fun h => h) (fun h => h) | exact ob1 (fun h => ⟨h.1, trivial⟩) | (simp only [allP, obg, grd, allT, InR, decide_eq_true_eq, Bool.and_eq_true, Bool.not_eq_true', decide_eq_false_iff_not, List.nil_append, List.cons_append, List.append_nil, and_true, true_and]; first | omega | (intros; omega) | (simp only [Blk.len, List.length_set, List.length_append, List.length_cons, List.length_nil]; first | omega | (intros; omega)) | (refine ⟨?_, ?_⟩ <;> intros <;> first | (with_reducible assumption) | omega) | ((repeat' refine And.intro ?_ ?_) <;> (intros; first | (with_reducible assumption) | omega | (simp only [Blk.len, List.length_set, List.length_append, List.length_cons, List.length_nil]; omega))) | ((try simp only [Bool.or_eq_true, Bool.or_eq_false_iff, Bool.and_eq_true, Bool.and_eq_false_iff, decide_eq_true_eq, decide_eq_false_iff_not, Bool.not_eq_true', Bool.not_eq_false'] at *); (try simp only [Blk.len] at *); first | omega | (intros; omega)) | (simp_all; done))))
  · rw [show (Int.toNat (i : Int)) = i from rfl]
    refine ⟨(p.set i (-1), i + 1), ⟨by simpa using hp, by simp only; omega, fun j hj' => ?_⟩, by simp only; omega, ?_⟩
    · simp only at hj' ⊢
      rw [getD_set]
      split
      · rfl
      · exact hj j (by omega)
    · refine weak_to ?_ ?_ rfl rfl
      · repeat (first | exact subF_nil | refine subF_cons (by first | rfl | (simp [look]; done)) ?_)
      · repeat (first | exact subS_nil | refine subS_cons (by first | rfl | (simp; done)) ?_)
  have hpe : p = List.replicate t.nodes.toNat (-1) := by
    refine extD (by simpa using hp) fun j hj' => ?_
    rw [hj j (by omega), List.getD_eq_getElem?_getD, List.getElem?_replicate, if_pos (by omega)]; rfl
  subst hpe
  refine aw_loop (ι := List Int × Bool) (fun s => [(12, [], .d (bD s.2)), (10, [], .own 1), (4, [], .ptr 0 0), (1, [], .d (boolsD down)), (2, [], .d (iD n)), (3, [], .d (bD fr))])
    (fun s => [tBlk t, .ints .i64 s.1]) (fun s => BF t down n fr s.1 ∧ (s.2 = false → IsDist t down n fr s.1)) (fun s => 2 * msr s.1 + (bif s.2 then 1 else 0)) ((List.replicate t.nodes.toNat (-1)).set n.toNat 0, true) ⟨BF.init n0 n1, fun h => by cases h⟩ (fun _ => Nat.le_of_ble_eq_true rfl) (by refine weak_to ?_ ?_ rfl rfl
                                                                                                                                                                                                                                                                                                        · repeat (first | exact subF_nil | refine subF_cons (by first | rfl | (simp [look]; done)) ?_)
                                                                                                                                                                                                                                                                                                        · repeat (first | exact subS_nil | refine subS_cons (by first | rfl | (simp; done)) ?_)) fun s hs => ?_
  obtain ⟨l, ch⟩ := s
  obtain ⟨HB, hD⟩ := hs
  simp only at HB hD ⊢
  cases ch with
  | false =>
    repeat' (first
    
      | refine aw_seq ?_
      | refine aw_region ?_
      | refine aw_region_q (by kernel_rfl) (by kernel_rfl) ?_
      | refine aw_block ?_
      | refine ao_nil ?_
      | refine ao_op rfl trivial ?_
      | refine aq_nil ?_
      | refine aq_op rfl trivial ?_
      | refine at_nil ?_
      | refine at_op rfl trivial ?_
      | refine am_nil ?_
      | refine am_op rfl trivial rfl ?_
      | refine aw_skip ?_
      | refine aw_condT rfl trivial ?_
      | refine aw_condF rfl trivial ?_
      | refine aw_condD rfl trivial (fun hc => ?_) (fun hc => ?_)
      | refine aw_condN rfl trivial (fun hc => ?_) (fun hc => ?_)
      | refine aw_condNB rfl trivial (fun hc => ?_) (fun hc => ?_)
      | refine aw_cond rfl trivial (fun hc => ?_) (fun hc => ?_)
      | refine aw_ret ?_
      | refine aw_exit ?_
      | refine ao_op rfl ?_ ?_
      | refine aq_op rfl ?_ ?_
      | refine at_op rfl ?_ ?_
      | refine am_op rfl ?_ rfl ?_
      | refine ao_box rfl trivial rfl rfl rfl ?_
      | refine ao_alloc rfl rfl rfl rfl ?_
      | refine ao_store rfl rfl trivial rfl trivial rfl rfl rfl rfl rfl ?_
    
      | (show allP _; first | trivial | exact ob1 (fun h => h) | exact ob2 (fun h => h) (fun h => h) | exact ob1 (fun h => ⟨h.1, trivial⟩) | (simp only [allP, obg, grd, allT, InR, decide_eq_true_eq, Bool.and_eq_true, Bool.not_eq_true', decide_eq_false_iff_not, List.nil_append, List.cons_append, List.append_nil, and_true, true_and]; first | omega | (intros; omega) | (simp only [Blk.len, List.length_set, List.length_append, List.length_cons, List.length_nil]; first | omega | (intros; omega)) | (refine ⟨?_, ?_⟩ <;> intros <;> first | (with_reducible assumption) | omega) | ((repeat' refine And.intro ?_ ?_) <;> (intros; first | (with_reducible assumption) | omega | (simp only [Blk.len, List.length_set, List.length_append, List.length_cons, List.length_nil]; omega))) | ((try simp only [Bool.or_eq_true, Bool.or_eq_false_iff, Bool.and_eq_true, Bool.and_eq_false_iff, decide_eq_true_eq, decide_eq_false_iff_not, Bool.not_eq_true', Bool.not_eq_false'] at *); (try simp only [Blk.len] at *); first | omega | (intros; omega)) | (simp_all; done))))
    refine fin_ret ?_
    have hI := hD rfl
    exact retOwn2 rfl rfl (by simp only [distL, herr, if_true]; rw [hI.eq hv]) (by rw [herr]) trivial rfl
  | true =>
    repeat' (first
    
      | refine aw_seq ?_
      | refine aw_region ?_
      | refine aw_region_q (by kernel_rfl) (by kernel_rfl) ?_
      | refine aw_block ?_
      | refine ao_nil ?_
      | refine ao_op rfl trivial ?_
      | refine aq_nil ?_
      | refine aq_op rfl trivial ?_
      | refine at_nil ?_
      | refine at_op rfl trivial ?_
      | refine am_nil ?_
      | refine am_op rfl trivial rfl ?_
      | refine aw_skip ?_
      | refine aw_condT rfl trivial ?_
      | refine aw_condF rfl trivial ?_
      | refine aw_condD rfl trivial (fun hc => ?_) (fun hc => ?_)
      | refine aw_condN rfl trivial (fun hc => ?_) (fun hc => ?_)
      | refine aw_condNB rfl trivial (fun hc => ?_) (fun hc => ?_)
      | refine aw_cond rfl trivial (fun hc => ?_) (fun hc => ?_)
      | refine aw_ret ?_
      | refine aw_exit ?_
      | refine ao_op rfl ?_ ?_
      | refine aq_op rfl ?_ ?_
      | refine at_op rfl ?_ ?_
      | refine am_op rfl ?_ rfl ?_
      | refine ao_box rfl trivial rfl rfl rfl ?_
      | refine ao_alloc rfl rfl rfl rfl ?_
      | refine ao_store rfl rfl trivial rfl trivial rfl rfl rfl rfl rfl ?_
    
      | (show allP _; first | trivial | exact ob1 (fun h => h) | exact ob2 (fun h => h) (fun h => h) | exact ob1 (fun h => ⟨h.1, trivial⟩) | (simp only [allP, obg, grd, allT, InR, decide_eq_true_eq, Bool.and_eq_true, Bool.not_eq_true', decide_eq_false_iff_not, List.nil_append, List.cons_append, List.append_nil, and_true, true_and]; first | omega | (intros; omega) | (simp only [Blk.len, List.length_set, List.length_append, List.length_cons, List.length_nil]; first | omega | (intros; omega)) | (refine ⟨?_, ?_⟩ <;> intros <;> first | (with_reducible assumption) | omega) | ((repeat' refine And.intro ?_ ?_) <;> (intros; first | (with_reducible assumption) | omega | (simp only [Blk.len, List.length_set, List.length_append, List.length_cons, List.length_nil]; omega))) | ((try simp only [Bool.or_eq_true, Bool.or_eq_false_iff, Bool.and_eq_true, Bool.and_eq_false_iff, decide_eq_true_eq, decide_eq_false_iff_not, Bool.not_eq_true', Bool.not_eq_false'] at *); (try simp only [Blk.len] at *); first | omega | (intros; omega)) | (simp_all; done))))
    refine aw_weak (F' := [(13, [], .d (iD 0)), (12, [], .d (bD false)), (10, [], .own 1), (4, [], .ptr 0 0), (1, [], .d (boolsD down)), (2, [], .d (iD n)), (3, [], .d (bD fr))]) (S' := [tBlk t, .ints .i64 l]) (by refine weak_to ?_ ?_ rfl rfl
                                                                                                                                                                                                                      · repeat (first | exact subF_nil | refine subF_cons (by first | rfl | (simp [look]; done)) ?_)
                                                                                                                                                                                                                      · repeat (first | exact subS_nil | refine subS_cons (by first | rfl | (simp; done)) ?_)) (Nat.le_of_ble_eq_true rfl) ?_
    refine rs_inner hf n0 n1 HB fun l' ch F S HB' h1 h2 hF hS => ?_
    refine ⟨(l', ch), ⟨HB', fun h => ?_⟩, ?_, weak_to hF hS rfl rfl⟩
    · simp only at h ⊢
      obtain ⟨e, hI⟩ := h1 h
      rw [e]; exact hI
    · simp only
      cases ch with
      | false => rw [(h1 rfl).1]; simp
      | true => have := h2 rfl; simp only [cond_true]; omega

theorem r_Dist (t : Topo) (down : List Bool) (d : Int) : Ctr Try.prog 14 [topoD t, boolsD down, iD d] [.ints .i64 (distL t down d false)] (.tup [.own 0, .d (iD (errS t down d))]) := by
  refine spec_of envOK (enters_of Try.func14 (by kernel_rfl) (by kernel_rfl)) Try.func14 rfl rfl _ rfl (Nat.le_of_ble_eq_true rfl) rfl fun w0 => ?_
  repeat' (first
  
    | refine aw_seq ?_
    | refine aw_region ?_
    | refine aw_region_q (by kernel_rfl) (by kernel_rfl) ?_
    | refine aw_block ?_
    | refine ao_nil ?_
    | refine ao_op rfl trivial ?_
    | refine aq_nil ?_
    | refine aq_op rfl trivial ?_
    | refine at_nil ?_
    | refine at_op rfl trivial ?_
    | refine am_nil ?_
    | refine am_op rfl trivial rfl ?_
    | refine aw_skip ?_
    | refine aw_condT rfl trivial ?_
    | refine aw_condF rfl trivial ?_
    | refine aw_condD rfl trivial (fun hc => ?_) (fun hc => ?_)
    | refine aw_condN rfl trivial (fun hc => ?_) (fun hc => ?_)
    | refine aw_condNB rfl trivial (fun hc => ?_) (fun hc => ?_)
    | refine aw_cond rfl trivial (fun hc => ?_) (fun hc => ?_)
    | refine aw_ret ?_
    | refine aw_exit ?_
    | refine ao_op rfl ?_ ?_
    | refine aq_op rfl ?_ ?_
    | refine at_op rfl ?_ ?_
    | refine am_op rfl ?_ rfl ?_
    | refine ao_box rfl trivial rfl rfl rfl ?_
    | refine ao_alloc rfl rfl rfl rfl ?_
    | refine ao_store rfl rfl trivial rfl trivial rfl rfl rfl rfl rfl ?_
    | refine ao_callR rfl (r_search t down d false) trivial rfl rfl ?_
    | (show allP _; first | trivial | exact ob1 (fun h => h) | exact ob2 (fun h => h) (fun h => h) | exact ob1 (fun h => ⟨h.1, trivial⟩) | (simp only [allP, obg, grd, allT, InR, decide_eq_true_eq, Bool.and_eq_true, Bool.not_eq_true', decide_eq_false_iff_not, List.nil_append, List.cons_append, List.append_nil, and_true, true_and]; first | omega | (intros; omega) | (simp only [Blk.len, List.length_set, List.length_append, List.length_cons, List.length_nil]; first | omega | (intros; omega)) | (refine ⟨?_, ?_⟩ <;> intros <;> first | (with_reducible assumption) | omega) | ((repeat' refine And.intro ?_ ?_) <;> (intros; first | (with_reducible assumption) | omega | (simp only [Blk.len, List.length_set, List.length_append, List.length_cons, List.length_nil]; omega))) | ((try simp only [Bool.or_eq_true, Bool.or_eq_false_iff, Bool.and_eq_true, Bool.and_eq_false_iff, decide_eq_true_eq, decide_eq_false_iff_not, Bool.not_eq_true', Bool.not_eq_false'] at *); (try simp only [Blk.len] at *); first | omega | (intros; omega)) | (simp_all; done))))
  refine fin_ret ?_; exact retOwn2 rfl rfl rfl rfl trivial rfl
theorem r_From (t : Topo) (down : List Bool) (s : Int) : Ctr Try.prog 24 [topoD t, boolsD down, iD s] [.ints .i64 (distL t down s true)] (.tup [.own 0, .d (iD (errS t down s))]) := by
  refine spec_of envOK (enters_of Try.func24 (by kernel_rfl) (by kernel_rfl)) Try.func24 rfl rfl _ rfl (Nat.le_of_ble_eq_true rfl) rfl fun w0 => ?_
  repeat' (first
  
    | refine aw_seq ?_
    | refine aw_region ?_
    | refine aw_region_q (by kernel_rfl) (by kernel_rfl) ?_
    | refine aw_block ?_
    | refine ao_nil ?_
    | refine ao_op rfl trivial ?_
    | refine aq_nil ?_
    | refine aq_op rfl trivial ?_
    | refine at_nil ?_
    | refine at_op rfl trivial ?_
    | refine am_nil ?_
    | refine am_op rfl trivial rfl ?_
    | refine aw_skip ?_
    | refine aw_condT rfl trivial ?_
    | refine aw_condF rfl trivial ?_
    | refine aw_condD rfl trivial (fun hc => ?_) (fun hc => ?_)
    | refine aw_condN rfl trivial (fun hc => ?_) (fun hc => ?_)
    | refine aw_condNB rfl trivial (fun hc => ?_) (fun hc => ?_)
    | refine aw_cond rfl trivial (fun hc => ?_) (fun hc => ?_)
    | refine aw_ret ?_
    | refine aw_exit ?_
    | refine ao_op rfl ?_ ?_
    | refine aq_op rfl ?_ ?_
    | refine at_op rfl ?_ ?_
    | refine am_op rfl ?_ rfl ?_
    | refine ao_box rfl trivial rfl rfl rfl ?_
    | refine ao_alloc rfl rfl rfl rfl ?_
    | refine ao_store rfl rfl trivial rfl trivial rfl rfl rfl rfl rfl ?_
    | refine ao_callR rfl (r_search t down s true) trivial rfl rfl ?_
    | (show allP _; first | trivial | exact ob1 (fun h => h) | exact ob2 (fun h => h) (fun h => h) | exact ob1 (fun h => ⟨h.1, trivial⟩) | (simp only [allP, obg, grd, allT, InR, decide_eq_true_eq, Bool.and_eq_true, Bool.not_eq_true', decide_eq_false_iff_not, List.nil_append, List.cons_append, List.append_nil, and_true, true_and]; first | omega | (intros; omega) | (simp only [Blk.len, List.length_set, List.length_append, List.length_cons, List.length_nil]; first | omega | (intros; omega)) | (refine ⟨?_, ?_⟩ <;> intros <;> first | (with_reducible assumption) | omega) | ((repeat' refine And.intro ?_ ?_) <;> (intros; first | (with_reducible assumption) | omega | (simp only [Blk.len, List.length_set, List.length_append, List.length_cons, List.length_nil]; omega))) | ((try simp only [Bool.or_eq_true, Bool.or_eq_false_iff, Bool.and_eq_true, Bool.and_eq_false_iff, decide_eq_true_eq, decide_eq_false_iff_not, Bool.not_eq_true', Bool.not_eq_false'] at *); (try simp only [Blk.len] at *); first | omega | (intros; omega)) | (simp_all; done))))
  refine fin_ret ?_; exact retOwn2 rfl rfl rfl rfl trivial rfl

end Go.Proofs.Ytnmajhoehmlcjaa

/- The reference of layer 11: On, Path. -/
namespace Go.Proofs.Ytnmajhoehmlcjaa
open Go.Wk

def onR (t : Topo) (down : List Bool) (l : List Int) (a d : Int) : Bool :=
  upB down a && !decide (tailT t a = d) && decide (0 ≤ gI l (headT t a)) && transB t (headT t a) d && decide (gI l (tailT t a) = gI l (headT t a) + costT t a)
theorem onR_P {t : Topo} {down : List Bool} {l : List Int} {a d n : Int} (ht : tailT t a = n) (hn : n ≠ d) : onR t down l a d = onP t down d l n a := by
  simp only [onR, onP, ht, decide_eq_false hn, Bool.not_false, Bool.and_true, transB]

set_option maxHeartbeats 1000000 in
theorem r_On (t : Topo) (down : List Bool) (l : List Int) (a d : Int) (hf : fitsB t down = true) (h0 : 0 ≤ a) (h1 : a < 2 * t.links.length) (hl : (l.length : Int) = t.nodes) (hb : ∀ i : Int, 0 ≤ i → i < t.nodes → gI l i ≤ 65535 * 64 ∧ -1 ≤ gI l i) :
    Ctr Try.prog 22 [topoD t, boolsD down, intsD l, iD a, iD d] [] (.d (bD (onR t down l a d))) := by
  refine spec_of envOK (enters_of Try.func22 (by kernel_rfl) (by kernel_rfl)) Try.func22 rfl rfl _ rfl (Nat.le_of_ble_eq_true rfl) rfl fun w0 => ?_
  have hv := fitsB_v hf
  have hnn := validB_head hv
  have hk := arc_ok hv h0 h1
  have hup : down.length = 0 ∨ 0 ≤ a ∧ a < down.length := by
    simp only [fitsB, Bool.and_eq_true, Bool.or_eq_true, decide_eq_true_eq] at hf
    omega
  have hy : l.getD (headT t a).toNat 0 ≤ 65535 * 64 ∧ -1 ≤ l.getD (headT t a).toNat 0 := hb _ hk.2.2.1 hk.2.2.2.1
  clear hb
  repeat' (first
  
    | refine aw_seq ?_
    | refine aw_region ?_
    | refine aw_region_q (by kernel_rfl) (by kernel_rfl) ?_
    | refine aw_block ?_
    | refine ao_nil ?_
    | refine ao_op rfl trivial ?_
    | refine aq_nil ?_
    | refine aq_op rfl trivial ?_
    | refine at_nil ?_
    | refine at_op rfl trivial ?_
    | refine am_nil ?_
    | refine am_op rfl trivial rfl ?_
    | refine aw_skip ?_
    | refine aw_condT rfl trivial ?_
    | refine aw_condF rfl trivial ?_
    | refine aw_condD rfl trivial (fun hc => ?_) (fun hc => ?_)
    | refine aw_condN rfl trivial (fun hc => ?_) (fun hc => ?_)
    | refine aw_condNB rfl trivial (fun hc => ?_) (fun hc => ?_)
    | refine aw_cond rfl trivial (fun hc => ?_) (fun hc => ?_)
    | refine aw_ret ?_
    | refine aw_exit ?_
    | refine ao_op rfl ?_ ?_
    | refine aq_op rfl ?_ ?_
    | refine at_op rfl ?_ ?_
    | refine am_op rfl ?_ rfl ?_
    | refine ao_box rfl trivial rfl rfl rfl ?_
    | refine ao_alloc rfl rfl rfl rfl ?_
    | refine ao_store rfl rfl trivial rfl trivial rfl rfl rfl rfl rfl ?_
    | (first | refine ao_call rfl (r_Tail _ _) rfl ?_ ?_ | refine aq_call rfl (r_Tail _ _) rfl ?_ ?_)
    | (first | refine ao_call rfl (r_Head _ _) rfl ?_ ?_ | refine aq_call rfl (r_Head _ _) rfl ?_ ?_)
    | (first | refine ao_call rfl (r_Up down _ hup) rfl ?_ ?_ | refine aq_call rfl (r_Up down _ hup) rfl ?_ ?_)
    | (first | refine ao_call rfl (r_transit _ _ _) rfl ?_ ?_ | refine aq_call rfl (r_transit _ _ _) rfl ?_ ?_)
    | (first | refine ao_call rfl (r_Cost _ _) rfl ?_ ?_ | refine aq_call rfl (r_Cost _ _) rfl ?_ ?_)
    | (show allP _; first | trivial | exact ob1 (fun h => h) | exact ob2 (fun h => h) (fun h => h) | exact ob1 (fun h => ⟨h.1, trivial⟩) | (simp only [allP, obg, grd, allT, InR, decide_eq_true_eq, Bool.and_eq_true, Bool.not_eq_true', decide_eq_false_iff_not, List.nil_append, List.cons_append, List.append_nil, and_true, true_and]; first | omega | (intros; omega) | (simp only [Blk.len, List.length_set, List.length_append, List.length_cons, List.length_nil]; first | omega | (intros; omega)) | (refine ⟨?_, ?_⟩ <;> intros <;> first | (with_reducible assumption) | omega) | ((repeat' refine And.intro ?_ ?_) <;> (intros; first | (with_reducible assumption) | omega | (simp only [Blk.len, List.length_set, List.length_append, List.length_cons, List.length_nil]; omega))) | ((try simp only [Bool.or_eq_true, Bool.or_eq_false_iff, Bool.and_eq_true, Bool.and_eq_false_iff, decide_eq_true_eq, decide_eq_false_iff_not, Bool.not_eq_true', Bool.not_eq_false'] at *); (try simp only [Blk.len] at *); first | omega | (intros; omega)) | (simp_all; done))))
  (refine fin_ret ?_; exact ret1 (by rfl) (by (simp only [onR, gI, Bool.and_assoc])) (by rfl))

end Go.Proofs.Ytnmajhoehmlcjaa

/- The reference of layer 11: Path. -/
namespace Go.Proofs.Ytnmajhoehmlcjaa
open Go.Wk

set_option maxHeartbeats 4000000 in
theorem rp_inner {Q : Exit → Fr → List Blk → Prop} {w0 : World} {t : Topo} {down : List Bool} {d n : Int} {l acc : List Int} (hf : fitsB t down = true) (hl : IsDist t down d false l) (hbd : ∀ i : Int, 0 ≤ i → i < t.nodes → gI l i ≤ 65535 * 64) (h0 : 0 ≤ n) (h1 : n < t.nodes) (hn : 0 ≤ gI l n) (hnd : n ≠ d) (hacc : acc.length ≤ 10000000)
    (hQ : ∀ a F S, nextP t down d l n = some a → subF F [(2, [], .d (iD (headT t a))), (12, [], .own 2), (10, [], .own 1), (4, [], .ptr 0 0), (1, [], .d (boolsD down)), (3, [], .d (iD d))] →
      subS S [tBlk t, .ints .i64 l, .ints .i64 (acc ++ [a])] → Q (.exit 2) F S) :
    AW Try.prog env (Base.of w0) Try.f17.ntmps (loopC Try.f17 11) Q
      [(13, [], .d (iD 0)), (2, [], .d (iD n)), (12, [], .own 2), (10, [], .own 1), (4, [], .ptr 0 0), (1, [], .d (boolsD down)), (3, [], .d (iD d))]
      [tBlk t, .ints .i64 l, .ints .i64 acc] := by
  have hv := fitsB_v hf
  have hnn := validB_head hv
  have hl2 := hl.len
  have hb2 : ∀ i : Int, 0 ≤ i → i < t.nodes → gI l i ≤ 65535 * 64 ∧ -1 ≤ gI l i := fun i i0 i1 => ⟨hbd i i0 i1, by have := hl.sign i i0 i1; omega⟩
  refine aw_loop (ι := Nat) (fun j => [(13, [], .d (iD j)), (2, [], .d (iD n)), (12, [], .own 2), (10, [], .own 1), (4, [], .ptr 0 0), (1, [], .d (boolsD down)), (3, [], .d (iD d))])
    (fun j => [tBlk t, .ints .i64 l, .ints .i64 acc])
    (fun j => j ≤ 2 * t.links.length ∧ ∀ i : Nat, i < j → tailT t i = n → onP t down d l n i = false) (fun j => 2 * t.links.length - j) 0 ⟨by simp, fun i hi => by omega⟩ (fun _ => Nat.le_of_ble_eq_true rfl) (by refine weak_to ?_ ?_ rfl rfl
                                                                                                                                                                                                                   · repeat (first | exact subF_nil | refine subF_cons (by first | rfl | (simp [look]; done)) ?_)
                                                                                                                                                                                                                   · repeat (first | exact subS_nil | refine subS_cons (by first | rfl | (simp; done)) ?_)) fun j hj => ?_
  obtain ⟨hj, hno⟩ := hj
  by_cases hjl : j < 2 * t.links.length
  · have hOn := r_On t down l (j : Int) d hf (by omega) (by omega) hl2 hb2
    repeat' (first
    
      | refine aw_seq ?_
      | refine aw_region ?_
      | refine aw_region_q (by kernel_rfl) (by kernel_rfl) ?_
      | refine aw_block ?_
      | refine ao_nil ?_
      | refine ao_op rfl trivial ?_
      | refine aq_nil ?_
      | refine aq_op rfl trivial ?_
      | refine at_nil ?_
      | refine at_op rfl trivial ?_
      | refine am_nil ?_
      | refine am_op rfl trivial rfl ?_
      | refine aw_skip ?_
      | refine aw_condT rfl trivial ?_
      | refine aw_condF rfl trivial ?_
      | refine aw_condD rfl trivial (fun hc => ?_) (fun hc => ?_)
      | refine aw_condN rfl trivial (fun hc => ?_) (fun hc => ?_)
      | refine aw_condNB rfl trivial (fun hc => ?_) (fun hc => ?_)
      | refine aw_cond rfl trivial (fun hc => ?_) (fun hc => ?_)
      | refine aw_ret ?_
      | refine aw_exit ?_
      | refine ao_op rfl ?_ ?_
      | refine aq_op rfl ?_ ?_
      | refine at_op rfl ?_ ?_
      | refine am_op rfl ?_ rfl ?_
      | refine ao_box rfl trivial rfl rfl rfl ?_
      | refine ao_alloc rfl rfl rfl rfl ?_
      | refine ao_store rfl rfl trivial rfl trivial rfl rfl rfl rfl rfl ?_
      | (first | refine ao_call rfl (r_Tail _ _) rfl ?_ ?_ | refine aq_call rfl (r_Tail _ _) rfl ?_ ?_)
      | (first | refine ao_call rfl (r_Head _ _) rfl ?_ ?_ | refine aq_call rfl (r_Head _ _) rfl ?_ ?_)
      | (first | refine ao_call rfl (hOn) rfl ?_ ?_ | refine aq_call rfl (hOn) rfl ?_ ?_)
      | refine ao_lit rfl rfl rfl rfl trivial rfl rfl rfl rfl rfl rfl ?_
      | refine ao_app rfl rfl rfl rfl trivial rfl trivial rfl rfl trivial rfl rfl rfl rfl rfl (by simp [Blk.len]; omega) rfl rfl rfl ?_
      | (show allP _; first | trivial | exact ob1 (fun h => h) | exact ob2 (fun h => h) (fun h => h) | exact ob1 (fun h => ⟨h.1, trivial⟩) | (simp only [allP, obg, grd, allT, InR, decide_eq_true_eq, Bool.and_eq_true, Bool.not_eq_true', decide_eq_false_iff_not, List.nil_append, List.cons_append, List.append_nil, and_true, true_and]; first | omega | (intros; omega) | (simp only [Blk.len, List.length_set, List.length_append, List.length_cons, List.length_nil]; first | omega | (intros; omega)) | (refine ⟨?_, ?_⟩ <;> intros <;> first | (with_reducible assumption) | omega) | ((repeat' refine And.intro ?_ ?_) <;> (intros; first | (with_reducible assumption) | omega | (simp only [Blk.len, List.length_set, List.length_append, List.length_cons, List.length_nil]; omega))) | ((try simp only [Bool.or_eq_true, Bool.or_eq_false_iff, Bool.and_eq_true, Bool.and_eq_false_iff, decide_eq_true_eq, decide_eq_false_iff_not, Bool.not_eq_true', Bool.not_eq_false'] at *); (try simp only [Blk.len] at *); first | omega | (intros; omega)) | (simp_all; done))))
    all_goals try (exfalso; omega)
    · simp only [Bool.and_eq_true, decide_eq_true_eq] at hc
      have hon : onP t down d l n (j : Int) = true := by rw [← onR_P hc.1 hnd]; exact hc.2
      exact hQ _ _ _ (nextP_all hv hjl hc.1 hno hon) (by repeat (first | exact subF_nil | refine subF_cons rfl ?_)) (by (repeat (first | exact subS_nil | refine subS_cons (by first | rfl | rfl) ?_)))
    · refine ⟨j + 1, ⟨by omega, fun i hi ht => ?_⟩, by omega, ?_⟩
      · rcases Nat.lt_succ_iff_lt_or_eq.1 hi with h | rfl
        · exact hno i h ht
        · rw [decide_eq_true ht, Bool.true_and] at hc
          rw [← onR_P ht hnd]; exact hc
      · refine weak_to ?_ ?_ rfl rfl
        · repeat (first | exact subF_nil | refine subF_cons (by first | rfl | (simp [look]; done)) ?_)
        · repeat (first | exact subS_nil | refine subS_cons (by first | rfl | (simp; done)) ?_)
  · repeat' (first
    
      | refine aw_seq ?_
      | refine aw_region ?_
      | refine aw_region_q (by kernel_rfl) (by kernel_rfl) ?_
      | refine aw_block ?_
      | refine ao_nil ?_
      | refine ao_op rfl trivial ?_
      | refine aq_nil ?_
      | refine aq_op rfl trivial ?_
      | refine at_nil ?_
      | refine at_op rfl trivial ?_
      | refine am_nil ?_
      | refine am_op rfl trivial rfl ?_
      | refine aw_skip ?_
      | refine aw_condT rfl trivial ?_
      | refine aw_condF rfl trivial ?_
      | refine aw_condD rfl trivial (fun hc => ?_) (fun hc => ?_)
      | refine aw_condN rfl trivial (fun hc => ?_) (fun hc => ?_)
      | refine aw_condNB rfl trivial (fun hc => ?_) (fun hc => ?_)
      | refine aw_cond rfl trivial (fun hc => ?_) (fun hc => ?_)
      | refine aw_ret ?_
      | refine aw_exit ?_
      | refine ao_op rfl ?_ ?_
      | refine aq_op rfl ?_ ?_
      | refine at_op rfl ?_ ?_
      | refine am_op rfl ?_ rfl ?_
      | refine ao_box rfl trivial rfl rfl rfl ?_
      | refine ao_alloc rfl rfl rfl rfl ?_
      | refine ao_store rfl rfl trivial rfl trivial rfl rfl rfl rfl rfl ?_
      | (exfalso; omega)
      | (show allP _; first | trivial | exact ob1 (fun h => h) | exact ob2 (fun h => h) (fun h => h) | exact ob1 (fun h => ⟨h.1, trivial⟩) | (simp only [allP, obg, grd, allT, InR, decide_eq_true_eq, Bool.and_eq_true, Bool.not_eq_true', decide_eq_false_iff_not, List.nil_append, List.cons_append, List.append_nil, and_true, true_and]; first | omega | (intros; omega) | (simp only [Blk.len, List.length_set, List.length_append, List.length_cons, List.length_nil]; first | omega | (intros; omega)) | (refine ⟨?_, ?_⟩ <;> intros <;> first | (with_reducible assumption) | omega) | ((repeat' refine And.intro ?_ ?_) <;> (intros; first | (with_reducible assumption) | omega | (simp only [Blk.len, List.length_set, List.length_append, List.length_cons, List.length_nil]; omega))) | ((try simp only [Bool.or_eq_true, Bool.or_eq_false_iff, Bool.and_eq_true, Bool.and_eq_false_iff, decide_eq_true_eq, decide_eq_false_iff_not, Bool.not_eq_true', Bool.not_eq_false'] at *); (try simp only [Blk.len] at *); first | omega | (intros; omega)) | (simp_all; done))))
    exfalso
    obtain ⟨a, e, a0, a1, a2, a3, _⟩ := nextP_some hv hl h0 h1 hn hnd
    have := hno a.toNat (by omega) (by rw [show ((a.toNat : Nat) : Int) = a by omega]; exact a2)
    rw [show ((a.toNat : Nat) : Int) = a by omega, a3] at this
    cases this

set_option maxHeartbeats 4000000 in
theorem r_Path (t : Topo) (down : List Bool) (s d : Int) : Ctr Try.prog 17 [topoD t, boolsD down, iD s, iD d] [.ints .i64 (pathL t down s d)] (.tup [.own 0, .d (iD (errP t down s d))]) := by
  refine spec_of envOK (enters_of Try.func17 (by kernel_rfl) (by kernel_rfl)) Try.func17 rfl rfl _ rfl (Nat.le_of_ble_eq_true rfl) rfl fun w0 => ?_
  by_cases he : errS t down d = 0
  · have hl := distL_is (fr := false) he
    have hbd := distL_bnd (fr := false) he
    obtain ⟨hf, d0, d1⟩ := errS_0 he
    have hll := hl.len
    generalize hg : distL t down d false = l at *
    repeat' (first
    
      | refine aw_seq ?_
      | refine aw_region ?_
      | refine aw_region_q (by kernel_rfl) (by kernel_rfl) ?_
      | refine aw_block ?_
      | refine ao_nil ?_
      | refine ao_op rfl trivial ?_
      | refine aq_nil ?_
      | refine aq_op rfl trivial ?_
      | refine at_nil ?_
      | refine at_op rfl trivial ?_
      | refine am_nil ?_
      | refine am_op rfl trivial rfl ?_
      | refine aw_skip ?_
      | refine aw_condT rfl trivial ?_
      | refine aw_condF rfl trivial ?_
      | refine aw_condD rfl trivial (fun hc => ?_) (fun hc => ?_)
      | refine aw_condN rfl trivial (fun hc => ?_) (fun hc => ?_)
      | refine aw_condNB rfl trivial (fun hc => ?_) (fun hc => ?_)
      | refine aw_cond rfl trivial (fun hc => ?_) (fun hc => ?_)
      | refine aw_ret ?_
      | refine aw_exit ?_
      | refine ao_op rfl ?_ ?_
      | refine aq_op rfl ?_ ?_
      | refine at_op rfl ?_ ?_
      | refine am_op rfl ?_ rfl ?_
      | refine ao_box rfl trivial rfl rfl rfl ?_
      | refine ao_alloc rfl rfl rfl rfl ?_
      | refine ao_store rfl rfl trivial rfl trivial rfl rfl rfl rfl rfl ?_
      | refine ao_callR rfl ((hg ▸ r_Dist t down d)) trivial rfl rfl ?_
      | (show allP _; first | trivial | exact ob1 (fun h => h) | exact ob2 (fun h => h) (fun h => h) | exact ob1 (fun h => ⟨h.1, trivial⟩) | (simp only [allP, obg, grd, allT, InR, decide_eq_true_eq, Bool.and_eq_true, Bool.not_eq_true', decide_eq_false_iff_not, List.nil_append, List.cons_append, List.append_nil, and_true, true_and]; first | omega | (intros; omega) | (simp only [Blk.len, List.length_set, List.length_append, List.length_cons, List.length_nil]; first | omega | (intros; omega)) | (refine ⟨?_, ?_⟩ <;> intros <;> first | (with_reducible assumption) | omega) | ((repeat' refine And.intro ?_ ?_) <;> (intros; first | (with_reducible assumption) | omega | (simp only [Blk.len, List.length_set, List.length_append, List.length_cons, List.length_nil]; omega))) | ((try simp only [Bool.or_eq_true, Bool.or_eq_false_iff, Bool.and_eq_true, Bool.and_eq_false_iff, decide_eq_true_eq, decide_eq_false_iff_not, Bool.not_eq_true', Bool.not_eq_false'] at *); (try simp only [Blk.len] at *); first | omega | (intros; omega)) | (simp_all; done))))
    · exact absurd he hc
    · refine fin_ret ?_
      have e : errP t down s d = 2 := by unfold errP; rw [if_pos he, hc]; rfl
      exact retNil2 rfl (by simp [pathL, e, Blk.len]) (by rw [e]) trivial rfl
    · rename_i hs
      refine fin_ret ?_
      have e : errP t down s d = 11 := by unfold errP; rw [if_pos he, hs, hg, if_pos hc]; rfl
      exact retNil2 rfl (by simp [pathL, e, Blk.len]) (by rw [e]) trivial rfl
    rename_i hs
    have e : errP t down s d = 0 := by unfold errP; rw [if_pos he, hs, hg, if_neg hc]; rfl
    obtain ⟨_, s0, s1, sn⟩ := errP_0 e
    rw [hg] at sn
    have hv := fitsB_v hf
    have hnn := validB_head hv
    refine aw_weak (F' := [(2, [], .d (iD s)), (12, [], .nil), (10, [], .own 1), (4, [], .ptr 0 0), (1, [], .d (boolsD down)), (3, [], .d (iD d))]) (S' := [tBlk t, .ints .i64 l]) (by refine weak_to ?_ ?_ rfl rfl
                                                                                                                                                                                       · repeat (first | exact subF_nil | refine subF_cons (by first | rfl | (simp [look]; done)) ?_)
                                                                                                                                                                                       · repeat (first | exact subS_nil | refine subS_cons (by first | rfl | (simp; done)) ?_)) (Nat.le_of_ble_eq_true rfl) ?_
    refine aw_weak (weak_nil (t := 12) (.ints .i64 []) rfl rfl rfl rfl rfl) (Nat.le_of_ble_eq_true rfl) ?_
    refine aw_loop (ι := Int × List Int) (fun x => [(2, [], .d (iD x.1)), (12, [], .own 2), (10, [], .own 1), (4, [], .ptr 0 0), (1, [], .d (boolsD down)), (3, [], .d (iD d))]) (fun x => [tBlk t, .ints .i64 l, .ints .i64 x.2])
      (fun x => 0 ≤ x.1 ∧ x.1 < t.nodes ∧ 0 ≤ gI l x.1 ∧ x.2 ++ pathF t down d l x.1 = pathF t down d l s ∧ x.2.length + gI l x.1 ≤ gI l s) (fun x => (gI l x.1).toNat) (s, []) ⟨s0, s1, sn, by simp, by simp⟩ (fun _ => Nat.le_of_ble_eq_true rfl) (by refine weak_to ?_ ?_ rfl rfl
                                                                                                                                                                                                                                                        · repeat (first | exact subF_nil | refine subF_cons (by first | rfl | (simp [look]; done)) ?_)
                                                                                                                                                                                                                                                        · repeat (first | exact subS_nil | refine subS_cons (by first | rfl | (simp; done)) ?_)) fun x hx => ?_
    obtain ⟨n, acc⟩ := x
    obtain ⟨n0, n1, nn, hacc, hlen⟩ := hx
    simp only at n0 n1 nn hacc hlen ⊢
    have hbs := hbd s s0 s1
    by_cases hnd : n = d
    · repeat' (first
      
        | refine aw_seq ?_
        | refine aw_region ?_
        | refine aw_region_q (by kernel_rfl) (by kernel_rfl) ?_
        | refine aw_block ?_
        | refine ao_nil ?_
        | refine ao_op rfl trivial ?_
        | refine aq_nil ?_
        | refine aq_op rfl trivial ?_
        | refine at_nil ?_
        | refine at_op rfl trivial ?_
        | refine am_nil ?_
        | refine am_op rfl trivial rfl ?_
        | refine aw_skip ?_
        | refine aw_condT rfl trivial ?_
        | refine aw_condF rfl trivial ?_
        | refine aw_condD rfl trivial (fun hc => ?_) (fun hc => ?_)
        | refine aw_condN rfl trivial (fun hc => ?_) (fun hc => ?_)
        | refine aw_condNB rfl trivial (fun hc => ?_) (fun hc => ?_)
        | refine aw_cond rfl trivial (fun hc => ?_) (fun hc => ?_)
        | refine aw_ret ?_
        | refine aw_exit ?_
        | refine ao_op rfl ?_ ?_
        | refine aq_op rfl ?_ ?_
        | refine at_op rfl ?_ ?_
        | refine am_op rfl ?_ rfl ?_
        | refine ao_box rfl trivial rfl rfl rfl ?_
        | refine ao_alloc rfl rfl rfl rfl ?_
        | refine ao_store rfl rfl trivial rfl trivial rfl rfl rfl rfl rfl ?_
      
        | (show allP _; first | trivial | exact ob1 (fun h => h) | exact ob2 (fun h => h) (fun h => h) | exact ob1 (fun h => ⟨h.1, trivial⟩) | (simp only [allP, obg, grd, allT, InR, decide_eq_true_eq, Bool.and_eq_true, Bool.not_eq_true', decide_eq_false_iff_not, List.nil_append, List.cons_append, List.append_nil, and_true, true_and]; first | omega | (intros; omega) | (simp only [Blk.len, List.length_set, List.length_append, List.length_cons, List.length_nil]; first | omega | (intros; omega)) | (refine ⟨?_, ?_⟩ <;> intros <;> first | (with_reducible assumption) | omega) | ((repeat' refine And.intro ?_ ?_) <;> (intros; first | (with_reducible assumption) | omega | (simp only [Blk.len, List.length_set, List.length_append, List.length_cons, List.length_nil]; omega))) | ((try simp only [Bool.or_eq_true, Bool.or_eq_false_iff, Bool.and_eq_true, Bool.and_eq_false_iff, decide_eq_true_eq, decide_eq_false_iff_not, Bool.not_eq_true', Bool.not_eq_false'] at *); (try simp only [Blk.len] at *); first | omega | (intros; omega)) | (simp_all; done))))
      all_goals try (exfalso; omega)
      refine fin_ret ?_
      rw [hnd, pathF_end, List.append_nil] at hacc
      exact retOwn2 rfl rfl (by rw [hacc]; simp only [pathL, e, if_true, hg]) (by rw [e]) trivial rfl
    · repeat' (first
      
        | refine aw_seq ?_
        | refine aw_region ?_
        | refine aw_region_q (by kernel_rfl) (by kernel_rfl) ?_
        | refine aw_block ?_
        | refine ao_nil ?_
        | refine ao_op rfl trivial ?_
        | refine aq_nil ?_
        | refine aq_op rfl trivial ?_
        | refine at_nil ?_
        | refine at_op rfl trivial ?_
        | refine am_nil ?_
        | refine am_op rfl trivial rfl ?_
        | refine aw_skip ?_
        | refine aw_condT rfl trivial ?_
        | refine aw_condF rfl trivial ?_
        | refine aw_condD rfl trivial (fun hc => ?_) (fun hc => ?_)
        | refine aw_condN rfl trivial (fun hc => ?_) (fun hc => ?_)
        | refine aw_condNB rfl trivial (fun hc => ?_) (fun hc => ?_)
        | refine aw_cond rfl trivial (fun hc => ?_) (fun hc => ?_)
        | refine aw_ret ?_
        | refine aw_exit ?_
        | refine ao_op rfl ?_ ?_
        | refine aq_op rfl ?_ ?_
        | refine at_op rfl ?_ ?_
        | refine am_op rfl ?_ rfl ?_
        | refine ao_box rfl trivial rfl rfl rfl ?_
        | refine ao_alloc rfl rfl rfl rfl ?_
        | refine ao_store rfl rfl trivial rfl trivial rfl rfl rfl rfl rfl ?_
      
        | (show allP _; first | trivial | exact ob1 (fun h => h) | exact ob2 (fun h => h) (fun h => h) | exact ob1 (fun h => ⟨h.1, trivial⟩) | (simp only [allP, obg, grd, allT, InR, decide_eq_true_eq, Bool.and_eq_true, Bool.not_eq_true', decide_eq_false_iff_not, List.nil_append, List.cons_append, List.append_nil, and_true, true_and]; first | omega | (intros; omega) | (simp only [Blk.len, List.length_set, List.length_append, List.length_cons, List.length_nil]; first | omega | (intros; omega)) | (refine ⟨?_, ?_⟩ <;> intros <;> first | (with_reducible assumption) | omega) | ((repeat' refine And.intro ?_ ?_) <;> (intros; first | (with_reducible assumption) | omega | (simp only [Blk.len, List.length_set, List.length_append, List.length_cons, List.length_nil]; omega))) | ((try simp only [Bool.or_eq_true, Bool.or_eq_false_iff, Bool.and_eq_true, Bool.and_eq_false_iff, decide_eq_true_eq, decide_eq_false_iff_not, Bool.not_eq_true', Bool.not_eq_false'] at *); (try simp only [Blk.len] at *); first | omega | (intros; omega)) | (simp_all; done))))
      all_goals try (exfalso; omega)
      refine aw_weak (F' := [(13, [], .d (iD 0)), (2, [], .d (iD n)), (12, [], .own 2), (10, [], .own 1), (4, [], .ptr 0 0), (1, [], .d (boolsD down)), (3, [], .d (iD d))])
        (S' := [tBlk t, .ints .i64 l, .ints .i64 acc]) (by refine weak_to ?_ ?_ rfl rfl
                                                           · repeat (first | exact subF_nil | refine subF_cons (by first | rfl | (simp [look]; done)) ?_)
                                                           · repeat (first | exact subS_nil | refine subS_cons (by first | rfl | (simp; done)) ?_)) (Nat.le_of_ble_eq_true rfl) ?_
      refine rp_inner hf hl hbd n0 n1 nn hnd (by omega) fun a F S ha hF hS => ?_
      obtain ⟨b, e1, _, _, _, eon, b4, b5, b6, b7⟩ := nextP_some hv hl n0 n1 nn hnd
      rw [ha] at e1; cases e1
      have hon := onP_iff.1 eon
      refine ⟨(headT t a, acc ++ [a]), ⟨b6, b7, b4, ?_, ?_⟩, ?_, ?_⟩
      · rw [← hacc, pathF_step hv hl n0 n1 nn hnd ha]; simp
      · simp only [List.length_append, List.length_cons, List.length_nil]; omega
      · simp only; omega
      · exact weak_to hF hS rfl rfl
  · repeat' (first
    
      | refine aw_seq ?_
      | refine aw_region ?_
      | refine aw_region_q (by kernel_rfl) (by kernel_rfl) ?_
      | refine aw_block ?_
      | refine ao_nil ?_
      | refine ao_op rfl trivial ?_
      | refine aq_nil ?_
      | refine aq_op rfl trivial ?_
      | refine at_nil ?_
      | refine at_op rfl trivial ?_
      | refine am_nil ?_
      | refine am_op rfl trivial rfl ?_
      | refine aw_skip ?_
      | refine aw_condT rfl trivial ?_
      | refine aw_condF rfl trivial ?_
      | refine aw_condD rfl trivial (fun hc => ?_) (fun hc => ?_)
      | refine aw_condN rfl trivial (fun hc => ?_) (fun hc => ?_)
      | refine aw_condNB rfl trivial (fun hc => ?_) (fun hc => ?_)
      | refine aw_cond rfl trivial (fun hc => ?_) (fun hc => ?_)
      | refine aw_ret ?_
      | refine aw_exit ?_
      | refine ao_op rfl ?_ ?_
      | refine aq_op rfl ?_ ?_
      | refine at_op rfl ?_ ?_
      | refine am_op rfl ?_ rfl ?_
      | refine ao_box rfl trivial rfl rfl rfl ?_
      | refine ao_alloc rfl rfl rfl rfl ?_
      | refine ao_store rfl rfl trivial rfl trivial rfl rfl rfl rfl rfl ?_
      | refine ao_callR rfl (r_Dist t down d) trivial rfl rfl ?_
      | (show allP _; first | trivial | exact ob1 (fun h => h) | exact ob2 (fun h => h) (fun h => h) | exact ob1 (fun h => ⟨h.1, trivial⟩) | (simp only [allP, obg, grd, allT, InR, decide_eq_true_eq, Bool.and_eq_true, Bool.not_eq_true', decide_eq_false_iff_not, List.nil_append, List.cons_append, List.append_nil, and_true, true_and]; first | omega | (intros; omega) | (simp only [Blk.len, List.length_set, List.length_append, List.length_cons, List.length_nil]; first | omega | (intros; omega)) | (refine ⟨?_, ?_⟩ <;> intros <;> first | (with_reducible assumption) | omega) | ((repeat' refine And.intro ?_ ?_) <;> (intros; first | (with_reducible assumption) | omega | (simp only [Blk.len, List.length_set, List.length_append, List.length_cons, List.length_nil]; omega))) | ((try simp only [Bool.or_eq_true, Bool.or_eq_false_iff, Bool.and_eq_true, Bool.and_eq_false_iff, decide_eq_true_eq, decide_eq_false_iff_not, Bool.not_eq_true', Bool.not_eq_false'] at *); (try simp only [Blk.len] at *); first | omega | (intros; omega)) | (simp_all; done))))
    · refine fin_ret ?_
      have e : errP t down s d = errS t down d := by unfold errP; rw [if_neg he]
      exact retNil2 rfl (by simp [pathL, e, he, Blk.len]) (by rw [e]) trivial rfl
    all_goals exact absurd (by assumption) he
end Go.Proofs.Ytnmajhoehmlcjaa

/- Laws of layer 11: the example. -/
namespace Go.Proofs.Ytnmajhoehmlcjaa
open Go.Wk

/-- A check of distances. -/
def chkDist (t : Topo) (down : List Bool) (n : Int) (fr : Bool) (l : List Int) : Bool :=
  decide ((l.length : Int) = t.nodes) && decide (gI l n = 0) && (arcsR t.nodes.toNat).all (fun i => decide (gI l i = -1) || decide (0 ≤ gI l i)) &&
    (arcsR (2 * t.links.length)).all (fun a => !(upB down a && (decide (nearT t fr a = n) || !overT t (nearT t fr a)) && decide (0 ≤ gI l (nearT t fr a))) || (decide (0 ≤ gI l (farT t fr a)) && decide (gI l (farT t fr a) ≤ gI l (nearT t fr a) + costT t a))) &&
    (arcsR t.nodes.toNat).all (fun i => decide (i = n) || decide (gI l i < 0) || (arcsR (2 * t.links.length)).any fun a => upB down a && (decide (nearT t fr a = n) || !overT t (nearT t fr a)) && decide (farT t fr a = i) && decide (0 ≤ gI l (nearT t fr a)) && decide (gI l i = gI l (nearT t fr a) + costT t a))
theorem chkDist_is {t : Topo} {down : List Bool} {n : Int} {fr : Bool} {l : List Int} (h : chkDist t down n fr l = true) : IsDist t down n fr l := by
  simp only [chkDist, Bool.and_eq_true, decide_eq_true_eq, List.all_eq_true, Bool.or_eq_true, Bool.not_eq_true', Bool.and_eq_false_iff, decide_eq_false_iff_not, Bool.not_eq_false', List.any_eq_true] at h
  obtain ⟨⟨⟨⟨h1, h2⟩, h3⟩, h4⟩, h5⟩ := h
  have hn : t.nodes = (t.nodes.toNat : Int) := by omega
  refine ⟨h1, h2, fun i i0 i1 => h3 i (mem_arcsR.2 (by omega)), fun a a0 a1 hok hq => ?_, fun i i0 i1 hin hh => ?_⟩
  · rcases h4 a (mem_arcsR.2 (by omega)) with h | h
    · obtain ⟨o1, o2⟩ := hok
      rcases h with (h | h) | h
      · rw [o1] at h; cases h
      · rcases o2 with o2 | o2
        · rw [decide_eq_true o2] at h; simp at h
        · rw [o2] at h; simp at h
      · exact absurd hq h
    · exact h
  · rcases h5 i (mem_arcsR.2 (by omega)) with (h | h) | ⟨a, ha, h⟩
    · exact absurd h hin
    · omega
    · obtain ⟨⟨⟨⟨q1, q2⟩, q3⟩, q4⟩, q5⟩ := h
      have := mem_arcsR.1 ha
      exact ⟨a, this.1, by omega, ⟨q1, q2⟩, q3, q4, q5⟩

theorem distL_chk {t : Topo} {down : List Bool} {n : Int} {fr : Bool} {l : List Int} (he : errS t down n = 0) (h : chkDist t down n fr l = true) : distL t down n fr = l := by
  unfold distL
  rw [if_pos he, (chkDist_is h).eq (fitsB_v (errS_0 he).1)]

def sqT2 : Topo := ⟨4, [false, true, false, false], [sqL 0, sqL 1, sqL 2, sqL 3]⟩
theorem sq_d : distL sqT [] 2 false = [2, 1, 0, 1] := distL_chk (by kernel_rfl) (by kernel_rfl)
theorem sq2_d : distL sqT2 [] 2 false = [2, 1, 0, 1] := distL_chk (by kernel_rfl) (by kernel_rfl)
theorem sq_e : errS sqT [] 2 = 0 := by kernel_rfl
theorem sq2_e : errS sqT2 [] 2 = 0 := by kernel_rfl
theorem sq_p : errP sqT [] 0 2 = 0 := by
  unfold errP; rw [if_pos sq_e, sq_d]; decide
theorem sq2_p : errP sqT2 [] 0 2 = 0 := by
  unfold errP; rw [if_pos sq2_e, sq2_d]; decide
theorem sq_path : pathL sqT [] 0 2 = [0, 2] := by
  unfold pathL; rw [if_pos sq_p, sq_d]; kernel_rfl
theorem sq2_path : pathL sqT2 [] 0 2 = [7, 5] := by
  unfold pathL; rw [if_pos sq2_p, sq2_d]; kernel_rfl

theorem a_Dist : Ctr Try.prog 13 [sqD nilD, nilD, iD 2] [.ints .i64 [2, 1, 0, 1]] (.tup [.own 0, .d (iD 0)]) := by
  have := c_Dist sqT [] 2
  rw [sq_d, sq_e] at this
  exact this.args ⟨sqD_le DLe.nil, DLe.nil, DLe.refl _, trivial⟩
theorem a_Path : Ctr Try.prog 16 [sqD nilD, nilD, iD 0, iD 2] [.ints .i64 [0, 2]] (.tup [.own 0, .d (iD 0)]) := by
  have := c_Path sqT [] 0 2
  rw [sq_path, sq_p] at this
  exact this.args ⟨sqD_le DLe.nil, DLe.nil, DLe.refl _, DLe.refl _, trivial⟩
theorem a_Dist2 : Ctr Try.prog 13 [sqD (boolsD [false, true, false, false]), nilD, iD 2] [.ints .i64 [2, 1, 0, 1]] (.tup [.own 0, .d (iD 0)]) := by
  have := c_Dist sqT2 [] 2
  rw [sq2_d, sq2_e] at this
  exact this.args ⟨sqD_le (DLe.refl _), DLe.nil, DLe.refl _, trivial⟩
theorem a_Path2 : Ctr Try.prog 16 [sqD (boolsD [false, true, false, false]), nilD, iD 0, iD 2] [.ints .i64 [7, 5]] (.tup [.own 0, .d (iD 0)]) := by
  have := c_Path sqT2 [] 0 2
  rw [sq2_path, sq2_p] at this
  exact this.args ⟨sqD_le (DLe.refl _), DLe.nil, DLe.refl _, DLe.refl _, trivial⟩

theorem a_Same (a b : List Int) (h : a.length ≤ 100) : Ctr Try.prog 15 [intsD a, intsD b] [] (.d (bD (decide (a = b)))) := r_SameInts a b (by omega)

set_option maxHeartbeats 1000000 in
theorem l_awake : Ctr Try.prog 11 [] [] (.d (bD true)) := by
  refine spec_of envOK (enters_of Try.func11 (by kernel_rfl) (by kernel_rfl)) Try.func11 rfl rfl _ rfl (Nat.le_of_ble_eq_true rfl) rfl fun w0 => ?_
  repeat' (first
  
    | refine aw_seq ?_
    | refine aw_region ?_
    | refine aw_region_q (by kernel_rfl) (by kernel_rfl) ?_
    | refine aw_block ?_
    | refine ao_nil ?_
    | refine ao_op rfl trivial ?_
    | refine aq_nil ?_
    | refine aq_op rfl trivial ?_
    | refine at_nil ?_
    | refine at_op rfl trivial ?_
    | refine am_nil ?_
    | refine am_op rfl trivial rfl ?_
    | refine aw_skip ?_
    | refine aw_condT rfl trivial ?_
    | refine aw_condF rfl trivial ?_
    | refine aw_condD rfl trivial (fun hc => ?_) (fun hc => ?_)
    | refine aw_condN rfl trivial (fun hc => ?_) (fun hc => ?_)
    | refine aw_condNB rfl trivial (fun hc => ?_) (fun hc => ?_)
    | refine aw_cond rfl trivial (fun hc => ?_) (fun hc => ?_)
    | refine aw_ret ?_
    | refine aw_exit ?_
    | refine ao_op rfl ?_ ?_
    | refine aq_op rfl ?_ ?_
    | refine at_op rfl ?_ ?_
    | refine am_op rfl ?_ rfl ?_
    | refine ao_box rfl trivial rfl rfl rfl ?_
    | refine ao_alloc rfl rfl rfl rfl ?_
    | refine ao_store rfl rfl trivial rfl trivial rfl rfl rfl rfl rfl ?_
    | refine ao_callR rfl (l_square) trivial rfl rfl ?_
    | refine ao_callR rfl (a_Dist) trivial rfl rfl ?_
    | refine ao_callR rfl (a_Path) trivial rfl rfl ?_
    | refine ao_callR rfl (a_Dist2) trivial rfl rfl ?_
    | refine ao_callR rfl (a_Path2) trivial rfl rfl ?_
    | refine ao_call rfl (a_Same _ _ (by decide)) rfl ?_ ?_
    | refine ao_lit rfl rfl rfl rfl trivial rfl rfl rfl rfl rfl rfl ?_
    | refine ao_litT rfl (by (simp [allT])) rfl rfl rfl rfl trivial rfl rfl rfl rfl rfl rfl ?_
    | (show allP _; first | trivial | exact ob1 (fun h => h) | exact ob2 (fun h => h) (fun h => h) | exact ob1 (fun h => ⟨h.1, trivial⟩) | (simp only [allP, obg, grd, allT, InR, decide_eq_true_eq, Bool.and_eq_true, Bool.not_eq_true', decide_eq_false_iff_not, List.nil_append, List.cons_append, List.append_nil, and_true, true_and]; first | omega | (intros; omega) | (simp only [Blk.len, List.length_set, List.length_append, List.length_cons, List.length_nil]; first | omega | (intros; omega)) | (refine ⟨?_, ?_⟩ <;> intros <;> first | (with_reducible assumption) | omega) | ((repeat' refine And.intro ?_ ?_) <;> (intros; first | (with_reducible assumption) | omega | (simp only [Blk.len, List.length_set, List.length_append, List.length_cons, List.length_nil]; omega))) | ((try simp only [Bool.or_eq_true, Bool.or_eq_false_iff, Bool.and_eq_true, Bool.and_eq_false_iff, decide_eq_true_eq, decide_eq_false_iff_not, Bool.not_eq_true', Bool.not_eq_false'] at *); (try simp only [Blk.len] at *); first | omega | (intros; omega)) | (simp_all; done))))
  (refine fin_ret ?_; exact ret1 (by rfl) (by (first | rfl | decide | (simp; done))) (by rfl))
theorem l_large (t : Topo) (down : List Bool) : Ctr Try.prog 12 [topoD t, boolsD down] [] (.d (bD (decide (100 < (t.overload.length : Int)) || decide (40 < (t.links.length : Int)) || decide (100 < (down.length : Int))))) := by
  refine spec_of envOK (enters_of Try.func12 (by kernel_rfl) (by kernel_rfl)) Try.func12 rfl rfl _ rfl (Nat.le_of_ble_eq_true rfl) rfl fun w0 => ?_
  repeat' (first
  
    | refine aw_seq ?_
    | refine aw_region ?_
    | refine aw_region_q (by kernel_rfl) (by kernel_rfl) ?_
    | refine aw_block ?_
    | refine ao_nil ?_
    | refine ao_op rfl trivial ?_
    | refine aq_nil ?_
    | refine aq_op rfl trivial ?_
    | refine at_nil ?_
    | refine at_op rfl trivial ?_
    | refine am_nil ?_
    | refine am_op rfl trivial rfl ?_
    | refine aw_skip ?_
    | refine aw_condT rfl trivial ?_
    | refine aw_condF rfl trivial ?_
    | refine aw_condD rfl trivial (fun hc => ?_) (fun hc => ?_)
    | refine aw_condN rfl trivial (fun hc => ?_) (fun hc => ?_)
    | refine aw_condNB rfl trivial (fun hc => ?_) (fun hc => ?_)
    | refine aw_cond rfl trivial (fun hc => ?_) (fun hc => ?_)
    | refine aw_ret ?_
    | refine aw_exit ?_
    | refine ao_op rfl ?_ ?_
    | refine aq_op rfl ?_ ?_
    | refine at_op rfl ?_ ?_
    | refine am_op rfl ?_ rfl ?_
    | refine ao_box rfl trivial rfl rfl rfl ?_
    | refine ao_alloc rfl rfl rfl rfl ?_
    | refine ao_store rfl rfl trivial rfl trivial rfl rfl rfl rfl rfl ?_
  
    | (show allP _; first | trivial | exact ob1 (fun h => h) | exact ob2 (fun h => h) (fun h => h) | exact ob1 (fun h => ⟨h.1, trivial⟩) | (simp only [allP, obg, grd, allT, InR, decide_eq_true_eq, Bool.and_eq_true, Bool.not_eq_true', decide_eq_false_iff_not, List.nil_append, List.cons_append, List.append_nil, and_true, true_and]; first | omega | (intros; omega) | (simp only [Blk.len, List.length_set, List.length_append, List.length_cons, List.length_nil]; first | omega | (intros; omega)) | (refine ⟨?_, ?_⟩ <;> intros <;> first | (with_reducible assumption) | omega) | ((repeat' refine And.intro ?_ ?_) <;> (intros; first | (with_reducible assumption) | omega | (simp only [Blk.len, List.length_set, List.length_append, List.length_cons, List.length_nil]; omega))) | ((try simp only [Bool.or_eq_true, Bool.or_eq_false_iff, Bool.and_eq_true, Bool.and_eq_false_iff, decide_eq_true_eq, decide_eq_false_iff_not, Bool.not_eq_true', Bool.not_eq_false'] at *); (try simp only [Blk.len] at *); first | omega | (intros; omega)) | (simp_all; done))))
  (refine fin_ret ?_; exact ret1 (by rfl) (by (simp only [Bool.or_assoc])) (by rfl))

end Go.Proofs.Ytnmajhoehmlcjaa

/- Laws of layer 11: Dist, From, Path against the reference. -/
namespace Go.Proofs.Ytnmajhoehmlcjaa
open Go.Wk

theorem distL_len (t : Topo) (down : List Bool) (n : Int) (fr : Bool) : (distL t down n fr).length ≤ 64 := by
  by_cases h : errS t down n = 0
  · have := (distL_is (fr := fr) h).len
    have hv := validB_head (fitsB_v (errS_0 h).1)
    omega
  · unfold distL; rw [if_neg h]; simp
theorem pathL_len (t : Topo) (down : List Bool) (s d : Int) : (pathL t down s d).length ≤ 65535 * 64 := by
  by_cases h : errP t down s d = 0
  · obtain ⟨h1, s0, s1, sn⟩ := errP_0 h
    have hl := distL_is (fr := false) h1
    have hb := distL_bnd (fr := false) h1 s s0 s1
    unfold pathL
    rw [if_pos h]
    have := onP_len (fitsB_v (errS_0 h1).1) hl (gI (distL t down d false) s).toNat s s0 s1 sn (by omega)
    omega
  · unfold pathL; rw [if_neg h]; simp

theorem l_SpfDist (t : Topo) (down : List Bool) (d : Int) : Ctr Try.prog 3 [topoD t, boolsD down, iD d] [] (.d (bD true)) := by
  refine spec_of envOK (enters_of Try.func3 (by kernel_rfl) (by kernel_rfl)) Try.func3 rfl rfl _ rfl (Nat.le_of_ble_eq_true rfl) rfl fun w0 => ?_
  have hlen := distL_len t down d false
  repeat' (first
  
    | refine aw_seq ?_
    | refine aw_region ?_
    | refine aw_region_q (by kernel_rfl) (by kernel_rfl) ?_
    | refine aw_block ?_
    | refine ao_nil ?_
    | refine ao_op rfl trivial ?_
    | refine aq_nil ?_
    | refine aq_op rfl trivial ?_
    | refine at_nil ?_
    | refine at_op rfl trivial ?_
    | refine am_nil ?_
    | refine am_op rfl trivial rfl ?_
    | refine aw_skip ?_
    | refine aw_condT rfl trivial ?_
    | refine aw_condF rfl trivial ?_
    | refine aw_condD rfl trivial (fun hc => ?_) (fun hc => ?_)
    | refine aw_condN rfl trivial (fun hc => ?_) (fun hc => ?_)
    | refine aw_condNB rfl trivial (fun hc => ?_) (fun hc => ?_)
    | refine aw_cond rfl trivial (fun hc => ?_) (fun hc => ?_)
    | refine aw_ret ?_
    | refine aw_exit ?_
    | refine ao_op rfl ?_ ?_
    | refine aq_op rfl ?_ ?_
    | refine at_op rfl ?_ ?_
    | refine am_op rfl ?_ rfl ?_
    | refine ao_box rfl trivial rfl rfl rfl ?_
    | refine ao_alloc rfl rfl rfl rfl ?_
    | refine ao_store rfl rfl trivial rfl trivial rfl rfl rfl rfl rfl ?_
    | refine ao_call rfl (l_awake) rfl ?_ ?_
    | refine ao_call rfl (l_large _ _) rfl ?_ ?_
    | refine ao_callR rfl (c_Dist _ _ _) trivial rfl rfl ?_
    | refine ao_callR rfl (r_Dist _ _ _) trivial rfl rfl ?_
    | refine ao_call rfl ((r_SameInts (distL t down d false) (distL t down d false) (by omega))) rfl ?_ ?_
    | (show allP _; first | trivial | exact ob1 (fun h => h) | exact ob2 (fun h => h) (fun h => h) | exact ob1 (fun h => ⟨h.1, trivial⟩) | (simp only [allP, obg, grd, allT, InR, decide_eq_true_eq, Bool.and_eq_true, Bool.not_eq_true', decide_eq_false_iff_not, List.nil_append, List.cons_append, List.append_nil, and_true, true_and]; first | omega | (intros; omega) | (simp only [Blk.len, List.length_set, List.length_append, List.length_cons, List.length_nil]; first | omega | (intros; omega)) | (refine ⟨?_, ?_⟩ <;> intros <;> first | (with_reducible assumption) | omega) | ((repeat' refine And.intro ?_ ?_) <;> (intros; first | (with_reducible assumption) | omega | (simp only [Blk.len, List.length_set, List.length_append, List.length_cons, List.length_nil]; omega))) | ((try simp only [Bool.or_eq_true, Bool.or_eq_false_iff, Bool.and_eq_true, Bool.and_eq_false_iff, decide_eq_true_eq, decide_eq_false_iff_not, Bool.not_eq_true', Bool.not_eq_false'] at *); (try simp only [Blk.len] at *); first | omega | (intros; omega)) | (simp_all; done))))
  all_goals first | ((refine fin_ret ?_; exact ret1 (by rfl) (by (simp)) (by rfl))) | ((refine fin_ret ?_; exact ret1 (by rfl) (by rfl) (by rfl)))

theorem l_SpfFrom (t : Topo) (down : List Bool) (s : Int) : Ctr Try.prog 8 [topoD t, boolsD down, iD s] [] (.d (bD true)) := by
  refine spec_of envOK (enters_of Try.func8 (by kernel_rfl) (by kernel_rfl)) Try.func8 rfl rfl _ rfl (Nat.le_of_ble_eq_true rfl) rfl fun w0 => ?_
  have hlen := distL_len t down s true
  repeat' (first
  
    | refine aw_seq ?_
    | refine aw_region ?_
    | refine aw_region_q (by kernel_rfl) (by kernel_rfl) ?_
    | refine aw_block ?_
    | refine ao_nil ?_
    | refine ao_op rfl trivial ?_
    | refine aq_nil ?_
    | refine aq_op rfl trivial ?_
    | refine at_nil ?_
    | refine at_op rfl trivial ?_
    | refine am_nil ?_
    | refine am_op rfl trivial rfl ?_
    | refine aw_skip ?_
    | refine aw_condT rfl trivial ?_
    | refine aw_condF rfl trivial ?_
    | refine aw_condD rfl trivial (fun hc => ?_) (fun hc => ?_)
    | refine aw_condN rfl trivial (fun hc => ?_) (fun hc => ?_)
    | refine aw_condNB rfl trivial (fun hc => ?_) (fun hc => ?_)
    | refine aw_cond rfl trivial (fun hc => ?_) (fun hc => ?_)
    | refine aw_ret ?_
    | refine aw_exit ?_
    | refine ao_op rfl ?_ ?_
    | refine aq_op rfl ?_ ?_
    | refine at_op rfl ?_ ?_
    | refine am_op rfl ?_ rfl ?_
    | refine ao_box rfl trivial rfl rfl rfl ?_
    | refine ao_alloc rfl rfl rfl rfl ?_
    | refine ao_store rfl rfl trivial rfl trivial rfl rfl rfl rfl rfl ?_
    | refine ao_call rfl (l_awake) rfl ?_ ?_
    | refine ao_call rfl (l_large _ _) rfl ?_ ?_
    | refine ao_callR rfl (c_From _ _ _) trivial rfl rfl ?_
    | refine ao_callR rfl (r_From _ _ _) trivial rfl rfl ?_
    | refine ao_call rfl ((r_SameInts (distL t down s true) (distL t down s true) (by omega))) rfl ?_ ?_
    | (show allP _; first | trivial | exact ob1 (fun h => h) | exact ob2 (fun h => h) (fun h => h) | exact ob1 (fun h => ⟨h.1, trivial⟩) | (simp only [allP, obg, grd, allT, InR, decide_eq_true_eq, Bool.and_eq_true, Bool.not_eq_true', decide_eq_false_iff_not, List.nil_append, List.cons_append, List.append_nil, and_true, true_and]; first | omega | (intros; omega) | (simp only [Blk.len, List.length_set, List.length_append, List.length_cons, List.length_nil]; first | omega | (intros; omega)) | (refine ⟨?_, ?_⟩ <;> intros <;> first | (with_reducible assumption) | omega) | ((repeat' refine And.intro ?_ ?_) <;> (intros; first | (with_reducible assumption) | omega | (simp only [Blk.len, List.length_set, List.length_append, List.length_cons, List.length_nil]; omega))) | ((try simp only [Bool.or_eq_true, Bool.or_eq_false_iff, Bool.and_eq_true, Bool.and_eq_false_iff, decide_eq_true_eq, decide_eq_false_iff_not, Bool.not_eq_true', Bool.not_eq_false'] at *); (try simp only [Blk.len] at *); first | omega | (intros; omega)) | (simp_all; done))))
  all_goals first | ((refine fin_ret ?_; exact ret1 (by rfl) (by (simp)) (by rfl))) | ((refine fin_ret ?_; exact ret1 (by rfl) (by rfl) (by rfl)))

theorem l_SpfPath (t : Topo) (down : List Bool) (s d : Int) : Ctr Try.prog 4 [topoD t, boolsD down, .agg [iD s, iD d]] [] (.d (bD true)) := by
  refine spec_of envOK (enters_of Try.func4 (by kernel_rfl) (by kernel_rfl)) Try.func4 rfl rfl _ rfl (Nat.le_of_ble_eq_true rfl) rfl fun w0 => ?_
  have hlen := pathL_len t down s d
  repeat' (first
  
    | refine aw_seq ?_
    | refine aw_region ?_
    | refine aw_region_q (by kernel_rfl) (by kernel_rfl) ?_
    | refine aw_block ?_
    | refine ao_nil ?_
    | refine ao_op rfl trivial ?_
    | refine aq_nil ?_
    | refine aq_op rfl trivial ?_
    | refine at_nil ?_
    | refine at_op rfl trivial ?_
    | refine am_nil ?_
    | refine am_op rfl trivial rfl ?_
    | refine aw_skip ?_
    | refine aw_condT rfl trivial ?_
    | refine aw_condF rfl trivial ?_
    | refine aw_condD rfl trivial (fun hc => ?_) (fun hc => ?_)
    | refine aw_condN rfl trivial (fun hc => ?_) (fun hc => ?_)
    | refine aw_condNB rfl trivial (fun hc => ?_) (fun hc => ?_)
    | refine aw_cond rfl trivial (fun hc => ?_) (fun hc => ?_)
    | refine aw_ret ?_
    | refine aw_exit ?_
    | refine ao_op rfl ?_ ?_
    | refine aq_op rfl ?_ ?_
    | refine at_op rfl ?_ ?_
    | refine am_op rfl ?_ rfl ?_
    | refine ao_box rfl trivial rfl rfl rfl ?_
    | refine ao_alloc rfl rfl rfl rfl ?_
    | refine ao_store rfl rfl trivial rfl trivial rfl rfl rfl rfl rfl ?_
    | refine ao_call rfl (l_awake) rfl ?_ ?_
    | refine ao_call rfl (l_large _ _) rfl ?_ ?_
    | refine ao_callR rfl (c_Path _ _ _ _) trivial rfl rfl ?_
    | refine ao_callR rfl (r_Path _ _ _ _) trivial rfl rfl ?_
    | refine ao_call rfl ((r_SameInts (pathL t down s d) (pathL t down s d) (by omega))) rfl ?_ ?_
    | (show allP _; first | trivial | exact ob1 (fun h => h) | exact ob2 (fun h => h) (fun h => h) | exact ob1 (fun h => ⟨h.1, trivial⟩) | (simp only [allP, obg, grd, allT, InR, decide_eq_true_eq, Bool.and_eq_true, Bool.not_eq_true', decide_eq_false_iff_not, List.nil_append, List.cons_append, List.append_nil, and_true, true_and]; first | omega | (intros; omega) | (simp only [Blk.len, List.length_set, List.length_append, List.length_cons, List.length_nil]; first | omega | (intros; omega)) | (refine ⟨?_, ?_⟩ <;> intros <;> first | (with_reducible assumption) | omega) | ((repeat' refine And.intro ?_ ?_) <;> (intros; first | (with_reducible assumption) | omega | (simp only [Blk.len, List.length_set, List.length_append, List.length_cons, List.length_nil]; omega))) | ((try simp only [Bool.or_eq_true, Bool.or_eq_false_iff, Bool.and_eq_true, Bool.and_eq_false_iff, decide_eq_true_eq, decide_eq_false_iff_not, Bool.not_eq_true', Bool.not_eq_false'] at *); (try simp only [Blk.len] at *); first | omega | (intros; omega)) | (simp_all; done))))
  all_goals first | ((refine fin_ret ?_; exact ret1 (by rfl) (by (simp)) (by rfl))) | ((refine fin_ret ?_; exact ret1 (by rfl) (by rfl) (by rfl)))

end Go.Proofs.Ytnmajhoehmlcjaa

/- From a contract to a law's row: arguments that read as data. -/
namespace Go.Wk
open Go.RowKit Go.Deep

/-! ### Shapes -/

inductive Sc where
  | int (k : IntKind)
  | bool
  | str
inductive Shp where
  | sc (s : Sc)
  | sl (es : List Sc)

def Sc.fit : Sc → D → Prop
  | .int k, .int k' n => k' = k ∧ (Lit.int k n).wf = true
  | .bool, .bool _ => True
  | .str, .str _ => True
  | _, _ => False
def Sc.G (s : Sc) (v : Value) : Prop := ∃ x : D, s.fit x ∧ ∀ R w, RelD R w v x
def fitL : List Sc → List D → Prop
  | [], [] => True
  | s :: r, x :: q => s.fit x ∧ fitL r q
  | _, _ => False
def Shp.fit : Shp → D → Prop
  | .sc s, x => s.fit x
  | .sl es, .arr e n get => e = es.length ∧ n ≤ maxLen ∧ ∀ i, i < n → fitL es (get i)
  | _, _ => False
def Shp.G (w : World) (s : Shp) (v : Value) : Prop := ∃ x : D, s.fit x ∧ RelD (fun k => k < w.heap.size) w v x

/-- The kinds of whole numbers. -/
def IntOK (P : Program) : Env → Prop
  | [] => True
  | (t, ⟨.int, _, _, .int k _⟩) :: r => P.underlying t = some (.int k) ∧ IntOK P r
  | _ :: r => IntOK P r
theorem IntOK.get {P : Program} {env : Env} (h : IntOK P env) {t : TypeId} {s b : Nat} {k : IntKind} {n : Int} (ht : ti? env t = some ⟨.int, s, b, .int k n⟩) : P.underlying t = some (.int k) := by
  induction env with
  | nil => simp [ti?] at ht
  | cons x r ih =>
    obtain ⟨k', y⟩ := x
    simp only [ti?] at ht
    cases hb : Nat.beq k' t with
    | true =>
      have := Nat.eq_of_beq_eq_true hb; subst this
      simp only [hb, cond_true, Option.some.injEq] at ht
      subst ht
      exact h.1
    | false =>
      simp only [hb, cond_false] at ht
      refine ih ?_ ht
      unfold IntOK at h
      split at h
      · rename_i h'; simp at h'
      · rename_i h'; obtain ⟨_, rfl⟩ := List.cons.inj h'; exact h.2
      · rename_i h'; obtain ⟨_, rfl⟩ := List.cons.inj h'; exact h

section flat
variable {α : Type}
def flF (rec : TypeId → Option (List α)) : Nat → List (Nat × TypeId) → Option (List α)
  | _, [] => some []
  | acc, (off, t) :: r => match rec t with
    | some es => bif Nat.beq off acc then (match flF rec (acc + es.length) r with
        | some q => some (es ++ q)
        | none => none) else none
    | none => none
def flRep : Nat → List α → List α
  | 0, _ => []
  | n + 1, es => es ++ flRep n es
theorem flRep_len (n : Nat) (es : List α) : (flRep n es).length = n * es.length := by
  induction n with
  | zero => simp [flRep]
  | succ n ih => simp [flRep, ih, Nat.succ_mul, Nat.add_comm]

def Pw (G : α → Value → Prop) (es : List α) (cs : List Value) : Prop := cs.length = es.length ∧ ∀ (i : Nat) v s, cs[i]? = some v → es[i]? = some s → G s v

theorem flF_pw {rec : TypeId → Option (List α)} {G : α → Value → Prop} {cs : List Value} : ∀ {fs : List (Nat × TypeId)} {acc : Nat} {q : List α}, flF rec acc fs = some q →
    (∀ off t, (off, t) ∈ fs → ∀ es, rec t = some es → Pw G es ((cs.drop off).take es.length)) → ∀ (i : Nat) s v, q[i]? = some s → cs[acc + i]? = some v → G s v
  | [], acc, q, h, _ => by simp [flF] at h; subst h; intro i s v hs; simp at hs
  | (off, t) :: r, acc, q, h, hall => by
    simp only [flF] at h
    split at h
    · rename_i es hes
      cases hb : Nat.beq off acc with
      | false => simp [hb] at h
      | true =>
        have := Nat.eq_of_beq_eq_true hb; subst this
        simp only [hb, cond_true] at h
        split at h
        · rename_i q' hq
          simp at h; subst h
          intro i s v hs hv
          have hp := hall off t (by simp) es hes
          by_cases hi : i < es.length
          · rw [List.getElem?_append_left hi] at hs
            exact hp.2 i v s (by rw [List.getElem?_take, if_pos hi, List.getElem?_drop]; exact hv) hs
          · rw [List.getElem?_append_right (by omega)] at hs
            exact flF_pw hq (fun off' t' hm => hall off' t' (by simp [hm])) (i - es.length) s v hs (by rw [show off + es.length + (i - es.length) = off + i by omega]; exact hv)
        · simp at h
    · simp at h
theorem flRep_pw {G : α → Value → Prop} {cs : List Value} {es : List α} : ∀ {n base : Nat}, (∀ j, j < n → Pw G es ((cs.drop ((base + j) * es.length)).take es.length)) → ∀ (i : Nat) s v, (flRep n es)[i]? = some s → cs[base * es.length + i]? = some v → G s v
  | 0, _, _ => by intro i s v hs; simp [flRep] at hs
  | n + 1, base, hall => by
    intro i s v hs hv
    simp only [flRep] at hs
    by_cases hi : i < es.length
    · rw [List.getElem?_append_left hi] at hs
      exact (hall 0 (by omega)).2 i v s (by rw [Nat.add_zero, List.getElem?_take, if_pos hi, List.getElem?_drop]; exact hv) hs
    · rw [List.getElem?_append_right (by omega)] at hs
      exact flRep_pw (base := base + 1) (fun j hj => by rw [show base + 1 + j = base + (j + 1) by omega]; exact hall (j + 1) (by omega)) (i - es.length) s v hs (by rw [show (base + 1) * es.length + (i - es.length) = base * es.length + i by rw [Nat.add_mul, Nat.one_mul]; omega]; exact hv)
end flat

def szB {α : Type} (n : Nat) : Option (List α) → Option (List α)
  | some es => bif Nat.beq es.length n then some es else none
  | none => none
theorem szB_eq {α : Type} {n : Nat} {o : Option (List α)} {es : List α} (h : szB n o = some es) : o = some es ∧ es.length = n := by
  unfold szB at h
  split at h
  · rename_i es'
    cases hb : Nat.beq es'.length n with
    | false => simp [hb] at h
    | true => simp [hb] at h; subst h; exact ⟨rfl, Nat.eq_of_beq_eq_true hb⟩
  · simp at h

def scO (env : Env) : Nat → TypeId → Option (List Sc)
  | 0, _ => none
  | f + 1, t => match ti? env t with
    | some ⟨.bool, n, _, _⟩ => szB n (some [.bool])
    | some ⟨.int, n, _, .int k _⟩ => szB n (some [.int k])
    | some ⟨.str, n, _, _⟩ => szB n (some [.str])
    | some ⟨.struct fs, n, _, _⟩ => szB n (flF (scO env f) 0 fs)
    | some ⟨.array m e, n, _, _⟩ => szB n (match scO env f e with
      | some es => some (flRep m es)
      | none => none)
    | _ => none
def shpO (env : Env) : Nat → TypeId → Option (List Shp)
  | 0, _ => none
  | f + 1, t => match ti? env t with
    | some ⟨.bool, n, _, _⟩ => szB n (some [.sc .bool])
    | some ⟨.int, n, _, .int k _⟩ => szB n (some [.sc (.int k)])
    | some ⟨.str, n, _, _⟩ => szB n (some [.sc .str])
    | some ⟨.slice e, n, _, _⟩ => szB n (match scO env f e with
      | some es => some [.sl es]
      | none => none)
    | some ⟨.struct fs, n, _, _⟩ => szB n (flF (shpO env f) 0 fs)
    | some ⟨.array m e, n, _, _⟩ => szB n (match shpO env f e with
      | some es => some (flRep m es)
      | none => none)
    | _ => none

section
variable {P : Program} {env : Env}

theorem cellsOf_ti (hE : EnvOK P env) {t : TypeId} {ti : TI} (h : ti? env t = some ti) : P.cellsOf t = ti.size := by
  obtain ⟨i, hi, hs, _⟩ := (hE.get h).info
  simp [Program.cellsOf, hi, hs]
theorem scO_len (hE : EnvOK P env) {f : Nat} {t : TypeId} {es : List Sc} (h : scO env f t = some es) : es.length = P.cellsOf t := by
  cases f with
  | zero => simp [scO] at h
  | succ f =>
    simp only [scO] at h
    split at h
    all_goals first
      | (rename_i ht; rw [cellsOf_ti hE ht]; exact (szB_eq h).2)
      | simp at h
theorem shpO_len (hE : EnvOK P env) {f : Nat} {t : TypeId} {es : List Shp} (h : shpO env f t = some es) : es.length = P.cellsOf t := by
  cases f with
  | zero => simp [shpO] at h
  | succ f =>
    simp only [shpO] at h
    split at h
    all_goals first
      | (rename_i ht; rw [cellsOf_ti hE ht]; exact (szB_eq h).2)
      | simp at h

variable {H : Type} {enc : TypeId × Value → H} {w : World} {base : Nat} {spare : Nat → Bool} {held : Bool}

theorem szB_some {α : Type} {n : Nat} {o : Option (List α)} {es : List α} (h : szB n o = some es) : o = some es := (szB_eq h).1

theorem trod_flF {α : Type} {G : α → Value → Prop} {rec : TypeId → Option (List α)} (hlen : ∀ t es, rec t = some es → es.length = P.cellsOf t)
    (hrec : ∀ t es, rec t = some es → ∀ (fuel : Nat) (cs : List Value) (x : DataW H × List MemPlace), DataW.trod enc P w base spare held fuel t cs = some x → Pw G es cs)
    {t : TypeId} {fs : Array Field} {q : List α} (ht : P.underlying t = some (.struct fs)) (hq : flF rec 0 (fs.toList.map fun f => (f.offset, f.type)) = some q) (hl : q.length = P.cellsOf t)
    {fuel : Nat} {cs : List Value} {x : DataW H × List MemPlace} (h : DataW.trod enc P w base spare held fuel t cs = some x) : Pw G q cs := by
  obtain ⟨xs, n, _, _, hcs, hxs, hf⟩ := DataW.trod_struct ht h
  refine ⟨by omega, fun i v s hv hs => ?_⟩
  refine flF_pw (cs := cs) hq (fun off t' hm es hes => ?_) i s v hs (by simpa using hv)
  obtain ⟨f, hfm, he⟩ := List.mem_map.1 hm
  simp only [Prod.mk.injEq] at he
  obtain ⟨rfl, rfl⟩ := he
  obtain ⟨k, hk, hfk⟩ := List.mem_iff_getElem.1 hfm
  have hk' : fs[k]? = some f := by
    have hk2 : k < fs.size := by simpa using hk
    rw [Array.getElem?_eq_getElem hk2]
    simpa using hfk
  have h1 := hf k f hk'
  have hk3 : k < xs.length := by rw [hxs]; simpa using hk
  rw [List.getElem?_eq_getElem hk3] at h1
  have := hrec _ es hes _ _ _ h1
  rwa [hlen _ es hes]

theorem trod_arr {α : Type} {G : α → Value → Prop} {t e : TypeId} {m : Nat} {es : List α} (hes : es.length = P.cellsOf e)
    (hrec : ∀ (fuel : Nat) (cs : List Value) (x : DataW H × List MemPlace), DataW.trod enc P w base spare held fuel e cs = some x → Pw G es cs)
    (ht : P.underlying t = some (.array m e)) (hl : (flRep m es).length = P.cellsOf t)
    {fuel : Nat} {cs : List Value} {x : DataW H × List MemPlace} (h : DataW.trod enc P w base spare held fuel t cs = some x) : Pw G (flRep m es) cs := by
  cases fuel with
  | zero => simp [DataW.trod] at h
  | succ n =>
    simp only [DataW.trod, ht] at h
    split at h
    · rename_i hcs
      refine ⟨by omega, fun i v s hv hs => ?_⟩
      refine flRep_pw (cs := cs) (base := 0) (n := m) (es := es) (fun j hj => ?_) i s v hs (by simpa using hv)
      cases hm : (List.range m).mapM fun i => DataW.trod enc P w base spare held n e ((cs.drop (i * P.cellsOf e)).take (P.cellsOf e)) with
      | none => rw [hm] at h; simp at h
      | some ys =>
        have hget : ∀ {l : List Nat} {ys : List (DataW H × List MemPlace)}, l.mapM (fun i => DataW.trod enc P w base spare held n e ((cs.drop (i * P.cellsOf e)).take (P.cellsOf e))) = some ys → ∀ x ∈ l, ∃ y, DataW.trod enc P w base spare held n e ((cs.drop (x * P.cellsOf e)).take (P.cellsOf e)) = some y := by
          intro l
          induction l with
          | nil => simp
          | cons a r ih =>
            intro ys hys
            simp only [List.mapM_cons, Option.bind_eq_bind, Option.pure_def] at hys
            cases ha : DataW.trod enc P w base spare held n e ((cs.drop (a * P.cellsOf e)).take (P.cellsOf e)) with
            | none => simp [ha] at hys
            | some b =>
              cases hr : r.mapM fun i => DataW.trod enc P w base spare held n e ((cs.drop (i * P.cellsOf e)).take (P.cellsOf e)) with
              | none => simp [ha, hr] at hys
              | some q =>
                intro x hx
                rcases List.mem_cons.1 hx with rfl | hx
                · exact ⟨b, ha⟩
                · exact ih hr x hx
        obtain ⟨y, hy⟩ := hget hm j (List.mem_range.2 hj)
        have := hrec _ _ _ hy
        rw [Nat.zero_add, hes]; exact this
    · cases h

theorem Pw_one {α : Type} {G : α → Value → Prop} {a : α} {v : Value} (h : G a v) : Pw G [a] [v] := by
  refine ⟨rfl, fun i u s hu hs => ?_⟩
  cases i with
  | zero => simp at hu hs; subst hu hs; exact h
  | succ i => simp at hu

theorem trod_sc (hE : EnvOK P env) (hI : IntOK P env) : ∀ (f : Nat) (t : TypeId) (es : List Sc), scO env f t = some es → ∀ (fuel : Nat) (cs : List Value) (x : DataW H × List MemPlace),
    DataW.trod enc P w base spare held fuel t cs = some x → Pw Sc.G es cs := by
  intro f
  induction f with
  | zero => intro t es h; simp [scO] at h
  | succ f ih =>
    intro t es hs fuel cs x h
    have hlen := scO_len hE hs
    simp only [scO] at hs
    split at hs
    · rename_i ht
      obtain ⟨d, hd, hk⟩ := (hE.get ht).desc
      have := desc_bool hk; subst this
      have := szB_some hs; simp at this; subst this
      obtain ⟨b, rfl, _⟩ := DataW.trod_bool hd h
      exact Pw_one ⟨.bool b, trivial, fun _ _ => .bool b⟩
    · rename_i ht
      have hd := hI.get ht
      have := szB_some hs; simp at this; subst this
      obtain ⟨b, rfl, _, hw⟩ := DataW.trod_int hd h
      exact Pw_one ⟨.int _ b, ⟨rfl, hw⟩, fun _ _ => .int _ b⟩
    · rename_i ht
      obtain ⟨d, hd, hk⟩ := (hE.get ht).desc
      have := desc_str hk; subst this
      have := szB_some hs; simp at this; subst this
      obtain ⟨b, rfl, _, hw⟩ := DataW.trod_string hd h
      exact Pw_one ⟨.str b, trivial, fun _ _ => .str b⟩
    · rename_i ht
      obtain ⟨d, hd, hk⟩ := (hE.get ht).desc
      obtain ⟨fl, rfl, rfl⟩ := desc_struct hk
      exact trod_flF (rec := scO env f) (fun t es => scO_len hE) (fun t es hes fuel cs x hx => ih t es hes fuel cs x hx) hd (szB_some hs) hlen h
    · rename_i ht
      obtain ⟨d, hd, hk⟩ := (hE.get ht).desc
      have := desc_array hk; subst this
      have hs' := szB_some hs
      split at hs'
      · rename_i es' hes
        simp at hs'; subst hs'
        exact trod_arr (scO_len hE hes) (fun fuel cs x hx => ih _ es' hes fuel cs x hx) hd hlen h
      · simp at hs'
    · simp at hs

theorem fitL_of : ∀ {es : List Sc} {vs : List Value}, Pw Sc.G es vs → ∃ ds : List D, fitL es ds ∧ ds.length = vs.length ∧ ∀ (i : Nat) v x, vs[i]? = some v → ds[i]? = some x → ∀ R w, RelD R w v x
  | [], vs, h => ⟨[], trivial, by have := h.1; simp at this; simp [this], fun i v x _ hx => by simp at hx⟩
  | s :: r, vs, h => by
    cases vs with
    | nil => have := h.1; simp at this
    | cons v q =>
      obtain ⟨ds, h1, h2, h3⟩ := fitL_of (es := r) (vs := q) ⟨by have := h.1; simpa using this, fun i u s' hu hs' => h.2 (i + 1) u s' (by simpa using hu) (by simpa using hs')⟩
      obtain ⟨x, hx, hr⟩ := h.2 0 v s (by simp) (by simp)
      refine ⟨x :: ds, ⟨hx, h1⟩, by simp [h2], fun i u y hu hy => ?_⟩
      cases i with
      | zero => simp at hu hy; subst hu hy; exact hr
      | succ i => exact h3 i u y (by simpa using hu) (by simpa using hy)

/-- The cells of an argument: a slice's address leads to a block. -/
def AdrOK (w : World) (v : Value) : Prop := ∀ a len cap, v = .slice (some a) len cap → a.spot = none ∧ a.block < w.heap.size

theorem trod_shp (hE : EnvOK P env) (hI : IntOK P env) : ∀ (f : Nat) (t : TypeId) (es : List Shp), shpO env f t = some es → ∀ (fuel : Nat) (cs : List Value) (x : DataW H × List MemPlace),
    DataW.trod enc P w base spare held fuel t cs = some x → Pw (fun s v => AdrOK w v → Shp.G w s v) es cs := by
  intro f
  induction f with
  | zero => intro t es h; simp [shpO] at h
  | succ f ih =>
    intro t es hs fuel cs x h
    have hlen := shpO_len hE hs
    simp only [shpO] at hs
    split at hs
    · rename_i ht
      obtain ⟨d, hd, hk⟩ := (hE.get ht).desc
      have := desc_bool hk; subst this
      have := szB_some hs; simp at this; subst this
      obtain ⟨b, rfl, _⟩ := DataW.trod_bool hd h
      exact Pw_one fun _ => ⟨.bool b, trivial, .bool b⟩
    · rename_i ht
      have hd := hI.get ht
      have := szB_some hs; simp at this; subst this
      obtain ⟨b, rfl, _, hw⟩ := DataW.trod_int hd h
      exact Pw_one fun _ => ⟨.int _ b, ⟨rfl, hw⟩, .int _ b⟩
    · rename_i ht
      obtain ⟨d, hd, hk⟩ := (hE.get ht).desc
      have := desc_str hk; subst this
      have := szB_some hs; simp at this; subst this
      obtain ⟨b, rfl, _, hw⟩ := DataW.trod_string hd h
      exact Pw_one fun _ => ⟨.str b, trivial, .str b⟩
    · rename_i e n by_ z ht
      obtain ⟨d, hd, hk⟩ := (hE.get ht).desc
      have := desc_slice hk; subst this
      have hs' := szB_some hs
      split at hs'
      · rename_i es' hes
        simp at hs'; subst hs'
        have hel := scO_len hE hes
        rcases open_slice hd h with ⟨rfl, _⟩ | ⟨a, len, cap, m, n', Dt, Pl, rfl, hb, hlc, hcm, hm, _, hx⟩
        · exact Pw_one fun _ => ⟨.arr es'.length 0 (fun _ => []), ⟨rfl, by simp, fun i hi => by omega⟩, .nil _ _⟩
        · refine Pw_one fun hadr => ?_
          obtain ⟨hspot, hblk⟩ := hadr a len cap rfl
          have hlm : len ≤ m := by rw [hm]; split <;> omega
          have key : ∀ i, i < len → ∃ (vs : List Value) (ds : List D), vs.length = es'.length ∧ fitL es' ds ∧ ds.length = es'.length ∧ (∀ j, j < es'.length → w.cell? ⟨a.block, a.off + (i * es'.length + j), none⟩ = vs[j]?) ∧ ∀ (j : Nat) v x, vs[j]? = some v → ds[j]? = some x → ∀ R w, RelD R w v x := by
            intro i hi
            obtain ⟨cs', h1, h2⟩ := hx i (by omega)
            obtain ⟨_, c2, c3⟩ := World.cells?_some h1
            have hp := trod_sc hE hI f e es' hes _ _ _ h2
            obtain ⟨ds, f1, f2, f3⟩ := fitL_of hp
            refine ⟨cs', ds, hp.1, f1, by rw [f2, hp.1], fun j hj => ?_, f3⟩
            have := c3 j (by rw [← hel]; exact hj)
            rw [← this]
            congr 1
            obtain ⟨ab, ao, as0⟩ := a
            simp only at hspot; subst hspot
            rw [add_off, add_off]
            congr 1
            rw [hel]; simp only; omega
          let vsF : Nat → List Value := fun i => if h : i < len then (key i h).choose else []
          let dsF : Nat → List D := fun i => if h : i < len then (key i h).choose_spec.choose else []
          have hF : ∀ i, i < len → (vsF i).length = es'.length ∧ fitL es' (dsF i) ∧ (dsF i).length = es'.length ∧ (∀ j, j < es'.length → w.cell? ⟨a.block, a.off + (i * es'.length + j), none⟩ = (vsF i)[j]?) ∧ ∀ (j : Nat) v x, (vsF i)[j]? = some v → (dsF i)[j]? = some x → ∀ R w, RelD R w v x := fun i hi => by
            simp only [vsF, dsF, dif_pos hi]
            exact (key i hi).choose_spec.choose_spec
          refine ⟨.arr es'.length len dsF, ⟨rfl, by omega, fun i hi => (hF i hi).2.1⟩, ?_⟩
          obtain ⟨ab, ao, as0⟩ := a
          simp only at hspot hblk; subst hspot
          refine .arr ab ao len cap es'.length dsF (fun i j => (vsF i).getD j (.bool false)) hblk (fun i hi => (hF i hi).2.2.1) (fun i j hi hj => ?_) (fun i j x hi hx => ?_)
          · have h4 := (hF i hi).2.2.2.1 j hj
            simp only at h4
            rw [h4, List.getD_eq_getElem?_getD, List.getElem?_eq_getElem (by rw [(hF i hi).1]; exact hj)]; rfl
          · have hj : j < es'.length := by rw [← (hF i hi).2.2.1]; exact (List.getElem?_eq_some_iff.1 hx).1
            refine (hF i hi).2.2.2.2 j _ x ?_ hx _ _
            rw [List.getD_eq_getElem?_getD, List.getElem?_eq_getElem (by rw [(hF i hi).1]; exact hj)]; rfl
      · simp at hs'
    · rename_i ht
      obtain ⟨d, hd, hk⟩ := (hE.get ht).desc
      obtain ⟨fl, rfl, rfl⟩ := desc_struct hk
      exact trod_flF (rec := shpO env f) (fun t es => shpO_len hE) (fun t es hes fuel cs x hx => ih t es hes fuel cs x hx) hd (szB_some hs) hlen h
    · rename_i ht
      obtain ⟨d, hd, hk⟩ := (hE.get ht).desc
      have := desc_array hk; subst this
      have hs' := szB_some hs
      split at hs'
      · rename_i es' hes
        simp at hs'; subst hs'
        exact trod_arr (shpO_len hE hes) (fun fuel cs x hx => ih _ es' hes fuel cs x hx) hd hlen h
      · simp at hs'
    · simp at hs

end
end Go.Wk

/- From a contract to a law's row. -/
namespace Go.Wk
open Go.RowKit Go.Deep

section
variable {P : Program} {env : Env} {H : Type} {enc : TypeId × Value → H} {W : World} {base : Nat} {spare : Nat → Bool} {held : Bool}

theorem cell_adr {u : TypeId} {v : Value} (h : Cell.okWide P W .any base u v) : AdrOK W v := by
  rintro a len cap rfl
  have h2 : Cell.ok P W .any base u (.slice (some a) len cap) := by
    unfold Cell.okWide at h
    split at h
    all_goals first
      | exact h
      | (rename_i he; cases he)
      | (rename_i he _; cases he)
  unfold Cell.ok at h2
  split at h2
  all_goals try (rename_i he; cases he; done)
  all_goals try (exact h2.elim)
  · rename_i he
    cases he
    obtain ⟨_, _, _, hs, row, cells, hsh, _⟩ := h2
    refine ⟨hs, ?_⟩
    unfold World.shape? at hsh
    cases hb : W.heap[a.block]? with
    | none => rw [hb] at hsh; simp at hsh
    | some o => exact (Array.getElem?_eq_some_iff.1 hb).1

def fitS : List Shp → List D → Prop
  | [], [] => True
  | s :: r, x :: q => s.fit x ∧ fitS r q
  | _, _ => False

theorem fitS_of : ∀ {es : List Shp} {vs : List Value}, Pw (fun s v => AdrOK W v → Shp.G W s v) es vs → (∀ v ∈ vs, AdrOK W v) → ∃ ds : List D, fitS es ds ∧ ds.length = vs.length ∧ ∀ (i : Nat) v x, vs[i]? = some v → ds[i]? = some x → RelD (fun k => k < W.heap.size) W v x
  | [], vs, h, _ => ⟨[], trivial, by have := h.1; simp at this; simp [this], fun i v x _ hx => by simp at hx⟩
  | s :: r, vs, h, ha => by
    cases vs with
    | nil => have := h.1; simp at this
    | cons v q =>
      obtain ⟨ds, h1, h2, h3⟩ := fitS_of (es := r) (vs := q) ⟨by have := h.1; simpa using this, fun i u s' hu hs' => h.2 (i + 1) u s' (by simpa using hu) (by simpa using hs')⟩ (fun v hv => ha v (by simp [hv]))
      obtain ⟨x, hx, hr⟩ := h.2 0 v s (by simp) (by simp) (ha v (by simp))
      refine ⟨x :: ds, ⟨hx, h1⟩, by simp [h2], fun i u y hu hy => ?_⟩
      cases i with
      | zero => simp at hu hy; subst hu hy; exact hr
      | succ i => exact h3 i u y (by simpa using hu) (by simpa using hy)

/-- An argument that is a struct or an array. -/
theorem arg_agg (hE : EnvOK P env) (hI : IntOK P env) {t : TypeId} {ti : TI} {es : List Shp} (ht : ti? env t = some ti) (ha : ti.k.agg = true) (hs : shpO env 10 t = some es) {v : Value} {d : DataW H} {p : List MemPlace} (hok : Value.okWide P W .any base t v) (h : DataW.Trod enc P W 0 spare held t v d p) :
    ∃ ds, fitS es ds ∧ RelD (fun k => k < W.heap.size) W v (.agg ds) := by
  obtain ⟨fuel, hf⟩ := h
  obtain ⟨dd, hd, hk⟩ := (hE.get ht).desc
  have hcs : ∃ cs, v = .agg cs ∧ ∀ c ∈ cs.toList, AdrOK W c := by
    have key : (∃ cs, v = .agg cs ∧ cs.size = P.cellsOf t ∧ Row.okWide P W .any base t cs) := by
      unfold Value.okWide at hok
      rw [hd] at hok
      cases dd <;> first
        | exact hok
        | (simp [summ] at hk; rw [← hk] at ha; simp [Kd.agg] at ha; done)
    obtain ⟨cs, rfl, _, ts, _, _, hr⟩ := key
    refine ⟨cs, rfl, fun c hc => ?_⟩
    obtain ⟨k, hk, hck⟩ := List.mem_iff_getElem.1 hc
    have hk2 : k < cs.size := by simpa using hk
    obtain ⟨u, _, hu⟩ := hr k c (by rw [Array.getElem?_eq_getElem hk2]; simpa using hck)
    exact cell_adr hu
  obtain ⟨cs, rfl, hadr⟩ := hcs
  have hp := trod_shp hE hI 10 t es hs _ _ _ hf
  obtain ⟨ds, h1, h2, h3⟩ := fitS_of hp hadr
  refine ⟨ds, h1, ?_⟩
  have := RelD.agg (R := fun k => k < W.heap.size) (w := W) cs.toList ds (by simpa [Value.cells] using h2.symm) (fun i v x hv hx => h3 i v x (by simpa [Value.cells] using hv) hx)
  simpa using this

/-- An argument of one cell. -/
theorem arg_one (hE : EnvOK P env) (hI : IntOK P env) {t : TypeId} {ti : TI} {s : Shp} (ht : ti? env t = some ti) (ha : ti.k.agg = false) (hs : shpO env 10 t = some [s]) {v : Value} {d : DataW H} {p : List MemPlace} (hok : Value.okWide P W .any base t v) (h : DataW.Trod enc P W 0 spare held t v d p) :
    ∃ x, s.fit x ∧ RelD (fun k => k < W.heap.size) W v x := by
  obtain ⟨fuel, hf⟩ := h
  obtain ⟨dd, hd, hk⟩ := (hE.get ht).desc
  have hc : Cell.okWide P W .any base t v := by
    unfold Value.okWide at hok
    rw [hd] at hok
    cases dd <;> first
      | exact hok
      | (simp [summ] at hk; rw [← hk] at ha; simp [Kd.agg] at ha; done)
  have hcell : v.cells = #[v] := by
    cases v <;> first
      | rfl
      | (exfalso
         unfold Cell.okWide at hc
         split at hc
         all_goals first
           | (rename_i he; cases he; done)
           | (rename_i he _; cases he; done)
           | skip
         unfold Cell.ok at hc
         split at hc
         all_goals first
           | (rename_i he; cases he; done)
           | exact hc)
  have hp := trod_shp hE hI 10 t [s] hs _ _ _ hf
  rw [hcell] at hp
  obtain ⟨x, hx, hr⟩ := hp.2 0 v s (by simp) (by simp) (cell_adr hc)
  exact ⟨x, hx, hr⟩

theorem trodAll_stays (hl : laidOutB P = true) {W' : World} (hb : Below W.heap.size W W') : ∀ {ts : List TypeId} {vs : List Value} {ds : List (DataW H)} {ps : List MemPlace}, (∀ t ∈ ts, P.readableRec t = true ∧ t < P.types.size) →
    DataW.TrodAll enc P W 0 (fun _ => true) true ts vs ds ps → (∀ x ∈ ps, x.block < W.heap.size) → DataW.TrodAll enc P W' 0 (fun b => decide (b < W.heap.size)) true ts vs ds ps
  | [], [], [], _, _, h, _ => h
  | t :: ts, v :: vs, d :: ds, ps, ht, h, hlt => by
    obtain ⟨p, q, h1, h2, rfl⟩ := h
    exact ⟨p, q, Below.trod hl (ht t (by simp)).1 (ht t (by simp)).2 h1 hb (fun x hx => hlt x (by simp [hx])), trodAll_stays hl hb (fun t ht' => ht t (by simp [ht'])) h2 (fun x hx => hlt x (by simp [hx])), rfl⟩
  | [], _ :: _, _, _, _, h, _ => h.elim
  | [], [], _ :: _, _, _, h, _ => h.elim
  | _ :: _, [], _, _, _, h, _ => h.elim
  | _ :: _, _ :: _, [], _, _, h, _ => h.elim

end

/-- The row of a law, lifted. -/
theorem law_lifted {C : Checked} {os : Os} {f : FuncId} {fn : Func} {s : ChangeSpec} {conds : List PathCond} {fresh handsOn : Bool} {H : Type} {enc : TypeId × Value → H}
    (own : ownKnob C.prog.godebug = none) (started : os.Started) (noInit : C.prog.inits.idxOf? f = none) (hfn : C.prog.funcs[f]? = some fn)
    (witness : ∃ (w : World) (tape : Tape) (i : Input), w.os = os ∧ (w.forCall tape i).Shaped C.prog ∧ i.vars = [] ∧ Input.okWide C.prog (w.forCall tape i) .any w.heap.size f i ∧
      s.pre6 enc C.prog fn conds false (w.forCall tape i).memory i.args ∧ ({} : Assume).holds C.prog (lone (Frame.enter C.prog f i.args .normal) [] (w.forCall tape i)))
    (hl : laidOutB C.prog = true) (hvars : s.vars = []) (hread : ∀ t ∈ fn.params.toList, C.prog.readableRec t = true ∧ t < C.prog.types.size) {tb : TypeId} (hres : fn.resultTypes = #[tb]) (htb : C.prog.underlying tb = some .bool)
    (hspec : ∀ ds : List (DataW H), ds.length = fn.params.size → (s.fn H (ds ++ [])).results = [.lit (.bool true)] ∧ (s.fn H (ds ++ [])).args = ds ∧ (s.fn H (ds ++ [])).vars = [])
    (key : ∀ (W : World) (base : Nat) (args : Array Value) (ds : List (DataW H)) (p : List MemPlace), (∀ (j : Nat) t v, fn.params[j]? = some t → args[j]? = some v → Value.okWide C.prog W .any base t v) →
      DataW.TrodAll enc C.prog W 0 (fun _ => true) true fn.params.toList args.toList ds p → ∃ xs : List D, RelDs (fun k => k < W.heap.size) W args.toList xs ∧ Ctr C.prog f xs [] (.d (.bool true))) :
    ReturnsInHanded {} C os f .any (s.pre6 enc C.prog fn conds false) (s.post enc C.prog fn false fresh handsOn false) := by
  refine returnsInHanded_of_change own started noInit hfn witness ?_
  intro W base args ds gs before hval hW hcnd _
  have hlt := hW.lt
  obtain ⟨p, q, hA, hV, rfl, hfz, hnd⟩ := hW
  obtain ⟨xs, hxs, hctr⟩ := key W base args ds p hval hA
  have hV' := hV
  rw [hvars] at hV
  have hg : gs = [] ∧ q = [] := by
    cases gs with
    | nil => exact ⟨rfl, hV⟩
    | cons g r => exact hV.elim
  obtain ⟨rfl, rfl⟩ := hg
  have hlen : ∀ {ts : List TypeId} {vs : List Value} {ds : List (DataW H)} {ps : List MemPlace}, DataW.TrodAll enc C.prog W 0 (fun _ => true) true ts vs ds ps → ds.length = ts.length := by
    intro ts
    induction ts with
    | nil => intro vs ds ps h; cases vs <;> cases ds <;> first | rfl | exact h.elim
    | cons t r ih =>
      intro vs ds ps h
      cases vs with
      | nil => exact h.elim
      | cons v q => cases ds with
        | nil => exact h.elim
        | cons d e => obtain ⟨_, _, _, h2, _⟩ := h; simp [ih h2]
  obtain ⟨s1, s2, s3⟩ := hspec ds (by have := hlen hA; simpa using this)
  refine (hctr.2 W args.toList hxs).mono ?_
  rintro e W' ⟨v, ρ, rfl, hout⟩
  refine ⟨v, rfl, ds, [], p ++ [], [], p, [], ⟨p, [], hA, hV', rfl, hfz, hnd⟩, ?_, ?_, ?_, hout.ext.frame _, fun h => by cases h⟩
  · have hv : v = .bool true := by
      have := hout.val
      cases this with | d h => cases h; rfl
    rw [s1, hres, hv]
    exact ⟨[], [], ⟨1, by simp [DataW.trod, htb, Value.cells]⟩, rfl, rfl⟩
  · rw [s2]
    exact trodAll_stays hl hout.ext hread hA (fun x hx => hlt x (by simp [hx]))
  · rw [s3, hvars]; rfl

end Go.Wk

/- The data of the program, out of what an argument reads as. -/
namespace Go.Wk

theorem fit_int {k : IntKind} {x : D} (h : (Sc.int k).fit x) : ∃ n, x = .int k n ∧ (Lit.int k n).wf = true := by
  cases x <;> first | exact h.elim | (obtain ⟨rfl, hw⟩ := h; exact ⟨_, rfl, hw⟩)
theorem fit_bool {x : D} (h : Sc.bool.fit x) : ∃ b, x = .bool b := by
  cases x <;> first | exact h.elim | exact ⟨_, rfl⟩
theorem fitL_get : ∀ {es : List Sc} {xs : List D}, fitL es xs → xs.length = es.length ∧ ∀ (i : Nat) s x, es[i]? = some s → xs[i]? = some x → s.fit x
  | [], [], _ => by simp
  | [], _ :: _, h => h.elim
  | _ :: _, [], h => h.elim
  | s :: r, x :: q, h => by
    obtain ⟨h1, h2⟩ := fitL_get h.2
    refine ⟨by simp [h1], fun i a b ha hb => ?_⟩
    cases i with
    | zero => simp at ha hb; subst ha hb; exact h.1
    | succ i => exact h2 i a b (by simpa using ha) (by simpa using hb)
theorem fitS_get : ∀ {es : List Shp} {xs : List D}, fitS es xs → xs.length = es.length ∧ ∀ (i : Nat) s x, es[i]? = some s → xs[i]? = some x → s.fit x
  | [], [], _ => by simp
  | [], _ :: _, h => h.elim
  | _ :: _, [], h => h.elim
  | s :: r, x :: q, h => by
    obtain ⟨h1, h2⟩ := fitS_get h.2
    refine ⟨by simp [h1], fun i a b ha hb => ?_⟩
    cases i with
    | zero => simp at ha hb; subst ha hb; exact h.1
    | succ i => exact h2 i a b (by simpa using ha) (by simpa using hb)
theorem fit_sl {es : List Sc} {x : D} (h : (Shp.sl es).fit x) : ∃ n get, x = .arr es.length n get ∧ n ≤ maxLen ∧ ∀ i, i < n → fitL es (get i) := by
  cases x <;> first | exact h.elim | (obtain ⟨rfl, h1, h2⟩ := h; exact ⟨_, _, rfl, h1, h2⟩)

theorem getD_map {α : Type} {n : Nat} {f : Nat → α} {d : α} {i : Nat} (hi : i < n) : ((List.range n).map f).getD i d = f i := by
  simp [List.getD_eq_getElem?_getD, hi]

theorem open_bools {x : D} (h : (Shp.sl [.bool]).fit x) : ∃ bs : List Bool, DLe x (boolsD bs) ∧ bs.length ≤ maxLen := by
  obtain ⟨n, get, rfl, hn, hf⟩ := fit_sl h
  have key : ∀ i, i < n → ∃ b, get i = [.bool b] := fun i hi => by
    have := hf i hi
    match get i, this with
    | [x], h => obtain ⟨b, rfl⟩ := fit_bool h.1; exact ⟨b, rfl⟩
  refine ⟨(List.range n).map fun i => if h : i < n then (key i h).choose else false, ?_, by simpa using hn⟩
  unfold boolsD
  rw [show ((List.range n).map fun i => if h : i < n then (key i h).choose else false).length = n by simp]
  refine DLe.arr fun i hi => ?_
  rw [getD_map hi, dif_pos hi]
  exact (key i hi).choose_spec
theorem open_ints {x : D} (h : (Shp.sl [.int .i64]).fit x) : ∃ xs : List Int, DLe x (intsD xs) ∧ xs.length ≤ maxLen ∧ ∀ y ∈ xs, (Lit.int .i64 y).wf = true := by
  obtain ⟨n, get, rfl, hn, hf⟩ := fit_sl h
  have key : ∀ i, i < n → ∃ b, get i = [.int .i64 b] ∧ (Lit.int .i64 b).wf = true := fun i hi => by
    have := hf i hi
    match get i, this with
    | [x], h => obtain ⟨b, rfl, hw⟩ := fit_int h.1; exact ⟨b, rfl, hw⟩
  refine ⟨(List.range n).map fun i => if h : i < n then (key i h).choose else 0, ?_, by simpa using hn, fun y hy => ?_⟩
  · unfold intsD
    rw [show ((List.range n).map fun i => if h : i < n then (key i h).choose else 0).length = n by simp]
    refine DLe.arr fun i hi => ?_
    rw [getD_map hi, dif_pos hi]
    exact (key i hi).choose_spec.1
  · obtain ⟨i, hi, rfl⟩ := List.mem_map.1 hy
    rw [dif_pos (List.mem_range.1 hi)]
    exact (key i (List.mem_range.1 hi)).choose_spec.2
theorem open_links {x : D} (h : (Shp.sl [.int .i64, .int .i64, .int .i64, .int .i64, .int .i64, .int .i64, .int .i64]).fit x) : ∃ ls : List Lk, DLe x (linksD ls) ∧ ls.length ≤ maxLen := by
  obtain ⟨n, get, rfl, hn, hf⟩ := fit_sl h
  have key : ∀ i, i < n → ∃ l : Lk, get i = lkD l := fun i hi => by
    have := hf i hi
    match get i, this with
    | [x0, x1, x2, x3, x4, x5, x6], ⟨h0, h1, h2, h3, h4, h5, h6, _⟩ =>
      obtain ⟨a0, rfl, _⟩ := fit_int h0
      obtain ⟨a1, rfl, _⟩ := fit_int h1
      obtain ⟨a2, rfl, _⟩ := fit_int h2
      obtain ⟨a3, rfl, _⟩ := fit_int h3
      obtain ⟨a4, rfl, _⟩ := fit_int h4
      obtain ⟨a5, rfl, _⟩ := fit_int h5
      obtain ⟨a6, rfl, _⟩ := fit_int h6
      exact ⟨⟨a0, a1, a2, a3, a4, a5, a6⟩, rfl⟩
  refine ⟨(List.range n).map fun i => if h : i < n then (key i h).choose else default, ?_, by simpa using hn⟩
  unfold linksD
  rw [show ((List.range n).map fun i => if h : i < n then (key i h).choose else default).length = n by simp]
  refine DLe.arr fun i hi => ?_
  rw [getD_map hi, dif_pos hi]
  exact (key i hi).choose_spec

abbrev topoS : List Shp := [.sc (.int .i64), .sl [.bool], .sl [.int .i64, .int .i64, .int .i64, .int .i64, .int .i64, .int .i64, .int .i64]]
theorem open_topo {ds : List D} (h : fitS topoS ds) : ∃ t : Topo, DLe (.agg ds) (topoD t) := by
  match ds, h with
  | [x0, x1, x2], ⟨h0, h1, h2, _⟩ =>
    obtain ⟨n, rfl, _⟩ := fit_int h0
    obtain ⟨bs, hb, _⟩ := open_bools h1
    obtain ⟨ls, hl, _⟩ := open_links h2
    exact ⟨⟨n, bs, ls⟩, DLe.agg ⟨DLe.refl _, hb, hl, trivial⟩⟩

theorem open_pair {ds : List D} (h : fitS [.sc (.int .i64), .sc (.int .i64)] ds) : ∃ a b : Int, ds = [.int .i64 a, .int .i64 b] := by
  match ds, h with
  | [x0, x1], ⟨h0, h1, _⟩ =>
    obtain ⟨a, rfl, _⟩ := fit_int h0
    obtain ⟨b, rfl, _⟩ := fit_int h1
    exact ⟨a, b, rfl⟩

theorem relDs_nil {R : Nat → Prop} {w : World} : RelDs R w [] [] := ⟨rfl, fun i v x h => by simp at h⟩
theorem relDs_cons {R : Nat → Prop} {w : World} {v : Value} {x : D} {vs : List Value} {xs : List D} (h : RelD R w v x) (k : RelDs R w vs xs) : RelDs R w (v :: vs) (x :: xs) := by
  refine ⟨by simp [k.1], fun i u y hu hy => ?_⟩
  cases i with
  | zero => simp at hu hy; subst hu hy; exact h
  | succ i => exact k.2 i u y (by simpa using hu) (by simpa using hy)

end Go.Wk
