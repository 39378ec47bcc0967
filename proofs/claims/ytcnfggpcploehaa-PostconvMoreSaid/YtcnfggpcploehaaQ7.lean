/- Laid together: L27d, Z27. -/
import Derived.Test.YtcnfggpcploehaaRows
import Derived.Test.YtcnfggpcploehaaQ6

set_option linter.all false

/- Laws of layer 27: Extra. -/
namespace Go.Proofs.Ytcnfggpcploehaa
set_option maxRecDepth 10000
open Go.Wk

theorem extra_facts {t : Topo} {down : List Bool} {x y : Int} (hf : fitsB t down = true) (x0 : 0 ≤ x) (x1 : x < t.nodes) (y0 : 0 ≤ y) (y1 : y < t.nodes) :
    (errP t down x y = 0 → 0 ≤ extraL t down x y) ∧ (usesB t down x y = false → (decide (errP t down x y = 0) = decide (0 ≤ gI (distL t [] y false) x)) ∧ extraL t down x y = 0) := by
  have hv := fitsB_v hf
  have hfn : fitsB t [] = true := by simp [fitsB, hv]
  have ex := errS_ok hfn x0 x1
  have ey := errS_ok hfn y0 y1
  have ey' := errS_ok hf y0 y1
  have hF := distL_is (fr := true) ex
  have hG := distL_is (fr := false) ey
  have hG' := distL_is (fr := false) ey'
  have hrange : (decide (x < 0) || decide (t.nodes ≤ x)) = false := by simp; omega
  have heP : errP t down x y = if gI (distL t down y false) x < 0 then 11 else 0 := by
    unfold errP; rw [if_pos ey', hrange]; rfl
  have hex : errP t down x y = 0 → extraL t down x y = gI (distL t down y false) x - gI (distL t [] y false) x := fun h => by
    unfold extraL; rw [if_pos h, (pathL_cost h).2]
  constructor
  · intro h
    rw [hex h]
    obtain ⟨_, _, _, hn⟩ := errP_0 h
    obtain ⟨L, hL, hc⟩ := hG'.some_to hv (gI (distL t down y false) x).toNat x x0 x1 hn (by omega)
    have := hG.walk_to hv L x hL.free
    omega
  · intro hu
    have hl : usesL t down (distL t [] x true) (distL t [] y false) x y = false := by
      simpa [usesB, hf, x0, x1, y0, y1] using hu
    have hs := unused_to hv x0 x1 hF hG hG' hl
    rw [heP]
    by_cases hn : gI (distL t down y false) x < 0
    · rw [if_pos hn] at heP
      rw [if_pos hn, decide_eq_false (by omega : ¬ 0 ≤ gI (distL t [] y false) x)]
      exact ⟨rfl, by unfold extraL; rw [if_neg (by rw [heP]; decide)]⟩
    · rw [if_neg hn] at heP
      rw [if_neg hn, decide_eq_true (by omega : 0 ≤ gI (distL t [] y false) x)]
      exact ⟨rfl, by rw [hex heP]; omega⟩

set_option maxHeartbeats 1000000 in
theorem l_PostconvExtra (t : Topo) (down : List Bool) (x y : Int) : Ctr Try.prog 4 [qD t down x y] [] (.d (bD true)) := by
  refine spec_of envOK (enters_of Try.func4 (by kernel_rfl) (by kernel_rfl)) Try.func4 rfl rfl _ rfl (Nat.le_of_ble_eq_true rfl) rfl fun w0 => ?_
  repeat' (first
  
    | refine aw_seq ?_
    | refine aw_region ?_
    | refine aw_region_q (by kernel_rfl) (by kernel_rfl) ?_
    | refine aw_block ?_
    | refine ao_nil ?_
    | refine ao_op rfl trivial ?_
    | refine aq_nil ?_
    | refine aq_op rfl trivial ?_
    | refine at_nil ?_
    | refine at_op rfl trivial ?_
    | refine am_nil ?_
    | refine am_op rfl trivial rfl ?_
    | refine aw_skip ?_
    | refine aw_condT rfl trivial ?_
    | refine aw_condF rfl trivial ?_
    | refine aw_condD rfl trivial (fun hc => ?_) (fun hc => ?_)
    | refine aw_condN rfl trivial (fun hc => ?_) (fun hc => ?_)
    | refine aw_condNB rfl trivial (fun hc => ?_) (fun hc => ?_)
    | refine aw_cond rfl trivial (fun hc => ?_) (fun hc => ?_)
    | refine aw_ret ?_
    | refine aw_exit ?_
    | refine ao_op rfl ?_ ?_
    | refine aq_op rfl ?_ ?_
    | refine at_op rfl ?_ ?_
    | refine am_op rfl ?_ rfl ?_
    | refine ao_box rfl trivial rfl rfl rfl ?_
    | refine ao_alloc rfl rfl rfl rfl ?_
    | refine ao_store rfl rfl trivial rfl trivial rfl rfl rfl rfl rfl ?_
    | (first | refine ao_call rfl (l27_awake) rfl ?_ ?_ | refine aq_call rfl (l27_awake) rfl ?_ ?_)
    | (first | refine ao_call rfl (l27_large t down x y) rfl ?_ ?_ | refine aq_call rfl (l27_large t down x y) rfl ?_ ?_)
    | (first | refine ao_call rfl (r_Fits _ _) rfl ?_ ?_ | refine aq_call rfl (r_Fits _ _) rfl ?_ ?_)
    | (show allP _; first | trivial | exact ob1 (fun h => h) | exact ob2 (fun h => h) (fun h => h) | exact ob1 (fun h => ⟨h.1, trivial⟩) | (simp only [allP, obg, grd, allT, InR, decide_eq_true_eq, Bool.and_eq_true, Bool.not_eq_true', decide_eq_false_iff_not, List.nil_append, List.cons_append, List.append_nil, and_true, true_and]; first | omega | (intros; omega) | (simp only [Blk.len, List.length_set, List.length_append, List.length_cons, List.length_nil]; first | omega | (intros; omega)) | (refine ⟨?_, ?_⟩ <;> intros <;> first | (with_reducible assumption) | omega) | ((repeat' refine And.intro ?_ ?_) <;> (intros; first | (with_reducible assumption) | omega | (simp only [Blk.len, List.length_set, List.length_append, List.length_cons, List.length_nil]; omega))) | ((try simp only [Bool.or_eq_true, Bool.or_eq_false_iff, Bool.and_eq_true, Bool.and_eq_false_iff, decide_eq_true_eq, decide_eq_false_iff_not, Bool.not_eq_true', Bool.not_eq_false'] at *); (try simp only [Blk.len] at *); first | omega | (intros; omega)) | (simp_all; done))))
  · (refine fin_ret ?_; exact ret1 (by rfl) (by rfl) (by rfl))
  have hin : fitsB t down = true ∧ 0 ≤ x ∧ x < t.nodes ∧ 0 ≤ y ∧ y < t.nodes := by
    simp only [Bool.or_eq_false_iff, decide_eq_false_iff_not, Bool.not_eq_false'] at hc
    obtain ⟨⟨⟨⟨⟨_, h1⟩, h2⟩, h3⟩, h4⟩, h5⟩ := hc
    exact ⟨h1, by omega, by omega, by omega, by omega⟩
  obtain ⟨hf, x0, x1, y0, y1⟩ := hin
  obtain ⟨f1, f2⟩ := extra_facts hf x0 x1 y0 y1
  have hfn : fitsB t [] = true := by simp [fitsB, fitsB_v hf]
  have ey := errS_ok hfn y0 y1
  have hG := (distL_is (fr := false) ey).len
  have hS := (r_Dist t [] y).args (ds' := [topoD t, nilD, iD y]) ⟨DLe.refl _, DLe.nil, DLe.refl _, trivial⟩
  rw [ey] at hS
  generalize distL t [] y false = g at *
  have hix : x < (Blk.ints .i64 g).len := by simp [Blk.len]; omega
  repeat' (first
  
    | refine aw_seq ?_
    | refine aw_region ?_
    | refine aw_region_q (by kernel_rfl) (by kernel_rfl) ?_
    | refine aw_block ?_
    | refine ao_nil ?_
    | refine ao_op rfl trivial ?_
    | refine aq_nil ?_
    | refine aq_op rfl trivial ?_
    | refine at_nil ?_
    | refine at_op rfl trivial ?_
    | refine am_nil ?_
    | refine am_op rfl trivial rfl ?_
    | refine aw_skip ?_
    | refine aw_condT rfl trivial ?_
    | refine aw_condF rfl trivial ?_
    | refine aw_condD rfl trivial (fun hc => ?_) (fun hc => ?_)
    | refine aw_condN rfl trivial (fun hc => ?_) (fun hc => ?_)
    | refine aw_condNB rfl trivial (fun hc => ?_) (fun hc => ?_)
    | refine aw_cond rfl trivial (fun hc => ?_) (fun hc => ?_)
    | refine aw_ret ?_
    | refine aw_exit ?_
    | refine ao_op rfl ?_ ?_
    | refine aq_op rfl ?_ ?_
    | refine at_op rfl ?_ ?_
    | refine am_op rfl ?_ rfl ?_
    | refine ao_box rfl trivial rfl rfl rfl ?_
    | refine ao_alloc rfl rfl rfl rfl ?_
    | refine ao_store rfl rfl trivial rfl trivial rfl rfl rfl rfl rfl ?_
    | refine ao_callR rfl (c27_Extra t down x y) trivial rfl rfl ?_
    | (first | refine ao_call rfl (r26_Uses t down x y) rfl ?_ ?_ | refine aq_call rfl (r26_Uses t down x y) rfl ?_ ?_)
    | refine ao_callR rfl (hS) trivial rfl rfl ?_
    | (show allP _; first | trivial | exact ob1 (fun h => h) | exact ob2 (fun h => h) (fun h => h) | exact ob1 (fun h => ⟨h.1, trivial⟩) | (simp only [allP, obg, grd, allT, InR, decide_eq_true_eq, Bool.and_eq_true, Bool.not_eq_true', decide_eq_false_iff_not, List.nil_append, List.cons_append, List.append_nil, and_true, true_and]; first | omega | (intros; omega) | (simp only [Blk.len, List.length_set, List.length_append, List.length_cons, List.length_nil]; first | omega | (intros; omega)) | (refine ⟨?_, ?_⟩ <;> intros <;> first | (with_reducible assumption) | omega) | ((repeat' refine And.intro ?_ ?_) <;> (intros; first | (with_reducible assumption) | omega | (simp only [Blk.len, List.length_set, List.length_append, List.length_cons, List.length_nil]; omega))) | ((try simp only [Bool.or_eq_true, Bool.or_eq_false_iff, Bool.and_eq_true, Bool.and_eq_false_iff, decide_eq_true_eq, decide_eq_false_iff_not, Bool.not_eq_true', Bool.not_eq_false'] at *); (try simp only [Blk.len] at *); first | omega | (intros; omega)) | (simp_all; done))))
  · exfalso
    simp only [Bool.and_eq_true, decide_eq_true_eq] at hc
    have := f1 hc.1
    omega
  · (refine fin_ret ?_; exact ret1 (by rfl) (by rfl) (by rfl))
  · have hu : usesB t down x y = false := by assumption
    obtain ⟨k1, k2⟩ := f2 hu
    (refine fin_ret ?_; exact ret1 (by rfl) (by (simp only [gI] at k1; rw [k1, k2]; simp)) (by rfl))
end Go.Proofs.Ytcnfggpcploehaa

/- Rows of layer 27: what they share. -/
namespace Go.Proofs.Ytcnfggpcploehaa
set_option maxRecDepth 10000
open Go.Wk Go.RowKit Go.ChangeShapes Go.WideShapes Go.ChangeAt

theorem Tryown : ownKnob Try.prog.godebug = none := by kernel_rfl
theorem Trylaid : laidOutB Try.prog = true := by kernel_rfl
theorem envInt : IntOK Try.prog env := by
  unfold env
  repeat (first | exact trivial | refine And.intro (by kernel_rfl) ?_ | (show IntOK _ _; unfold IntOK; dsimp only))
theorem shp_topo : shpO env 10 25 = some topoS := by kernel_rfl
theorem shp_int : shpO env 10 3 = some [.sc (.int .i64)] := by kernel_rfl

end Go.Proofs.Ytcnfggpcploehaa
