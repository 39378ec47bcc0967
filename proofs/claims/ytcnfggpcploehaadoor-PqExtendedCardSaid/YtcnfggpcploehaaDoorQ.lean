/- For every query: the extended P-space holds the P-space, and the node still reaches all of it; the table of math/bits is the text of the program. -/
import Derived.Test.YtcnfggpcploehaaDoorRows
import Derived.Test.YtcnfggpcploehaaDoorQ6

set_option linter.all false

namespace Go.Proofs.YtcnfggpcploehaaDoor
set_option maxRecDepth 10000
open Go.Wk Go.RowKit Go.ChangeShapes Go.WideShapes Go.ChangeAt

set_option maxRecDepth 100000 in
theorem pqExtended_lifted (os : Os) (started : os.Started) (H : Type) (enc : TypeId × Value → H) :
    ReturnsInHanded {} Tryd.checked os 8 .any (fun w args => (Rows.pqExtendedSpec.pre enc Tryd.prog Tryd.f8 [] false w args ∧ laidMetH Tryd.prog tabL w) ∧ sizedMet enc Tryd.prog Tryd.f8 (OpenSpec.ofChange Rows.pqExtendedSpec) false w args) (Rows.pqExtendedSpec.post enc Tryd.prog Tryd.f8 false true false false) := by
  refine law_liftedT (C := Tryd.checked) tab_of Trydown started (by kernel_rfl) Tryd.func8
    (ChangeSpec.witness_shaped (enc := enc) (C := Tryd.checked) (os := os) (X := fun w _ => laidMetH Tryd.prog tabL w) false (World.doorLaid Tryd.prog 400 os) #[.agg #[.int .i64 0, .slice none 0 0, .slice none 0 0, .slice none 0 0, .int .i64 0, .int .i64 0]] 8 rfl (World.shaped_of_RefB (by kernel_rfl) (by kernel_rfl)) (by kernel_rfl) (by kernel_rfl) (by kernel_rfl) (door_met os _))
    Trydlaid rfl (fun t ht => ?_) (tb := 4) rfl (by kernel_rfl) (fun ds hds => ?_) ?_
  · have : t = 27 := by simpa [Tryd.params8] using ht
    rcases this with rfl
    all_goals exact ⟨by kernel_rfl, of_decide_eq_true (by kernel_rfl)⟩
  · match ds, hds with
    | [d1], _ => exact ⟨rfl, rfl, rfl⟩
  · intro W base args ds p hval0 hA0
    have hval : ∀ (j : Nat) t v, Tryd.f8.params[j]? = some t → args[j]? = some v → Value.okWide Tryd.prog W .any base t v := hval0
    have hA : DataW.TrodAll enc Tryd.prog W 0 (fun _ => true) true Tryd.f8.params.toList args.toList ds p := hA0
    rw [Tryd.params8] at hA hval
    obtain ⟨v0, d0, rfl, rfl, h0⟩ := trodAll_one hA
    obtain ⟨ds0, f0, r0⟩ := arg_agg envOK envInt rfl rfl (by kernel_rfl : shpO env 10 27 = some queryS) (hval 0 _ v0 rfl rfl) h0
    obtain ⟨t0, b0, x0, y0, ht0, hx0, hy0⟩ := open_query f0
    exact ⟨[qD t0 b0 x0 y0], (relDs_cons (ht0 _ _ _ r0) relDs_nil), l_PqExtended t0 b0 x0 y0⟩

theorem pqExtended_holds : Rows.PqExtendedSaid :=
  OpenClaim.holds_of_wide 8 Tryd.f8 rfl rfl rfl rfl rfl rfl rfl ⟨rfl, rfl, rfl, rfl, rfl⟩ rfl rfl rfl rfl rfl (by kernel_rfl) Tryd.func8 (by kernel_rfl)
    (of_decide_eq_true (by kernel_rfl)) (by unfold Func.isWrapper; first | (rw [if_pos (by decide +kernel)]; kernel_rfl) | (rw [if_neg (by decide +kernel)]; exact ⟨rfl, rfl⟩))
    (fun os started H enc _ => pqExtended_lifted os started H enc)

theorem pqExtended_card_holds : Rows.PqExtendedCardSaid :=
  Claim7.holds_tied_plain_at .later [] [.data] true (true, "3e10eb31cb2f77e75646210467dbe1df319426fed65d8d93e2bb75aa7b1f4759") false
    pqExtended_holds (fun _ h => by cases h) (by kernel_rfl) (fun _ h => by cases h) pqExtended_row_tie rfl ⟨rfl, rfl⟩ (by kernel_rfl) rfl
    (fun f fn hf hfn => by
      obtain rfl : f = 8 := Option.some.inj ((show Tryd.prog.funcNamed "waypoint/waypointlaw26.PqExtended" = some 8 by kernel_rfl).symm.trans hf) |>.symm
      obtain rfl : fn = Tryd.f8 := (Option.some.inj (Tryd.func8.symm.trans hfn)).symm
      exact ⟨by kernel_rfl, fun j t ht => by
        rw [Tryd.params8] at ht
        have hm : t ∈ [27] := by simpa using Array.mem_of_getElem? ht
        have hall : ([27].all fun u => !Tryd.prog.wantsStandIn u) = true := by kernel_rfl
        exact (show Tryd.prog.wantsStandIn t = false by simpa using List.all_eq_true.1 hall t hm)⟩)
    (by kernel_rfl)

end Go.Proofs.YtcnfggpcploehaaDoor
