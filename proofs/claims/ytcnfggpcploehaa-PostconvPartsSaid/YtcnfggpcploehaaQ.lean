/- For every query: every end of a path after a failure is the path of the node where it begins, and no arc of it is down. -/
import Derived.Test.YtcnfggpcploehaaRows
import Derived.Test.YtcnfggpcploehaaQ7

set_option linter.all false

namespace Go.Proofs.Ytcnfggpcploehaa
set_option maxRecDepth 10000
open Go.Wk Go.RowKit Go.ChangeShapes Go.WideShapes Go.ChangeAt

set_option maxRecDepth 100000 in
theorem postconvParts_lifted (os : Os) (started : os.Started) (H : Type) (enc : TypeId × Value → H) :
    ReturnsInHanded {} Try.checked os 5 .any (Rows.postconvPartsSpec.pre6 enc Try.prog Try.f5 Rows.postconvPartsRow.domain false) (Rows.postconvPartsSpec.post enc Try.prog Try.f5 false true false false) := by
  refine law_lifted (C := Try.checked) Tryown started (by kernel_rfl) Try.func5
    (ChangeSpec.witness6 (enc := enc) (C := Try.checked) false ⟨#[], #[.agg #[.int .i64 0, .slice none 0 0, .slice none 0 0, .slice none 0 0, .int .i64 0, .int .i64 0]], []⟩ 12 (by kernel_rfl) (by kernel_rfl) (by kernel_rfl) (by kernel_rfl))
    Trylaid rfl (fun t ht => ?_) (tb := 4) rfl (by kernel_rfl) (fun ds hds => ?_) ?_
  · have : t = 27 := by simpa [Try.params5] using ht
    rcases this with rfl
    all_goals exact ⟨by kernel_rfl, of_decide_eq_true (by kernel_rfl)⟩
  · match ds, hds with
    | [d1], _ => exact ⟨rfl, rfl, rfl⟩
  · intro W base args ds p hval0 hA0
    have hval : ∀ (j : Nat) t v, Try.f5.params[j]? = some t → args[j]? = some v → Value.okWide Try.prog W .any base t v := hval0
    have hA : DataW.TrodAll enc Try.prog W 0 (fun _ => true) true Try.f5.params.toList args.toList ds p := hA0
    rw [Try.params5] at hA hval
    obtain ⟨v0, d0, rfl, rfl, h0⟩ := trodAll_one hA
    obtain ⟨ds0, f0, r0⟩ := arg_agg envOK envInt rfl rfl (by kernel_rfl : shpO env 10 27 = some queryS) (hval 0 _ v0 rfl rfl) h0
    obtain ⟨t0, b0, x0, y0, ht0, hx0, hy0⟩ := open_query f0
    exact ⟨[qD t0 b0 x0 y0], (relDs_cons (ht0 _ _ _ r0) relDs_nil), l_PostconvParts t0 b0 x0 y0⟩

theorem postconvParts_holds : Rows.PostconvPartsSaid :=
  OpenClaim.holds_of_wide 5 Try.f5 rfl rfl rfl rfl rfl rfl rfl ⟨rfl, rfl, rfl, rfl, rfl⟩ rfl rfl rfl rfl rfl (by kernel_rfl) Try.func5 (by kernel_rfl)
    (of_decide_eq_true (by kernel_rfl)) (by unfold Func.isWrapper; first | (rw [if_pos (by decide +kernel)]; kernel_rfl) | (rw [if_neg (by decide +kernel)]; exact ⟨rfl, rfl⟩))
    (fun os started H enc _ => postconvParts_lifted os started H enc)

end Go.Proofs.Ytcnfggpcploehaa
