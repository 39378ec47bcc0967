/- For every query and arc: if a further arc fails, Extra does not decrease and nothing becomes reachable. -/
import Derived.Test.YtcnfggpcploehaaRows
import Derived.Test.YtcnfggpcploehaaQ7

set_option linter.all false

namespace Go.Proofs.Ytcnfggpcploehaa
set_option maxRecDepth 10000
open Go.Wk Go.RowKit Go.ChangeShapes Go.WideShapes Go.ChangeAt

set_option maxRecDepth 100000 in
theorem postconvMore_lifted (os : Os) (started : os.Started) (H : Type) (enc : TypeId × Value → H) :
    ReturnsInHanded {} Try.checked os 6 .any (Rows.postconvMoreSpec.pre6 enc Try.prog Try.f6 Rows.postconvMoreRow.domain false) (Rows.postconvMoreSpec.post enc Try.prog Try.f6 false true false false) := by
  refine law_lifted (C := Try.checked) Tryown started (by kernel_rfl) Try.func6
    (ChangeSpec.witness6 (enc := enc) (C := Try.checked) false ⟨#[], #[.agg #[.int .i64 0, .slice none 0 0, .slice none 0 0, .slice none 0 0, .int .i64 0, .int .i64 0], .int .i64 0], []⟩ 12 (by kernel_rfl) (by kernel_rfl) (by kernel_rfl) (by kernel_rfl))
    Trylaid rfl (fun t ht => ?_) (tb := 4) rfl (by kernel_rfl) (fun ds hds => ?_) ?_
  · have : t = 27 ∨ t = 3 := by simpa [Try.params6] using ht
    rcases this with rfl | rfl
    all_goals exact ⟨by kernel_rfl, of_decide_eq_true (by kernel_rfl)⟩
  · match ds, hds with
    | [d1, d2], _ => exact ⟨rfl, rfl, rfl⟩
  · intro W base args ds p hval0 hA0
    have hval : ∀ (j : Nat) t v, Try.f6.params[j]? = some t → args[j]? = some v → Value.okWide Try.prog W .any base t v := hval0
    have hA : DataW.TrodAll enc Try.prog W 0 (fun _ => true) true Try.f6.params.toList args.toList ds p := hA0
    rw [Try.params6] at hA hval
    obtain ⟨v0, v1, d0, d1, p0, p1, rfl, rfl, rfl, h0, h1⟩ := trodAll_two hA
    obtain ⟨ds0, f0, r0⟩ := arg_agg envOK envInt rfl rfl (by kernel_rfl : shpO env 10 27 = some queryS) (hval 0 _ v0 rfl rfl) h0
    obtain ⟨t0, b0, x0, y0, ht0, hx0, hy0⟩ := open_query f0
    obtain ⟨x1, f1, r1⟩ := arg_one envOK envInt rfl rfl shp_int (hval 1 _ v1 rfl rfl) h1
    obtain ⟨n1, rfl, hw1⟩ := fit_int f1
    exact ⟨[qD t0 b0 x0 y0, iD n1], (relDs_cons (ht0 _ _ _ r0) (relDs_cons r1 relDs_nil)), l_PostconvMore t0 b0 x0 y0 n1⟩

theorem postconvMore_holds : Rows.PostconvMoreSaid :=
  OpenClaim.holds_of_wide 6 Try.f6 rfl rfl rfl rfl rfl rfl rfl ⟨rfl, rfl, rfl, rfl, rfl⟩ rfl rfl rfl rfl rfl (by kernel_rfl) Try.func6 (by kernel_rfl)
    (of_decide_eq_true (by kernel_rfl)) (by unfold Func.isWrapper; first | (rw [if_pos (by decide +kernel)]; kernel_rfl) | (rw [if_neg (by decide +kernel)]; exact ⟨rfl, rfl⟩))
    (fun os started H enc _ => postconvMore_lifted os started H enc)

end Go.Proofs.Ytcnfggpcploehaa
