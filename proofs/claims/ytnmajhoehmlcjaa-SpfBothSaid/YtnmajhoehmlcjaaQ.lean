/- For every topology and mask within the size limit: the distance from one node to another is the same in spf.From and in spf.Dist. No condition. -/
import Derived.Test.YtnmajhoehmlcjaaRows
import Derived.Test.YtnmajhoehmlcjaaQ5

set_option linter.all false

namespace Go.Proofs.Ytnmajhoehmlcjaa
open Go.Wk Go.RowKit Go.ChangeShapes Go.WideShapes Go.ChangeAt

set_option maxRecDepth 100000 in
theorem spfBoth_lifted (os : Os) (started : os.Started) (H : Type) (enc : TypeId × Value → H) :
    ReturnsInHanded {} Try.checked os 9 .any (Rows.spfBothSpec.pre6 enc Try.prog Try.f9 Rows.spfBothRow.domain false) (Rows.spfBothSpec.post enc Try.prog Try.f9 false true false false) := by
  refine law_lifted (C := Try.checked) Tryown started (by kernel_rfl) Try.func9
    (ChangeSpec.witness6 (enc := enc) (C := Try.checked) false ⟨#[], #[.agg #[.int .i64 0, .slice none 0 0, .slice none 0 0], .slice none 0 0], []⟩ 12 (by kernel_rfl) (by kernel_rfl) (by kernel_rfl) (by kernel_rfl))
    Trylaid rfl (fun t ht => ?_) (tb := 4) rfl (by kernel_rfl) (fun ds hds => ?_) ?_
  · have : t = 25 ∨ t = 22 := by simpa [Try.params9] using ht
    rcases this with rfl | rfl
    all_goals exact ⟨by kernel_rfl, of_decide_eq_true (by kernel_rfl)⟩
  · match ds, hds with
    | [d1, d2], _ => exact ⟨rfl, rfl, rfl⟩
  · intro W base args ds p hval0 hA0
    have hval : ∀ (j : Nat) t v, Try.f9.params[j]? = some t → args[j]? = some v → Value.okWide Try.prog W .any base t v := hval0
    have hA : DataW.TrodAll enc Try.prog W 0 (fun _ => true) true Try.f9.params.toList args.toList ds p := hA0
    rw [Try.params9] at hA hval
    obtain ⟨v0, v1, d0, d1, p0, p1, rfl, rfl, rfl, h0, h1⟩ := trodAll_two hA
    obtain ⟨ds0, f0, r0⟩ := arg_agg envOK envInt rfl rfl shp_topo (hval 0 _ v0 rfl rfl) h0
    obtain ⟨t0, ht0⟩ := open_topo f0
    obtain ⟨x1, f1, r1⟩ := arg_one envOK envInt rfl rfl (by kernel_rfl : shpO env 10 22 = some [.sl [.bool]]) (hval 1 _ v1 rfl rfl) h1
    obtain ⟨b1, hb1, _⟩ := open_bools f1
    exact ⟨[topoD t0, boolsD b1], (relDs_cons (ht0 _ _ _ r0) (relDs_cons (hb1 _ _ _ r1) relDs_nil)), l_SpfBoth t0 b1⟩

theorem spfBoth_holds : Rows.SpfBothSaid :=
  OpenClaim.holds_of_wide 9 Try.f9 rfl rfl rfl rfl rfl rfl rfl ⟨rfl, rfl, rfl, rfl, rfl⟩ rfl rfl rfl rfl rfl (by kernel_rfl) Try.func9 (by kernel_rfl)
    (of_decide_eq_true (by kernel_rfl)) (by unfold Func.isWrapper; first | (rw [if_pos (by decide +kernel)]; kernel_rfl) | (rw [if_neg (by decide +kernel)]; exact ⟨rfl, rfl⟩))
    (fun os started H enc _ => spfBoth_lifted os started H enc)

end Go.Proofs.Ytnmajhoehmlcjaa
