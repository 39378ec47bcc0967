/- For every topology, mask and node within the size limit: the distances from a node are the distances to it in the reversed topology, with the costs and the mask of each link's two arcs exchanged. No condition. -/
import Derived.Test.YtnmajhoehmlcjaaRows
import Derived.Test.YtnmajhoehmlcjaaQ5

set_option linter.all false

namespace Go.Proofs.Ytnmajhoehmlcjaa
open Go.Wk Go.RowKit Go.ChangeShapes Go.WideShapes Go.ChangeAt

set_option maxRecDepth 100000 in
theorem spfReversed_lifted (os : Os) (started : os.Started) (H : Type) (enc : TypeId × Value → H) :
    ReturnsInHanded {} Try.checked os 10 .any (Rows.spfReversedSpec.pre6 enc Try.prog Try.f10 Rows.spfReversedRow.domain false) (Rows.spfReversedSpec.post enc Try.prog Try.f10 false true false false) := by
  refine law_lifted (C := Try.checked) Tryown started (by kernel_rfl) Try.func10
    (ChangeSpec.witness6 (enc := enc) (C := Try.checked) false ⟨#[], #[.agg #[.int .i64 0, .slice none 0 0, .slice none 0 0], .slice none 0 0, .int .i64 0], []⟩ 12 (by kernel_rfl) (by kernel_rfl) (by kernel_rfl) (by kernel_rfl))
    Trylaid rfl (fun t ht => ?_) (tb := 4) rfl (by kernel_rfl) (fun ds hds => ?_) ?_
  · have : t = 25 ∨ t = 22 ∨ t = 3 := by simpa [Try.params10] using ht
    rcases this with rfl | rfl | rfl
    all_goals exact ⟨by kernel_rfl, of_decide_eq_true (by kernel_rfl)⟩
  · match ds, hds with
    | [d1, d2, d3], _ => exact ⟨rfl, rfl, rfl⟩
  · intro W base args ds p hval0 hA0
    have hval : ∀ (j : Nat) t v, Try.f10.params[j]? = some t → args[j]? = some v → Value.okWide Try.prog W .any base t v := hval0
    have hA : DataW.TrodAll enc Try.prog W 0 (fun _ => true) true Try.f10.params.toList args.toList ds p := hA0
    rw [Try.params10] at hA hval
    obtain ⟨v0, v1, v2, d0, d1, d2, p0, p1, p2, rfl, rfl, rfl, h0, h1, h2⟩ := trodAll_three hA
    obtain ⟨ds0, f0, r0⟩ := arg_agg envOK envInt rfl rfl shp_topo (hval 0 _ v0 rfl rfl) h0
    obtain ⟨t0, ht0⟩ := open_topo f0
    obtain ⟨x1, f1, r1⟩ := arg_one envOK envInt rfl rfl (by kernel_rfl : shpO env 10 22 = some [.sl [.bool]]) (hval 1 _ v1 rfl rfl) h1
    obtain ⟨b1, hb1, _⟩ := open_bools f1
    obtain ⟨x2, f2, r2⟩ := arg_one envOK envInt rfl rfl shp_int (hval 2 _ v2 rfl rfl) h2
    obtain ⟨n2, rfl, hw2⟩ := fit_int f2
    exact ⟨[topoD t0, boolsD b1, iD n2], (relDs_cons (ht0 _ _ _ r0) (relDs_cons (hb1 _ _ _ r1) (relDs_cons r2 relDs_nil))), l_SpfReversed t0 b1 n2⟩

theorem spfReversed_holds : Rows.SpfReversedSaid :=
  OpenClaim.holds_of_wide 10 Try.f10 rfl rfl rfl rfl rfl rfl rfl ⟨rfl, rfl, rfl, rfl, rfl⟩ rfl rfl rfl rfl rfl (by kernel_rfl) Try.func10 (by kernel_rfl)
    (of_decide_eq_true (by kernel_rfl)) (by unfold Func.isWrapper; first | (rw [if_pos (by decide +kernel)]; kernel_rfl) | (rw [if_neg (by decide +kernel)]; exact ⟨rfl, rfl⟩))
    (fun os started H enc _ => spfReversed_lifted os started H enc)

end Go.Proofs.Ytnmajhoehmlcjaa
