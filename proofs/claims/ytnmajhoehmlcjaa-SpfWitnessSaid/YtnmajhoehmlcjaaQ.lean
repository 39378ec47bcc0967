/- For every topology, mask and pair of nodes within the size limit: the first shortest path is a path with the distance as its cost, without an arc that is down, and its rests are first shortest paths. No condition. -/
import Derived.Test.YtnmajhoehmlcjaaRows
import Derived.Test.YtnmajhoehmlcjaaQ5

set_option linter.all false

namespace Go.Proofs.Ytnmajhoehmlcjaa
open Go.Wk Go.RowKit Go.ChangeShapes Go.WideShapes Go.ChangeAt

set_option maxRecDepth 100000 in
theorem spfWitness_lifted (os : Os) (started : os.Started) (H : Type) (enc : TypeId × Value → H) :
    ReturnsInHanded {} Try.checked os 6 .any (Rows.spfWitnessSpec.pre6 enc Try.prog Try.f6 Rows.spfWitnessRow.domain false) (Rows.spfWitnessSpec.post enc Try.prog Try.f6 false true false false) := by
  refine law_lifted (C := Try.checked) Tryown started (by kernel_rfl) Try.func6
    (ChangeSpec.witness6 (enc := enc) (C := Try.checked) false ⟨#[], #[.agg #[.int .i64 0, .slice none 0 0, .slice none 0 0], .slice none 0 0, .agg #[.int .i64 0, .int .i64 0]], []⟩ 12 (by kernel_rfl) (by kernel_rfl) (by kernel_rfl) (by kernel_rfl))
    Trylaid rfl (fun t ht => ?_) (tb := 4) rfl (by kernel_rfl) (fun ds hds => ?_) ?_
  · have : t = 25 ∨ t = 22 ∨ t = 34 := by simpa [Try.params6] using ht
    rcases this with rfl | rfl | rfl
    all_goals exact ⟨by kernel_rfl, of_decide_eq_true (by kernel_rfl)⟩
  · match ds, hds with
    | [d1, d2, d3], _ => exact ⟨rfl, rfl, rfl⟩
  · intro W base args ds p hval0 hA0
    have hval : ∀ (j : Nat) t v, Try.f6.params[j]? = some t → args[j]? = some v → Value.okWide Try.prog W .any base t v := hval0
    have hA : DataW.TrodAll enc Try.prog W 0 (fun _ => true) true Try.f6.params.toList args.toList ds p := hA0
    rw [Try.params6] at hA hval
    obtain ⟨v0, v1, v2, d0, d1, d2, p0, p1, p2, rfl, rfl, rfl, h0, h1, h2⟩ := trodAll_three hA
    obtain ⟨ds0, f0, r0⟩ := arg_agg envOK envInt rfl rfl shp_topo (hval 0 _ v0 rfl rfl) h0
    obtain ⟨t0, ht0⟩ := open_topo f0
    obtain ⟨x1, f1, r1⟩ := arg_one envOK envInt rfl rfl (by kernel_rfl : shpO env 10 22 = some [.sl [.bool]]) (hval 1 _ v1 rfl rfl) h1
    obtain ⟨b1, hb1, _⟩ := open_bools f1
    obtain ⟨ds2, f2, r2⟩ := arg_agg envOK envInt rfl rfl (by kernel_rfl : shpO env 10 34 = some [.sc (.int .i64), .sc (.int .i64)]) (hval 2 _ v2 rfl rfl) h2
    obtain ⟨a2, b2, rfl⟩ := open_pair f2
    exact ⟨[topoD t0, boolsD b1, .agg [iD a2, iD b2]], (relDs_cons (ht0 _ _ _ r0) (relDs_cons (hb1 _ _ _ r1) (relDs_cons r2 relDs_nil))), l_SpfWitness t0 b1 a2 b2⟩

theorem spfWitness_holds : Rows.SpfWitnessSaid :=
  OpenClaim.holds_of_wide 6 Try.f6 rfl rfl rfl rfl rfl rfl rfl ⟨rfl, rfl, rfl, rfl, rfl⟩ rfl rfl rfl rfl rfl (by kernel_rfl) Try.func6 (by kernel_rfl)
    (of_decide_eq_true (by kernel_rfl)) (by unfold Func.isWrapper; first | (rw [if_pos (by decide +kernel)]; kernel_rfl) | (rw [if_neg (by decide +kernel)]; exact ⟨rfl, rfl⟩))
    (fun os started H enc _ => spfWitness_lifted os started H enc)

end Go.Proofs.Ytnmajhoehmlcjaa
