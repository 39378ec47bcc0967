/- Laid together: R11, R11a, R11b, R11c, L11a, WkWa, WkWb, WkWc, WkWd, WkWe, WkWf, WkWg, Mr, C26. -/
import Derived.Lib.TrailingZeros
import Derived.Shelf.Spec.TrailingZeros
import Derived.Test.YtcnfggpcploehaaDoorQ3

set_option linter.all false

/- The reference of layer 11. -/
namespace Go.Proofs.YtcnfggpcploehaaDoor
set_option maxRecDepth 10000
open Go.Wk

theorem r_Fits (t : Topo) (down : List Bool) : Ctr Tryd.prog 36 [topoD t, boolsD down] [] (.d (bD (fitsB t down))) := by
  refine spec_of envOK (Go.Wk.enters_of Tryd.func36 (by kernel_rfl) (by kernel_rfl)) Tryd.func36 rfl rfl _ rfl (Nat.le_of_ble_eq_true rfl) rfl fun w0 => ?_
  have hl : validB t = false ∨ t.links.length ≤ 256 := by
    cases hv : validB t with
    | false => exact .inl rfl
    | true => exact .inr (validB_head hv).2.2.1
  rcases hl with hl | hl
  · repeat' (first
    
      |refine zA ?_|refine zB ?_|refine zC (by kernel_rfl) (by kernel_rfl) ?_|refine zD ?_|refine zE ?_|refine zF rfl trivial ?_|refine zG ?_|refine zH rfl trivial ?_|refine zI ?_|refine zJ rfl trivial ?_|refine zK ?_|refine zL rfl trivial rfl ?_|refine zM ?_|refine zN rfl trivial ?_|refine zO rfl trivial ?_|refine zP rfl trivial (fun hc => ?_) (fun hc => ?_)|refine zQ rfl trivial (fun hc => ?_) (fun hc => ?_)|refine zR rfl trivial (fun hc => ?_) (fun hc => ?_)|refine zS rfl trivial (fun hc => ?_) (fun hc => ?_)|refine zT ?_|refine zU ?_|refine zF rfl ?_ ?_|refine zH rfl ?_ ?_|refine zJ rfl ?_ ?_|refine zL rfl ?_ rfl ?_|refine zV rfl trivial rfl rfl rfl ?_|refine zW rfl rfl rfl rfl ?_|refine zX rfl rfl trivial rfl trivial rfl rfl rfl rfl rfl ?_
      | (first | refine ao_call rfl (r_Valid _) rfl ?_ ?_ | refine aq_call rfl (r_Valid _) rfl ?_ ?_)
      |(show allP _; first | trivial | exact ob1 (fun h => h) | exact ob2 (fun h => h) (fun h => h) | exact ob1 (fun h => ⟨h.1, trivial⟩) | (simp only [obS]; first | omega | (intros; omega) | (simp only [obL]; first | omega | (intros; omega)) | (refine ⟨?_, ?_⟩ <;> intros <;> first | (with_reducible assumption) | omega) | ((repeat' refine And.intro ?_ ?_) <;> (intros; first | (with_reducible assumption) | omega | (simp only [obL]; omega))) | ((try simp only [obB] at *); (try simp only [Blk.len] at *); first | omega | (intros; omega)) | (simp_all; done))))
    (refine fin_ret ?_; exact ret1 (by rfl) (by (simp [fitsB])) (by rfl))
  · repeat' (first
    
      |refine zA ?_|refine zB ?_|refine zC (by kernel_rfl) (by kernel_rfl) ?_|refine zD ?_|refine zE ?_|refine zF rfl trivial ?_|refine zG ?_|refine zH rfl trivial ?_|refine zI ?_|refine zJ rfl trivial ?_|refine zK ?_|refine zL rfl trivial rfl ?_|refine zM ?_|refine zN rfl trivial ?_|refine zO rfl trivial ?_|refine zP rfl trivial (fun hc => ?_) (fun hc => ?_)|refine zQ rfl trivial (fun hc => ?_) (fun hc => ?_)|refine zR rfl trivial (fun hc => ?_) (fun hc => ?_)|refine zS rfl trivial (fun hc => ?_) (fun hc => ?_)|refine zT ?_|refine zU ?_|refine zF rfl ?_ ?_|refine zH rfl ?_ ?_|refine zJ rfl ?_ ?_|refine zL rfl ?_ rfl ?_|refine zV rfl trivial rfl rfl rfl ?_|refine zW rfl rfl rfl rfl ?_|refine zX rfl rfl trivial rfl trivial rfl rfl rfl rfl rfl ?_
      | (first | refine ao_call rfl (r_Valid _) rfl ?_ ?_ | refine aq_call rfl (r_Valid _) rfl ?_ ?_)
      |(show allP _; first | trivial | exact ob1 (fun h => h) | exact ob2 (fun h => h) (fun h => h) | exact ob1 (fun h => ⟨h.1, trivial⟩) | (simp only [obS]; first | omega | (intros; omega) | (simp only [obL]; first | omega | (intros; omega)) | (refine ⟨?_, ?_⟩ <;> intros <;> first | (with_reducible assumption) | omega) | ((repeat' refine And.intro ?_ ?_) <;> (intros; first | (with_reducible assumption) | omega | (simp only [obL]; omega))) | ((try simp only [obB] at *); (try simp only [Blk.len] at *); first | omega | (intros; omega)) | (simp_all; done))))
    (refine fin_ret ?_; exact ret1 (by rfl) (by (simp [fitsB])) (by rfl))

theorem r_Up (down : List Bool) (a : Int) (h : down.length = 0 ∨ 0 ≤ a ∧ a < down.length) : Ctr Tryd.prog 24 [boolsD down, iD a] [] (.d (bD (upB down a))) := by
  refine spec_of envOK (Go.Wk.enters_of Tryd.func24 (by kernel_rfl) (by kernel_rfl)) Tryd.func24 rfl rfl _ rfl (Nat.le_of_ble_eq_true rfl) rfl fun w0 => ?_
  repeat' (first
  
    |refine zA ?_|refine zB ?_|refine zC (by kernel_rfl) (by kernel_rfl) ?_|refine zD ?_|refine zE ?_|refine zF rfl trivial ?_|refine zG ?_|refine zH rfl trivial ?_|refine zI ?_|refine zJ rfl trivial ?_|refine zK ?_|refine zL rfl trivial rfl ?_|refine zM ?_|refine zN rfl trivial ?_|refine zO rfl trivial ?_|refine zP rfl trivial (fun hc => ?_) (fun hc => ?_)|refine zQ rfl trivial (fun hc => ?_) (fun hc => ?_)|refine zR rfl trivial (fun hc => ?_) (fun hc => ?_)|refine zS rfl trivial (fun hc => ?_) (fun hc => ?_)|refine zT ?_|refine zU ?_|refine zF rfl ?_ ?_|refine zH rfl ?_ ?_|refine zJ rfl ?_ ?_|refine zL rfl ?_ rfl ?_|refine zV rfl trivial rfl rfl rfl ?_|refine zW rfl rfl rfl rfl ?_|refine zX rfl rfl trivial rfl trivial rfl rfl rfl rfl rfl ?_
  
    |(show allP _; first | trivial | exact ob1 (fun h => h) | exact ob2 (fun h => h) (fun h => h) | exact ob1 (fun h => ⟨h.1, trivial⟩) | (simp only [obS]; first | omega | (intros; omega) | (simp only [obL]; first | omega | (intros; omega)) | (refine ⟨?_, ?_⟩ <;> intros <;> first | (with_reducible assumption) | omega) | ((repeat' refine And.intro ?_ ?_) <;> (intros; first | (with_reducible assumption) | omega | (simp only [obL]; omega))) | ((try simp only [obB] at *); (try simp only [Blk.len] at *); first | omega | (intros; omega)) | (simp_all; done))))
  (refine fin_ret ?_; exact ret1 (by rfl) (by (simp [upB])) (by rfl))

def transB (t : Topo) (n e : Int) : Bool := decide (n = e) || !overT t n
theorem r_transit (t : Topo) (n e : Int) : Ctr Tryd.prog 60 [topoD t, iD n, iD e] [] (.d (bD (transB t n e))) := by
  refine spec_of envOK (Go.Wk.enters_of Tryd.func60 (by kernel_rfl) (by kernel_rfl)) Tryd.func60 rfl rfl _ rfl (Nat.le_of_ble_eq_true rfl) rfl fun w0 => ?_
  repeat' (first
  
    |refine zA ?_|refine zB ?_|refine zC (by kernel_rfl) (by kernel_rfl) ?_|refine zD ?_|refine zE ?_|refine zF rfl trivial ?_|refine zG ?_|refine zH rfl trivial ?_|refine zI ?_|refine zJ rfl trivial ?_|refine zK ?_|refine zL rfl trivial rfl ?_|refine zM ?_|refine zN rfl trivial ?_|refine zO rfl trivial ?_|refine zP rfl trivial (fun hc => ?_) (fun hc => ?_)|refine zQ rfl trivial (fun hc => ?_) (fun hc => ?_)|refine zR rfl trivial (fun hc => ?_) (fun hc => ?_)|refine zS rfl trivial (fun hc => ?_) (fun hc => ?_)|refine zT ?_|refine zU ?_|refine zF rfl ?_ ?_|refine zH rfl ?_ ?_|refine zJ rfl ?_ ?_|refine zL rfl ?_ rfl ?_|refine zV rfl trivial rfl rfl rfl ?_|refine zW rfl rfl rfl rfl ?_|refine zX rfl rfl trivial rfl trivial rfl rfl rfl rfl rfl ?_
    | (first | refine ao_call rfl (r_Overloaded _ _) rfl ?_ ?_ | refine aq_call rfl (r_Overloaded _ _) rfl ?_ ?_)
    |(show allP _; first | trivial | exact ob1 (fun h => h) | exact ob2 (fun h => h) (fun h => h) | exact ob1 (fun h => ⟨h.1, trivial⟩) | (simp only [obS]; first | omega | (intros; omega) | (simp only [obL]; first | omega | (intros; omega)) | (refine ⟨?_, ?_⟩ <;> intros <;> first | (with_reducible assumption) | omega) | ((repeat' refine And.intro ?_ ?_) <;> (intros; first | (with_reducible assumption) | omega | (simp only [obL]; omega))) | ((try simp only [obB] at *); (try simp only [Blk.len] at *); first | omega | (intros; omega)) | (simp_all; done))))
  (refine fin_ret ?_; exact ret1 (by rfl) (by rfl) (by rfl))

theorem cl_skip {t : Topo} {down : List Bool} {n : Int} {fr : Bool} {l : List Int} {a : Int} (h : (!upB down a || decide (gI l (nearT t fr a) < 0) || !transB t (nearT t fr a) n) = true) : closed t down n fr l a := by
  intro hok hn
  simp only [Bool.or_eq_true, Bool.not_eq_true', decide_eq_true_eq] at h
  rcases h with (h | h) | h
  · rw [hok.1] at h; cases h
  · omega
  · simp only [transB, Bool.or_eq_false_iff, decide_eq_false_iff_not, Bool.not_eq_false'] at h
    rcases hok.2 with h2 | h2
    · exact absurd h2 h.1
    · rw [h2] at h; cases h.2
theorem ok_of {t : Topo} {down : List Bool} {n : Int} {fr : Bool} {l : List Int} {a : Int} (h : (!upB down a || decide (gI l (nearT t fr a) < 0) || !transB t (nearT t fr a) n) = false) : okA t down n fr a ∧ 0 ≤ gI l (nearT t fr a) := by
  simp only [Bool.or_eq_false_iff, Bool.not_eq_false', decide_eq_false_iff_not] at h
  obtain ⟨⟨h1, h2⟩, h3⟩ := h
  refine ⟨⟨h1, ?_⟩, by omega⟩
  simp only [transB, Bool.or_eq_true, decide_eq_true_eq, Bool.not_eq_true'] at h3
  exact h3

set_option maxHeartbeats 4000000 in
theorem rs_inner {Q : Exit → Fr → List Blk → Prop} {w0 : World} {t : Topo} {down : List Bool} {n : Int} {fr : Bool} {l : List Int} (hf : fitsB t down = true) (h0 : 0 ≤ n) (h1 : n < t.nodes) (H : BF t down n fr l)
    (hQ : ∀ (l' : List Int) (ch : Bool) F S, BF t down n fr l' → (ch = false → l' = l ∧ IsDist t down n fr l) → (ch = true → msr l' < msr l) → subF F [(12, [], .d (bD ch)), (10, [], .own 1), (4, [], .ptr 0 0), (1, [], .d (boolsD down)), (2, [], .d (iD n)), (3, [], .d (bD fr))] →
      subS S [tBlk t, .ints .i64 l'] → Q (.exit 4) F S) :
    AW Tryd.prog env (Base.of w0) Tryd.f46.ntmps (loopC Tryd.f46 15) Q
      [(13, [], .d (iD 0)), (12, [], .d (bD false)), (10, [], .own 1), (4, [], .ptr 0 0), (1, [], .d (boolsD down)), (2, [], .d (iD n)), (3, [], .d (bD fr))] [tBlk t, .ints .i64 l] := by
  have hv := fitsB_v hf
  have hnn := validB_head hv
  refine aw_loop (ι := List Int × Bool × Nat) (fun s => [(13, [], .d (iD s.2.2)), (12, [], .d (bD s.2.1)), (10, [], .own 1), (4, [], .ptr 0 0), (1, [], .d (boolsD down)), (2, [], .d (iD n)), (3, [], .d (bD fr))])
    (fun s => [tBlk t, .ints .i64 s.1])
    (fun s => s.2.2 ≤ 2 * t.links.length ∧ BF t down n fr s.1 ∧ (s.2.1 = false → s.1 = l ∧ ∀ b : Nat, b < s.2.2 → closed t down n fr l b) ∧ (s.2.1 = true → msr s.1 < msr l)) (fun s => 2 * t.links.length - s.2.2) (l, false, 0)
    ⟨by simp, H, fun _ => ⟨rfl, fun b hb => by simp at hb⟩, fun h => by cases h⟩ (fun _ => Nat.le_of_ble_eq_true rfl) (by refine weak_to ?_ ?_ rfl rfl
                                                                                                                          · repeat (first | exact subF_nil | refine subF_cons (by first | rfl | (simp [look]; done)) ?_)
                                                                                                                          · repeat (first | exact subS_nil | refine subS_cons (by first | rfl | (simp; done)) ?_)) fun s hs => ?_
  obtain ⟨o, ch, a⟩ := s
  obtain ⟨ha, HB, hc0, hc1⟩ := hs
  simp only at ha HB hc0 hc1 ⊢
  have hol := HB.len
  by_cases hal : a < 2 * t.links.length
  · have hb := arc_ok hv (a := (a : Int)) (by omega) (by omega)
    have hup : down.length = 0 ∨ 0 ≤ (a : Int) ∧ (a : Int) < down.length := by
      simp only [fitsB, Bool.and_eq_true, Bool.or_eq_true, decide_eq_true_eq] at hf
      omega
    have hy1 : o.getD (headT t (a : Int)).toNat 0 ≤ 65535 * 63 := HB.le hv hb.2.2.1 hb.2.2.2.1
    have hy2 : o.getD (tailT t (a : Int)).toNat 0 ≤ 65535 * 63 := HB.le hv hb.1 hb.2.1
    cases fr
    · repeat' (first
      
        |refine zA ?_|refine zB ?_|refine zC (by kernel_rfl) (by kernel_rfl) ?_|refine zD ?_|refine zE ?_|refine zF rfl trivial ?_|refine zG ?_|refine zH rfl trivial ?_|refine zI ?_|refine zJ rfl trivial ?_|refine zK ?_|refine zL rfl trivial rfl ?_|refine zM ?_|refine zN rfl trivial ?_|refine zO rfl trivial ?_|refine zP rfl trivial (fun hc => ?_) (fun hc => ?_)|refine zQ rfl trivial (fun hc => ?_) (fun hc => ?_)|refine zR rfl trivial (fun hc => ?_) (fun hc => ?_)|refine zS rfl trivial (fun hc => ?_) (fun hc => ?_)|refine zT ?_|refine zU ?_|refine zF rfl ?_ ?_|refine zH rfl ?_ ?_|refine zJ rfl ?_ ?_|refine zL rfl ?_ rfl ?_|refine zV rfl trivial rfl rfl rfl ?_|refine zW rfl rfl rfl rfl ?_|refine zX rfl rfl trivial rfl trivial rfl rfl rfl rfl rfl ?_
        | (first | refine ao_call rfl (r_Tail _ _) rfl ?_ ?_ | refine aq_call rfl (r_Tail _ _) rfl ?_ ?_)
        | (first | refine ao_call rfl (r_Head _ _) rfl ?_ ?_ | refine aq_call rfl (r_Head _ _) rfl ?_ ?_)
        | (first | refine ao_call rfl (r_Up down _ hup) rfl ?_ ?_ | refine aq_call rfl (r_Up down _ hup) rfl ?_ ?_)
        | (first | refine ao_call rfl (r_transit _ _ _) rfl ?_ ?_ | refine aq_call rfl (r_transit _ _ _) rfl ?_ ?_)
        | (first | refine ao_call rfl (r_Cost _ _) rfl ?_ ?_ | refine aq_call rfl (r_Cost _ _) rfl ?_ ?_)
        | refine ao_store_ep rfl rfl trivial rfl trivial rfl rfl rfl rfl rfl rfl ?_
        |(show allP _; first | trivial | exact ob1 (fun h => h) | exact ob2 (fun h => h) (fun h => h) | exact ob1 (fun h => ⟨h.1, trivial⟩) | (simp only [obS]; first | omega | (intros; omega) | (simp only [obL]; first | omega | (intros; omega)) | (refine ⟨?_, ?_⟩ <;> intros <;> first | (with_reducible assumption) | omega) | ((repeat' refine And.intro ?_ ?_) <;> (intros; first | (with_reducible assumption) | omega | (simp only [obL]; omega))) | ((try simp only [obB] at *); (try simp only [Blk.len] at *); first | omega | (intros; omega)) | (simp_all; done))))
      all_goals try (exfalso; omega)
      · have hcl : closed t down n false o (a : Int) := cl_skip hc
        refine ⟨(o, ch, a + 1), ⟨by simp only; omega, HB, fun h => ⟨(hc0 h).1, fun b hb => ?_⟩, hc1⟩, by simp only; omega, ?_⟩
        · rcases Nat.lt_succ_iff_lt_or_eq.1 hb with hb | rfl
          · exact (hc0 h).2 b hb
          · rw [(hc0 h).1] at hcl; exact hcl
        · refine weak_to ?_ ?_ rfl rfl
          · repeat (first | exact subF_nil | refine subF_cons (by first | rfl | (simp [look]; done)) ?_)
          · repeat (first | exact subS_nil | refine subS_cons (by first | rfl | (simp; done)) ?_)
      · rename_i hn
        obtain ⟨hok, hnn0⟩ := ok_of (fr := false) hn
        simp only [Bool.or_eq_true, decide_eq_true_eq] at hc
        obtain ⟨u1, u2⟩ := HB.upd hv h0 (by omega) (by omega) hok hnn0 hc
        refine ⟨(o.set (farT t false a).toNat (gI o (nearT t false a) + costT t a), true, a + 1), ⟨by simp only; omega, u1, (fun h => by cases h), fun _ => ?_⟩, by simp only; omega, ?_⟩
        · cases hch : ch with
          | false => rw [(hc0 hch).1] at u2 ⊢; exact u2
          | true => have := hc1 hch; simp only; omega
        · refine weak_to ?_ ?_ rfl rfl
          · repeat (first | exact subF_nil | refine subF_cons (by first | rfl | (simp [look]; done)) ?_)
          · repeat (first | exact subS_nil | refine subS_cons (by first | rfl | (simp; done)) ?_)
      · rename_i hn
        obtain ⟨hok, hnn0⟩ := ok_of (fr := false) hn
        have hcl : closed t down n false o (a : Int) := fun _ _ => by
          simp only [Bool.or_eq_false_iff, decide_eq_false_iff_not] at hc
          simp only [gI, nearT, farT, cond_true, cond_false] at hc ⊢
          omega
        refine ⟨(o, ch, a + 1), ⟨by simp only; omega, HB, fun h => ⟨(hc0 h).1, fun b hb => ?_⟩, hc1⟩, by simp only; omega, ?_⟩
        · rcases Nat.lt_succ_iff_lt_or_eq.1 hb with hb | rfl
          · exact (hc0 h).2 b hb
          · rw [(hc0 h).1] at hcl; exact hcl
        · refine weak_to ?_ ?_ rfl rfl
          · repeat (first | exact subF_nil | refine subF_cons (by first | rfl | (simp [look]; done)) ?_)
          · repeat (first | exact subS_nil | refine subS_cons (by first | rfl | (simp; done)) ?_)
    · repeat' (first
      
        |refine zA ?_|refine zB ?_|refine zC (by kernel_rfl) (by kernel_rfl) ?_|refine zD ?_|refine zE ?_|refine zF rfl trivial ?_|refine zG ?_|refine zH rfl trivial ?_|refine zI ?_|refine zJ rfl trivial ?_|refine zK ?_|refine zL rfl trivial rfl ?_|refine zM ?_|refine zN rfl trivial ?_|refine zO rfl trivial ?_|refine zP rfl trivial (fun hc => ?_) (fun hc => ?_)|refine zQ rfl trivial (fun hc => ?_) (fun hc => ?_)|refine zR rfl trivial (fun hc => ?_) (fun hc => ?_)|refine zS rfl trivial (fun hc => ?_) (fun hc => ?_)|refine zT ?_|refine zU ?_|refine zF rfl ?_ ?_|refine zH rfl ?_ ?_|refine zJ rfl ?_ ?_|refine zL rfl ?_ rfl ?_|refine zV rfl trivial rfl rfl rfl ?_|refine zW rfl rfl rfl rfl ?_|refine zX rfl rfl trivial rfl trivial rfl rfl rfl rfl rfl ?_
        | (first | refine ao_call rfl (r_Tail _ _) rfl ?_ ?_ | refine aq_call rfl (r_Tail _ _) rfl ?_ ?_)
        | (first | refine ao_call rfl (r_Head _ _) rfl ?_ ?_ | refine aq_call rfl (r_Head _ _) rfl ?_ ?_)
        | (first | refine ao_call rfl (r_Up down _ hup) rfl ?_ ?_ | refine aq_call rfl (r_Up down _ hup) rfl ?_ ?_)
        | (first | refine ao_call rfl (r_transit _ _ _) rfl ?_ ?_ | refine aq_call rfl (r_transit _ _ _) rfl ?_ ?_)
        | (first | refine ao_call rfl (r_Cost _ _) rfl ?_ ?_ | refine aq_call rfl (r_Cost _ _) rfl ?_ ?_)
        | refine ao_store_ep rfl rfl trivial rfl trivial rfl rfl rfl rfl rfl rfl ?_
        |(show allP _; first | trivial | exact ob1 (fun h => h) | exact ob2 (fun h => h) (fun h => h) | exact ob1 (fun h => ⟨h.1, trivial⟩) | (simp only [obS]; first | omega | (intros; omega) | (simp only [obL]; first | omega | (intros; omega)) | (refine ⟨?_, ?_⟩ <;> intros <;> first | (with_reducible assumption) | omega) | ((repeat' refine And.intro ?_ ?_) <;> (intros; first | (with_reducible assumption) | omega | (simp only [obL]; omega))) | ((try simp only [obB] at *); (try simp only [Blk.len] at *); first | omega | (intros; omega)) | (simp_all; done))))
      all_goals try (exfalso; omega)
      · have hcl : closed t down n true o (a : Int) := cl_skip hc
        refine ⟨(o, ch, a + 1), ⟨by simp only; omega, HB, fun h => ⟨(hc0 h).1, fun b hb => ?_⟩, hc1⟩, by simp only; omega, ?_⟩
        · rcases Nat.lt_succ_iff_lt_or_eq.1 hb with hb | rfl
          · exact (hc0 h).2 b hb
          · rw [(hc0 h).1] at hcl; exact hcl
        · refine weak_to ?_ ?_ rfl rfl
          · repeat (first | exact subF_nil | refine subF_cons (by first | rfl | (simp [look]; done)) ?_)
          · repeat (first | exact subS_nil | refine subS_cons (by first | rfl | (simp; done)) ?_)
      · rename_i hn
        obtain ⟨hok, hnn0⟩ := ok_of (fr := true) hn
        simp only [Bool.or_eq_true, decide_eq_true_eq] at hc
        obtain ⟨u1, u2⟩ := HB.upd hv h0 (by omega) (by omega) hok hnn0 hc
        refine ⟨(o.set (farT t true a).toNat (gI o (nearT t true a) + costT t a), true, a + 1), ⟨by simp only; omega, u1, (fun h => by cases h), fun _ => ?_⟩, by simp only; omega, ?_⟩
        · cases hch : ch with
          | false => rw [(hc0 hch).1] at u2 ⊢; exact u2
          | true => have := hc1 hch; simp only; omega
        · refine weak_to ?_ ?_ rfl rfl
          · repeat (first | exact subF_nil | refine subF_cons (by first | rfl | (simp [look]; done)) ?_)
          · repeat (first | exact subS_nil | refine subS_cons (by first | rfl | (simp; done)) ?_)
      · rename_i hn
        obtain ⟨hok, hnn0⟩ := ok_of (fr := true) hn
        have hcl : closed t down n true o (a : Int) := fun _ _ => by
          simp only [Bool.or_eq_false_iff, decide_eq_false_iff_not] at hc
          simp only [gI, nearT, farT, cond_true, cond_false] at hc ⊢
          omega
        refine ⟨(o, ch, a + 1), ⟨by simp only; omega, HB, fun h => ⟨(hc0 h).1, fun b hb => ?_⟩, hc1⟩, by simp only; omega, ?_⟩
        · rcases Nat.lt_succ_iff_lt_or_eq.1 hb with hb | rfl
          · exact (hc0 h).2 b hb
          · rw [(hc0 h).1] at hcl; exact hcl
        · refine weak_to ?_ ?_ rfl rfl
          · repeat (first | exact subF_nil | refine subF_cons (by first | rfl | (simp [look]; done)) ?_)
          · repeat (first | exact subS_nil | refine subS_cons (by first | rfl | (simp; done)) ?_)
  · repeat' (first
    
      |refine zA ?_|refine zB ?_|refine zC (by kernel_rfl) (by kernel_rfl) ?_|refine zD ?_|refine zE ?_|refine zF rfl trivial ?_|refine zG ?_|refine zH rfl trivial ?_|refine zI ?_|refine zJ rfl trivial ?_|refine zK ?_|refine zL rfl trivial rfl ?_|refine zM ?_|refine zN rfl trivial ?_|refine zO rfl trivial ?_|refine zP rfl trivial (fun hc => ?_) (fun hc => ?_)|refine zQ rfl trivial (fun hc => ?_) (fun hc => ?_)|refine zR rfl trivial (fun hc => ?_) (fun hc => ?_)|refine zS rfl trivial (fun hc => ?_) (fun hc => ?_)|refine zT ?_|refine zU ?_|refine zF rfl ?_ ?_|refine zH rfl ?_ ?_|refine zJ rfl ?_ ?_|refine zL rfl ?_ rfl ?_|refine zV rfl trivial rfl rfl rfl ?_|refine zW rfl rfl rfl rfl ?_|refine zX rfl rfl trivial rfl trivial rfl rfl rfl rfl rfl ?_
      | (exfalso; omega)
      |(show allP _; first | trivial | exact ob1 (fun h => h) | exact ob2 (fun h => h) (fun h => h) | exact ob1 (fun h => ⟨h.1, trivial⟩) | (simp only [obS]; first | omega | (intros; omega) | (simp only [obL]; first | omega | (intros; omega)) | (refine ⟨?_, ?_⟩ <;> intros <;> first | (with_reducible assumption) | omega) | ((repeat' refine And.intro ?_ ?_) <;> (intros; first | (with_reducible assumption) | omega | (simp only [obL]; omega))) | ((try simp only [obB] at *); (try simp only [Blk.len] at *); first | omega | (intros; omega)) | (simp_all; done))))
    refine hQ o ch _ _ HB (fun h => ?_) hc1 (by repeat (first | exact subF_nil | refine subF_cons rfl ?_)) (by (repeat (first | exact subS_nil | refine subS_cons (by first | rfl | rfl) ?_)))
    obtain ⟨e, hcl⟩ := hc0 h
    refine ⟨e, H.fin fun b b0 b1 => ?_⟩
    have := hcl b.toNat (by omega)
    rwa [show ((b.toNat : Nat) : Int) = b by omega] at this
end Go.Proofs.YtcnfggpcploehaaDoor

/- The reference of layer 11: search. -/
namespace Go.Proofs.YtcnfggpcploehaaDoor
set_option maxRecDepth 10000
open Go.Wk

theorem r_search (t : Topo) (down : List Bool) (n : Int) (fr : Bool) : Ctr Tryd.prog 46 [topoD t, boolsD down, iD n, bD fr] [.ints .i64 (distL t down n fr)] (.tup [.own 0, .d (iD (errS t down n))]) := by
  refine spec_of envOK (Go.Wk.enters_of Tryd.func46 (by kernel_rfl) (by kernel_rfl)) Tryd.func46 rfl rfl _ rfl (Nat.le_of_ble_eq_true rfl) rfl fun w0 => ?_
  repeat' (first
  
    |refine zA ?_|refine zB ?_|refine zC (by kernel_rfl) (by kernel_rfl) ?_|refine zD ?_|refine zE ?_|refine zF rfl trivial ?_|refine zG ?_|refine zH rfl trivial ?_|refine zI ?_|refine zJ rfl trivial ?_|refine zK ?_|refine zL rfl trivial rfl ?_|refine zM ?_|refine zN rfl trivial ?_|refine zO rfl trivial ?_|refine zP rfl trivial (fun hc => ?_) (fun hc => ?_)|refine zQ rfl trivial (fun hc => ?_) (fun hc => ?_)|refine zR rfl trivial (fun hc => ?_) (fun hc => ?_)|refine zS rfl trivial (fun hc => ?_) (fun hc => ?_)|refine zT ?_|refine zU ?_|refine zF rfl ?_ ?_|refine zH rfl ?_ ?_|refine zJ rfl ?_ ?_|refine zL rfl ?_ rfl ?_|refine zV rfl trivial rfl rfl rfl ?_|refine zW rfl rfl rfl rfl ?_|refine zX rfl rfl trivial rfl trivial rfl rfl rfl rfl rfl ?_
    | refine ao_call rfl (r_Fits _ _) rfl ?_ ?_
    |(show allP _; first | trivial | exact ob1 (fun h => h) | exact ob2 (fun h => h) (fun h => h) | exact ob1 (fun h => ⟨h.1, trivial⟩) | (simp only [obS]; first | omega | (intros; omega) | (simp only [obL]; first | omega | (intros; omega)) | (refine ⟨?_, ?_⟩ <;> intros <;> first | (with_reducible assumption) | omega) | ((repeat' refine And.intro ?_ ?_) <;> (intros; first | (with_reducible assumption) | omega | (simp only [obL]; omega))) | ((try simp only [obB] at *); (try simp only [Blk.len] at *); first | omega | (intros; omega)) | (simp_all; done))))
  · have he : errS t down n = 1 := by unfold errS; rw [hc]; rfl
    refine fin_ret ?_; exact retNil2 rfl (by simp [distL, he, Blk.len]) (by rw [he]) trivial rfl
  · rename_i hf
    have he : errS t down n = 2 := by unfold errS; rw [hf, hc]; rfl
    refine fin_ret ?_; exact retNil2 rfl (by simp [distL, he, Blk.len]) (by rw [he]) trivial rfl
  rename_i hf
  have herr : errS t down n = 0 := by unfold errS; rw [hf, hc]; rfl
  obtain ⟨_, n0, n1⟩ := errS_0 herr
  have hv := fitsB_v hf
  have hnn := validB_head hv
  repeat' (first
  
    |refine zA ?_|refine zB ?_|refine zC (by kernel_rfl) (by kernel_rfl) ?_|refine zD ?_|refine zE ?_|refine zF rfl trivial ?_|refine zG ?_|refine zH rfl trivial ?_|refine zI ?_|refine zJ rfl trivial ?_|refine zK ?_|refine zL rfl trivial rfl ?_|refine zM ?_|refine zN rfl trivial ?_|refine zO rfl trivial ?_|refine zP rfl trivial (fun hc => ?_) (fun hc => ?_)|refine zQ rfl trivial (fun hc => ?_) (fun hc => ?_)|refine zR rfl trivial (fun hc => ?_) (fun hc => ?_)|refine zS rfl trivial (fun hc => ?_) (fun hc => ?_)|refine zT ?_|refine zU ?_|refine zF rfl ?_ ?_|refine zH rfl ?_ ?_|refine zJ rfl ?_ ?_|refine zL rfl ?_ rfl ?_|refine zV rfl trivial rfl rfl rfl ?_|refine zW rfl rfl rfl rfl ?_|refine zX rfl rfl trivial rfl trivial rfl rfl rfl rfl rfl ?_
    | refine ao_make rfl rfl rfl rfl trivial rfl trivial (by first | omega | (dsimp only; omega)) (by first | omega | (dsimp only; omega)) (by first | omega | (dsimp only; omega)) rfl rfl rfl ?_
    |(show allP _; first | trivial | exact ob1 (fun h => h) | exact ob2 (fun h => h) (fun h => h) | exact ob1 (fun h => ⟨h.1, trivial⟩) | (simp only [obS]; first | omega | (intros; omega) | (simp only [obL]; first | omega | (intros; omega)) | (refine ⟨?_, ?_⟩ <;> intros <;> first | (with_reducible assumption) | omega) | ((repeat' refine And.intro ?_ ?_) <;> (intros; first | (with_reducible assumption) | omega | (simp only [obL]; omega))) | ((try simp only [obB] at *); (try simp only [Blk.len] at *); first | omega | (intros; omega)) | (simp_all; done))))
  refine aw_loop (ι := List Int × Nat) (fun s => [(11, [], .d (iD s.2)), (10, [], .own 1), (4, [], .ptr 0 0), (1, [], .d (boolsD down)), (2, [], .d (iD n)), (3, [], .d (bD fr))])
    (fun s => [tBlk t, .ints .i64 s.1])
    (fun s => s.1.length = t.nodes.toNat ∧ s.2 ≤ t.nodes.toNat ∧ ∀ j, j < s.2 → s.1.getD j 0 = -1) (fun s => t.nodes.toNat - s.2) (List.replicate t.nodes.toNat 0, 0) ⟨by simp, by simp, fun j hj => by simp at hj⟩ (fun _ => Nat.le_of_ble_eq_true rfl) (by refine weak_to ?_ ?_ rfl rfl
                                                                                                                                                                                                                                                             · repeat (first | exact subF_nil | refine subF_cons (by first | rfl | (simp [look]; done)) ?_)
                                                                                                                                                                                                                                                             · repeat (first | exact subS_nil | refine subS_cons (by first | rfl | (simp; done)) ?_)) fun s hs => ?_
  obtain ⟨p, i⟩ := s
  obtain ⟨hp, hi, hj⟩ := hs
  simp only at hp hi hj ⊢
  have hbl : Blk.len (.ints .i64 p) = p.length := rfl
  repeat' (first
  
    |refine zA ?_|refine zB ?_|refine zC (by kernel_rfl) (by kernel_rfl) ?_|refine zD ?_|refine zE ?_|refine zF rfl trivial ?_|refine zG ?_|refine zH rfl trivial ?_|refine zI ?_|refine zJ rfl trivial ?_|refine zK ?_|refine zL rfl trivial rfl ?_|refine zM ?_|refine zN rfl trivial ?_|refine zO rfl trivial ?_|refine zP rfl trivial (fun hc => ?_) (fun hc => ?_)|refine zQ rfl trivial (fun hc => ?_) (fun hc => ?_)|refine zR rfl trivial (fun hc => ?_) (fun hc => ?_)|refine zS rfl trivial (fun hc => ?_) (fun hc => ?_)|refine zT ?_|refine zU ?_|refine zF rfl ?_ ?_|refine zH rfl ?_ ?_|refine zJ rfl ?_ ?_|refine zL rfl ?_ rfl ?_|refine zV rfl trivial rfl rfl rfl ?_|refine zW rfl rfl rfl rfl ?_|refine zX rfl rfl trivial rfl trivial rfl rfl rfl rfl rfl ?_
    | refine ao_store_ep rfl rfl trivial rfl trivial rfl rfl rfl rfl rfl rfl ?_
    |(show allP _; first | trivial | exact ob1 (fun h => h) | exact ob2 (fun h => h) (fun h => h) | exact ob1 (fun h => ⟨h.1, trivial⟩) | (simp only [obS]; first | omega | (intros; omega) | (simp only [obL]; first | omega | (intros; omega)) | (refine ⟨?_, ?_⟩ <;> intros <;> first | (with_reducible assumption) | omega) | ((repeat' refine And.intro ?_ ?_) <;> (intros; first | (with_reducible assumption) | omega | (simp only [obL]; omega))) | ((try simp only [obB] at *); (try simp only [Blk.len] at *); first | omega | (intros; omega)) | (simp_all; done))))
  · rw [show (Int.toNat (i : Int)) = i from rfl]
    refine ⟨(p.set i (-1), i + 1), ⟨by simpa using hp, by simp only; omega, fun j hj' => ?_⟩, by simp only; omega, ?_⟩
    · simp only at hj' ⊢
      rw [getD_set]
      split
      · rfl
      · exact hj j (by omega)
    · refine weak_to ?_ ?_ rfl rfl
      · repeat (first | exact subF_nil | refine subF_cons (by first | rfl | (simp [look]; done)) ?_)
      · repeat (first | exact subS_nil | refine subS_cons (by first | rfl | (simp; done)) ?_)
  have hpe : p = List.replicate t.nodes.toNat (-1) := by
    refine extD (by simpa using hp) fun j hj' => ?_
    rw [hj j (by omega), List.getD_eq_getElem?_getD, List.getElem?_replicate, if_pos (by omega)]; rfl
  subst hpe
  refine aw_loop (ι := List Int × Bool) (fun s => [(12, [], .d (bD s.2)), (10, [], .own 1), (4, [], .ptr 0 0), (1, [], .d (boolsD down)), (2, [], .d (iD n)), (3, [], .d (bD fr))])
    (fun s => [tBlk t, .ints .i64 s.1]) (fun s => BF t down n fr s.1 ∧ (s.2 = false → IsDist t down n fr s.1)) (fun s => 2 * msr s.1 + (bif s.2 then 1 else 0)) ((List.replicate t.nodes.toNat (-1)).set n.toNat 0, true) ⟨BF.init n0 n1, fun h => by cases h⟩ (fun _ => Nat.le_of_ble_eq_true rfl) (by refine weak_to ?_ ?_ rfl rfl
                                                                                                                                                                                                                                                                                                        · repeat (first | exact subF_nil | refine subF_cons (by first | rfl | (simp [look]; done)) ?_)
                                                                                                                                                                                                                                                                                                        · repeat (first | exact subS_nil | refine subS_cons (by first | rfl | (simp; done)) ?_)) fun s hs => ?_
  obtain ⟨l, ch⟩ := s
  obtain ⟨HB, hD⟩ := hs
  simp only at HB hD ⊢
  cases ch with
  | false =>
    repeat' (first
    
      |refine zA ?_|refine zB ?_|refine zC (by kernel_rfl) (by kernel_rfl) ?_|refine zD ?_|refine zE ?_|refine zF rfl trivial ?_|refine zG ?_|refine zH rfl trivial ?_|refine zI ?_|refine zJ rfl trivial ?_|refine zK ?_|refine zL rfl trivial rfl ?_|refine zM ?_|refine zN rfl trivial ?_|refine zO rfl trivial ?_|refine zP rfl trivial (fun hc => ?_) (fun hc => ?_)|refine zQ rfl trivial (fun hc => ?_) (fun hc => ?_)|refine zR rfl trivial (fun hc => ?_) (fun hc => ?_)|refine zS rfl trivial (fun hc => ?_) (fun hc => ?_)|refine zT ?_|refine zU ?_|refine zF rfl ?_ ?_|refine zH rfl ?_ ?_|refine zJ rfl ?_ ?_|refine zL rfl ?_ rfl ?_|refine zV rfl trivial rfl rfl rfl ?_|refine zW rfl rfl rfl rfl ?_|refine zX rfl rfl trivial rfl trivial rfl rfl rfl rfl rfl ?_
    
      |(show allP _; first | trivial | exact ob1 (fun h => h) | exact ob2 (fun h => h) (fun h => h) | exact ob1 (fun h => ⟨h.1, trivial⟩) | (simp only [obS]; first | omega | (intros; omega) | (simp only [obL]; first | omega | (intros; omega)) | (refine ⟨?_, ?_⟩ <;> intros <;> first | (with_reducible assumption) | omega) | ((repeat' refine And.intro ?_ ?_) <;> (intros; first | (with_reducible assumption) | omega | (simp only [obL]; omega))) | ((try simp only [obB] at *); (try simp only [Blk.len] at *); first | omega | (intros; omega)) | (simp_all; done))))
    refine fin_ret ?_
    have hI := hD rfl
    exact retOwn2 rfl rfl (by simp only [distL, herr, if_true]; rw [hI.eq hv]) (by rw [herr]) trivial rfl
  | true =>
    repeat' (first
    
      |refine zA ?_|refine zB ?_|refine zC (by kernel_rfl) (by kernel_rfl) ?_|refine zD ?_|refine zE ?_|refine zF rfl trivial ?_|refine zG ?_|refine zH rfl trivial ?_|refine zI ?_|refine zJ rfl trivial ?_|refine zK ?_|refine zL rfl trivial rfl ?_|refine zM ?_|refine zN rfl trivial ?_|refine zO rfl trivial ?_|refine zP rfl trivial (fun hc => ?_) (fun hc => ?_)|refine zQ rfl trivial (fun hc => ?_) (fun hc => ?_)|refine zR rfl trivial (fun hc => ?_) (fun hc => ?_)|refine zS rfl trivial (fun hc => ?_) (fun hc => ?_)|refine zT ?_|refine zU ?_|refine zF rfl ?_ ?_|refine zH rfl ?_ ?_|refine zJ rfl ?_ ?_|refine zL rfl ?_ rfl ?_|refine zV rfl trivial rfl rfl rfl ?_|refine zW rfl rfl rfl rfl ?_|refine zX rfl rfl trivial rfl trivial rfl rfl rfl rfl rfl ?_
    
      |(show allP _; first | trivial | exact ob1 (fun h => h) | exact ob2 (fun h => h) (fun h => h) | exact ob1 (fun h => ⟨h.1, trivial⟩) | (simp only [obS]; first | omega | (intros; omega) | (simp only [obL]; first | omega | (intros; omega)) | (refine ⟨?_, ?_⟩ <;> intros <;> first | (with_reducible assumption) | omega) | ((repeat' refine And.intro ?_ ?_) <;> (intros; first | (with_reducible assumption) | omega | (simp only [obL]; omega))) | ((try simp only [obB] at *); (try simp only [Blk.len] at *); first | omega | (intros; omega)) | (simp_all; done))))
    refine aw_weak (F' := [(13, [], .d (iD 0)), (12, [], .d (bD false)), (10, [], .own 1), (4, [], .ptr 0 0), (1, [], .d (boolsD down)), (2, [], .d (iD n)), (3, [], .d (bD fr))]) (S' := [tBlk t, .ints .i64 l]) (by refine weak_to ?_ ?_ rfl rfl
                                                                                                                                                                                                                      · repeat (first | exact subF_nil | refine subF_cons (by first | rfl | (simp [look]; done)) ?_)
                                                                                                                                                                                                                      · repeat (first | exact subS_nil | refine subS_cons (by first | rfl | (simp; done)) ?_)) (Nat.le_of_ble_eq_true rfl) ?_
    refine rs_inner hf n0 n1 HB fun l' ch F S HB' h1 h2 hF hS => ?_
    refine ⟨(l', ch), ⟨HB', fun h => ?_⟩, ?_, weak_to hF hS rfl rfl⟩
    · simp only at h ⊢
      obtain ⟨e, hI⟩ := h1 h
      rw [e]; exact hI
    · simp only
      cases ch with
      | false => rw [(h1 rfl).1]; simp
      | true => have := h2 rfl; simp only [cond_true]; omega

theorem r_Dist (t : Topo) (down : List Bool) (d : Int) : Ctr Tryd.prog 18 [topoD t, boolsD down, iD d] [.ints .i64 (distL t down d false)] (.tup [.own 0, .d (iD (errS t down d))]) := by
  refine spec_of envOK (Go.Wk.enters_of Tryd.func18 (by kernel_rfl) (by kernel_rfl)) Tryd.func18 rfl rfl _ rfl (Nat.le_of_ble_eq_true rfl) rfl fun w0 => ?_
  repeat' (first
  
    |refine zA ?_|refine zB ?_|refine zC (by kernel_rfl) (by kernel_rfl) ?_|refine zD ?_|refine zE ?_|refine zF rfl trivial ?_|refine zG ?_|refine zH rfl trivial ?_|refine zI ?_|refine zJ rfl trivial ?_|refine zK ?_|refine zL rfl trivial rfl ?_|refine zM ?_|refine zN rfl trivial ?_|refine zO rfl trivial ?_|refine zP rfl trivial (fun hc => ?_) (fun hc => ?_)|refine zQ rfl trivial (fun hc => ?_) (fun hc => ?_)|refine zR rfl trivial (fun hc => ?_) (fun hc => ?_)|refine zS rfl trivial (fun hc => ?_) (fun hc => ?_)|refine zT ?_|refine zU ?_|refine zF rfl ?_ ?_|refine zH rfl ?_ ?_|refine zJ rfl ?_ ?_|refine zL rfl ?_ rfl ?_|refine zV rfl trivial rfl rfl rfl ?_|refine zW rfl rfl rfl rfl ?_|refine zX rfl rfl trivial rfl trivial rfl rfl rfl rfl rfl ?_
    | refine ao_callR rfl (r_search t down d false) trivial rfl rfl ?_
    |(show allP _; first | trivial | exact ob1 (fun h => h) | exact ob2 (fun h => h) (fun h => h) | exact ob1 (fun h => ⟨h.1, trivial⟩) | (simp only [obS]; first | omega | (intros; omega) | (simp only [obL]; first | omega | (intros; omega)) | (refine ⟨?_, ?_⟩ <;> intros <;> first | (with_reducible assumption) | omega) | ((repeat' refine And.intro ?_ ?_) <;> (intros; first | (with_reducible assumption) | omega | (simp only [obL]; omega))) | ((try simp only [obB] at *); (try simp only [Blk.len] at *); first | omega | (intros; omega)) | (simp_all; done))))
  refine fin_ret ?_; exact retOwn2 rfl rfl rfl rfl trivial rfl
theorem r_From (t : Topo) (down : List Bool) (s : Int) : Ctr Tryd.prog 19 [topoD t, boolsD down, iD s] [.ints .i64 (distL t down s true)] (.tup [.own 0, .d (iD (errS t down s))]) := by
  refine spec_of envOK (Go.Wk.enters_of Tryd.func19 (by kernel_rfl) (by kernel_rfl)) Tryd.func19 rfl rfl _ rfl (Nat.le_of_ble_eq_true rfl) rfl fun w0 => ?_
  repeat' (first
  
    |refine zA ?_|refine zB ?_|refine zC (by kernel_rfl) (by kernel_rfl) ?_|refine zD ?_|refine zE ?_|refine zF rfl trivial ?_|refine zG ?_|refine zH rfl trivial ?_|refine zI ?_|refine zJ rfl trivial ?_|refine zK ?_|refine zL rfl trivial rfl ?_|refine zM ?_|refine zN rfl trivial ?_|refine zO rfl trivial ?_|refine zP rfl trivial (fun hc => ?_) (fun hc => ?_)|refine zQ rfl trivial (fun hc => ?_) (fun hc => ?_)|refine zR rfl trivial (fun hc => ?_) (fun hc => ?_)|refine zS rfl trivial (fun hc => ?_) (fun hc => ?_)|refine zT ?_|refine zU ?_|refine zF rfl ?_ ?_|refine zH rfl ?_ ?_|refine zJ rfl ?_ ?_|refine zL rfl ?_ rfl ?_|refine zV rfl trivial rfl rfl rfl ?_|refine zW rfl rfl rfl rfl ?_|refine zX rfl rfl trivial rfl trivial rfl rfl rfl rfl rfl ?_
    | refine ao_callR rfl (r_search t down s true) trivial rfl rfl ?_
    |(show allP _; first | trivial | exact ob1 (fun h => h) | exact ob2 (fun h => h) (fun h => h) | exact ob1 (fun h => ⟨h.1, trivial⟩) | (simp only [obS]; first | omega | (intros; omega) | (simp only [obL]; first | omega | (intros; omega)) | (refine ⟨?_, ?_⟩ <;> intros <;> first | (with_reducible assumption) | omega) | ((repeat' refine And.intro ?_ ?_) <;> (intros; first | (with_reducible assumption) | omega | (simp only [obL]; omega))) | ((try simp only [obB] at *); (try simp only [Blk.len] at *); first | omega | (intros; omega)) | (simp_all; done))))
  refine fin_ret ?_; exact retOwn2 rfl rfl rfl rfl trivial rfl

end Go.Proofs.YtcnfggpcploehaaDoor

/- The reference of layer 11: On, Path. -/
namespace Go.Proofs.YtcnfggpcploehaaDoor
set_option maxRecDepth 10000
open Go.Wk

def onR (t : Topo) (down : List Bool) (l : List Int) (a d : Int) : Bool :=
  upB down a && !decide (tailT t a = d) && decide (0 ≤ gI l (headT t a)) && transB t (headT t a) d && decide (gI l (tailT t a) = gI l (headT t a) + costT t a)
theorem onR_P {t : Topo} {down : List Bool} {l : List Int} {a d n : Int} (ht : tailT t a = n) (hn : n ≠ d) : onR t down l a d = onP t down d l n a := by
  simp only [onR, onP, ht, decide_eq_false hn, Bool.not_false, Bool.and_true, transB]

set_option maxHeartbeats 1000000 in
theorem r_On (t : Topo) (down : List Bool) (l : List Int) (a d : Int) (hf : fitsB t down = true) (h0 : 0 ≤ a) (h1 : a < 2 * t.links.length) (hl : (l.length : Int) = t.nodes) (hb : ∀ i : Int, 0 ≤ i → i < t.nodes → gI l i ≤ 65535 * 64 ∧ -1 ≤ gI l i) :
    Ctr Tryd.prog 44 [topoD t, boolsD down, intsD l, iD a, iD d] [] (.d (bD (onR t down l a d))) := by
  refine spec_of envOK (Go.Wk.enters_of Tryd.func44 (by kernel_rfl) (by kernel_rfl)) Tryd.func44 rfl rfl _ rfl (Nat.le_of_ble_eq_true rfl) rfl fun w0 => ?_
  have hv := fitsB_v hf
  have hnn := validB_head hv
  have hk := arc_ok hv h0 h1
  have hup : down.length = 0 ∨ 0 ≤ a ∧ a < down.length := by
    simp only [fitsB, Bool.and_eq_true, Bool.or_eq_true, decide_eq_true_eq] at hf
    omega
  have hy : l.getD (headT t a).toNat 0 ≤ 65535 * 64 ∧ -1 ≤ l.getD (headT t a).toNat 0 := hb _ hk.2.2.1 hk.2.2.2.1
  clear hb
  repeat' (first
  
    |refine zA ?_|refine zB ?_|refine zC (by kernel_rfl) (by kernel_rfl) ?_|refine zD ?_|refine zE ?_|refine zF rfl trivial ?_|refine zG ?_|refine zH rfl trivial ?_|refine zI ?_|refine zJ rfl trivial ?_|refine zK ?_|refine zL rfl trivial rfl ?_|refine zM ?_|refine zN rfl trivial ?_|refine zO rfl trivial ?_|refine zP rfl trivial (fun hc => ?_) (fun hc => ?_)|refine zQ rfl trivial (fun hc => ?_) (fun hc => ?_)|refine zR rfl trivial (fun hc => ?_) (fun hc => ?_)|refine zS rfl trivial (fun hc => ?_) (fun hc => ?_)|refine zT ?_|refine zU ?_|refine zF rfl ?_ ?_|refine zH rfl ?_ ?_|refine zJ rfl ?_ ?_|refine zL rfl ?_ rfl ?_|refine zV rfl trivial rfl rfl rfl ?_|refine zW rfl rfl rfl rfl ?_|refine zX rfl rfl trivial rfl trivial rfl rfl rfl rfl rfl ?_
    | (first | refine ao_call rfl (r_Tail _ _) rfl ?_ ?_ | refine aq_call rfl (r_Tail _ _) rfl ?_ ?_)
    | (first | refine ao_call rfl (r_Head _ _) rfl ?_ ?_ | refine aq_call rfl (r_Head _ _) rfl ?_ ?_)
    | (first | refine ao_call rfl (r_Up down _ hup) rfl ?_ ?_ | refine aq_call rfl (r_Up down _ hup) rfl ?_ ?_)
    | (first | refine ao_call rfl (r_transit _ _ _) rfl ?_ ?_ | refine aq_call rfl (r_transit _ _ _) rfl ?_ ?_)
    | (first | refine ao_call rfl (r_Cost _ _) rfl ?_ ?_ | refine aq_call rfl (r_Cost _ _) rfl ?_ ?_)
    |(show allP _; first | trivial | exact ob1 (fun h => h) | exact ob2 (fun h => h) (fun h => h) | exact ob1 (fun h => ⟨h.1, trivial⟩) | (simp only [obS]; first | omega | (intros; omega) | (simp only [obL]; first | omega | (intros; omega)) | (refine ⟨?_, ?_⟩ <;> intros <;> first | (with_reducible assumption) | omega) | ((repeat' refine And.intro ?_ ?_) <;> (intros; first | (with_reducible assumption) | omega | (simp only [obL]; omega))) | ((try simp only [obB] at *); (try simp only [Blk.len] at *); first | omega | (intros; omega)) | (simp_all; done))))
  (refine fin_ret ?_; exact ret1 (by rfl) (by (simp only [onR, gI, Bool.and_assoc])) (by rfl))

end Go.Proofs.YtcnfggpcploehaaDoor

/- The reference of layer 11: Path. -/
namespace Go.Proofs.YtcnfggpcploehaaDoor
set_option maxRecDepth 10000
open Go.Wk

end Go.Proofs.YtcnfggpcploehaaDoor

/- Laws of layer 11: the example. -/
namespace Go.Proofs.YtcnfggpcploehaaDoor
set_option maxRecDepth 10000
open Go.Wk

/-- A check of distances. -/
def chkDist (t : Topo) (down : List Bool) (n : Int) (fr : Bool) (l : List Int) : Bool :=
  decide ((l.length : Int) = t.nodes) && decide (gI l n = 0) && (arcsR t.nodes.toNat).all (fun i => decide (gI l i = -1) || decide (0 ≤ gI l i)) &&
    (arcsR (2 * t.links.length)).all (fun a => !(upB down a && (decide (nearT t fr a = n) || !overT t (nearT t fr a)) && decide (0 ≤ gI l (nearT t fr a))) || (decide (0 ≤ gI l (farT t fr a)) && decide (gI l (farT t fr a) ≤ gI l (nearT t fr a) + costT t a))) &&
    (arcsR t.nodes.toNat).all (fun i => decide (i = n) || decide (gI l i < 0) || (arcsR (2 * t.links.length)).any fun a => upB down a && (decide (nearT t fr a = n) || !overT t (nearT t fr a)) && decide (farT t fr a = i) && decide (0 ≤ gI l (nearT t fr a)) && decide (gI l i = gI l (nearT t fr a) + costT t a))
theorem chkDist_is {t : Topo} {down : List Bool} {n : Int} {fr : Bool} {l : List Int} (h : chkDist t down n fr l = true) : IsDist t down n fr l := by
  simp only [chkDist, Bool.and_eq_true, decide_eq_true_eq, List.all_eq_true, Bool.or_eq_true, Bool.not_eq_true', Bool.and_eq_false_iff, decide_eq_false_iff_not, Bool.not_eq_false', List.any_eq_true] at h
  obtain ⟨⟨⟨⟨h1, h2⟩, h3⟩, h4⟩, h5⟩ := h
  have hn : t.nodes = (t.nodes.toNat : Int) := by omega
  refine ⟨h1, h2, fun i i0 i1 => h3 i (mem_arcsR.2 (by omega)), fun a a0 a1 hok hq => ?_, fun i i0 i1 hin hh => ?_⟩
  · rcases h4 a (mem_arcsR.2 (by omega)) with h | h
    · obtain ⟨o1, o2⟩ := hok
      rcases h with (h | h) | h
      · rw [o1] at h; cases h
      · rcases o2 with o2 | o2
        · rw [decide_eq_true o2] at h; simp at h
        · rw [o2] at h; simp at h
      · exact absurd hq h
    · exact h
  · rcases h5 i (mem_arcsR.2 (by omega)) with (h | h) | ⟨a, ha, h⟩
    · exact absurd h hin
    · omega
    · obtain ⟨⟨⟨⟨q1, q2⟩, q3⟩, q4⟩, q5⟩ := h
      have := mem_arcsR.1 ha
      exact ⟨a, this.1, by omega, ⟨q1, q2⟩, q3, q4, q5⟩

theorem distL_chk {t : Topo} {down : List Bool} {n : Int} {fr : Bool} {l : List Int} (he : errS t down n = 0) (h : chkDist t down n fr l = true) : distL t down n fr = l := by
  unfold distL
  rw [if_pos he, (chkDist_is h).eq (fitsB_v (errS_0 he).1)]

def sqT2 : Topo := ⟨4, [false, true, false, false], [sqL 0, sqL 1, sqL 2, sqL 3]⟩
theorem sq_d : distL sqT [] 2 false = [2, 1, 0, 1] := distL_chk (by kernel_rfl) (by kernel_rfl)
theorem sq2_d : distL sqT2 [] 2 false = [2, 1, 0, 1] := distL_chk (by kernel_rfl) (by kernel_rfl)
theorem sq_e : errS sqT [] 2 = 0 := by kernel_rfl
theorem sq2_e : errS sqT2 [] 2 = 0 := by kernel_rfl
theorem sq_p : errP sqT [] 0 2 = 0 := by
  unfold errP; rw [if_pos sq_e, sq_d]; decide
theorem sq2_p : errP sqT2 [] 0 2 = 0 := by
  unfold errP; rw [if_pos sq2_e, sq2_d]; decide
theorem sq_path : pathL sqT [] 0 2 = [0, 2] := by
  unfold pathL; rw [if_pos sq_p, sq_d]; kernel_rfl
theorem sq2_path : pathL sqT2 [] 0 2 = [7, 5] := by
  unfold pathL; rw [if_pos sq2_p, sq2_d]; kernel_rfl

theorem a_Dist : Ctr Tryd.prog 31 [sqD nilD, nilD, iD 2] [.ints .i64 [2, 1, 0, 1]] (.tup [.own 0, .d (iD 0)]) := by
  have := c_Dist sqT [] 2
  rw [sq_d, sq_e] at this
  exact this.args ⟨sqD_le DLe.nil, DLe.nil, DLe.refl _, trivial⟩
theorem a_Dist2 : Ctr Tryd.prog 31 [sqD (boolsD [false, true, false, false]), nilD, iD 2] [.ints .i64 [2, 1, 0, 1]] (.tup [.own 0, .d (iD 0)]) := by
  have := c_Dist sqT2 [] 2
  rw [sq2_d, sq2_e] at this
  exact this.args ⟨sqD_le (DLe.refl _), DLe.nil, DLe.refl _, trivial⟩
theorem a_Same (a b : List Int) (h : a.length ≤ 100) : Ctr Tryd.prog 15 [intsD a, intsD b] [] (.d (bD (decide (a = b)))) := r_SameInts a b (by omega)

end Go.Proofs.YtcnfggpcploehaaDoor

/- A slice of the call's own, cut at its head. -/
namespace Go.Wk
set_option maxRecDepth 10000
open Go.RowKit

section
variable {P : Program} {env : Env} {w0 : Base} {n : Nat} {l0 : List Oper} {K : Fr → List Blk → Prop} {l : List Oper} {F : Fr} {S : List Blk}
theorem ao_slLo {d : Nat} {ty : TypeId} {pos : String} {after : Array Edge} {gd : Option (Nat × Bool)} {g : List Bool} {T e : TypeId} {s by_ : Nat} {z : Value} {te : TI} {x lo : Operand} {k : IntKind} {m : Int} {ps qs : List Prop} {nm : Nat} {blk : Blk}
    (hg : gof F l0 gd = some g) (hT : ti? env T = some ⟨.slice e, s, by_, z⟩) (he : ti? env e = some te) (hx : rd F g x = some (.own nm, ps)) (hps : allP ps) (hlo : rd F g lo = some (.d (.int k m), qs)) (hqs : allP qs)
    (hb : nthF S nm = some blk) (hsz : Nat.beq blk.esz te.size = true) (h0 : allT g → 0 ≤ m ∧ m < blk.len) (hd : Nat.blt d n = true) (kk : AO P env w0 n l0 K l ((d, g, .sl nm m.toNat (blk.len - m.toNat)) :: F) S) :
    AO P env w0 n l0 K (⟨some d, .slice T x (some lo) none none, ty, pos, after, gd⟩ :: l) F S := by
  intro hE ρ a w hr
  have hdn : d < n := Nat.le_of_ble_eq_true hd
  obtain ⟨hw1, hw2⟩ := gof_wanted (o := ⟨some d, .slice T x (some lo) none none, ty, pos, after, gd⟩) hr.fr hg
  rw [nthF_eq] at hb
  by_cases hall : allT g
  · obtain ⟨m0, m1⟩ := h0 hall
    have ru := rd_sound hr.fr hx hps hall
    have rl := rd_sound hr.fr hlo hqs hall
    have hl' : a.eval lo = .int k m := by
      generalize a.eval lo = u at rl
      cases rl with | d h => cases h; rfl
    obtain ⟨dd, hdd, hk⟩ := (hE.get hT).desc
    have := desc_slice hk; subst this
    have hsz' := Nat.eq_of_beq_eq_true hsz
    have hm : ((m.toNat : Nat) : Int) = m := Int.toNat_of_nonneg m0
    generalize hu : a.eval x = u at ru
    cases ru with
    | ownNil hbn hs => simp [shape, hb] at hs; omega
    | @own _ b esz len cap hbn hs hc hcap =>
      have hz : blk.esz = esz ∧ blk.len = len := by simp [shape, hb] at hs; exact hs
      obtain ⟨rfl, rfl⟩ := hz
      have run : ∀ w', (Instr.sliceAt T (.slice (some ⟨b, 0, none⟩) blk.len cap) (some (.int k m)) none none).run P w' = .ok (.slice (some ⟨b, m.toNat * blk.esz, none⟩) (blk.len - m.toNat) (cap - m.toNat)) w' := by
        intro w'
        have hs2 := run_sizeOf (hE.get he) w'
        have hle : m ≤ (blk.len : Int) := by omega
        have hne : ¬ cap = m.toNat := by omega
        have hne2 : ¬ cap - m.toNat = 0 := by omega
        simp [Instr.sliceAt, Instr.slice, run_underlying hdd, Instr.sliceBounds, run_sliceBound, hs2, m0, hle, hne, hne2, add_off, hsz']
      refine wpList_quiet (val := .slice (some ⟨b, m.toNat * blk.esz, none⟩) (blk.len - m.toNat) (cap - m.toNat)) (hw1 hall) (fun w' he' => quiet_run ?_) fun w' he' => kk hE ρ _ w' (Rel.ext ⟨hr.fr.put hdn ⟨fun _ => ?_, fun h => absurd hall h⟩, hr.mem⟩ he')
      · simp only [execOp, hu, Option.map, hl']
        exact run_v (run w')
      · refine .sl (esz := blk.esz) (n := blk.len) hbn (by simp [shape, hb]) (by omega) (by omega) ?_
        rw [show m.toNat + (cap - m.toNat) = cap by omega]
        exact hcap
  · exact wpList_skip (hw2 hall) (kk hE ρ _ w ⟨hr.fr.put hdn ⟨fun h => absurd h hall, fun _ => rfl⟩, hr.mem⟩)
end
end Go.Wk

/- A call with own blocks among operations that draw their order. -/
namespace Go.Wk
set_option maxRecDepth 10000
open Go.RowKit

section
variable {P : Program} {env : Env} {w0 : Base} {n : Nat} {l0 : List Oper} {K : Fr → List Blk → Prop} {F : Fr} {S : List Blk}
theorem ax_callR {N : List Nat} {o : Oper} {d : Nat} {f : FuncId} {ds : List D} {os : List Prop} {rS : List Blk} {rv : V} (h : isCall F S o n = some (d, f, ds, os)) (sp : Ctr P f ds rS rv) (ho : allP os) {rv' : V} {S' : List Blk} (hv : shiftO (lenO S) rv = some rv') (hS : appSO (lenO S) S rS = some S')
    (k : K ((d, [], rv') :: F) S') : AX P env w0 n l0 N o K F S := by
  intro hE Q ρ a w hr hN KK hKK
  rw [shiftO_eq] at hv; cases hv
  rw [appSO_eq] at hS; cases hS
  rw [lenO_eq, appS_eq] at k
  unfold isCall at h
  split at h
  · rename_i d' c hd hg hop
    split at h
    · rename_i f' p hc
      split at h
      · rename_i ds' q hq
        cases hn : Nat.blt d' n with
        | false => simp [hn] at h
        | true =>
          simp [hn] at h
          obtain ⟨rfl, rfl, rfl, rfl⟩ := h
          obtain ⟨hp, hq'⟩ := allP_append ho
          obtain ⟨x, hx, hxv⟩ := calleeF_sound (g := []) hr.fr trivial hc hp
          obtain ⟨cal, args, ts⟩ := c
          simp only at hx; subst hx
          rw [if_pos (wanted_none hg _)]
          unfold Oper.wp
          rw [run_call sp.1 hop hxv]
          have hda := dargs_sound hr.fr hr.mem (g := []) trivial hq hq'
          have := sp.2 w _ hda
          have harr : (args.toList.map a.eval).toArray = args.map a.eval := by apply Array.ext'; simp
          rw [harr] at this
          refine this.mono ?_
          rintro e w'' ⟨v, ρr, rfl, hout⟩
          rw [hd]
          have hrel := out_rel hr hout (Nat.le_of_ble_eq_true hn)
          exact hKK _ _ _ _ w'' hrel (fun m hm => by have := hN m hm; simp; omega) (Sm.to_ext hout.ext N) hout.ext.size (fun m hm => comb_lo _ _ _ (hN m hm)) k
      · simp at h
    · simp at h
  · simp at h
end
end Go.Wk

/- The builtin copy into a row of the call's own. -/
namespace Go.Wk
set_option maxRecDepth 10000
open Go.RowKit

/-- A row behind a copy of the whole of yb. -/
def copyB (blk yb : Blk) : Option Blk :=
  match blk, yb with
  | .bools xs, .row 1 n get => some (.bools ((List.range n).map (fun i => match get i with | [.bool b] => b | _ => false) ++ xs.drop n))
  | _, _ => none

section
variable {P : Program} {env : Env} {w0 : Base} {n : Nat} {l0 : List Oper} {K : Fr → List Blk → Prop} {l : List Oper} {F : Fr} {S : List Blk}

theorem run_copy_all {w : World} {t tx ty e : TypeId} {i : TypeInfo} (ht : P.underlying t = some (.slice e)) (hi : P.info? e = some i) {g sLen sCap : Nat} {x : Value} {m : Nat} {news : List Value} (hs : Src P i.size tx x m news w)
    (hroom : m ≤ sLen) {cur : Array Value} {et : TypeId} (hg : w.heap[g]? = some (.cells cur et (0, 0))) (hfit : news.length ≤ cur.size) :
    (Builtin.copy_ #[t, tx] ty #[.slice (some ⟨g, 0, none⟩) sLen sCap, x]).run P w = .ok (goInt m) (w.setRow g (news ++ cur.toList.drop news.length).toArray) := by
  have hst := run_storeCells_at P g 0 et news 0 cur w hg (by simpa using hfit) hs.one
  simp only [Nat.add_zero, Nat.zero_add, List.take_zero, List.nil_append] at hst
  have hmin : Nat.min m sLen = m := Nat.min_eq_left hroom
  simp [Builtin.copy_, run_underlying ht, sizeOf, typeInfo, hi, hs.len, hmin, hs.cells, hst]

theorem steps_copy {d : Nat} {s x : Operand} {t tx ty e e' : TypeId} {pos : String} {after : Array Edge} {g : Option (Nat × Bool)} {te : TI} {i1 i2 j1 j2 : Nat} {z1 z2 : Value} {nm : Nat} {xv : V} {ps qs : List Prop} {blk yb blk' : Blk} {S' : List Blk}
    (hT : TIok P t ⟨.slice e, i1, i2, z1⟩) (hTx : TIok P tx ⟨.slice e', j1, j2, z2⟩) (he : TIok P e te)
    (hs : rd F [] s = some (.own nm, ps)) (hps : allP ps) (hx : rd F [] x = some (xv, qs)) (hqs : allP qs) (hblk : nthF S nm = some blk) (hrow : blk.isRow = true) (hy : srcB S xv = some yb) (hyr : yb.isRow = true) (h1 : yb.ones)
    (hsz : Nat.beq yb.esz te.size = true) (hpos : Nat.blt 0 te.size = true) (hesz : blk.esz = te.size) (hpl : 0 < blk.len) (hle : yb.len ≤ blk.len)
    (hrow' : blk'.isRow = true) (b1 : blk'.esz = blk.esz) (b2 : blk'.len = blk.len) (b3 : ∀ i, i < blk.len → blk'.get i = if i < yb.len then yb.get i else blk.get i)
    (hS : setO S nm blk' = some S') (hd : Nat.blt d n = true) :
    StepsTo P n ⟨some d, .call ⟨.builtin .copy, #[s, x], #[t, tx]⟩, ty, pos, after, g⟩ F S ((d, [], .d (.int .i64 yb.len)) :: F) S' := by
  intro w0 ρ a w hr
  rw [nthF_eq] at hblk
  obtain ⟨rfl, hn⟩ := setO_eq hS
  have hsz' := Nat.eq_of_beq_eq_true hsz
  have hpos' : 0 < te.size := Nat.le_of_ble_eq_true hpos
  have hus := rd_sound hr.fr hs hps trivial
  have hux := rd_sound hr.fr hx hqs trivial
  have hlies := srcB_lies hr.mem hy hyr hux
  obtain ⟨dt, hdt, hkt⟩ := hT.desc
  have := desc_slice hkt; subst this
  obtain ⟨dx, hdx, hkx⟩ := hTx.desc
  have := desc_slice hkx; subst this
  obtain ⟨i, hi, hisz, _, _⟩ := he.info
  obtain ⟨news, hsrc, hnews⟩ := lies_src (P := P) hlies h1 hdx hsz' hpos'
  generalize hse : a.eval s = sv at hus
  cases hus with
  | ownNil hb hsh => simp [shape, hblk] at hsh; omega
  | @own _ b esz len cap hbρ hsh hc hcap =>
  have hs' : blk.esz = esz ∧ blk.len = len := by simp [shape, hblk] at hsh; exact hsh
  obtain ⟨rfl, rfl⟩ := hs'
  rcases (hr.mem.blk nm _ hblk).row hrow with ⟨hn0, _⟩ | ⟨b', cur, ct, k1, k2, k3, k4, k5⟩
  · rw [hbρ] at hn0; cases hn0
  rw [hbρ] at k1; cases k1
  have hnl : news.length = yb.len * te.size := hsrc.newsLen
  have hmul : yb.len * te.size ≤ blk.len * te.size := Nat.mul_le_mul_right _ hle
  have hfit : news.length ≤ cur.size := by rw [hesz] at k3; omega
  have hrun := run_copy_all (P := P) (ty := ty) hdt hi (by rw [hisz]; exact hsrc) hle (sCap := cap) k2 hfit
  have hszc : (news ++ cur.toList.drop news.length).toArray.size = cur.size := by simp; omega
  have hmv := moves_write (ρ := ρ) hn hbρ k2 hszc (blk' := blk') hblk b1 b2
  have hcell : ∀ m : Nat, (news ++ cur.toList.drop news.length).toArray[m]? = if m < news.length then news[m]? else cur[m]? := by
    intro m
    rw [List.getElem?_toArray, List.getElem?_append]
    split
    · rfl
    · rw [List.getElem?_drop]; simp; congr 1; omega
  have hrunop : (execOp a.eval ⟨some d, .call ⟨.builtin .copy, #[s, x], #[t, tx]⟩, ty, pos, after, g⟩).run P w = .ok (.value (goInt yb.len)) (w.setRow b (news ++ cur.toList.drop news.length).toArray) := by
    simp only [execOp, resolve, List.map_toArray, List.map_cons, List.map_nil, pure_bind, invoke, builtin, hse]
    exact run_v hrun
  refine ⟨_, _, ρ, _, hrunop, put_new hr hmv (mem_write hr.mem hn hbρ k2 hszc hblk (fun cs he => by subst he; simp [Blk.isRow] at hrow) b1 b2 ?_) (Nat.le_of_ble_eq_true hd) (.d (.int _ _)), .inl ⟨_, rfl, rfl⟩⟩
  have key : (ρ nm = none ∧ blk'.len = 0) ∨ ∃ b0 c ty, ρ nm = some b0 ∧ (w.setRow b (news ++ cur.toList.drop news.length).toArray).heap[b0]? = some (.cells c ty (0, 0)) ∧ blk'.len * blk'.esz ≤ c.size ∧ (∀ i, i < blk'.len → (blk'.get i).length = blk'.esz) ∧
      ∀ (k j : Nat) y, k < blk'.len → (blk'.get k)[j]? = some y → ∃ v, c[k * blk'.esz + j]? = some v ∧ RelD (Rr (S.set nm blk') ρ (w.setRow b (news ++ cur.toList.drop news.length).toArray)) (w.setRow b (news ++ cur.toList.drop news.length).toArray) v y := by
    refine .inr ⟨b, _, ct, hbρ, setRow_heap w b cur _ ct _ k2, by rw [hszc, b1, b2]; exact k3, fun k hk => ?_, fun k j y hk hy => ?_⟩
    · rw [b2] at hk
      rw [b3 k hk, b1]
      split
      · rename_i h; rw [lies_len hlies k h, hsz', hesz]
      · exact k4 k hk
    · rw [b2] at hk
      rw [b3 k hk] at hy
      rw [b1, hcell]
      split at hy
      · rename_i h
        obtain ⟨v, hv, hrv⟩ := hnews k j y h hy
        rw [hsz'] at hv
        rw [hesz, if_pos (List.getElem?_eq_some_iff.1 hv).1]
        exact ⟨v, hv, hmv.d hrv⟩
      · rename_i h
        obtain ⟨v, hv, hrv⟩ := k5 k j y hk hy
        have hge : yb.len * te.size ≤ k * te.size := Nat.mul_le_mul_right _ (by omega)
        refine ⟨v, ?_, hmv.d hrv⟩
        rw [if_neg (by rw [hnl, hesz]; omega)]
        exact hv
  cases blk' <;> first | (simp [Blk.isRow] at hrow'; done) | exact key

theorem ao_copy {d : Nat} {s x : Operand} {t tx ty e e' : TypeId} {pos : String} {after : Array Edge} {te : TI} {i1 i2 j1 j2 : Nat} {z1 z2 : Value} {nm : Nat} {xv : V} {ps qs : List Prop} {blk yb : Blk} (blk' : Blk) {S' : List Blk}
    (hT : ti? env t = some ⟨.slice e, i1, i2, z1⟩) (hTx : ti? env tx = some ⟨.slice e', j1, j2, z2⟩) (he : ti? env e = some te)
    (hs : rd F [] s = some (.own nm, ps)) (hps : allP ps) (hx : rd F [] x = some (xv, qs)) (hqs : allP qs) (hblk : nthF S nm = some blk) (hrow : blk.isRow = true) (hy : srcB S xv = some yb) (hyr : yb.isRow = true) (h1 : yb.ones)
    (hsz : Nat.beq yb.esz te.size = true) (hpos : Nat.blt 0 te.size = true) (hesz : blk.esz = te.size) (hpl : 0 < blk.len) (hle : yb.len ≤ blk.len)
    (hrow' : blk'.isRow = true) (b1 : blk'.esz = blk.esz) (b2 : blk'.len = blk.len) (b3 : ∀ i, i < blk.len → blk'.get i = if i < yb.len then yb.get i else blk.get i)
    (hS : setO S nm blk' = some S') (hd : Nat.blt d n = true) (k : AO P env w0 n l0 K l ((d, [], .d (.int .i64 yb.len)) :: F) S') :
    AO P env w0 n l0 K (⟨some d, .call ⟨.builtin .copy, #[s, x], #[t, tx]⟩, ty, pos, after, none⟩ :: l) F S :=
  ao_steps rfl (fun hE => steps_copy (hE.get hT) (hE.get hTx) (hE.get he) hs hps hx hqs hblk hrow hy hyr h1 hsz hpos hesz hpl hle hrow' b1 b2 b3 hS hd) k
end
end Go.Wk

/- Contracts over the caller's memory that leave new blocks; arguments as the callee sees them; closures. -/
namespace Go.Wk
set_option maxRecDepth 10000
open Go.RowKit

/-! ### Names, within closures too -/

mutual
def renD (σ : List Nat) : V → Option V
  | .d x => some (.d x)
  | .nil => some .nil
  | .bot => some .bot
  | .ptr nm off => match nthF σ nm with | some m => some (.ptr m off) | none => none
  | .ep nm i off => match nthF σ nm with | some m => some (.ep m i off) | none => none
  | .own nm => match nthF σ nm with | some m => some (.own m) | none => none
  | .sl nm off len => match nthF σ nm with | some m => some (.sl m off len) | none => none
  | .clo f cs => match renDL σ cs with | some cs' => some (.clo f cs') | none => none
  | .agg cs => match renDL σ cs with | some cs' => some (.agg cs') | none => none
  | .tup cs => match renDL σ cs with | some cs' => some (.tup cs') | none => none
  | .rp _ => none
def renDL (σ : List Nat) : List V → Option (List V)
  | [] => some []
  | v :: r => match renD σ v with
    | some v' => match renDL σ r with
      | some r' => some (v' :: r')
      | none => none
    | none => none
end
mutual
def vfl : V → Bool
  | .d x => x.flat
  | .agg cs => vflL cs
  | .tup cs => vflL cs
  | .clo _ cs => vflL cs
  | .rp _ => false
  | .nil => true
  | .bot => true
  | .ptr .. => true
  | .ep .. => true
  | .own _ => true
  | .sl .. => true
def vflL : List V → Bool
  | [] => true
  | v :: r => vfl v && vflL r
end
def renDB (σ : List Nat) : Blk → Option Blk
  | .cells cs => match renDL σ cs with | some cs' => some (.cells cs') | none => none
  | .ints k xs => some (.ints k xs)
  | .bools xs => some (.bools xs)
  | .row e n g => some (.row e n g)
  | .gone => some .gone
def renDBs (σ : List Nat) : List Blk → Option (List Blk)
  | [] => some []
  | b :: r => match renDB σ b with
    | some b' => match renDBs σ r with
      | some r' => some (b' :: r')
      | none => none
    | none => none
def bfl : Blk → Prop
  | .cells cs => vflL cs = true
  | .gone => True
  | b => b.flat
def bflL : List Blk → Prop
  | [] => True
  | b :: r => bfl b ∧ bflL r
def kindsP : List Blk → List Blk → Prop
  | [], _ => True
  | .cells a :: r, .cells b :: s => a.length = b.length ∧ kindsP r s
  | .cells _ :: _, _ :: _ => False
  | _ :: r, b :: s => b.isRow = true ∧ kindsP r s
  | _ :: _, [] => False
/-- The names of new blocks. -/
def newN : Nat → List Blk → List Blk → List Nat
  | k, _ :: a, _ :: b => newN k a b
  | k, [], _ :: b => k :: newN (k + 1) [] b
  | _, _, [] => []
def appN : List Nat → List Nat → List Nat
  | [], r => r
  | x :: s, r => x :: appN s r
def appB : List Blk → List Blk → List Blk
  | [], r => r
  | x :: s, r => x :: appB s r
def setsN : List Nat → List Blk → List Blk → Option (List Blk)
  | [], bs, S => some (appB S bs)
  | m :: r, b :: bs, S => match putO S m b with | some S' => setsN r bs S' | none => none
  | _ :: _, [], _ => none

theorem appN_eq (s r : List Nat) : appN s r = s ++ r := by
  induction s with
  | nil => rfl
  | cons x s ih => simp [appN, ih]
theorem appB_eq (s r : List Blk) : appB s r = s ++ r := by
  induction s with
  | nil => rfl
  | cons x s ih => simp [appB, ih]

theorem renDL_get {σ : List Nat} {cs cs' : List V} (h : renDL σ cs = some cs') : cs'.length = cs.length ∧ ∀ (i : Nat) v v', cs[i]? = some v → cs'[i]? = some v' → renD σ v = some v' := by
  induction cs generalizing cs' with
  | nil => simp [renDL] at h; subst h; simp
  | cons c r ih =>
    simp only [renDL] at h
    split at h
    · rename_i v' hv
      split at h
      · rename_i r' hr
        simp at h; subst h
        obtain ⟨h1, h2⟩ := ih hr
        refine ⟨by simp [h1], fun i v v' hi hi' => ?_⟩
        cases i with
        | zero => simp at hi hi'; subst hi hi'; exact hv
        | succ i => exact h2 i v v' (by simpa using hi) (by simpa using hi')
      · simp at h
    · simp at h
theorem renDBs_get {σ : List Nat} {S X : List Blk} (h : renDBs σ S = some X) : X.length = S.length ∧ ∀ (i : Nat) b b', S[i]? = some b → X[i]? = some b' → renDB σ b = some b' := by
  induction S generalizing X with
  | nil => simp [renDBs] at h; subst h; simp
  | cons c r ih =>
    simp only [renDBs] at h
    split at h
    · rename_i v' hv
      split at h
      · rename_i r' hr
        simp at h; subst h
        obtain ⟨h1, h2⟩ := ih hr
        refine ⟨by simp [h1], fun i v v' hi hi' => ?_⟩
        cases i with
        | zero => simp at hi hi'; subst hi hi'; exact hv
        | succ i => exact h2 i v v' (by simpa using hi) (by simpa using hi')
      · simp at h
    · simp at h
theorem vflL_get {cs : List V} (h : vflL cs = true) {i : Nat} {v : V} (hv : cs[i]? = some v) : vfl v = true := by
  induction cs generalizing i with
  | nil => simp at hv
  | cons c r ih =>
    simp only [vflL, Bool.and_eq_true] at h
    cases i with
    | zero => simp at hv; subst hv; exact h.1
    | succ i => exact ih h.2 (by simpa using hv)
theorem bflL_get {S : List Blk} (h : bflL S) {i : Nat} {b : Blk} (hb : S[i]? = some b) : bfl b := by
  induction S generalizing i with
  | nil => simp at hb
  | cons c r ih => cases i with
    | zero => simp at hb; subst hb; exact h.1
    | succ i => exact ih h.2 (by simpa using hb)
theorem kindsP_get {S0 S1 : List Blk} (h : kindsP S0 S1) : S0.length ≤ S1.length ∧ ∀ (i : Nat) cs, S0[i]? = some (.cells cs) → ∃ cs', S1[i]? = some (.cells cs') ∧ cs.length = cs'.length := by
  induction S0 generalizing S1 with
  | nil => simp
  | cons b r ih => cases S1 with
    | nil => cases b <;> exact h.elim
    | cons c s =>
      have hr : kindsP r s := by cases b <;> cases c <;> first | exact h.2 | exact h.elim
      obtain ⟨h1, h2⟩ := ih hr
      refine ⟨by simp [h1], fun i cs hi => ?_⟩
      cases i with
      | zero =>
        simp at hi; subst hi
        cases c <;> first | exact ⟨_, rfl, h.1⟩ | exact h.elim
      | succ i => simpa using h2 i cs (by simpa using hi)
theorem newN_get : ∀ (k : Nat) (a b : List Blk), a.length ≤ b.length → (newN k a b).length = b.length - a.length ∧ ∀ i, i < b.length - a.length → (newN k a b)[i]? = some (k + i)
  | k, _ :: a, _ :: b, h => by
    obtain ⟨h1, h2⟩ := newN_get k a b (by simpa using h)
    simp only [newN, List.length_cons]
    rw [show b.length + 1 - (a.length + 1) = b.length - a.length by omega]
    exact ⟨h1, h2⟩
  | k, [], _ :: b, h => by
    obtain ⟨h1, h2⟩ := newN_get (k + 1) [] b (by simp)
    simp only [newN, List.length_cons, List.length_nil, Nat.sub_zero] at h1 h2 ⊢
    refine ⟨by omega, fun i hi => ?_⟩
    cases i with
    | zero => simp
    | succ i => rw [List.getElem?_cons_succ, h2 i (by omega)]; congr 1; omega
  | k, [], [], _ => by simp [newN]
  | k, _ :: a, [], h => by simp at h
theorem setsN_get {σ : List Nat} {X S S' : List Blk} (hn : nodupN σ = true) (hlt : ∀ m ∈ σ, m < S.length) (h : setsN σ X S = some S') : σ.length ≤ X.length ∧ S'.length = S.length + (X.length - σ.length) ∧ (∀ i m : Nat, σ[i]? = some m → S'[m]? = X[i]?) ∧
    (∀ j : Nat, S'[S.length + j]? = X[σ.length + j]?) ∧ ∀ m, m < S.length → m ∉ σ → S'[m]? = S[m]? := by
  induction σ generalizing X S with
  | nil =>
    simp only [setsN, appB_eq, Option.some.injEq] at h; subst h
    exact ⟨by simp, by simp, fun i m hi => by simp at hi, fun j => by rw [List.getElem?_append_right (by omega)]; simp, fun m hm _ => by simp [List.getElem?_append_left hm]⟩
  | cons c r ih => cases X with
    | nil => simp [setsN] at h
    | cons b bs =>
      simp only [setsN] at h
      split at h
      · rename_i S1 hS
        simp only [nodupN, Bool.and_eq_true, Bool.not_eq_true'] at hn
        obtain ⟨k1, k2, k3⟩ := putO_get hS
        obtain ⟨h1, h2, h3, h4, h5⟩ := ih hn.2 (fun m hm => by rw [k1]; exact hlt m (by simp [hm])) h
        have hc : c ∉ r := fun hm => by have := memN_iff.2 hm; rw [hn.1] at this; cases this
        refine ⟨by simp; omega, by simp; omega, fun i m hi => ?_, fun j => ?_, fun m hm hno => ?_⟩
        · cases i with
          | zero => simp at hi; subst hi; rw [h5 c (by rw [k1]; exact hlt c (by simp)) hc, k2]; rfl
          | succ i => have := h3 i m (by simpa using hi); simpa using this
        · rw [← k1, h4 j, List.length_cons, show r.length + 1 + j = (r.length + j) + 1 by omega, List.getElem?_cons_succ]
        · simp at hno; rw [h5 m (by omega) hno.2, k3 m hno.1]
      · simp at h

mutual
theorem renD_bwd {S S0 : List Blk} {σ : List Nat} {ρ ρ0 : Nat → Option Nat} {R R' : Nat → Prop} {w : World} (hσ : ∀ i m : Nat, σ[i]? = some m → ρ0 i = ρ m ∧ shape S0 i = shape S m) (hR : ∀ k, R k → R' k) :
    ∀ (v v' : V) (u : Value), renD σ v = some v' → RelV S ρ R w u v' → RelV S0 ρ0 R' w u v
  | .d x, v', u, h, hu => by simp [renD] at h; subst h; cases hu with | d h => exact .d (h.mono fun k hk => ⟨hR k hk, rfl⟩)
  | .nil, v', u, h, hu => by simp [renD] at h; subst h; cases hu; exact .nil
  | .bot, v', u, h, hu => .bot u
  | .rp _, v', u, h, hu => by simp [renD] at h
  | .agg cs, v', u, h, hu => by
    simp only [renD] at h
    split at h
    · rename_i cs' hc
      simp at h; subst h
      have hl := (renDL_get hc).1
      cases hu with
      | agg vals _ hl' hr => exact .agg vals cs (by omega) fun i a b ha hb => renDL_bwd hσ hR cs cs' hc i b _ hb (List.getElem?_eq_getElem (by have := (List.getElem?_eq_some_iff.1 hb).1; omega)) a (hr i a _ ha (List.getElem?_eq_getElem (by have := (List.getElem?_eq_some_iff.1 hb).1; omega)))
    · simp at h
  | .tup cs, v', u, h, hu => by
    simp only [renD] at h
    split at h
    · rename_i cs' hc
      simp at h; subst h
      have hl := (renDL_get hc).1
      cases hu with
      | tup vals _ hl' hr => exact .tup vals cs (by omega) fun i a b ha hb => renDL_bwd hσ hR cs cs' hc i b _ hb (List.getElem?_eq_getElem (by have := (List.getElem?_eq_some_iff.1 hb).1; omega)) a (hr i a _ ha (List.getElem?_eq_getElem (by have := (List.getElem?_eq_some_iff.1 hb).1; omega)))
    · simp at h
  | .clo f cs, v', u, h, hu => by
    simp only [renD] at h
    split at h
    · rename_i cs' hc
      simp at h; subst h
      have hl := (renDL_get hc).1
      cases hu with
      | clo _ vals _ hl' hr => exact .clo f vals cs (by omega) fun i a b ha hb => renDL_bwd hσ hR cs cs' hc i b _ hb (List.getElem?_eq_getElem (by have := (List.getElem?_eq_some_iff.1 hb).1; omega)) a (hr i a _ ha (List.getElem?_eq_getElem (by have := (List.getElem?_eq_some_iff.1 hb).1; omega)))
    · simp at h
  | .ptr nm off, v', u, h, hu => by
    simp only [renD, nthF_eq] at h
    split at h
    · rename_i m hm
      simp at h; subst h
      obtain ⟨h1, h2⟩ := hσ _ _ hm
      cases hu with | ptr hb hs => exact .ptr (by rw [h1]; exact hb) (by rw [h2]; exact hs)
    · simp at h
  | .ep nm i off, v', u, h, hu => by
    simp only [renD, nthF_eq] at h
    split at h
    · rename_i m hm
      simp at h; subst h
      obtain ⟨h1, h2⟩ := hσ _ _ hm
      cases hu with | ep hb hs hi => exact .ep (by rw [h1]; exact hb) (by rw [h2]; exact hs) hi
    · simp at h
  | .own nm, v', u, h, hu => by
    simp only [renD, nthF_eq] at h
    split at h
    · rename_i m hm
      simp at h; subst h
      obtain ⟨h1, h2⟩ := hσ _ _ hm
      cases hu with
      | ownNil hb hs => exact .ownNil (by rw [h1]; exact hb) (by rw [h2]; exact hs)
      | own hb hs hc hcap => exact .own (by rw [h1]; exact hb) (by rw [h2]; exact hs) hc hcap
    · simp at h
  | .sl nm off len, v', u, h, hu => by
    simp only [renD, nthF_eq] at h
    split at h
    · rename_i m hm
      simp at h; subst h
      obtain ⟨h1, h2⟩ := hσ _ _ hm
      cases hu with
      | slNil hb hs => exact .slNil (by rw [h1]; exact hb) (by rw [h2]; exact hs)
      | sl hb hs hl hc hcap => exact .sl (by rw [h1]; exact hb) (by rw [h2]; exact hs) hl hc hcap
    · simp at h
theorem renDL_bwd {S S0 : List Blk} {σ : List Nat} {ρ ρ0 : Nat → Option Nat} {R R' : Nat → Prop} {w : World} (hσ : ∀ i m : Nat, σ[i]? = some m → ρ0 i = ρ m ∧ shape S0 i = shape S m) (hR : ∀ k, R k → R' k) :
    ∀ (cs cs' : List V), renDL σ cs = some cs' → ∀ (i : Nat) (v v' : V), cs[i]? = some v → cs'[i]? = some v' → ∀ u, RelV S ρ R w u v' → RelV S0 ρ0 R' w u v
  | [], _, _, i, _, _, hv, _, _, _ => by simp at hv
  | c :: r, cs', h, i, v, v', hv, hv', u, hu => by
    simp only [renDL] at h
    split at h
    · rename_i c' hc
      split at h
      · rename_i r' hr
        simp at h; subst h
        cases i with
        | zero => simp at hv hv'; subst hv hv'; exact renD_bwd hσ hR c c' u hc hu
        | succ i => exact renDL_bwd hσ hR r r' hr i v v' (by simpa using hv) (by simpa using hv') u hu
      · simp at h
    · simp at h
end

mutual
theorem renD_fwd {S' S1 : List Blk} {σ : List Nat} {ρ' ρ1 : Nat → Option Nat} {R R' : Nat → Prop} {w : World} (hσ : ∀ i m : Nat, σ[i]? = some m → ρ' m = ρ1 i ∧ shape S' m = shape S1 i) :
    ∀ (v v' : V) (u : Value), (vfl v = true ∨ ∀ k, R k → R' k) → renD σ v = some v' → RelV S1 ρ1 R w u v → RelV S' ρ' R' w u v'
  | .d x, v', u, hf, h, hu => by
    simp [renD] at h; subst h
    cases hu with | d h => exact .d (hf.elim (fun hf => h.flat (by simpa [vfl] using hf)) fun hR => h.mono fun k hk => ⟨hR k hk, rfl⟩)
  | .nil, v', u, hf, h, hu => by simp [renD] at h; subst h; cases hu; exact .nil
  | .bot, v', u, hf, h, hu => by simp [renD] at h; subst h; exact .bot u
  | .rp _, v', u, hf, h, hu => by simp [renD] at h
  | .agg cs, v', u, hf, h, hu => by
    simp only [renD] at h
    split at h
    · rename_i cs' hc
      simp at h; subst h
      have hl := (renDL_get hc).1
      cases hu with
      | agg vals _ hl' hr => exact .agg vals cs' (by omega) fun i a b ha hb => renDL_fwd hσ cs cs' (hf.imp (fun hf => by simpa [vfl] using hf) id) hc i _ b (List.getElem?_eq_getElem (by have := (List.getElem?_eq_some_iff.1 hb).1; omega)) hb a (hr i a _ ha (List.getElem?_eq_getElem (by have := (List.getElem?_eq_some_iff.1 hb).1; omega)))
    · simp at h
  | .tup cs, v', u, hf, h, hu => by
    simp only [renD] at h
    split at h
    · rename_i cs' hc
      simp at h; subst h
      have hl := (renDL_get hc).1
      cases hu with
      | tup vals _ hl' hr => exact .tup vals cs' (by omega) fun i a b ha hb => renDL_fwd hσ cs cs' (hf.imp (fun hf => by simpa [vfl] using hf) id) hc i _ b (List.getElem?_eq_getElem (by have := (List.getElem?_eq_some_iff.1 hb).1; omega)) hb a (hr i a _ ha (List.getElem?_eq_getElem (by have := (List.getElem?_eq_some_iff.1 hb).1; omega)))
    · simp at h
  | .clo f cs, v', u, hf, h, hu => by
    simp only [renD] at h
    split at h
    · rename_i cs' hc
      simp at h; subst h
      have hl := (renDL_get hc).1
      cases hu with
      | clo _ vals _ hl' hr => exact .clo f vals cs' (by omega) fun i a b ha hb => renDL_fwd hσ cs cs' (hf.imp (fun hf => by simpa [vfl] using hf) id) hc i _ b (List.getElem?_eq_getElem (by have := (List.getElem?_eq_some_iff.1 hb).1; omega)) hb a (hr i a _ ha (List.getElem?_eq_getElem (by have := (List.getElem?_eq_some_iff.1 hb).1; omega)))
    · simp at h
  | .ptr nm off, v', u, hf, h, hu => by
    simp only [renD, nthF_eq] at h
    split at h
    · rename_i m hm
      simp at h; subst h
      obtain ⟨h1, h2⟩ := hσ _ _ hm
      cases hu with | ptr hb hs => exact .ptr (by rw [h1]; exact hb) (by rw [h2]; exact hs)
    · simp at h
  | .ep nm i off, v', u, hf, h, hu => by
    simp only [renD, nthF_eq] at h
    split at h
    · rename_i m hm
      simp at h; subst h
      obtain ⟨h1, h2⟩ := hσ _ _ hm
      cases hu with | ep hb hs hi => exact .ep (by rw [h1]; exact hb) (by rw [h2]; exact hs) hi
    · simp at h
  | .own nm, v', u, hf, h, hu => by
    simp only [renD, nthF_eq] at h
    split at h
    · rename_i m hm
      simp at h; subst h
      obtain ⟨h1, h2⟩ := hσ _ _ hm
      cases hu with
      | ownNil hb hs => exact .ownNil (by rw [h1]; exact hb) (by rw [h2]; exact hs)
      | own hb hs hc hcap => exact .own (by rw [h1]; exact hb) (by rw [h2]; exact hs) hc hcap
    · simp at h
  | .sl nm off len, v', u, hf, h, hu => by
    simp only [renD, nthF_eq] at h
    split at h
    · rename_i m hm
      simp at h; subst h
      obtain ⟨h1, h2⟩ := hσ _ _ hm
      cases hu with
      | slNil hb hs => exact .slNil (by rw [h1]; exact hb) (by rw [h2]; exact hs)
      | sl hb hs hl hc hcap => exact .sl (by rw [h1]; exact hb) (by rw [h2]; exact hs) hl hc hcap
    · simp at h
theorem renDL_fwd {S' S1 : List Blk} {σ : List Nat} {ρ' ρ1 : Nat → Option Nat} {R R' : Nat → Prop} {w : World} (hσ : ∀ i m : Nat, σ[i]? = some m → ρ' m = ρ1 i ∧ shape S' m = shape S1 i) :
    ∀ (cs cs' : List V), (vflL cs = true ∨ ∀ k, R k → R' k) → renDL σ cs = some cs' → ∀ (i : Nat) (v v' : V), cs[i]? = some v → cs'[i]? = some v' → ∀ u, RelV S1 ρ1 R w u v → RelV S' ρ' R' w u v'
  | [], _, _, _, i, _, _, hv, _, _, _ => by simp at hv
  | c :: r, cs', hf, h, i, v, v', hv, hv', u, hu => by
    simp only [renDL] at h
    simp only [vflL, Bool.and_eq_true] at hf
    split at h
    · rename_i c' hc
      split at h
      · rename_i r' hr
        simp at h; subst h
        cases i with
        | zero => simp at hv hv'; subst hv hv'; exact renD_fwd hσ c c' u (hf.imp (fun h => h.1) id) hc hu
        | succ i => exact renDL_fwd hσ r r' (hf.imp (fun h => h.2) id) hr i v v' (by simpa using hv) (by simpa using hv') u hu
      · simp at h
    · simp at h
end

/-! ### Arguments -/

def offU : List Nat → V → Bool
  | [], _ => true
  | m :: r, v => !(v.uses m) && offU r v
theorem offU_get {σ : List Nat} {v : V} (h : offU σ v = true) {m : Nat} (hm : m ∈ σ) : v.uses m = false := by
  induction σ with
  | nil => simp at hm
  | cons c r ih =>
    simp only [offU, Bool.and_eq_true, Bool.not_eq_true'] at h
    simp at hm
    rcases hm with rfl | hm
    · exact h.1
    · exact ih h.2 hm
mutual
/-- The callee's argument, and the caller's value. -/
inductive ArgOK (S : List Blk) (σ : List Nat) : V → V → Prop
  | d (x : D) : ArgOK S σ (.d x) (.d x)
  | nil : ArgOK S σ .nil .nil
  | bot (v : V) : ArgOK S σ .bot v
  | data {x : D} {v : V} (h : toD S v = some x) (hu : offU σ v = true) : ArgOK S σ (.d x) v
  | ptr {i m off : Nat} (h : nthF σ i = some m) : ArgOK S σ (.ptr i off) (.ptr m off)
  | ep {i m j off : Nat} (h : nthF σ i = some m) : ArgOK S σ (.ep i j off) (.ep m j off)
  | own {i m : Nat} (h : nthF σ i = some m) : ArgOK S σ (.own i) (.own m)
  | sl {i m off len : Nat} (h : nthF σ i = some m) : ArgOK S σ (.sl i off len) (.sl m off len)
  | rpp (ds : List D) : ArgOK S σ (.rp ds) (.rp ds)
  | rp {m off : Nat} {cs ds' : List V} {ds : List D} (hb : nthF S m = some (.cells cs)) (hs : dropF off cs = some ds') (hd : DatOK S σ ds' ds) (hm : memN σ m = false) : ArgOK S σ (.rp ds) (.ptr m off)
  | clo {f : FuncId} {xa bs : List V} (h : ArgsOK S σ xa bs) : ArgOK S σ (.clo f xa) (.clo f bs)
  | agg {xa bs : List V} (h : ArgsOK S σ xa bs) : ArgOK S σ (.agg xa) (.agg bs)
inductive ArgsOK (S : List Blk) (σ : List Nat) : List V → List V → Prop
  | nil : ArgsOK S σ [] []
  | cons {a b : V} {xa bs : List V} (h : ArgOK S σ a b) (k : ArgsOK S σ xa bs) : ArgsOK S σ (a :: xa) (b :: bs)
inductive DatOK (S : List Blk) (σ : List Nat) : List V → List D → Prop
  | nil : DatOK S σ [] []
  | cons {v : V} {x : D} {vs : List V} {xs : List D} (h : toD S v = some x) (hu : offU σ v = true) (k : DatOK S σ vs xs) : DatOK S σ (v :: vs) (x :: xs)
end

/-- Data as they stand. -/
inductive DatP : List D → List V → Prop
  | nil : DatP [] []
  | d (x : D) {xs : List D} {vs : List V} (k : DatP xs vs) : DatP (x :: xs) (.d x :: vs)
  | nild {xs : List D} {vs : List V} (k : DatP xs vs) : DatP (nilD :: xs) (.nil :: vs)
mutual
/-- The callee's argument, and the caller's value: nothing of the caller's own is read as data. -/
inductive ArgP (σ : List Nat) : V → V → Prop
  | d (x : D) : ArgP σ (.d x) (.d x)
  | nil : ArgP σ .nil .nil
  | bot (v : V) : ArgP σ .bot v
  | nild : ArgP σ (.d nilD) .nil
  | aggd {xs : List D} {vs : List V} (h : DatP xs vs) : ArgP σ (.d (.agg xs)) (.agg vs)
  | ptr {i m off : Nat} (h : nthF σ i = some m) : ArgP σ (.ptr i off) (.ptr m off)
  | ep {i m j off : Nat} (h : nthF σ i = some m) : ArgP σ (.ep i j off) (.ep m j off)
  | own {i m : Nat} (h : nthF σ i = some m) : ArgP σ (.own i) (.own m)
  | sl {i m off len : Nat} (h : nthF σ i = some m) : ArgP σ (.sl i off len) (.sl m off len)
  | rpp (ds : List D) : ArgP σ (.rp ds) (.rp ds)
  | clo {f : FuncId} {xa xb : List V} (h : ArgsP σ xa xb) : ArgP σ (.clo f xa) (.clo f xb)
  | agg {xa xb : List V} (h : ArgsP σ xa xb) : ArgP σ (.agg xa) (.agg xb)
inductive ArgsP (σ : List Nat) : List V → List V → Prop
  | nil : ArgsP σ [] []
  | cons {a b : V} {xa xb : List V} (h : ArgP σ a b) (k : ArgsP σ xa xb) : ArgsP σ (a :: xa) (b :: xb)
end

/-- Data of blocks that are not handed on. -/
theorem row_data {S : List Blk} {ρ : Nat → Option Nat} {w : World} {R' : Nat → Prop} {b : Nat} {c : Array Value} {ty : TypeId} {fr : Nat × Nat} (hb : w.heap[b]? = some (.cells c ty fr)) {blk : Blk} (hR : ∀ k, Rr S ρ w k → R' k) (hRb : R' b)
    (h4 : ∀ i, i < blk.len → (blk.get i).length = blk.esz) (h5 : ∀ (i j : Nat) x, i < blk.len → (blk.get i)[j]? = some x → ∃ v, c[i * blk.esz + j]? = some v ∧ RelD (Rr S ρ w) w v x) {off len cap : Nat} (hnc : len ≤ cap) (hl : off + len ≤ blk.len) :
    RelD R' w (.slice (some ⟨b, off * blk.esz, none⟩) len cap) (.arr blk.esz len fun i => blk.get (off + i)) := by
  refine .arr b (off * blk.esz) len cap blk.esz _ (fun i j => c.getD ((off + i) * blk.esz + j) undef) hRb hnc (fun i hi => h4 _ (by omega)) (fun i j hi hj => ?_) fun i j x hi hx => ?_
  · rw [cell_of hb]
    have hlt : j < (blk.get (off + i)).length := by rw [h4 _ (by omega)]; exact hj
    obtain ⟨v, hv, _⟩ := h5 (off + i) j _ (by omega) (List.getElem?_eq_getElem hlt)
    rw [show off * blk.esz + (i * blk.esz + j) = (off + i) * blk.esz + j by rw [Nat.add_mul]; omega, Array.getD_eq_getD_getElem?, hv]; rfl
  · obtain ⟨v, hv, hr⟩ := h5 (off + i) j x (by omega) hx
    rw [Array.getD_eq_getD_getElem?, hv]
    exact hr.mono fun k hk => ⟨hR k hk, rfl⟩

section
variable {w0 : Base} {S : List Blk} {ρ : Nat → Option Nat} {w : World} {R' : Nat → Prop}
theorem toR_own (hm : Mem w0 S ρ w) (hR : ∀ k, Rr S ρ w k → R' k) {nm : Nat} {blk : Blk} (hblk : S[nm]? = some blk) (hrow : blk.isRow = true) (hown : ∀ b, ρ nm = some b → R' b) {v : Value} (hv : RelV S ρ (Rr S ρ w) w v (.own nm)) :
    RelD R' w v (.arr blk.esz blk.len blk.get) := by
  cases hv with
  | ownNil hb hs =>
    have hl : blk.len = 0 := by simp [shape, hblk] at hs; exact hs.2
    rw [hl]; exact .nil _ _
  | @own _ b esz len cap hb hs hc hcap =>
    have hs' : blk.esz = esz ∧ blk.len = len := by simp [shape, hblk] at hs; exact hs
    obtain ⟨rfl, rfl⟩ := hs'
    rcases (hm.blk nm _ hblk).row hrow with ⟨hn, _⟩ | ⟨b', c, ty, h1, h2, h3, h4, h5⟩
    · rw [hb] at hn; cases hn
    · rw [hb] at h1; cases h1
      have := row_data (off := 0) (len := blk.len) (cap := cap) h2 hR (hown _ hb) h4 h5 hc (by omega)
      simpa using this
theorem toR_sl (hm : Mem w0 S ρ w) (hR : ∀ k, Rr S ρ w k → R' k) {nm off len : Nat} {blk : Blk} (hblk : S[nm]? = some blk) (hrow : blk.isRow = true) (hown : ∀ b, ρ nm = some b → R' b) {v : Value} (hv : RelV S ρ (Rr S ρ w) w v (.sl nm off len)) :
    RelD R' w v (.arr blk.esz len fun i => blk.get (off + i)) := by
  cases hv with
  | slNil hb _ => exact .nil _ _
  | @sl _ b esz n _ _ cap hb hs hl hc hcap =>
    have hs' : blk.esz = esz ∧ blk.len = n := by simp [shape, hblk] at hs; exact hs
    obtain ⟨rfl, rfl⟩ := hs'
    rcases (hm.blk nm _ hblk).row hrow with ⟨hn, _⟩ | ⟨b', c, ty, h1, h2, h3, h4, h5⟩
    · rw [hb] at hn; cases hn
    · rw [hb] at h1; cases h1
      exact row_data h2 hR (hown _ hb) h4 h5 hc hl

theorem toRs_get (hm : Mem w0 S ρ w) (hR : ∀ k, Rr S ρ w k → R' k) {cs : List V} {ds : List D} (h : toD.toDs S cs = some ds) (hown : ∀ m b, V.usesL cs m = true → ρ m = some b → R' b) :
    ds.length = cs.length ∧ ∀ (i : Nat) (x : D) (u : Value) (y : V), ds[i]? = some x → cs[i]? = some y → RelV S ρ (Rr S ρ w) w u y → RelD R' w u x := by
  have mono : ∀ {u x}, RelD (Rr S ρ w) w u x → RelD R' w u x := fun h => h.mono fun k hk => ⟨hR k hk, rfl⟩
  induction cs generalizing ds with
  | nil => simp [toD.toDs] at h; subst h; simp
  | cons c r ih =>
    have key : ∀ (x0 : D) (ds' : List D), toD.toDs S r = some ds' → ds = x0 :: ds' → (∀ u, RelV S ρ (Rr S ρ w) w u c → RelD R' w u x0) →
        ds.length = (c :: r).length ∧ ∀ (i : Nat) (x : D) (u : Value) (y : V), ds[i]? = some x → (c :: r)[i]? = some y → RelV S ρ (Rr S ρ w) w u y → RelD R' w u x := by
      rintro x0 ds' hr rfl hx0
      obtain ⟨h1, h2⟩ := ih hr fun m b hu hb => hown m b (by simp [V.usesL, hu]) hb
      refine ⟨by simp [h1], fun i x u y hx hy hu => ?_⟩
      cases i with
      | zero => simp at hx hy; subst hx hy; exact hx0 u hu
      | succ i => exact h2 i x u y (by simpa using hx) (by simpa using hy) hu
    cases c <;> (try simp only [toD.toDs, reduceCtorEq] at h)
    case d x =>
      split at h
      · rename_i ds' hr; simp at h; exact key x ds' hr h.symm fun u hu => by cases hu with | d hu => exact mono hu
      · simp at h
    case nil =>
      split at h
      · rename_i ds' hr; simp at h; exact key nilD ds' hr h.symm fun u hu => by cases hu; exact .nil _ _
      · simp at h
    case own nm =>
      have ho : ∀ b, ρ nm = some b → R' b := fun b hb => hown nm b (by simp [V.usesL, V.uses]) hb
      rw [nthF_eq] at h
      split at h
      · rename_i xs hb
        split at h
        · rename_i ds' hr; simp at h; exact key _ ds' hr h.symm fun u hu => toR_own hm hR hb rfl ho hu
        · simp at h
      · rename_i xs hb
        split at h
        · rename_i ds' hr; simp at h; exact key _ ds' hr h.symm fun u hu => toR_own hm hR hb rfl ho hu
        · simp at h
      · rename_i esz n get hb
        split at h
        · rename_i ds' hr; simp at h; exact key _ ds' hr h.symm fun u hu => toR_own hm hR hb rfl ho hu
        · simp at h
      · simp at h
    case clo f caps =>
      cases caps with
      | cons => simp [toD.toDs] at h
      | nil =>
      simp only [toD.toDs] at h
      split at h
      · rename_i ds' hr
        simp at h
        refine key (.fn f) ds' hr h.symm fun u hu => ?_
        cases hu with
        | clo _ vals _ hl _ =>
          have : vals = [] := by simpa using hl
          subst this
          exact .fn f
      · simp at h

theorem toR_sound (hm : Mem w0 S ρ w) (hR : ∀ k, Rr S ρ w k → R' k) {v : V} {x : D} (h : toD S v = some x) (hown : ∀ m b, v.uses m = true → ρ m = some b → R' b) {u : Value} (hu : RelV S ρ (Rr S ρ w) w u v) : RelD R' w u x := by
  have mono : ∀ {u x}, RelD (Rr S ρ w) w u x → RelD R' w u x := fun h => h.mono fun k hk => ⟨hR k hk, rfl⟩
  cases v <;> simp only [toD, reduceCtorEq] at h
  case d y => simp at h; subst h; cases hu with | d hu => exact mono hu
  case nil => simp at h; subst h; cases hu; exact .nil _ _
  case agg cs =>
    split at h
    · rename_i ds hds
      simp at h; subst h
      obtain ⟨h1, h2⟩ := toRs_get hm hR hds (fun m b hu hb => hown m b (by simpa [V.uses] using hu) hb)
      cases hu with
      | agg vals _ hl hr =>
        refine .agg vals ds (by rw [hl, h1]) fun i v x hv hx => ?_
        have hi : i < cs.length := by rw [← h1]; exact (List.getElem?_eq_some_iff.1 hx).1
        exact h2 i x v _ hx (List.getElem?_eq_getElem hi) (hr i v _ hv (List.getElem?_eq_getElem hi))
    · simp at h
  case own nm =>
    have ho : ∀ b, ρ nm = some b → R' b := fun b hb => hown nm b (by simp [V.uses]) hb
    rw [nthF_eq] at h
    split at h
    · rename_i xs hb; simp at h; subst h; exact toR_own hm hR hb rfl ho hu
    · rename_i xs hb; simp at h; subst h; exact toR_own hm hR hb rfl ho hu
    · rename_i esz n get hb; simp at h; subst h; exact toR_own hm hR hb rfl ho hu
    · simp at h
  case sl nm off len =>
    have ho : ∀ b, ρ nm = some b → R' b := fun b hb => hown nm b (by simp [V.uses]) hb
    rw [nthF_eq] at h
    split at h
    · rename_i xs hb; simp at h; subst h; exact toR_sl hm hR hb rfl ho hu
    · rename_i esz n get hb; simp at h; subst h; exact toR_sl hm hR hb rfl ho hu
    · simp at h
  case clo f caps =>
    cases caps <;> simp at h
    subst h
    cases hu with
    | clo _ vals _ hl _ =>
      have : vals = [] := by simpa using hl
      subst this
      exact .fn f

variable {S0 : List Blk} {σ : List Nat} {ρ0 : Nat → Option Nat}
theorem datOK_sound (hm : Mem w0 S ρ w) (hR : ∀ k, Rr S ρ w k → R' k) (hO : ∀ m b, m < S.length → m ∉ σ → ρ m = some b → R' b) : ∀ {vs : List V} {xs : List D}, DatOK S σ vs xs →
    vs.length = xs.length ∧ ∀ (i : Nat) u v x, vs[i]? = some v → xs[i]? = some x → RelV S ρ (Rr S ρ w) w u v → RelD R' w u x
  | _, _, .nil => by simp
  | _, _, .cons h hu k => by
    obtain ⟨h1, h2⟩ := datOK_sound hm hR hO k
    refine ⟨by simp [h1], fun i u v x hv hx hr => ?_⟩
    cases i with
    | zero => simp at hv hx; subst hv hx; exact toR_sound hm hR h (fun m b hus hb => hO m b (hr.uses_lt m hus) (fun hmem => by rw [offU_get hu hmem] at hus; cases hus) hb) hr
    | succ i => exact h2 i u v x (by simpa using hv) (by simpa using hx) hr

mutual
theorem argOK_sound (hm : Mem w0 S ρ w) (hR : ∀ k, Rr S ρ w k → R' k) (hO : ∀ m b, m < S.length → m ∉ σ → ρ m = some b → R' b) (hσ : ∀ i m : Nat, σ[i]? = some m → ρ0 i = ρ m ∧ shape S0 i = shape S m) :
    ∀ {a b : V}, ArgOK S σ a b → ∀ u, RelV S ρ (Rr S ρ w) w u b → RelV S0 ρ0 R' w u a
  | _, _, .d x, u, hu => by cases hu with | d h => exact .d (h.mono fun k hk => ⟨hR k hk, rfl⟩)
  | _, _, .nil, u, hu => by cases hu; exact .nil
  | _, _, .bot v, u, hu => .bot u
  | _, _, .data h hn, u, hu => .d (toR_sound hm hR h (fun m b hus hb => hO m b (hu.uses_lt m hus) (fun hmem => by rw [offU_get hn hmem] at hus; cases hus) hb) hu)
  | _, _, .ptr h, u, hu => by
    rw [nthF_eq] at h
    obtain ⟨h1, h2⟩ := hσ _ _ h
    cases hu with | ptr hb hs => exact .ptr (by rw [h1]; exact hb) (by rw [h2]; exact hs)
  | _, _, .ep h, u, hu => by
    rw [nthF_eq] at h
    obtain ⟨h1, h2⟩ := hσ _ _ h
    cases hu with | ep hb hs hi => exact .ep (by rw [h1]; exact hb) (by rw [h2]; exact hs) hi
  | _, _, .own h, u, hu => by
    rw [nthF_eq] at h
    obtain ⟨h1, h2⟩ := hσ _ _ h
    cases hu with
    | ownNil hb hs => exact .ownNil (by rw [h1]; exact hb) (by rw [h2]; exact hs)
    | own hb hs hc hcap => exact .own (by rw [h1]; exact hb) (by rw [h2]; exact hs) hc hcap
  | _, _, .sl h, u, hu => by
    rw [nthF_eq] at h
    obtain ⟨h1, h2⟩ := hσ _ _ h
    cases hu with
    | slNil hb hs => exact .slNil (by rw [h1]; exact hb) (by rw [h2]; exact hs)
    | sl hb hs hl hc hcap => exact .sl (by rw [h1]; exact hb) (by rw [h2]; exact hs) hl hc hcap
  | _, _, .rpp ds, u, hu => by cases hu with | rp val hb hc h => exact .rp val (hR _ hb) hc fun j x hx => (h j x hx).mono fun k hk => ⟨hR k hk, rfl⟩
  | _, _, .rp (m := m) (off := off) (cs := cs) (ds' := ds') (ds := ds) hb hs hd hno, u, hu => by
    rw [nthF_eq] at hb
    have hmem : m ∉ σ := fun h => by rw [memN_iff.2 h] at hno; cases hno
    have hlt := (List.getElem?_eq_some_iff.1 hb).1
    obtain ⟨d1, d2⟩ := datOK_sound hm hR hO hd
    obtain ⟨e1, e2⟩ := dropF_get hs
    obtain ⟨b, vals, ty, g1, g2, g3, g4⟩ := hm.blk m _ hb
    cases hu with
    | ptr hb' _ =>
      rw [g1] at hb'; cases hb'
      have hv : ∀ j, j < ds.length → vals[off + j]? = some (vals.toArray.getD (off + j) undef) := fun j hj => by
        have hj' : off + j < vals.length := by omega
        simp [hj']
      refine .rp (fun j => vals.toArray.getD (off + j) undef) (hO m b hlt hmem g1) (fun j hj => ?_) fun j x hx => ?_
      · rw [cell_of g2, List.getElem?_toArray]; exact hv j hj
      · have hj : j < ds.length := (List.getElem?_eq_some_iff.1 hx).1
        have hj2 : j < ds'.length := by omega
        refine d2 j _ _ x (List.getElem?_eq_getElem hj2) hx (g4 (off + j) _ _ (hv j hj) ?_)
        rw [← e2 j]; exact List.getElem?_eq_getElem hj2
  | _, _, .clo (f := f) (xa := xa) h, u, hu => by
    obtain ⟨h1, h2⟩ := argsOK_sound hm hR hO hσ h
    cases hu with
    | clo _ vals cs hl hr => exact .clo f vals xa (by omega) fun i a b ha hb => h2 i b _ hb (List.getElem?_eq_getElem (by have := (List.getElem?_eq_some_iff.1 hb).1; omega)) a (hr i a _ ha (List.getElem?_eq_getElem (by have := (List.getElem?_eq_some_iff.1 hb).1; omega)))
  | _, _, .agg (xa := xa) h, u, hu => by
    obtain ⟨h1, h2⟩ := argsOK_sound hm hR hO hσ h
    cases hu with
    | agg vals cs hl hr => exact .agg vals xa (by omega) fun i a b ha hb => h2 i b _ hb (List.getElem?_eq_getElem (by have := (List.getElem?_eq_some_iff.1 hb).1; omega)) a (hr i a _ ha (List.getElem?_eq_getElem (by have := (List.getElem?_eq_some_iff.1 hb).1; omega)))
theorem argsOK_sound (hm : Mem w0 S ρ w) (hR : ∀ k, Rr S ρ w k → R' k) (hO : ∀ m b, m < S.length → m ∉ σ → ρ m = some b → R' b) (hσ : ∀ i m : Nat, σ[i]? = some m → ρ0 i = ρ m ∧ shape S0 i = shape S m) :
    ∀ {xa bs : List V}, ArgsOK S σ xa bs → xa.length = bs.length ∧ ∀ (i : Nat) (a b : V), xa[i]? = some a → bs[i]? = some b → ∀ u, RelV S ρ (Rr S ρ w) w u b → RelV S0 ρ0 R' w u a
  | _, _, .nil => by simp
  | _, _, .cons h k => by
    obtain ⟨h1, h2⟩ := argsOK_sound hm hR hO hσ k
    refine ⟨by simp [h1], fun i a b ha hb u hu => ?_⟩
    cases i with
    | zero => simp at ha hb; subst ha hb; exact argOK_sound hm hR hO hσ h u hu
    | succ i => exact h2 i a b (by simpa using ha) (by simpa using hb) u hu
end

theorem datP_sound (hR : ∀ k, Rr S ρ w k → R' k) : ∀ {xs : List D} {vs : List V}, DatP xs vs → xs.length = vs.length ∧ ∀ (i : Nat) u x v, xs[i]? = some x → vs[i]? = some v → RelV S ρ (Rr S ρ w) w u v → RelD R' w u x
  | _, _, .nil => by simp
  | _, _, .d x k => by
    obtain ⟨h1, h2⟩ := datP_sound hR k
    refine ⟨by simp [h1], fun i u y v hy hv hu => ?_⟩
    cases i with
    | zero => simp at hy hv; subst hy hv; cases hu with | d h => exact h.mono fun k hk => ⟨hR k hk, rfl⟩
    | succ i => exact h2 i u y v (by simpa using hy) (by simpa using hv) hu
  | _, _, .nild k => by
    obtain ⟨h1, h2⟩ := datP_sound hR k
    refine ⟨by simp [h1], fun i u y v hy hv hu => ?_⟩
    cases i with
    | zero => simp at hy hv; subst hy hv; cases hu; exact .nil _ _
    | succ i => exact h2 i u y v (by simpa using hy) (by simpa using hv) hu
mutual
theorem argP_sound (hR : ∀ k, Rr S ρ w k → R' k) (hσ : ∀ i m : Nat, σ[i]? = some m → ρ0 i = ρ m ∧ shape S0 i = shape S m) : ∀ {a b : V}, ArgP σ a b → ∀ u, RelV S ρ (Rr S ρ w) w u b → RelV S0 ρ0 R' w u a
  | _, _, .d x, u, hu => by cases hu with | d h => exact .d (h.mono fun k hk => ⟨hR k hk, rfl⟩)
  | _, _, .nil, u, hu => by cases hu; exact .nil
  | _, _, .bot v, u, hu => .bot u
  | _, _, .nild, u, hu => by cases hu; exact .d (.nil _ _)
  | _, _, .aggd h, u, hu => by
    obtain ⟨h1, h2⟩ := datP_sound hR h
    cases hu with
    | agg vals _ hl hr => exact .d (.agg vals _ (by omega) fun i a b ha hb => h2 i a b _ hb (List.getElem?_eq_getElem (by have := (List.getElem?_eq_some_iff.1 hb).1; omega)) (hr i a _ ha (List.getElem?_eq_getElem (by have := (List.getElem?_eq_some_iff.1 hb).1; omega))))
  | _, _, .ptr h, u, hu => by
    rw [nthF_eq] at h
    obtain ⟨h1, h2⟩ := hσ _ _ h
    cases hu with | ptr hb hs => exact .ptr (by rw [h1]; exact hb) (by rw [h2]; exact hs)
  | _, _, .ep h, u, hu => by
    rw [nthF_eq] at h
    obtain ⟨h1, h2⟩ := hσ _ _ h
    cases hu with | ep hb hs hi => exact .ep (by rw [h1]; exact hb) (by rw [h2]; exact hs) hi
  | _, _, .own h, u, hu => by
    rw [nthF_eq] at h
    obtain ⟨h1, h2⟩ := hσ _ _ h
    cases hu with
    | ownNil hb hs => exact .ownNil (by rw [h1]; exact hb) (by rw [h2]; exact hs)
    | own hb hs hc hcap => exact .own (by rw [h1]; exact hb) (by rw [h2]; exact hs) hc hcap
  | _, _, .sl h, u, hu => by
    rw [nthF_eq] at h
    obtain ⟨h1, h2⟩ := hσ _ _ h
    cases hu with
    | slNil hb hs => exact .slNil (by rw [h1]; exact hb) (by rw [h2]; exact hs)
    | sl hb hs hl hc hcap => exact .sl (by rw [h1]; exact hb) (by rw [h2]; exact hs) hl hc hcap
  | _, _, .rpp ds, u, hu => by cases hu with | rp val hb hc h => exact .rp val (hR _ hb) hc fun j x hx => (h j x hx).mono fun k hk => ⟨hR k hk, rfl⟩
  | _, _, .clo (f := f) (xa := xa) h, u, hu => by
    obtain ⟨h1, h2⟩ := argsP_sound hR hσ h
    cases hu with
    | clo _ vals cs hl hr => exact .clo f vals xa (by omega) fun i a b ha hb => h2 i b _ hb (List.getElem?_eq_getElem (by have := (List.getElem?_eq_some_iff.1 hb).1; omega)) a (hr i a _ ha (List.getElem?_eq_getElem (by have := (List.getElem?_eq_some_iff.1 hb).1; omega)))
  | _, _, .agg (xa := xa) h, u, hu => by
    obtain ⟨h1, h2⟩ := argsP_sound hR hσ h
    cases hu with
    | agg vals cs hl hr => exact .agg vals xa (by omega) fun i a b ha hb => h2 i b _ hb (List.getElem?_eq_getElem (by have := (List.getElem?_eq_some_iff.1 hb).1; omega)) a (hr i a _ ha (List.getElem?_eq_getElem (by have := (List.getElem?_eq_some_iff.1 hb).1; omega)))
theorem argsP_sound (hR : ∀ k, Rr S ρ w k → R' k) (hσ : ∀ i m : Nat, σ[i]? = some m → ρ0 i = ρ m ∧ shape S0 i = shape S m) : ∀ {xa xb : List V}, ArgsP σ xa xb → xa.length = xb.length ∧ ∀ (i : Nat) (a b : V), xa[i]? = some a → xb[i]? = some b → ∀ u, RelV S ρ (Rr S ρ w) w u b → RelV S0 ρ0 R' w u a
  | _, _, .nil => by simp
  | _, _, .cons h k => by
    obtain ⟨h1, h2⟩ := argsP_sound hR hσ k
    refine ⟨by simp [h1], fun i a b ha hb u hu => ?_⟩
    cases i with
    | zero => simp at ha hb; subst ha hb; exact argP_sound hR hσ h u hu
    | succ i => exact h2 i a b (by simpa using ha) (by simpa using hb) u hu
end
end
end Go.Wk

/- The step over a call over the caller's memory that leaves new blocks. -/
namespace Go.Wk
set_option maxRecDepth 10000
open Go.RowKit

section
variable {P : Program} {env : Env} {w0 : Base} {n : Nat} {l0 : List Oper} {K : Fr → List Blk → Prop} {l : List Oper} {F : Fr} {S : List Blk}

theorem shape_renDB {σ : List Nat} {b b' : Blk} (h : renDB σ b = some b') : b'.esz = b.esz ∧ b'.len = b.len := by
  cases b <;> simp [renDB] at h <;> first | (subst h; exact ⟨rfl, rfl⟩) | (split at h <;> simp at h; subst h; exact ⟨rfl, rfl⟩)

theorem renA_in2 {σ : List Nat} (hn : ∀ i j m : Nat, σ[i]? = some m → σ[j]? = some m → i = j) {ρ ρ1 : Nat → Option Nat} {i m : Nat} (h : σ[i]? = some m) : renA σ ρ ρ1 m = ρ1 i := by
  unfold renA
  cases hx : idxN σ m with
  | none => exact absurd (List.mem_of_getElem? h) (idxN_none hx)
  | some j => rw [hn i j m h (idxN_some hx)]

/-- The blocks behind a call: the names that were handed on and those that it made, and the rest behind them. -/
noncomputable def renA2 (h : Nat → Prop) (n g : Nat) (σ : List Nat) (ρ ρ1 : Nat → Option Nat) (m : Nat) : Option Nat := match idxN σ m with
  | some i => ρ1 i
  | none => if m < n then ρ m else keepIf h (ρ (m - g))
theorem renA2_in {hd : Nat → Prop} {n g : Nat} {σ : List Nat} (hn : ∀ i j m : Nat, σ[i]? = some m → σ[j]? = some m → i = j) {ρ ρ1 : Nat → Option Nat} {i m : Nat} (h : σ[i]? = some m) : renA2 hd n g σ ρ ρ1 m = ρ1 i := by
  unfold renA2
  cases hx : idxN σ m with
  | none => exact absurd (List.mem_of_getElem? h) (idxN_none hx)
  | some j => simp only; rw [hn i j m h (idxN_some hx)]
theorem renA2_out {hd : Nat → Prop} {n g : Nat} {σ : List Nat} {ρ ρ1 : Nat → Option Nat} {m : Nat} (h : m ∉ σ) : renA2 hd n g σ ρ ρ1 m = if m < n then ρ m else keepIf hd (ρ (m - g)) := by
  unfold renA2
  cases hx : idxN σ m with
  | none => rfl
  | some j => exact absurd (List.mem_of_getElem? (idxN_some hx)) h

/-- The caller's store as the call sees it. -/
theorem sel_mem2 {ρ ρ0 : Nat → Option Nat} {w : World} (hm : Mem w0 S ρ w) {σ : List Nat} (hnd : nodupN σ = true) {S0 X : List Blk} (h0 : renDBs σ S0 = some X) (hX : selS S σ = some X) (hρ' : ∀ i m : Nat, σ[i]? = some m → ρ0 i = ρ m) (hsub : ∀ i b, ρ0 i = some b → ∃ m, ρ m = some b) (hno : ∀ k, (Base.obj w S0 ρ0).hid k → ¬ (Base.obj w S0 ρ0).own k) :
    Mem (Base.obj w S0 ρ0) S0 ρ0 w ∧ (∀ i m : Nat, σ[i]? = some m → ρ0 i = ρ m ∧ shape S0 i = shape S m) ∧ σ.length = S0.length ∧ (∀ k, Rr S ρ w k → Rr S0 ρ0 w k) := by
  obtain ⟨hXl, hXg⟩ := renDBs_get h0
  obtain ⟨hsl, hsg⟩ := selS_get hX
  have hlen : σ.length = S0.length := by omega
  have named : ∀ {i : Nat}, i < S0.length → ∃ m b b', σ[i]? = some m ∧ m < S.length ∧ S0[i]? = some b ∧ S[m]? = some b' ∧ renDB σ b = some b' := by
    intro i hi
    have h1 : i < σ.length := by omega
    have h2 : i < X.length := by omega
    obtain ⟨k1, k2⟩ := hsg i _ (List.getElem?_eq_getElem h1)
    exact ⟨_, _, _, List.getElem?_eq_getElem h1, k1, List.getElem?_eq_getElem hi, by rw [k2]; exact List.getElem?_eq_getElem h2, hXg i _ _ (List.getElem?_eq_getElem hi) (List.getElem?_eq_getElem h2)⟩
  have hρ : ∀ {i m : Nat}, σ[i]? = some m → ρ0 i = ρ m := fun h => hρ' _ _ h
  have hsh : ∀ i m : Nat, σ[i]? = some m → ρ0 i = ρ m ∧ shape S0 i = shape S m := by
    intro i m hi
    refine ⟨hρ hi, ?_⟩
    obtain ⟨m', b, b', h1, _, h2, h3, h4⟩ := named (i := i) (by have := (List.getElem?_eq_some_iff.1 hi).1; omega)
    rw [hi] at h1; cases h1
    obtain ⟨k1, k2⟩ := shape_renDB h4
    simp [shape, h2, h3, k1, k2]
  have hR : ∀ k, Rr S ρ w k → Rr S0 ρ0 w k := fun k hk => ⟨hk.1, fun i hi => let ⟨m, hm⟩ := hsub i k hi; hk.2 m hm⟩
  refine ⟨⟨Kept.refl _, Nat.le_refl _, fun i b hi hb => ?_, fun i b hi hb => ?_, fun i j b hi hj hbi hbj => ?_, ⟨fun k hk => hk, fun i b hb => let ⟨m, h⟩ := hsub i b hb; hm.hid.2 m b h, hno⟩, fun i blk hb => ?_⟩, hsh, hlen, hR⟩
  · have hb' : pinOf S0 ρ0 i = some b := hb
    unfold pinOf at hb'
    split at hb'
    · rename_i cs hc; exact ⟨hb', cs, hc⟩
    · simp at hb'
  · obtain ⟨m, _, _, h1, h2, _⟩ := named hi
    exact ⟨.inr ⟨i, hi, hb⟩, (hm.lt m b h2 (by rw [← hρ h1]; exact hb)).2⟩
  · obtain ⟨m, _, _, h1, h2, _⟩ := named hi
    obtain ⟨m', _, _, h1', h2', _⟩ := named hj
    have := hm.inj m m' b h2 h2' (by rw [← hρ h1]; exact hbi) (by rw [← hρ h1']; exact hbj)
    subst this
    exact nodupN_inj hnd h1 h1'
  · obtain ⟨m, b, b', h1, h2, h3, h4, h5⟩ := named (List.getElem?_eq_some_iff.1 hb).1
    rw [hb] at h3; cases h3
    have h := hm.blk m b' h4
    have rowk : blk.isRow = true → b' = blk → RelBlk S0 ρ0 (Rr S0 ρ0 w) w i blk := by
      rintro hr rfl
      have key : (ρ0 i = none ∧ b'.len = 0) ∨ ∃ b c ty, ρ0 i = some b ∧ w.heap[b]? = some (.cells c ty (0, 0)) ∧ b'.len * b'.esz ≤ c.size ∧ (∀ i, i < b'.len → (b'.get i).length = b'.esz) ∧
          ∀ (i j : Nat) x, i < b'.len → (b'.get i)[j]? = some x → ∃ v, c[i * b'.esz + j]? = some v ∧ RelD (Rr S0 ρ0 w) w v x := by
        rw [hρ h1]
        rcases h.row hr with h | ⟨b, c, ty, k1, k2, k3, k4, k5⟩
        · exact .inl h
        · exact .inr ⟨b, c, ty, k1, k2, k3, k4, fun i j x hi hx => let ⟨v, hv, hr⟩ := k5 i j x hi hx; ⟨v, hv, hr.mono fun k hk => ⟨hR k hk, rfl⟩⟩⟩
      cases b' <;> first | (simp [Blk.isRow] at hr; done) | exact key
    cases blk with
    | gone => trivial
    | cells cs =>
      simp only [renDB] at h5
      split at h5
      · rename_i cs' hcs
        simp at h5; subst h5
        obtain ⟨l1, l2⟩ := renDL_get hcs
        obtain ⟨b, vals, ty, k1, k2, k3, k4⟩ := h
        refine ⟨b, vals, ty, by rw [hρ h1]; exact k1, k2, by omega, fun j v x hv hx => ?_⟩
        have hj : j < cs'.length := by have := (List.getElem?_eq_some_iff.1 hx).1; omega
        exact renD_bwd hsh hR x _ v (l2 j x _ hx (List.getElem?_eq_getElem hj)) (k4 j v _ hv (List.getElem?_eq_getElem hj))
      · simp at h5
    | ints k xs => exact rowk rfl (by simpa [renDB] using h5.symm)
    | bools xs => exact rowk rfl (by simpa [renDB] using h5.symm)
    | row e m g => exact rowk rfl (by simpa [renDB] using h5.symm)

/-- What the call leaves, as the caller sees it. -/
theorem ret_mem2 {ρ ρ0 ρ1 : Nat → Option Nat} {a : Act} {w w' : World} (hr : Rel w0 n F S ρ a w) {σ σ' : List Nat} (hnd : nodupN σ = true) {S0 S1 X X1 S' : List Blk} {F' : Fr} (h0 : renDBs σ S0 = some X) (hX : selS S σ = some X)
    (hF : killFs (rowNames σ S0) F = some F') (hq : quietS (rowNames σ S0) σ 0 S = true) (hk : kindsP S0 S1) (hρ' : ∀ i m : Nat, σ[i]? = some m → ρ0 i = ρ m) (hsub : ∀ i b, ρ0 i = some b → ∃ m, ρ m = some b) (hno : ∀ k, (Base.obj w S0 ρ0).hid k → ¬ (Base.obj w S0 ρ0).own k) (hfl : bflL S1 ∨ ∀ m k, m ∉ σ → ρ m = some k → (m < S.length ∨ w0.hid k) → ∃ j, S0.length ≤ j ∧ ρ0 j = some k) (he : appN σ (newN (lenO S) S0 S1) = σ') (h1 : renDBs σ' S1 = some X1) (hS : setsN σ X1 S = some S')
    (hm1 : Mem (Base.obj w S0 ρ0) S1 ρ1 w') :
    Rel w0 n F' S' (renA2 w0.hid S.length (S1.length - S0.length) σ' ρ ρ1) a w' ∧ (∀ i m : Nat, σ'[i]? = some m → renA2 w0.hid S.length (S1.length - S0.length) σ' ρ ρ1 m = ρ1 i ∧ shape S' m = shape S1 i) ∧
    ((∀ m k, m ∉ σ → ρ m = some k → (m < S.length ∨ w0.hid k) → ∃ j, S0.length ≤ j ∧ ρ0 j = some k) → ∀ k, Rr S1 ρ1 w' k → Rr S' (renA2 w0.hid S.length (S1.length - S0.length) σ' ρ ρ1) w' k) := by
  obtain ⟨hm0, hsh0, hlen, _⟩ := sel_mem2 hr.mem hnd h0 hX hρ' hsub hno
  generalize hrenN : renA2 w0.hid S.length (S1.length - S0.length) σ' ρ ρ1 = renN
  obtain ⟨hXl, hXg⟩ := renDBs_get h0
  obtain ⟨hX1l, hX1g⟩ := renDBs_get h1
  obtain ⟨hsl, hsg⟩ := selS_get hX
  obtain ⟨hkl, hkc⟩ := kindsP_get hk
  have hσlt : ∀ m ∈ σ, m < S.length := fun m hm => by
    obtain ⟨i, hi, he⟩ := List.mem_iff_getElem.1 hm
    exact (hsg i m (by rw [List.getElem?_eq_getElem hi, he])).1
  obtain ⟨_, hS'l, hS'in0, hS'new, hS'out0⟩ := setsN_get hnd hσlt hS
  rw [appN_eq, lenO_eq] at he
  obtain ⟨hN1, hN2⟩ := newN_get S.length S0 S1 hkl
  have hσ'l : σ'.length = S1.length := by rw [← he]; simp; omega
  have hσ'lo : ∀ i, i < σ.length → σ'[i]? = σ[i]? := fun i hi => by rw [← he, List.getElem?_append_left hi]
  have hσ'hi : ∀ i, σ.length ≤ i → i < S1.length → σ'[i]? = some (S.length + (i - σ.length)) := fun i hi hi' => by
    rw [← he, List.getElem?_append_right hi, hN2 _ (by omega)]
  have hcase : ∀ {i m : Nat}, σ'[i]? = some m → (i < σ.length ∧ σ[i]? = some m ∧ m < S.length) ∨ (σ.length ≤ i ∧ i < S1.length ∧ m = S.length + (i - σ.length)) := by
    intro i m h
    have hi := (List.getElem?_eq_some_iff.1 h).1
    by_cases hlo : i < σ.length
    · rw [hσ'lo i hlo] at h
      exact .inl ⟨hlo, h, (hsg i m h).1⟩
    · refine .inr ⟨by omega, by omega, ?_⟩
      rw [hσ'hi i (by omega) (by omega)] at h
      simpa using h.symm
  have hinj : ∀ i j m : Nat, σ'[i]? = some m → σ'[j]? = some m → i = j := by
    intro i j m hi hj
    rcases hcase hi with ⟨a1, a2, a3⟩ | ⟨a1, a2, a3⟩ <;> rcases hcase hj with ⟨b1, b2, b3⟩ | ⟨b1, b2, b3⟩
    · exact nodupN_inj hnd a2 b2
    · omega
    · omega
    · omega
  have hS'in : ∀ i m : Nat, σ'[i]? = some m → S'[m]? = X1[i]? := by
    intro i m h
    rcases hcase h with ⟨_, a2, _⟩ | ⟨a1, a2, a3⟩
    · exact hS'in0 i m a2
    · rw [a3, hS'new, show σ.length + (i - σ.length) = i by omega]
  have hS'len : S'.length = S.length + (S1.length - S0.length) := by rw [hS'l]; omega
  have hmem' : ∀ {m : Nat}, m < S'.length → m ∉ σ' → m < S.length ∧ m ∉ σ := by
    intro m hm hno
    have h2 : m ∉ σ := fun h => hno (by rw [← he]; simp [h])
    refine ⟨Nat.lt_of_not_le fun hge => hno ?_, h2⟩
    have := hσ'hi (σ.length + (m - S.length)) (by omega) (by omega)
    rw [show S.length + (σ.length + (m - S.length) - σ.length) = m by omega] at this
    exact List.mem_of_getElem? this
  have hS'out : ∀ m, m < S'.length → m ∉ σ' → S'[m]? = S[m]? := fun m hm hno => hS'out0 m (hmem' hm hno).1 (hmem' hm hno).2
  have hσσ' : ∀ {m : Nat}, m < S.length → m ∈ σ' → m ∈ σ := by
    intro m hm h
    obtain ⟨i, hi, hie⟩ := List.mem_iff_getElem.1 h
    rcases hcase (i := i) (m := m) (by rw [List.getElem?_eq_getElem hi, hie]) with ⟨_, a2, _⟩ | ⟨_, _, a3⟩
    · exact List.mem_of_getElem? a2
    · omega
  have inσ' : ∀ {m : Nat}, m ∈ σ' → ∃ i : Nat, σ'[i]? = some m ∧ i < S1.length := fun h => by
    obtain ⟨i, hi, he⟩ := List.mem_iff_getElem.1 h
    exact ⟨i, by rw [List.getElem?_eq_getElem hi, he], by omega⟩
  have inσ : ∀ {m : Nat}, m ∈ σ → ∃ i : Nat, σ[i]? = some m ∧ i < S0.length ∧ σ'[i]? = some m := fun h => by
    obtain ⟨i, hi, he⟩ := List.mem_iff_getElem.1 h
    have hs := List.getElem?_eq_getElem hi
    rw [he] at hs
    exact ⟨i, hs, by omega, by rw [hσ'lo i hi]; exact hs⟩
  have hin : ∀ {i m : Nat}, σ'[i]? = some m → renN m = ρ1 i := fun h => by rw [← hrenN]; exact renA2_in hinj h
  have hout : ∀ {m : Nat}, m < S.length → m ∉ σ' → renN m = ρ m := fun hm h => by rw [← hrenN, renA2_out h, if_pos hm]
  have hany : ∀ {m k : Nat}, m ∉ σ' → renN m = some k → ∃ m0, ρ m0 = some k ∧ m0 ∉ σ ∧ (m0 < S.length ∨ w0.hid k) := by
    intro m k hno' hk
    by_cases hm : m < S.length
    · exact ⟨m, by rw [← hout hm hno']; exact hk, fun h => hno' (by rw [← he]; simp [h]), .inl hm⟩
    · rw [← hrenN, renA2_out hno', if_neg hm] at hk
      obtain ⟨e1, e2⟩ := keepIf_some hk
      refine ⟨m - (S1.length - S0.length), e1, fun h => ?_, .inr e2⟩
      have h2 := hσlt _ h
      by_cases hm2 : m < S.length + (S1.length - S0.length)
      · have := hσ'hi (σ.length + (m - S.length)) (by omega) (by omega)
        rw [show S.length + (σ.length + (m - S.length) - σ.length) = m by omega] at this
        exact hno' (List.mem_of_getElem? this)
      · omega
  have himp : ∀ k, (Base.obj w S0 ρ0).imp k → ∃ i m : Nat, σ[i]? = some m ∧ m < S.length ∧ ρ m = some k := by
    rintro k ⟨i, hi, hb⟩
    have hi' : i < σ.length := by omega
    have hσ := List.getElem?_eq_getElem hi'
    refine ⟨i, _, hσ, (hsg i _ hσ).1, ?_⟩
    rw [← (hsh0 i _ hσ).1]; exact hb
  have hkeep : ∀ k, k < w.heap.size → (∀ i m : Nat, σ[i]? = some m → ρ m ≠ some k) → w'.heap[k]? = w.heap[k]? := fun k hk hno =>
    hm1.below.block k hk fun hi => by obtain ⟨i, m, h1, _, h2⟩ := himp k hi; exact hno i m h1 h2
  have hsz : w.heap.size ≤ w'.heap.size := hm1.below.size
  have hother : ∀ m b, m < S.length → m ∉ σ → ρ m = some b → w'.heap[b]? = w.heap[b]? := fun m b hm hno hb =>
    hkeep b (hr.mem.lt m b hm hb).2 fun i m' hi hb' => by
      have := hr.mem.inj m m' b hm (hsg i m' hi).1 hb hb'
      subst this; exact hno (List.mem_of_getElem? hi)
  have hown : ∀ i b : Nat, i < S1.length → ρ1 i = some b → w.heap.size ≤ b ∨ ∃ m, m ∈ σ ∧ m < S.length ∧ ρ m = some b := by
    intro i b hi hb
    rcases (hm1.lt i b hi hb).1 with h | h
    · exact .inl h
    · obtain ⟨j, m, h1, h2, h3⟩ := himp b h; exact .inr ⟨m, List.mem_of_getElem? h1, h2, h3⟩
  have hnew : ∀ k, k < w.heap.size → (∀ i, i < S.length → ρ i ≠ some k) → ∀ i, i < S1.length → ρ1 i ≠ some k := by
    intro k hk hno i hi hb
    rcases hown i k hi hb with h | ⟨m, _, h1, h2⟩
    · omega
    · exact hno m h1 h2
  have hshin : ∀ i m : Nat, σ'[i]? = some m → shape S' m = shape S1 i := by
    intro i m hi
    have hi1 : i < S1.length := by have := (List.getElem?_eq_some_iff.1 hi).1; omega
    have hi2 : i < X1.length := by omega
    obtain ⟨k1, k2⟩ := shape_renDB (hX1g i _ _ (List.getElem?_eq_getElem hi1) (List.getElem?_eq_getElem hi2))
    simp [shape, hS'in i m hi, List.getElem?_eq_getElem hi1, List.getElem?_eq_getElem hi2, k1, k2]
  have hσ1 : ∀ i m : Nat, σ'[i]? = some m → renN m = ρ1 i ∧ shape S' m = shape S1 i := fun i m h => ⟨hin h, hshin i m h⟩
  have hR : ∀ k, Rr S ρ w k → Rr S' (renN) w' k ∧ w'.heap[k]? = w.heap[k]? := by
    intro k hk
    refine ⟨⟨Nat.lt_of_lt_of_le hk.1 hsz, fun m hm => ?_⟩, hkeep k hk.1 fun i m hi => hk.2 m⟩
    by_cases hmem : m ∈ σ'
    · obtain ⟨i, hi, hi'⟩ := inσ' hmem
      rw [hin hi] at hm; exact hnew k hk.1 (fun i _ => hk.2 i) i hi' hm
    · obtain ⟨m0, e1, _⟩ := hany hmem hm
      exact hk.2 m0 e1
  -- values that lead to no row that the call may have written
  have hval : ∀ {u : Value} {x : V}, (∀ m ∈ rowNames σ S0, x.uses m = false) → RelV S ρ (Rr S ρ w) w u x → RelV S' (renN) (Rr S' (renN) w') w' u x := by
    intro u x hno h
    refine h.mono hR fun m hu => ?_
    have hm := h.uses_lt m hu
    by_cases hmem : m ∈ σ
    · obtain ⟨i, hi, hi', hi2⟩ := inσ hmem
      rcases rowNames_get hi hi' with hrow | ⟨cs, hcs⟩
      · rw [hno m hrow] at hu; cases hu
      · obtain ⟨cs', hcs', hcsl⟩ := hkc i cs hcs
        have hS0m := (hsh0 i m hi)
        obtain ⟨b, hb⟩ : ∃ b, ρ m = some b := by
          have hi2 : i < X.length := by omega
          have hx := hXg i _ _ hcs (List.getElem?_eq_getElem hi2)
          have hSm := (hsg i m hi).2
          rw [List.getElem?_eq_getElem hi2] at hSm
          have := hr.mem.blk m _ hSm
          simp only [renDB] at hx
          split at hx
          · simp at hx; rw [← hx] at this; obtain ⟨b, _, _, hb, _⟩ := this; exact ⟨b, hb⟩
          · simp at hx
        have hpin : ρ1 i = some b := (hm1.pin i b hi' (by show pinOf S0 _ i = some b; simp [pinOf, hcs, hS0m.1, hb])).1
        refine ⟨by rw [hin hi2, hpin, hb], by rw [hshin i m hi2, ← hS0m.2]; simp [shape, hcs, hcs', Blk.esz, Blk.len], fun b' e c hb' h => ?_⟩
        rw [hb] at hb'; cases hb'
        obtain ⟨cc, ty, g1, g2, g3⟩ := h
        obtain ⟨b0, vals0, ty0, q1, q2, q3, _⟩ := hm0.blk i _ hcs
        rw [hS0m.1, hb] at q1; cases q1
        rw [g1] at q2
        simp only [Option.some.injEq, Obj.cells.injEq] at q2
        obtain ⟨b1, vals1, ty1, r1, r2, r3, _⟩ := hm1.blk i _ hcs'
        rw [hpin] at r1; cases r1
        refine ⟨_, _, r2, ?_, g3⟩
        have : cc.size = vals0.length := by rw [q2.1]; simp
        simp only [List.size_toArray]
        omega
    · have hno' : m ∉ σ' := fun h => hmem (hσσ' hm h)
      refine ⟨hout hm hno', by simp [shape, hS'out m (by omega) hno'], fun b e c hb h => ?_⟩
      obtain ⟨cc, ty, h1, h2⟩ := h
      exact ⟨cc, ty, by rw [hother m b hm hmem hb]; exact h1, h2⟩
  have hRR : (∀ m k, m ∉ σ → ρ m = some k → (m < S.length ∨ w0.hid k) → ∃ j, S0.length ≤ j ∧ ρ0 j = some k) → ∀ k, Rr S1 ρ1 w' k → Rr S' renN w' k := fun hcov k hk => ⟨hk.1, fun m hm => by
    by_cases hmem : m ∈ σ'
    · obtain ⟨i, hi, _⟩ := inσ' hmem
      rw [hin hi] at hm; exact hk.2 i hm
    · obtain ⟨m0, e1, e2, e3⟩ := hany hmem hm
      obtain ⟨j, _, j2⟩ := hm1.hid.1 k (hcov m0 k e2 e1 e3)
      exact hk.2 j j2⟩
  have pair : ∀ {i m : Nat}, σ'[i]? = some m → ∃ b1 x1, S1[i]? = some b1 ∧ S'[m]? = some x1 ∧ renDB σ' b1 = some x1 := by
    intro i m hi
    have hi1 : i < S1.length := by have := (List.getElem?_eq_some_iff.1 hi).1; omega
    have hi2 : i < X1.length := by omega
    exact ⟨_, _, List.getElem?_eq_getElem hi1, by rw [hS'in i m hi]; exact List.getElem?_eq_getElem hi2, hX1g i _ _ (List.getElem?_eq_getElem hi1) (List.getElem?_eq_getElem hi2)⟩
  refine ⟨⟨⟨hr.fr.size, hr.fr.defers, fun t g v hl => ?_⟩, ⟨?_, ?_, ?_, ?_, ?_, ⟨fun k hk => ?_, fun m b hb => ?_, hr.mem.hid.no⟩, ?_⟩⟩, hσ1, hRR⟩
  · obtain ⟨v', hl', h⟩ := killFs_get hF hl
    refine ⟨fun hg => ?_, (hr.fr.get t g v' hl').2⟩
    rcases h with rfl | ⟨rfl, hno⟩
    · exact .bot _
    · exact hval hno ((hr.fr.get t g v hl').1 hg)
  · refine ⟨hm1.below.os.trans hr.mem.below.os, hm1.below.tape.trans hr.mem.below.tape, hm1.below.output.trans hr.mem.below.output, Nat.le_trans hr.mem.below.size hsz, fun k hk hi => ?_⟩
    rw [← hr.mem.below.block k hk hi]
    refine hkeep k (Nat.lt_of_lt_of_le hk hr.mem.below.size) fun i m hσm hb => ?_
    rcases (hr.mem.lt m k (hsg i m hσm).1 hb).1 with h | h
    · omega
    · exact hi h
  · have := hr.mem.np; omega
  · intro m b hm hb
    obtain ⟨k1, cs, k2⟩ := hr.mem.pin m b hm hb
    have hmS : m < S.length := (List.getElem?_eq_some_iff.1 k2).1
    by_cases hmem : m ∈ σ
    · obtain ⟨i, hi, hi', hi2⟩ := inσ hmem
      have hi3 : i < X.length := by omega
      have hx := hXg i _ _ (List.getElem?_eq_getElem hi') (List.getElem?_eq_getElem hi3)
      have hSm := (hsg i m hi).2
      rw [List.getElem?_eq_getElem hi3, k2] at hSm
      have hS0i := List.getElem?_eq_getElem hi'
      generalize hb0 : S0[i] = b0 at hx hS0i
      simp only [Option.some.injEq] at hSm
      rw [← hSm] at hx
      cases b0 with
      | cells cs0 =>
        obtain ⟨cs', hcs', _⟩ := hkc i cs0 hS0i
        have hpin : ρ1 i = some b := (hm1.pin i b hi' (by show pinOf S0 _ i = some b; simp [pinOf, hS0i, (hsh0 i m hi).1, k1])).1
        refine ⟨by rw [hin hi2, hpin], ?_⟩
        obtain ⟨b1, x1, p2, p4, p6⟩ := pair hi2
        rw [hcs'] at p2; cases p2
        simp only [renDB] at p6
        split at p6
        · simp at p6; subst p6; exact ⟨_, p4⟩
        · simp at p6
      | _ => simp [renDB] at hx
    · have hno' : m ∉ σ' := fun h => hmem (hσσ' hmS h)
      exact ⟨by rw [hout hmS hno']; exact k1, cs, by rw [hS'out m (by omega) hno']; exact k2⟩
  · intro m b hm hb
    by_cases hmem : m ∈ σ'
    · obtain ⟨i, hi, hi'⟩ := inσ' hmem
      rw [hin hi] at hb
      refine ⟨?_, (hm1.lt i b hi' hb).2⟩
      rcases hown i b hi' hb with h | ⟨m', _, h1, h2⟩
      · exact .inl (Nat.le_trans hr.mem.below.size h)
      · exact (hr.mem.lt m' b h1 h2).1
    · rw [hout (hmem' hm hmem).1 hmem] at hb
      have := hr.mem.lt m b (hmem' hm hmem).1 hb
      exact ⟨this.1, Nat.lt_of_lt_of_le this.2 hsz⟩
  · have mixed : ∀ {m m' b : Nat}, m ∈ σ' → m' ∉ σ' → m' < S'.length → renN m = some b → renN m' = some b → False := by
      intro m m' b hmem hno hm' hb hb'
      obtain ⟨hm2, hno2⟩ := hmem' hm' hno
      obtain ⟨i, hi, hi'⟩ := inσ' hmem
      rw [hin hi] at hb
      rw [hout hm2 hno] at hb'
      have h2 := (hr.mem.lt m' b hm2 hb').2
      rcases hown i b hi' hb with h | ⟨m'', h0, h1, h3⟩
      · omega
      · have := hr.mem.inj m'' m' b h1 hm2 h3 hb'
        subst this; exact hno2 h0
    intro m m' b hm hm' hb hb'
    by_cases hmem : m ∈ σ'
    · by_cases hmem2 : m' ∈ σ'
      · obtain ⟨i, hi, hi'⟩ := inσ' hmem
        obtain ⟨j, hj, hj'⟩ := inσ' hmem2
        rw [hin hi] at hb; rw [hin hj] at hb'
        have := hm1.inj i j b hi' hj' hb hb'
        subst this; rw [hi] at hj; cases hj; rfl
      · exact (mixed hmem hmem2 hm' hb hb').elim
    · by_cases hmem2 : m' ∈ σ'
      · exact (mixed hmem2 hmem hm hb' hb).elim
      · rw [hout (hmem' hm hmem).1 hmem] at hb; rw [hout (hmem' hm' hmem2).1 hmem2] at hb'
        exact hr.mem.inj m m' b (hmem' hm hmem).1 (hmem' hm' hmem2).1 hb hb'
  · obtain ⟨m, h1, h2⟩ := hr.mem.hid.1 k hk
    refine ⟨m + (S1.length - S0.length), by omega, ?_⟩
    rw [← hrenN, renA2_out (fun h => by
      obtain ⟨i, hi, _⟩ := inσ' h
      rcases hcase hi with ⟨_, _, h3⟩ | ⟨_, _, h3⟩ <;> omega), if_neg (by omega), Nat.add_sub_cancel, h2]
    exact keepIf_of hk
  · by_cases hmem : m ∈ σ'
    · obtain ⟨i, hi, _⟩ := inσ' hmem
      rw [hin hi] at hb; exact hm1.hid.2 i b hb
    · obtain ⟨m0, e1, _⟩ := hany hmem hb
      exact Nat.lt_of_lt_of_le (hr.mem.hid.2 m0 b e1) hsz
  · intro m blk hb
    have hm : m < S'.length := (List.getElem?_eq_some_iff.1 hb).1
    by_cases hmem : m ∈ σ'
    · obtain ⟨i, hi, hi'⟩ := inσ' hmem
      obtain ⟨b1, x1, p2, p4, p6⟩ := pair hi
      rw [hb] at p4; cases p4
      have h := hm1.blk i b1 p2
      have hf : bfl b1 ∨ ∀ k, Rr S1 ρ1 w' k → Rr S' renN w' k := hfl.imp (fun h => bflL_get h p2) hRR
      have hρ := hin hi
      have rowk : b1.isRow = true → (b1.flat ∨ ∀ k, Rr S1 ρ1 w' k → Rr S' renN w' k) → blk = b1 → RelBlk S' (renN) (Rr S' (renN) w') w' m blk := by
        rintro hrow hfl' hbe
        subst hbe
        have key : (renN m = none ∧ blk.len = 0) ∨ ∃ b c ty, renN m = some b ∧ w'.heap[b]? = some (.cells c ty (0, 0)) ∧ blk.len * blk.esz ≤ c.size ∧ (∀ i, i < blk.len → (blk.get i).length = blk.esz) ∧
            ∀ (i j : Nat) x, i < blk.len → (blk.get i)[j]? = some x → ∃ v, c[i * blk.esz + j]? = some v ∧ RelD (Rr S' (renN) w') w' v x := by
          rw [hρ]
          rcases h.row hrow with h | ⟨b, c, ty, k1, k2, k3, k4, k5⟩
          · exact .inl h
          · exact .inr ⟨b, c, ty, k1, k2, k3, k4, fun i j x hi hx => let ⟨v, hv, hr⟩ := k5 i j x hi hx; ⟨v, hv, hfl'.elim (fun hfl' => by
              have hs := Blk.flat_get hfl' hi hx
              rw [RelD.valOf_eq hs hr]; exact RelD.of_scal hs _ _) fun hR => hr.mono fun k hk => ⟨hR k hk, rfl⟩⟩⟩
        cases blk <;> first | (simp [Blk.isRow] at hrow; done) | exact key
      cases b1 with
      | gone => simp [renDB] at p6; subst p6; trivial
      | cells cs =>
        simp only [renDB] at p6
        split at p6
        · rename_i cs' hcs
          simp at p6; subst p6
          obtain ⟨l1, l2⟩ := renDL_get hcs
          obtain ⟨b, vals, ty, k1, k2, k3, k4⟩ := h
          refine ⟨b, vals, ty, by rw [hρ]; exact k1, k2, by omega, fun j v x hv hx => ?_⟩
          have hj : j < cs.length := by have := (List.getElem?_eq_some_iff.1 hx).1; omega
          exact renD_fwd hσ1 _ x v (hf.imp (fun hf => vflL_get hf (List.getElem?_eq_getElem hj)) id) (l2 j _ x (List.getElem?_eq_getElem hj) hx) (k4 j v _ hv (List.getElem?_eq_getElem hj))
        · simp at p6
      | ints k xs => exact rowk rfl hf (by simpa [renDB] using p6.symm)
      | bools xs => exact rowk rfl hf (by simpa [renDB] using p6.symm)
      | row e q g => exact rowk rfl hf (by simpa [renDB] using p6.symm)
    · obtain ⟨hm2, hno2⟩ := hmem' hm hmem
      rw [hS'out m hm hmem] at hb
      have h := hr.mem.blk m blk hb
      have hρ := hout hm2 hmem
      have rowk : blk.isRow = true → RelBlk S' (renN) (Rr S' (renN) w') w' m blk := by
        intro hrow
        have key : (renN m = none ∧ blk.len = 0) ∨ ∃ b c ty, renN m = some b ∧ w'.heap[b]? = some (.cells c ty (0, 0)) ∧ blk.len * blk.esz ≤ c.size ∧ (∀ i, i < blk.len → (blk.get i).length = blk.esz) ∧
            ∀ (i j : Nat) x, i < blk.len → (blk.get i)[j]? = some x → ∃ v, c[i * blk.esz + j]? = some v ∧ RelD (Rr S' (renN) w') w' v x := by
          rw [hρ]
          rcases h.row hrow with h | ⟨b, c, ty, k1, k2, k3, k4, k5⟩
          · exact .inl h
          · exact .inr ⟨b, c, ty, k1, by rw [hother m b hm2 hno2 k1]; exact k2, k3, k4, fun i j x hi hx => let ⟨v, hv, hr⟩ := k5 i j x hi hx; ⟨v, hv, hr.mono hR⟩⟩
        cases blk <;> first | (simp [Blk.isRow] at hrow; done) | exact key
      cases blk with
      | gone => trivial
      | cells cs =>
        obtain ⟨b, vals, ty, k1, k2, k3, k4⟩ := h
        have hno : noneUse (rowNames σ S0) cs = true := by
          rcases quietS_get hq hb with h | h
          · rw [Nat.zero_add] at h; exact absurd h hno2
          · exact h
        exact ⟨b, vals, ty, by rw [hρ]; exact k1, by rw [hother m b hm2 hno2 k1]; exact k2, k3, fun j v x hv hx => hval (fun m' hm' => noneUse_get hno hm' hx) (k4 j v x hv hx)⟩
      | ints k xs => exact rowk rfl
      | bools xs => exact rowk rfl
      | row e q g => exact rowk rfl

/-! ### Calls of function values -/

theorem run_callC {P : Program} {f : FuncId} (hf : Enters P f) {a : Act} {o : Oper} {x : Operand} {args : Array Operand} {ts : Array TypeId} {caps : Array Value} (ho : o.op = .call ⟨.value x, args, ts⟩) (hx : a.eval x = .func (.func f) #[] caps) (w : World) :
    (execOp a.eval o).run P w = .ok (.enter f (args.map a.eval ++ caps)) w := by
  simp only [execOp, ho, resolve, hx, Deferred.ofValue, pure_bind, invoke]
  simp only [Array.empty_append]
  exact hf _ _

/-- Which function a call leads to, and what it captured. -/
def calleeC (F : Fr) (g : List Bool) : Callee → Option (FuncId × List V × List Prop)
  | .value x => match rd F g x with
    | some (.d (.fn f), p) => some (f, [], p)
    | some (.clo f cs, p) => some (f, cs, p)
    | _ => none
  | _ => none
theorem calleeC_sound {ρ : Nat → Option Nat} {w : World} {a : Act} (hf : FrOK n F S ρ a w) {g : List Bool} (hg : allT g) {c : Callee} {f : FuncId} {cs : List V} {os : List Prop} (h : calleeC F g c = some (f, cs, os)) (ho : allP os) :
    ∃ x vals, c = .value x ∧ a.eval x = .func (.func f) #[] (List.toArray vals) ∧ vals.length = cs.length ∧ ∀ (i : Nat) u v, vals[i]? = some u → cs[i]? = some v → RelV S ρ (Rr S ρ w) w u v := by
  cases c <;> simp only [calleeC, reduceCtorEq] at h
  rename_i x
  split at h
  · rename_i f' p hx
    simp at h; obtain ⟨rfl, rfl, rfl⟩ := h
    have := rd_sound hf hx ho hg
    generalize hu : a.eval x = u at this
    cases this with | d h => cases h; exact ⟨x, [], rfl, hu, rfl, fun i u v hu => by simp at hu⟩
  · rename_i f' cs' p hx
    simp at h; obtain ⟨rfl, rfl, rfl⟩ := h
    have := rd_sound hf hx ho hg
    generalize hu : a.eval x = u at this
    cases this with
    | clo _ vals _ hl hr => exact ⟨x, vals, rfl, hu, hl, hr⟩
  · simp at h

def appV : List V → List V → List V
  | [], r => r
  | x :: s, r => x :: appV s r
theorem appV_eq (s r : List V) : appV s r = s ++ r := by
  induction s with
  | nil => rfl
  | cons x s ih => simp [appV, ih]

def isCallC (F : Fr) (l0 : List Oper) (o : Oper) : Option (List Bool × FuncId × List V × List Prop) :=
  match gof F l0 o.guard, o.op with
  | some g, .call c => match calleeC F g c.callee with
    | some (f, cs, p) => match rdAll F g c.args.toList with
      | some (vs, q) => some (g, f, appV vs cs, p ++ q)
      | none => none
    | none => none
  | _, _ => none

theorem callC_args {ρ : Nat → Option Nat} {w : World} {a : Act} (hf : FrOK n F S ρ a w) {g : List Bool} (hg : allT g) {callee : Callee} {args : Array Operand} {f : FuncId} {cs vs : List V} {p q : List Prop} (hc : calleeC F g callee = some (f, cs, p)) (hp : allP p)
    (hv : rdAll F g args.toList = some (vs, q)) (hq : allP q) : ∃ x vals, callee = .value x ∧ a.eval x = .func (.func f) #[] (List.toArray vals) ∧ (args.toList.map a.eval ++ vals).length = (appV vs cs).length ∧
      ∀ (i : Nat) u v, (args.toList.map a.eval ++ vals)[i]? = some u → (appV vs cs)[i]? = some v → RelV S ρ (Rr S ρ w) w u v := by
  obtain ⟨x, vals, h1, h2, h3, h4⟩ := calleeC_sound hf hg hc hp
  obtain ⟨h5, h6⟩ := rdAll_sound hf hg hv hq
  refine ⟨x, vals, h1, h2, by rw [appV_eq]; simp at h5; simp [h3, h5], fun i u v hu hv' => ?_⟩
  rw [appV_eq] at hv'
  by_cases hi : i < vs.length
  · rw [List.getElem?_append_left (by omega)] at hu
    rw [List.getElem?_append_left hi] at hv'
    exact h6 i u v hu hv'
  · rw [List.getElem?_append_right (by omega)] at hu
    rw [List.getElem?_append_right (by omega)] at hv'
    rw [h5] at hu
    exact h4 _ u v hu hv'

theorem sel_len2 {σ : List Nat} {S0 X : List Blk} (h0 : renDBs σ S0 = some X) (hX : selS S σ = some X) : σ.length = S0.length := by
  have := (renDBs_get h0).1
  have := (selS_get hX).1
  omega
/-- A call in the machine: what the contract says of it. -/
theorem callC_run {ρ : Nat → Option Nat} {a : Act} {w : World} (hr : Rel w0 n F S ρ a w) {o : Oper} {g : List Bool} {f : FuncId} {as0 avs : List V} {os : List Prop} {S0 S1 X X1 S' : List Blk} {rv rv' : V} {F' : Fr} (h : isCallC F l0 o = some (g, f, avs, os)) (hg : allT g) (sp : CtrO P f as0 S0 S1 rv) (σ : List Nat) (ho : allP os)
    (hnd : nodupN σ = true) (ha : ArgsOK S σ as0 avs) (h0 : renDBs σ S0 = some X) (hX : selS S σ = some X) (hF : killFs (rowNames σ S0) F = some F') (hq : quietS (rowNames σ S0) σ 0 S = true) (hk : kindsP S0 S1) (hfl : bflL S1) {σ' : List Nat}
    (he : appN σ (newN (lenO S) S0 S1) = σ') (h1 : renDBs σ' S1 = some X1) (hS : setsN σ X1 S = some S') (hrf : vfl rv = true) (hrv : renD σ' rv = some rv') {nx : Act → World → Prop} {Q : Exit → Act → World → Prop}
    (k : ∀ ρ' w' u, Rel w0 n F' S' ρ' a w' → RelV S' ρ' (Rr S' ρ' w') w' u rv' → w.heap.size ≤ w'.heap.size → nx (a.put o.dst u) w') : o.wp P a w nx Q := by
  unfold isCallC at h
  split at h
  · rename_i g' c hgof hop
    split at h
    · rename_i f' cs p hc
      split at h
      · rename_i vs' q hq'
        simp at h
        obtain ⟨rfl, rfl, rfl, rfl⟩ := h
        obtain ⟨hp, hqq⟩ := allP_append ho
        obtain ⟨cal, args, ts⟩ := c
        obtain ⟨x, vals, hx, hxv, d1, d2⟩ := callC_args hr.fr hg hc hp hq' hqq
        simp only at hx; subst hx
        unfold Oper.wp
        rw [run_callC sp.1 hop hxv]
        have hin0 : ∀ i m : Nat, σ[i]? = some m → renR σ ρ i = ρ m := fun i m h => by simp [renR, h]
        have hno0 := renR_no (w := w) (ρ := ρ) (sel_len2 h0 hX)
        obtain ⟨hm0, hsh0, hlen, hR⟩ := sel_mem2 hr.mem hnd h0 hX hin0 (fun i b h => renR_sub h) hno0
        have hO : ∀ m b, m < S.length → m ∉ σ → ρ m = some b → Rr S0 (renR σ ρ) w b := fun m b hm hno hb => ⟨(hr.mem.lt m b hm hb).2, fun i hi2 => by
          unfold renR at hi2
          cases hσi : σ[i]? with
          | none => rw [hσi] at hi2; cases hi2
          | some m' =>
            rw [hσi] at hi2
            have := hr.mem.inj m _ b hm ((selS_get hX).2 i _ hσi).1 hb hi2
            subst this; exact hno (List.mem_of_getElem? hσi)⟩
        obtain ⟨e1, e2⟩ := argsOK_sound (R' := Rr S0 (renR σ ρ) w) hr.mem hR hO hsh0 ha
        have hda : RelVs S0 (renR σ ρ) w (args.toList.map a.eval ++ vals) as0 := ⟨by rw [d1, e1], fun i u y hu hy => by
          have hi : i < (appV vs' cs).length := by have := (List.getElem?_eq_some_iff.1 hy).1; omega
          exact e2 i y _ hy (List.getElem?_eq_getElem hi) u (d2 i u _ hu (List.getElem?_eq_getElem hi))⟩
        have := sp.2 w _ (renR σ ρ) hm0 hda
        have harr : (args.toList.map a.eval ++ vals).toArray = args.map a.eval ++ vals.toArray := by apply Array.ext'; simp
        rw [harr] at this
        refine this.mono ?_
        rintro e w'' ⟨v, ρ1, rfl, hm1, hv⟩
        obtain ⟨hr', hσ1, _⟩ := ret_mem2 hr hnd h0 hX hF hq hk hin0 (fun i b h => renR_sub h) hno0 (.inl hfl) he h1 hS hm1
        exact k _ w'' v hr' (renD_fwd hσ1 rv _ v (.inl hrf) hrv hv) hm1.below.size
      · simp at h
    · simp at h
  · simp at h

/-- The names that are handed on, and all others hidden. -/
noncomputable def renK (h : Nat → Prop) (n : Nat) (σ : List Nat) (ρ : Nat → Option Nat) (i : Nat) : Option Nat := match σ[i]? with
  | some m => ρ m
  | none => if memN σ (i - σ.length) then none else if i - σ.length < n then ρ (i - σ.length) else keepIf h (ρ (i - σ.length))
theorem renK_in {h : Nat → Prop} {n : Nat} {σ : List Nat} {ρ : Nat → Option Nat} {i m : Nat} (e : σ[i]? = some m) : renK h n σ ρ i = ρ m := by unfold renK; rw [e]
theorem renK_out {h : Nat → Prop} {n : Nat} {σ : List Nat} {ρ : Nat → Option Nat} {i b : Nat} (hi : σ.length ≤ i) (e : renK h n σ ρ i = some b) : ∃ m, ρ m = some b ∧ m ∉ σ ∧ (m < n ∨ h b) := by
  unfold renK at e
  rw [List.getElem?_eq_none hi] at e
  simp only at e
  split at e
  · cases e
  · rename_i hm
    split at e
    · exact ⟨_, e, fun h => hm (memN_iff.2 h), .inl ‹_›⟩
    · exact ⟨_, (keepIf_some e).1, fun h => hm (memN_iff.2 h), .inr (keepIf_some e).2⟩
theorem renK_sub {h : Nat → Prop} {n : Nat} {σ : List Nat} {ρ : Nat → Option Nat} {i b : Nat} (e : renK h n σ ρ i = some b) : ∃ m, ρ m = some b := by
  cases hσ : σ[i]? with
  | some m => exact ⟨m, by rw [← renK_in (h := h) (n := n) (ρ := ρ) hσ]; exact e⟩
  | none => obtain ⟨m, h1, _⟩ := renK_out (List.getElem?_eq_none_iff.1 hσ) e; exact ⟨m, h1⟩
theorem renK_cov {h : Nat → Prop} {n : Nat} {σ : List Nat} {ρ : Nat → Option Nat} {m k : Nat} (hm : m ∉ σ) (e : ρ m = some k) (hk : m < n ∨ h k) : ∃ j, σ.length ≤ j ∧ renK h n σ ρ j = some k := by
  refine ⟨σ.length + m, by omega, ?_⟩
  unfold renK
  rw [List.getElem?_eq_none (by omega)]
  simp only [Nat.add_sub_cancel_left]
  rw [if_neg (fun hh => hm (memN_iff.1 hh)), e]
  split
  · rfl
  · rcases hk with hk | hk
    · omega
    · exact keepIf_of hk
theorem renK_no {w0 : Base} {S S0 : List Blk} {σ : List Nat} {ρ : Nat → Option Nat} {w : World} (hm : Mem w0 S ρ w) (hlen : σ.length = S0.length) (hlt : ∀ i m : Nat, σ[i]? = some m → m < S.length) :
    ∀ k, (Base.obj w S0 (renK w0.hid S.length σ ρ)).hid k → ¬ (Base.obj w S0 (renK w0.hid S.length σ ρ)).own k := by
  rintro k ⟨j, h1, h2⟩ (h3 | ⟨i, h3, h4⟩)
  · obtain ⟨m, h5⟩ := renK_sub h2
    have := hm.hid.low m k h5
    have h6 : w.heap.size ≤ k := h3
    omega
  · have hi : i < σ.length := by omega
    have hσ := List.getElem?_eq_getElem hi
    rw [renK_in hσ] at h4
    have hl := hlt _ _ hσ
    obtain ⟨m, e1, e2, e3⟩ := renK_out (by omega) h2
    rcases e3 with e3 | e3
    · have := hm.inj m _ k e3 hl e1 h4
      subst this; exact e2 (List.mem_of_getElem? hσ)
    · exact hm.hid.no k e3 (hm.lt _ k hl h4).1

/-- A call in the machine whose results may hold what was handed in. -/
theorem callK_run {ρ : Nat → Option Nat} {a : Act} {w : World} (hr : Rel w0 n F S ρ a w) {o : Oper} {g : List Bool} {f : FuncId} {as0 avs : List V} {os : List Prop} {S0 S1 X X1 S' : List Blk} {rv rv' : V} {F' : Fr} (h : isCallC F l0 o = some (g, f, avs, os)) (hg : allT g) (sp : CtrO P f as0 S0 S1 rv) (σ : List Nat) (ho : allP os)
    (hnd : nodupN σ = true) (ha : ArgsP σ as0 avs) (h0 : renDBs σ S0 = some X) (hX : selS S σ = some X) (hF : killFs (rowNames σ S0) F = some F') (hq : quietS (rowNames σ S0) σ 0 S = true) (hk : kindsP S0 S1) {σ' : List Nat}
    (he : appN σ (newN (lenO S) S0 S1) = σ') (h1 : renDBs σ' S1 = some X1) (hS : setsN σ X1 S = some S') (hrv : renD σ' rv = some rv') {nx : Act → World → Prop} {Q : Exit → Act → World → Prop}
    (k : ∀ ρ' w' u, Rel w0 n F' S' ρ' a w' → RelV S' ρ' (Rr S' ρ' w') w' u rv' → w.heap.size ≤ w'.heap.size → nx (a.put o.dst u) w') : o.wp P a w nx Q := by
  unfold isCallC at h
  split at h
  · rename_i g' c hgof hop
    split at h
    · rename_i f' cs p hc
      split at h
      · rename_i vs' q hq'
        simp at h
        obtain ⟨rfl, rfl, rfl, rfl⟩ := h
        obtain ⟨hp, hqq⟩ := allP_append ho
        obtain ⟨cal, args, ts⟩ := c
        obtain ⟨x, vals, hx, hxv, d1, d2⟩ := callC_args hr.fr hg hc hp hq' hqq
        simp only at hx; subst hx
        unfold Oper.wp
        rw [run_callC sp.1 hop hxv]
        have hin0 : ∀ i m : Nat, σ[i]? = some m → renK w0.hid S.length σ ρ i = ρ m := fun i m h => renK_in h
        have hno0 := renK_no hr.mem (sel_len2 h0 hX) (fun i m h => ((selS_get hX).2 i m h).1)
        obtain ⟨hm0, hsh0, hlen, hR⟩ := sel_mem2 hr.mem hnd h0 hX hin0 (fun i b h => renK_sub h) hno0
        obtain ⟨e1, e2⟩ := argsP_sound (R' := Rr S0 (renK w0.hid S.length σ ρ) w) hR hsh0 ha
        have hda : RelVs S0 (renK w0.hid S.length σ ρ) w (args.toList.map a.eval ++ vals) as0 := ⟨by rw [d1, e1], fun i u y hu hy => by
          have hi : i < (appV vs' cs).length := by have := (List.getElem?_eq_some_iff.1 hy).1; omega
          exact e2 i y _ hy (List.getElem?_eq_getElem hi) u (d2 i u _ hu (List.getElem?_eq_getElem hi))⟩
        have := sp.2 w _ (renK w0.hid S.length σ ρ) hm0 hda
        have harr : (args.toList.map a.eval ++ vals).toArray = args.map a.eval ++ vals.toArray := by apply Array.ext'; simp
        rw [harr] at this
        refine this.mono ?_
        rintro e w'' ⟨v, ρ1, rfl, hm1, hv⟩
        have hcov : ∀ m k, m ∉ σ → ρ m = some k → (m < S.length ∨ w0.hid k) → ∃ j, S0.length ≤ j ∧ renK w0.hid S.length σ ρ j = some k := fun m k hm h h' => by rw [← hlen]; exact renK_cov hm h h'
        obtain ⟨hr', hσ1, hRR⟩ := ret_mem2 hr hnd h0 hX hF hq hk hin0 (fun i b h => renK_sub h) hno0 (.inr hcov) he h1 hS hm1
        exact k _ w'' v hr' (renD_fwd hσ1 rv _ v (.inr (hRR hcov)) hrv hv) hm1.below.size
      · simp at h
    · simp at h
  · simp at h

theorem ao_callC {o : Oper} {f : FuncId} {as0 avs : List V} {os : List Prop} {S0 S1 X X1 S' : List Blk} {rv rv' : V} {F' : Fr} {d : Nat} {σ' : List Nat} (h : isCallC F l0 o = some ([], f, avs, os)) (sp : CtrO P f as0 S0 S1 rv) (σ : List Nat) (ho : allP os) (hgd : o.guard = none) (hnd : nodupN σ = true)
    (ha : ArgsOK S σ as0 avs) (h0 : renDBs σ S0 = some X) (hX : selS S σ = some X) (hF : killFs (rowNames σ S0) F = some F') (hq : quietS (rowNames σ S0) σ 0 S = true) (hk : kindsP S0 S1) (hfl : bflL S1)
    (he : appN σ (newN (lenO S) S0 S1) = σ') (h1 : renDBs σ' S1 = some X1) (hS : setsN σ X1 S = some S') (hrf : vfl rv = true) (hrv : renD σ' rv = some rv') (hd : o.dst = some d) (hdn : Nat.blt d n = true)
    (k : AO P env w0 n l0 K l ((d, [], rv') :: F') S') : AO P env w0 n l0 K (o :: l) F S := by
  intro hE ρ a w hr
  refine wpList_plain hgd fun K' hK => ?_
  refine callC_run hr h trivial sp σ ho hnd ha h0 hX hF hq hk hfl he h1 hS hrf hrv fun ρ' w' u hr' hu _ => hK _ _ ?_
  rw [hd]
  exact k hE ρ' _ w' ⟨hr'.fr.put (Nat.le_of_ble_eq_true hdn) ⟨fun _ => hu, fun h => absurd trivial h⟩, hr'.mem⟩
theorem ao_callCN {o : Oper} {f : FuncId} {as0 avs : List V} {os : List Prop} {S0 S1 X X1 S' : List Blk} {rv rv' : V} {F' : Fr} {σ' : List Nat} (h : isCallC F l0 o = some ([], f, avs, os)) (sp : CtrO P f as0 S0 S1 rv) (σ : List Nat) (ho : allP os) (hgd : o.guard = none) (hnd : nodupN σ = true)
    (ha : ArgsOK S σ as0 avs) (h0 : renDBs σ S0 = some X) (hX : selS S σ = some X) (hF : killFs (rowNames σ S0) F = some F') (hq : quietS (rowNames σ S0) σ 0 S = true) (hk : kindsP S0 S1) (hfl : bflL S1)
    (he : appN σ (newN (lenO S) S0 S1) = σ') (h1 : renDBs σ' S1 = some X1) (hS : setsN σ X1 S = some S') (hrf : vfl rv = true) (hrv : renD σ' rv = some rv') (hd : o.dst = none)
    (k : AO P env w0 n l0 K l F' S') : AO P env w0 n l0 K (o :: l) F S := by
  intro hE ρ a w hr
  refine wpList_plain hgd fun K' hK => ?_
  refine callC_run hr h trivial sp σ ho hnd ha h0 hX hF hq hk hfl he h1 hS hrf hrv fun ρ' w' u hr' hu _ => hK _ _ ?_
  rw [hd]
  exact k hE ρ' _ w' hr'

theorem ao_callK {o : Oper} {f : FuncId} {as0 avs : List V} {os : List Prop} {S0 S1 X X1 S' : List Blk} {rv rv' : V} {F' : Fr} {d : Nat} {σ' : List Nat} (h : isCallC F l0 o = some ([], f, avs, os)) (sp : CtrO P f as0 S0 S1 rv) (σ : List Nat) (ho : allP os) (hgd : o.guard = none) (hnd : nodupN σ = true)
    (ha : ArgsP σ as0 avs) (h0 : renDBs σ S0 = some X) (hX : selS S σ = some X) (hF : killFs (rowNames σ S0) F = some F') (hq : quietS (rowNames σ S0) σ 0 S = true) (hk : kindsP S0 S1)
    (he : appN σ (newN (lenO S) S0 S1) = σ') (h1 : renDBs σ' S1 = some X1) (hS : setsN σ X1 S = some S') (hrv : renD σ' rv = some rv') (hd : o.dst = some d) (hdn : Nat.blt d n = true)
    (k : AO P env w0 n l0 K l ((d, [], rv') :: F') S') : AO P env w0 n l0 K (o :: l) F S := by
  intro hE ρ a w hr
  refine wpList_plain hgd fun K' hK => ?_
  refine callK_run hr h trivial sp σ ho hnd ha h0 hX hF hq hk he h1 hS hrv fun ρ' w' u hr' hu _ => hK _ _ ?_
  rw [hd]
  exact k hE ρ' _ w' ⟨hr'.fr.put (Nat.le_of_ble_eq_true hdn) ⟨fun _ => hu, fun h => absurd trivial h⟩, hr'.mem⟩
theorem ao_callKN {o : Oper} {f : FuncId} {as0 avs : List V} {os : List Prop} {S0 S1 X X1 S' : List Blk} {rv rv' : V} {F' : Fr} {σ' : List Nat} (h : isCallC F l0 o = some ([], f, avs, os)) (sp : CtrO P f as0 S0 S1 rv) (σ : List Nat) (ho : allP os) (hgd : o.guard = none) (hnd : nodupN σ = true)
    (ha : ArgsP σ as0 avs) (h0 : renDBs σ S0 = some X) (hX : selS S σ = some X) (hF : killFs (rowNames σ S0) F = some F') (hq : quietS (rowNames σ S0) σ 0 S = true) (hk : kindsP S0 S1)
    (he : appN σ (newN (lenO S) S0 S1) = σ') (h1 : renDBs σ' S1 = some X1) (hS : setsN σ X1 S = some S') (hrv : renD σ' rv = some rv') (hd : o.dst = none)
    (k : AO P env w0 n l0 K l F' S') : AO P env w0 n l0 K (o :: l) F S := by
  intro hE ρ a w hr
  refine wpList_plain hgd fun K' hK => ?_
  refine callK_run hr h trivial sp σ ho hnd ha h0 hX hF hq hk he h1 hS hrv fun ρ' w' u hr' hu _ => hK _ _ ?_
  rw [hd]
  exact k hE ρ' _ w' hr'

/-- A contract out of a walk; new blocks may be left. -/
theorem spec_objP {P : Program} {env : Env} (hE : EnvOK P env) {f : FuncId} {fn : Func} {c : Code} {rs : List ResultVar} {as0 : List V} {S0 S1 : List Blk} {rv : V} (hen : Enters P f) (hf : P.funcs[f]? = some fn) (hb : fn.body = some c)
    (hrs : fn.results = rs.toArray) (n : Nat) (hn : fn.ntmps = n) (has : as0.length ≤ n) {F0 : Fr} (hF : entryV 0 as0 = some F0) (hk : kindsP S0 S1)
    (k : ∀ w ρ, AW P env (Base.obj w S0 ρ) n c (fun e F S => (e = .normal ∨ e = .ret) ∧ retO env rs S1 rv F S) F0 S0) : CtrO P f as0 S0 S1 rv := by
  refine ⟨hen, fun w vs ρ hm hvs => ?_⟩
  obtain ⟨hl, hv⟩ := hvs
  have hle := (kindsP_get hk).1
  refine calls_of_wp hf hb (Code.wp_mono (fun e a' w' hq => ?_) (k w ρ hE ρ _ w ⟨⟨?_, rfl, fun t g v h => ?_⟩, hm⟩))
  · obtain ⟨F', S', ρ', hr, hex, vs', hres, hS, hlow, hlv, hval⟩ := hq
    obtain ⟨vals, hall, hlen, hrel⟩ := resL_run (P := P) hE hr.fr hr.mem hres
    have hrun := run_results hrs hall
    obtain ⟨G, rfl⟩ := subS_eq hS
    have hm1 : Mem (Base.obj w S0 ρ) S1 ρ' w' := by
      refine ⟨hr.mem.below, hle, fun i b hi hb => ?_, fun i b hi hb => hr.mem.lt i b (by simp; omega) hb, fun i j b hi hj => hr.mem.inj i j b (by simp; omega) (by simp; omega), hr.mem.hid.mono (by simp) (Nat.le_refl _), fun i blk hb => ?_⟩
      · obtain ⟨h1, cs, h2⟩ := hr.mem.pin i b hi hb
        have hi' : i < S1.length := Nat.lt_of_lt_of_le hi hle
        exact ⟨h1, cs, by rw [List.getElem?_append_left hi'] at h2; exact h2⟩
      · have hlt := (List.getElem?_eq_some_iff.1 hb).1
        have h := hr.mem.blk i blk (by rw [List.getElem?_append_left hlt]; exact hb)
        have hR : ∀ k, Rr (S1 ++ G) ρ' w' k → Rr S1 ρ' w' k ∧ w'.heap[k]? = w'.heap[k]? := fun k hk => ⟨hk, rfl⟩
        cases blk with
        | gone => trivial
        | cells cs =>
          obtain ⟨b, vals, ty, h1, h2, h3, h4⟩ := h
          exact ⟨b, vals, ty, h1, h2, h3, fun j v x hv hx => mono_store (V.lowL_get (by simpa [Blk.low] using lowS_get hlow hb) hx) (h4 j v x hv hx)⟩
        | ints k xs => rcases h with h | ⟨b, c, ty, h1, h2, h3, h4, h5⟩
                       · exact .inl h
                       · exact .inr ⟨b, c, ty, h1, h2, h3, h4, fun i j x hi hx => let ⟨v, hv, hr⟩ := h5 i j x hi hx; ⟨v, hv, hr.mono hR⟩⟩
        | bools xs => rcases h with h | ⟨b, c, ty, h1, h2, h3, h4, h5⟩
                      · exact .inl h
                      · exact .inr ⟨b, c, ty, h1, h2, h3, h4, fun i j x hi hx => let ⟨v, hv, hr⟩ := h5 i j x hi hx; ⟨v, hv, hr.mono hR⟩⟩
        | row esz m get => rcases h with h | ⟨b, c, ty, h1, h2, h3, h4, h5⟩
                           · exact .inl h
                           · exact .inr ⟨b, c, ty, h1, h2, h3, h4, fun i j x hi hx => let ⟨v, hv, hr⟩ := h5 i j x hi hx; ⟨v, hv, hr.mono hR⟩⟩
    have hrel' : ∀ (i : Nat) u x, vals[i]? = some u → vs'[i]? = some x → RelV S1 ρ' (Rr S1 ρ' w') w' u x := fun i u x hu hx => mono_store (V.lowL_get hlv hx) (hrel i u x hu hx)
    have done : ∃ v ρ'', Ending.returned (retVal vals) = .returned v ∧ Mem (Base.obj w S0 ρ) S1 ρ'' w' ∧ RelV S1 ρ'' (Rr S1 ρ'' w') w' v rv := by
      refine ⟨_, ρ', rfl, hm1, ?_⟩
      match vals, vs', hlen, hrel', hval with
      | [u], [v], _, hrel, hval => subst hval; exact hrel 0 u v (by simp) (by simp)
      | [], [], _, hrel, hval => simp only at hval; subst hval; exact .tup [] [] rfl fun i v x hv => by simp at hv
      | u :: u' :: ur, v :: v' :: vr, hlen, hrel, hval => simp only at hval; subst hval; exact .tup _ _ hlen fun i a b ha hb => hrel i a b ha hb
    rcases hex with rfl | rfl
    · exact ⟨hr.fr.defers, _, hrun, done⟩
    · exact ⟨hr.fr.defers, _, hrun, done⟩
  · simp [hl, hn]; omega
  · obtain ⟨rfl, j, hx, rfl⟩ := entryV_get hF h
    refine ⟨fun _ => ?_, fun h => absurd trivial h⟩
    have hj : j < vs.length := by rw [hl]; exact (List.getElem?_eq_some_iff.1 hx).1
    have hg : (vs.toArray ++ Array.replicate (fn.ntmps - vs.toArray.size) undef).getD (0 + j) undef = vs[j] := by
      rw [Nat.zero_add, Array.getD_eq_getD_getElem?, Array.getElem?_append_left (by simpa using hj)]
      simp [hj]
    rw [hg]
    exact hv j _ v (List.getElem?_eq_getElem hj) hx

end
end Go.Wk

/- Own blocks under other names, dropped, or read as data; ends of walks that say so. -/
namespace Go.Wk
set_option maxRecDepth 10000
open Go.RowKit

/-- Blocks as they are told anew, and as they stood. -/
inductive BlksOK (S : List Blk) (σ : List Nat) : List Blk → List Blk → Prop
  | nil : BlksOK S σ [] []
  | cells {cs0 cs : List V} {r x : List Blk} (h : ArgsOK S σ cs0 cs) (k : BlksOK S σ r x) : BlksOK S σ (.cells cs0 :: r) (.cells cs :: x)
  | row {b : Blk} {r x : List Blk} (h : b.isRow = true) (k : BlksOK S σ r x) : BlksOK S σ (b :: r) (b :: x)
  | gone {r x : List Blk} (k : BlksOK S σ r x) : BlksOK S σ (.gone :: r) (.gone :: x)

theorem BlksOK.get {S : List Blk} {σ : List Nat} {S0 X : List Blk} (h : BlksOK S σ S0 X) : S0.length = X.length ∧ ∀ (i : Nat) b b', S0[i]? = some b → X[i]? = some b' →
    (∃ cs0 cs, b = .cells cs0 ∧ b' = .cells cs ∧ ArgsOK S σ cs0 cs) ∨ (b.isRow = true ∧ b' = b) ∨ (b = .gone ∧ b' = .gone) := by
  induction h with
  | nil => simp
  | cells h k ih =>
    refine ⟨by simp [ih.1], fun i b b' hb hb' => ?_⟩
    cases i with
    | zero => simp at hb hb'; exact .inl ⟨_, _, hb.symm, hb'.symm, h⟩
    | succ i => exact ih.2 i b b' (by simpa using hb) (by simpa using hb')
  | row h k ih =>
    refine ⟨by simp [ih.1], fun i b b' hb hb' => ?_⟩
    cases i with
    | zero => simp at hb hb'; subst hb hb'; exact .inr (.inl ⟨h, rfl⟩)
    | succ i => exact ih.2 i b b' (by simpa using hb) (by simpa using hb')
  | gone k ih =>
    refine ⟨by simp [ih.1], fun i b b' hb hb' => ?_⟩
    cases i with
    | zero => simp at hb hb'; exact .inr (.inr ⟨hb.symm, hb'.symm⟩)
    | succ i => exact ih.2 i b b' (by simpa using hb) (by simpa using hb')

theorem ArgsOK.get {S : List Blk} {σ : List Nat} : ∀ {xa bs : List V}, ArgsOK S σ xa bs → xa.length = bs.length ∧ ∀ (i : Nat) (a b : V), xa[i]? = some a → bs[i]? = some b → ArgOK S σ a b
  | _, _, .nil => by simp
  | _, _, .cons h k => by
    obtain ⟨h1, h2⟩ := ArgsOK.get k
    refine ⟨by simp [h1], fun i a b ha hb => ?_⟩
    cases i with
    | zero => simp at ha hb; subst ha hb; exact h
    | succ i => exact h2 i a b (by simpa using ha) (by simpa using hb)

def subA (S : List Blk) (σ : List Nat) (F : Fr) : Fr → Prop
  | [] => True
  | (t, g, v) :: r => (∃ v', look F t = some (g, v') ∧ ArgOK S σ v v') ∧ subA S σ F r
theorem subA_nil {S : List Blk} {σ : List Nat} {F : Fr} : subA S σ F [] := trivial
theorem subA_cons {S : List Blk} {σ : List Nat} {F r : Fr} {t : Nat} {g : List Bool} {v v' : V} (h : look F t = some (g, v')) (h2 : ArgOK S σ v v') (k : subA S σ F r) : subA S σ F ((t, g, v) :: r) := ⟨⟨v', h, h2⟩, k⟩
theorem subA_get {S : List Blk} {σ : List Nat} {F F0 : Fr} (h : subA S σ F F0) {t : Nat} {g : List Bool} {v : V} (hl : look F0 t = some (g, v)) : ∃ v', look F t = some (g, v') ∧ ArgOK S σ v v' := by
  induction F0 with
  | nil => simp [look] at hl
  | cons x r ih =>
    obtain ⟨k, g', u⟩ := x
    simp only [look] at hl
    cases hb : Nat.beq k t with
    | true =>
      have := Nat.eq_of_beq_eq_true hb; subst this
      simp only [hb, cond_true, Option.some.injEq, Prod.mk.injEq] at hl
      obtain ⟨rfl, rfl⟩ := hl
      exact h.1
    | false =>
      simp only [hb, cond_false] at hl
      exact ih h.2 hl

section
variable {w0 : Base} {S : List Blk} {ρ : Nat → Option Nat} {w : World}

/-- The own blocks as told anew. -/
theorem sel_memA (hm : Mem w0 S ρ w) (σ : List Nat) (hnd : nodupN σ = true) {S0 X : List Blk} (hB : BlksOK S σ S0 X) (hX : selS S σ = some X) (hnl : w0.np ≤ S0.length) (hnp : ∀ i, i < w0.np → σ[i]? = some i) :
    Mem w0 S0 (renH w0.hid S.length σ ρ) w ∧ (∀ {a b : V}, ArgOK S σ a b → ∀ u, RelV S ρ (Rr S ρ w) w u b → RelV S0 (renH w0.hid S.length σ ρ) (Rr S0 (renH w0.hid S.length σ ρ) w) w u a) := by
  obtain ⟨hBl, hBg⟩ := hB.get
  obtain ⟨hsl, hsg⟩ := selS_get hX
  have hlen : σ.length = S0.length := by omega
  have named : ∀ {i : Nat}, i < S0.length → ∃ m b b', σ[i]? = some m ∧ m < S.length ∧ S0[i]? = some b ∧ S[m]? = some b' ∧ X[i]? = some b' := by
    intro i hi
    have h1 : i < σ.length := by omega
    have h2 : i < X.length := by omega
    obtain ⟨k1, k2⟩ := hsg i _ (List.getElem?_eq_getElem h1)
    exact ⟨_, _, _, List.getElem?_eq_getElem h1, k1, List.getElem?_eq_getElem hi, by rw [k2]; exact List.getElem?_eq_getElem h2, List.getElem?_eq_getElem h2⟩
  have hρ : ∀ {i m : Nat}, σ[i]? = some m → renH w0.hid S.length σ ρ i = ρ m := fun h => renH_in ρ h
  have hR : ∀ k, Rr S ρ w k → Rr S0 (renH w0.hid S.length σ ρ) w k := fun k hk => ⟨hk.1, fun i hi => let ⟨m, hm⟩ := renH_sub hi; hk.2 m hm⟩
  have hO : ∀ m b, m < S.length → m ∉ σ → ρ m = some b → Rr S0 (renH w0.hid S.length σ ρ) w b := fun m b hml hno hb => ⟨(hm.lt m b hml hb).2, fun i hi2 => by
    by_cases hi : i < S0.length
    · obtain ⟨m', _, _, h1, h2, _⟩ := named hi
      rw [hρ h1] at hi2
      have := hm.inj m m' b hml h2 hb hi2
      subst this; exact hno (List.mem_of_getElem? h1)
    · exact hm.hid.no b (renH_out (by omega) hi2) (hm.lt m b hml hb).1⟩
  have hsh : ∀ i m : Nat, σ[i]? = some m → renH w0.hid S.length σ ρ i = ρ m ∧ shape S0 i = shape S m := by
    intro i m hi
    refine ⟨hρ hi, ?_⟩
    obtain ⟨m', b, b', h1, _, h2, h3, h4⟩ := named (i := i) (by have := (List.getElem?_eq_some_iff.1 hi).1; omega)
    rw [hi] at h1; cases h1
    rcases hBg i b b' h2 h4 with ⟨cs0, cs, rfl, rfl, _⟩ | ⟨_, rfl⟩ | ⟨rfl, rfl⟩ <;> simp [shape, h2, h3, Blk.esz, Blk.len]
  have arg : ∀ {a b : V}, ArgOK S σ a b → ∀ u, RelV S ρ (Rr S ρ w) w u b → RelV S0 (renH w0.hid S.length σ ρ) (Rr S0 (renH w0.hid S.length σ ρ) w) w u a := fun h u hu => argOK_sound hm hR hO hsh h u hu
  refine ⟨⟨hm.below, hnl, fun i b hi hb => ?_, fun i b hi hb => ?_, fun i j b hi hj hbi hbj => ?_, renH_hid hm.hid hlen.symm, fun i blk hb => ?_⟩, arg⟩
  · obtain ⟨h1, cs, h2⟩ := hm.pin i b hi hb
    have hs := hnp i hi
    refine ⟨by rw [hρ hs]; exact h1, ?_⟩
    obtain ⟨m', b0, b', k1, _, k2, k3, k4⟩ := named (i := i) (by omega)
    rw [hs] at k1; cases k1
    rw [h2] at k3; cases k3
    rcases hBg i b0 _ k2 k4 with ⟨cs0, cs, rfl, _, _⟩ | ⟨hrow, rfl⟩ | ⟨_, h⟩
    · exact ⟨cs0, k2⟩
    · simp [Blk.isRow] at hrow
    · cases h
  · obtain ⟨m, _, _, h1, h2, _⟩ := named hi
    exact hm.lt m b h2 (by rw [← hρ h1]; exact hb)
  · obtain ⟨m, _, _, h1, h2, _⟩ := named hi
    obtain ⟨m', _, _, h1', h2', _⟩ := named hj
    have := hm.inj m m' b h2 h2' (by rw [← hρ h1]; exact hbi) (by rw [← hρ h1']; exact hbj)
    subst this
    exact nodupN_inj hnd h1 h1'
  · obtain ⟨m, b, b', h1, h2, h3, h4, h5⟩ := named (List.getElem?_eq_some_iff.1 hb).1
    rw [hb] at h3; cases h3
    have h := hm.blk m b' h4
    rcases hBg i blk b' hb h5 with ⟨cs0, cs, rfl, rfl, hA⟩ | ⟨hrow, rfl⟩ | ⟨rfl, rfl⟩
    · obtain ⟨e1, e2⟩ := argsOK_sound (R' := Rr S0 (renH w0.hid S.length σ ρ) w) hm hR hO hsh hA
      obtain ⟨b, vals, ty, k1, k2, k3, k4⟩ := h
      refine ⟨b, vals, ty, by rw [hρ h1]; exact k1, k2, by omega, fun j v x hv hx => ?_⟩
      have hj : j < cs.length := by have := (List.getElem?_eq_some_iff.1 hx).1; omega
      exact e2 j x _ hx (List.getElem?_eq_getElem hj) v (k4 j v _ hv (List.getElem?_eq_getElem hj))
    · have key : (renH w0.hid S.length σ ρ i = none ∧ b'.len = 0) ∨ ∃ b c ty, renH w0.hid S.length σ ρ i = some b ∧ w.heap[b]? = some (.cells c ty (0, 0)) ∧ b'.len * b'.esz ≤ c.size ∧ (∀ i, i < b'.len → (b'.get i).length = b'.esz) ∧
          ∀ (i j : Nat) x, i < b'.len → (b'.get i)[j]? = some x → ∃ v, c[i * b'.esz + j]? = some v ∧ RelD (Rr S0 (renH w0.hid S.length σ ρ) w) w v x := by
        rw [hρ h1]
        rcases h.row hrow with h | ⟨b, c, ty, k1, k2, k3, k4, k5⟩
        · exact .inl h
        · exact .inr ⟨b, c, ty, k1, k2, k3, k4, fun i j x hi hx => let ⟨v, hv, hr⟩ := k5 i j x hi hx; ⟨v, hv, hr.mono fun k hk => ⟨hR k hk, rfl⟩⟩⟩
      cases b' <;> first | (simp [Blk.isRow] at hrow; done) | exact key
    · trivial
end

theorem sel_relA {w0 : Base} {n : Nat} {F F0 : Fr} {S S0 X : List Blk} {ρ : Nat → Option Nat} {a : Act} {w : World} (hr : Rel w0 n F S ρ a w) (σ : List Nat) (hnd : nodupN σ = true) (hB : BlksOK S σ S0 X) (hX : selS S σ = some X) (hF : subA S σ F F0)
    (hnl : w0.np ≤ S0.length) (hnp : ∀ i, i < w0.np → σ[i]? = some i) : Rel w0 n F0 S0 (renH w0.hid S.length σ ρ) a w := by
  obtain ⟨hm, hv⟩ := sel_memA hr.mem σ hnd hB hX hnl hnp
  refine ⟨⟨hr.fr.size, hr.fr.defers, fun t g v hl => ?_⟩, hm⟩
  obtain ⟨v', h1, h2⟩ := subA_get hF hl
  obtain ⟨g1, g2⟩ := hr.fr.get t g v' h1
  exact ⟨fun hg => hv h2 _ (g1 hg), g2⟩

theorem aw_selA {P : Program} {env : Env} {w0 : Base} {n : Nat} {Q : Exit → Fr → List Blk → Prop} {F F0 : Fr} {S S0 X : List Blk} {c : Code} (σ : List Nat) (hnd : nodupN σ = true) (hX : selS S σ = some X) (hB : BlksOK S σ S0 X)
    (hnl : w0.np ≤ S0.length) (hnp : ∀ i, i < w0.np → σ[i]? = some i) (hF : subA S σ F F0) (k : AW P env w0 n c Q F0 S0) : AW P env w0 n c Q F S :=
  fun hE _ a w hr => k hE _ a w (sel_relA hr σ hnd hB hX hF hnl hnp)

/-- Told anew wherever a walk stands: the first names stay. -/
theorem weak_selA {F F0 : Fr} {S S0 X : List Blk} (σ : List Nat) (hnd : nodupN σ = true) (hX : selS S σ = some X) (hB : BlksOK S σ S0 X) (hF : subA S σ F F0) (hnp : ∀ i, i < S0.length → σ[i]? = some i) : Weak F S F0 S0 :=
  fun _ _ _ _ _ hn hr => ⟨_, sel_relA hr σ hnd hB hX hF hn fun i hi => hnp i (Nat.lt_of_lt_of_le hi hn)⟩

/-! ### Ends -/

def retM (env : Env) (np : Nat) (rs : List ResultVar) (S1 : List Blk) (rv : V) (F : Fr) (S : List Blk) : Prop :=
  ∃ σ vs us X, resL env F S rs = some vs ∧ nodupN σ = true ∧ selS S σ = some X ∧ BlksOK S σ S1 X ∧ (∀ i, i < np → σ[i]? = some i) ∧ ArgsOK S σ us vs ∧ match us with
    | [v] => v = rv
    | us => rv = .tup us

/-- A contract out of a walk: what is left is told anew. -/
theorem spec_mem {P : Program} {env : Env} (hE : EnvOK P env) {f : FuncId} {fn : Func} {c : Code} {rs : List ResultVar} {as0 : List V} {S0 S1 : List Blk} {rv : V} (hen : Enters P f) (hf : P.funcs[f]? = some fn) (hb : fn.body = some c)
    (hrs : fn.results = rs.toArray) (n : Nat) (hn : fn.ntmps = n) (has : as0.length ≤ n) {F0 : Fr} (hF : entryV 0 as0 = some F0) (hk : kindsP S0 S1)
    (k : ∀ w ρ, AW P env (Base.obj w S0 ρ) n c (fun e F S => (e = .normal ∨ e = .ret) ∧ retM env S0.length rs S1 rv F S) F0 S0) : CtrO P f as0 S0 S1 rv := by
  refine ⟨hen, fun w vs ρ hm hvs => ?_⟩
  obtain ⟨hl, hv⟩ := hvs
  have hle := (kindsP_get hk).1
  refine calls_of_wp hf hb (Code.wp_mono (fun e a' w' hq => ?_) (k w ρ hE ρ _ w ⟨⟨?_, rfl, fun t g v h => ?_⟩, hm⟩))
  · obtain ⟨F', S', ρ', hr, hex, σ, vs', us, X, hres, hnd, hX, hB, hnp, hA, hval⟩ := hq
    obtain ⟨vals, hall, hlen, hrel⟩ := resL_run (P := P) hE hr.fr hr.mem hres
    have hrun := run_results hrs hall
    obtain ⟨hm1, hvv⟩ := sel_memA hr.mem σ hnd hB hX hle hnp
    obtain ⟨e1, e2⟩ := hA.get
    have hrel' : vals.length = us.length ∧ ∀ (i : Nat) u x, vals[i]? = some u → us[i]? = some x → RelV S1 (renH (Base.obj w S0 ρ).hid S'.length σ ρ') (Rr S1 (renH (Base.obj w S0 ρ).hid S'.length σ ρ') w') w' u x := by
      refine ⟨by omega, fun i u x hu hx => ?_⟩
      have hi : i < vs'.length := by have := (List.getElem?_eq_some_iff.1 hx).1; omega
      exact hvv (e2 i x _ hx (List.getElem?_eq_getElem hi)) u (hrel i u _ hu (List.getElem?_eq_getElem hi))
    have done : ∃ v ρ'', Ending.returned (retVal vals) = .returned v ∧ Mem (Base.obj w S0 ρ) S1 ρ'' w' ∧ RelV S1 ρ'' (Rr S1 ρ'' w') w' v rv := by
      refine ⟨_, _, rfl, hm1, ?_⟩
      match vals, us, hrel', hval with
      | [u], [v], hrel, hval => subst hval; exact hrel.2 0 u v (by simp) (by simp)
      | [], [], hrel, hval => simp only at hval; subst hval; exact .tup [] [] rfl fun i v x hv => by simp at hv
      | u :: u' :: ur, v :: v' :: vr, hrel, hval => simp only at hval; subst hval; exact .tup _ _ hrel.1 fun i a b ha hb => hrel.2 i a b ha hb
      | [], _ :: _, hrel, _ => exact absurd hrel.1 (by simp)
      | _ :: _, [], hrel, _ => exact absurd hrel.1 (by simp)
      | [_], _ :: _ :: _, hrel, _ => exact absurd hrel.1 (by simp)
      | _ :: _ :: _, [_], hrel, _ => exact absurd hrel.1 (by simp)
    rcases hex with rfl | rfl
    · exact ⟨hr.fr.defers, _, hrun, done⟩
    · exact ⟨hr.fr.defers, _, hrun, done⟩
  · simp [hl, hn]; omega
  · obtain ⟨rfl, j, hx, rfl⟩ := entryV_get hF h
    refine ⟨fun _ => ?_, fun h => absurd trivial h⟩
    have hj : j < vs.length := by rw [hl]; exact (List.getElem?_eq_some_iff.1 hx).1
    have hg : (vs.toArray ++ Array.replicate (fn.ntmps - vs.toArray.size) undef).getD (0 + j) undef = vs[j] := by
      rw [Nat.zero_add, Array.getD_eq_getD_getElem?, Array.getElem?_append_left (by simpa using hj)]
      simp [hj]
    rw [hg]
    exact hv j _ v (List.getElem?_eq_getElem hj) hx

/-- The first names stay. -/
def preN : Nat → Nat → List Nat → Bool
  | 0, _, _ => true
  | n + 1, i, x :: r => Nat.beq x i && preN n (i + 1) r
  | _ + 1, _, [] => false
theorem preN_get : ∀ {n k : Nat} {σ : List Nat}, preN n k σ = true → ∀ i, i < n → σ[i]? = some (k + i)
  | 0, _, _, _, i, hi => absurd hi (Nat.not_lt_zero _)
  | n + 1, k, x :: r, h, i, hi => by
    simp only [preN, Bool.and_eq_true] at h
    have hx := Nat.eq_of_beq_eq_true h.1
    cases i with
    | zero => simp [hx]
    | succ i =>
      have := preN_get h.2 i (by omega)
      rw [List.getElem?_cons_succ, this]; congr 1; omega
theorem preN_out {n : Nat} {σ : List Nat} (h : preN n 0 σ = true) : ∀ i, i < n → σ[i]? = some i := fun i hi => by rw [preN_get h i hi]; simp

theorem ArgOK.deq {S : List Blk} {σ : List Nat} {x y : D} (h : x = y) : ArgOK S σ (.d x) (.d y) := by rw [h]; exact .d y
theorem BlksOK.rowE {S : List Blk} {σ : List Nat} {b b' : Blk} {r x : List Blk} (h : b.isRow = true) (e : b = b') (k : BlksOK S σ r x) : BlksOK S σ (b :: r) (b' :: x) := by rw [← e]; exact .row h k

section
variable {env : Env} {np : Nat} {rs : List ResultVar} {S1 : List Blk} {F : Fr} {S : List Blk}
theorem retM1 (σ : List Nat) {v rv : V} {X : List Blk} (h : resL env F S rs = some [v]) (hnd : nodupN σ = true) (hX : selS S σ = some X) (hp : preN np 0 σ = true) (hB : BlksOK S σ S1 X) (hA : ArgOK S σ rv v) : (Exit.ret = .normal ∨ Exit.ret = .ret) ∧ retM env np rs S1 rv F S :=
  ⟨.inr rfl, σ, [v], [rv], X, h, hnd, hX, hB, preN_out hp, .cons hA .nil, rfl⟩
theorem retM2 (σ : List Nat) {v1 v2 r1 r2 : V} {X : List Blk} (h : resL env F S rs = some [v1, v2]) (hnd : nodupN σ = true) (hX : selS S σ = some X) (hp : preN np 0 σ = true) (hB : BlksOK S σ S1 X) (h1 : ArgOK S σ r1 v1) (h2 : ArgOK S σ r2 v2) :
    (Exit.ret = .normal ∨ Exit.ret = .ret) ∧ retM env np rs S1 (.tup [r1, r2]) F S :=
  ⟨.inr rfl, σ, [v1, v2], [r1, r2], X, h, hnd, hX, hB, preN_out hp, .cons h1 (.cons h2 .nil), rfl⟩
theorem retM3 (σ : List Nat) {v1 v2 v3 r1 r2 r3 : V} {X : List Blk} (h : resL env F S rs = some [v1, v2, v3]) (hnd : nodupN σ = true) (hX : selS S σ = some X) (hp : preN np 0 σ = true) (hB : BlksOK S σ S1 X) (h1 : ArgOK S σ r1 v1) (h2 : ArgOK S σ r2 v2) (h3 : ArgOK S σ r3 v3) :
    (Exit.ret = .normal ∨ Exit.ret = .ret) ∧ retM env np rs S1 (.tup [r1, r2, r3]) F S :=
  ⟨.inr rfl, σ, [v1, v2, v3], [r1, r2, r3], X, h, hnd, hX, hB, preN_out hp, .cons h1 (.cons h2 (.cons h3 .nil)), rfl⟩
theorem retM0 (σ : List Nat) {X : List Blk} {e : Exit} (he : e = .normal ∨ e = .ret) (h : resL env F S rs = some []) (hnd : nodupN σ = true) (hX : selS S σ = some X) (hp : preN np 0 σ = true) (hB : BlksOK S σ S1 X) : (e = .normal ∨ e = .ret) ∧ retM env np rs S1 (.tup []) F S :=
  ⟨he, σ, [], [], X, h, hnd, hX, hB, preN_out hp, .nil, rfl⟩
end
end Go.Wk

/- Contracts at worlds that hold something that stays. -/
namespace Go.Wk
set_option maxRecDepth 10000
open Go.RowKit

/-- What stays in later worlds. -/
def Stays (T : World → Prop) : Prop := ∀ w w' : World, Below w.heap.size w w' → T w → T w'
def CtrT (T : World → Prop) (P : Program) (f : FuncId) (ds : List D) (rS : List Blk) (rv : V) : Prop :=
  Enters P f ∧ ∀ w vs, T w → RelDs (fun k => k < w.heap.size) w vs ds → Calls P f vs.toArray w fun e w' => ∃ v ρ, e = .returned v ∧ Out w rS ρ w' v rv
theorem Ctr.toT {T : World → Prop} {P : Program} {f : FuncId} {ds : List D} {rS : List Blk} {rv : V} (h : Ctr P f ds rS rv) : CtrT T P f ds rS rv := ⟨h.1, fun w vs _ hv => h.2 w vs hv⟩

theorem spec_ofT {T : World → Prop} {P : Program} {env : Env} (hE : EnvOK P env) {f : FuncId} {fn : Func} {c : Code} {rs : List ResultVar} {ds : List D} {rS : List Blk} {rv : V} (hen : Enters P f) (hf : P.funcs[f]? = some fn) (hb : fn.body = some c)
    (hrs : fn.results = rs.toArray) (n : Nat) (hn : fn.ntmps = n) (hds : ds.length ≤ n) {F0 : Fr} (hF : entryO 0 ds = some F0)
    (k : ∀ w0, T w0 → AW P env (Base.of w0) n c (fun e F S => (e = .normal ∨ e = .ret) ∧ retOK env rs rS rv F S) F0 []) : CtrT T P f ds rS rv := by
  rw [entryO_eq] at hF; cases hF
  refine ⟨hen, fun w vs hTw hvs => ?_⟩
  obtain ⟨hl, hv⟩ := hvs
  refine calls_of_wp hf hb (Code.wp_mono (fun e a' w' hq => ?_) (k w hTw hE (fun _ => none) _ w ⟨⟨?_, rfl, fun t g v h => ?_⟩, ⟨Kept.refl _, Nat.zero_le _, fun i b hi => absurd hi (Nat.not_lt_zero _), fun i b hi => by simp at hi, fun i j b hi => by simp at hi, ⟨fun k hk => hk.elim, fun i b hb => (by cases hb), fun k hk => hk.elim⟩, fun i blk h => by simp at h⟩⟩))
  · obtain ⟨F', S', ρ', hr, hex, vs', ns, hres, hS, hval⟩ := hq
    obtain ⟨vals, hall, hlen, hrel⟩ := resL_run (P := P) hE hr.fr hr.mem hres
    have hrun := run_results hrs hall
    have hout := out_of hr.mem hS
    have done : ∃ v ρ, Ending.returned (retVal vals) = .returned v ∧ Out w rS ρ w' v rv := by
      refine ⟨_, fun i => (ns.getD i none).bind ρ', rfl, hr.mem.below.of, hout.1, hout.2.1, hout.2.2, ?_⟩
      match vals, vs', hlen, hrel, hval with
      | [u], [v], _, hrel, hval => exact expV_out hS hval (hrel 0 u v (by simp) (by simp))
      | [], [], _, hrel, ⟨us, hus, hL⟩ =>
        subst hus
        have := (expL_get hL).1
        simp at this
        cases us with
        | nil => exact .tup [] [] rfl fun i v x hv => by simp at hv
        | cons => simp at this
      | u :: u' :: ur, v :: v' :: vr, hlen, hrel, ⟨us, hus, hL⟩ =>
        subst hus
        obtain ⟨l1, l2⟩ := expL_get hL
        exact .tup _ us (by rw [hlen, l1]) fun i a b ha hb' => by
          have hi : i < (v :: v' :: vr).length := by rw [l1]; exact (List.getElem?_eq_some_iff.1 hb').1
          exact expV_out hS (l2 i _ b (List.getElem?_eq_getElem hi) hb') (hrel i a _ ha (List.getElem?_eq_getElem hi))
    rcases hex with rfl | rfl
    · exact ⟨hr.fr.defers, _, hrun, done⟩
    · exact ⟨hr.fr.defers, _, hrun, done⟩
  · simp [hl, hn]; omega
  · obtain ⟨rfl, j, x, hx, rfl, rfl⟩ := entryF_get h
    refine ⟨fun _ => ?_, fun h => absurd trivial h⟩
    have hj : j < vs.length := by rw [hl]; exact (List.getElem?_eq_some_iff.1 hx).1
    have hg : (vs.toArray ++ Array.replicate (fn.ntmps - vs.toArray.size) undef).getD (0 + j) undef = vs[j] := by
      rw [Nat.zero_add, Array.getD_eq_getD_getElem?, Array.getElem?_append_left (by simpa using hj)]
      simp [hj]
    rw [hg]
    exact ofD_rel (fun k hk => ⟨hk, fun i hi => by simp at hi⟩) (hv j _ x (List.getElem?_eq_getElem hj) hx) _ _


section
variable {P : Program} {env : Env} {n : Nat} {l0 : List Oper} {K : Fr → List Blk → Prop} {l : List Oper} {F : Fr} {S : List Blk}
theorem ao_callRT {T : World → Prop} {w1 : World} (hT : T w1) (hst : Stays T) {o : Oper} {d : Nat} {f : FuncId} {ds : List D} {os : List Prop} {rS : List Blk} {rv : V} (h : isCall F S o n = some (d, f, ds, os)) (sp : CtrT T P f ds rS rv) (ho : allP os) {rv' : V} {S' : List Blk} (hv : shiftO (lenO S) rv = some rv') (hS : appSO (lenO S) S rS = some S')
    (k : AO P env (Base.of w1) n l0 K l ((d, [], rv') :: F) S') : AO P env (Base.of w1) n l0 K (o :: l) F S := by
  intro hE ρ a w hr
  rw [shiftO_eq] at hv; cases hv
  rw [appSO_eq] at hS; cases hS
  rw [lenO_eq, appS_eq] at k
  unfold isCall at h
  split at h
  · rename_i d' c hd hg hop
    split at h
    · rename_i f' p hc
      split at h
      · rename_i ds' q hq
        cases hn : Nat.blt d' n with
        | false => simp [hn] at h
        | true =>
          simp [hn] at h
          obtain ⟨rfl, rfl, rfl, rfl⟩ := h
          obtain ⟨hp, hq'⟩ := allP_append ho
          obtain ⟨x, hx, hxv⟩ := calleeF_sound (g := []) hr.fr trivial hc hp
          obtain ⟨cal, args, ts⟩ := c
          simp only at hx; subst hx
          refine wpList_plain hg fun K' hK => ?_
          unfold Oper.wp
          rw [run_call sp.1 hop hxv]
          have hda := dargs_sound hr.fr hr.mem (g := []) trivial hq hq'
          have := sp.2 w _ (hst w1 w hr.mem.below.of hT) hda
          have harr : (args.toList.map a.eval).toArray = args.map a.eval := by apply Array.ext'; simp
          rw [harr] at this
          refine this.mono ?_
          rintro e w'' ⟨v, ρr, rfl, hout⟩
          refine hK _ _ ?_
          rw [hd]
          exact k hE _ _ w'' (out_rel hr hout (Nat.le_of_ble_eq_true hn))
      · simp at h
    · simp at h
  · simp at h

end

theorem CtrT.args {T : World → Prop} {P : Program} {f : FuncId} {ds ds' : List D} {rS : List Blk} {rv : V} (h : CtrT T P f ds rS rv) (hd : DLes ds' ds) : CtrT T P f ds' rS rv := by
  obtain ⟨h1, h2⟩ := hd.get
  refine ⟨h.1, fun w vs hTw hvs => h.2 w vs hTw ⟨by rw [hvs.1, h1], fun i v y hv hy => ?_⟩⟩
  have hi : i < ds'.length := by have := (List.getElem?_eq_some_iff.1 hy).1; omega
  exact h2 i _ y (List.getElem?_eq_getElem hi) hy _ _ _ (hvs.2 i v _ hv (List.getElem?_eq_getElem hi))
end Go.Wk

/- Sets of numbers below 64 as the bits of a number, plainly. -/
namespace Go.Wk
set_option maxRecDepth 10000

def setN (q : Nat → Bool) : Nat → Nat
  | 0 => 0
  | m + 1 => setN q m ||| (if q m = true then 2 ^ m else 0)
theorem setN_bit (q : Nat → Bool) : ∀ (m k : Nat), (setN q m).testBit k = (decide (k < m) && q k)
  | 0, k => by simp [setN]
  | m + 1, k => by
    rw [setN, Nat.testBit_or, setN_bit q m k]
    by_cases hq : q m = true
    · rw [if_pos hq, Nat.testBit_two_pow]
      by_cases h : m = k
      · subst h; simp [hq]
      · rw [decide_eq_false h, Bool.or_false]
        congr 1; apply decide_eq_decide.2; omega
    · rw [if_neg hq, Nat.zero_testBit, Bool.or_false]
      by_cases h : m = k
      · subst h; simp at hq; simp [hq]
      · congr 1; apply decide_eq_decide.2; omega
theorem setN_lt (q : Nat → Bool) (m : Nat) : setN q m < 2 ^ m := Nat.lt_pow_two_of_testBit _ fun i hi => by rw [setN_bit, decide_eq_false (by omega)]; rfl
theorem setN_congr {q r : Nat → Bool} {m : Nat} (h : ∀ k, k < m → q k = r k) : setN q m = setN r m := Nat.eq_of_testBit_eq fun k => by
  rw [setN_bit, setN_bit]
  by_cases hk : k < m
  · rw [h k hk]
  · simp [hk]
theorem setN_none (m : Nat) : setN (fun _ => false) m = 0 := Nat.eq_of_testBit_eq fun k => by rw [setN_bit]; simp

/-- The number of a set. -/
def setI (q : Nat → Bool) : Int := (setN q 64 : Nat)
theorem setI_rng (q : Nat → Bool) : 0 ≤ setI q ∧ setI q < 18446744073709551616 := by
  have := setN_lt q 64
  unfold setI; omega
theorem setI_congr {q r : Nat → Bool} (h : ∀ k, k < 64 → q k = r k) : setI q = setI r := by unfold setI; rw [setN_congr h]
theorem setI_none : setI (fun _ => false) = 0 := by unfold setI; rw [setN_none]; rfl
theorem ofInt_nat {x : Nat} (h : x < 2 ^ 64) : (BitVec.ofInt 64 (x : Int)).toNat = x := by
  rw [BitVec.toNat_ofInt]; omega
theorem wrap_u64n {x : Nat} (h : x < 2 ^ 64) : IntKind.u64.wrap (x : Int) = x := by rw [IntKind.wrap_u64]; omega
theorem or_set (q r : Nat → Bool) : bitI .or .u64 (setI q) (setI r) = setI fun k => q k || r k := by
  have h1 := setN_lt q 64
  have h2 := setN_lt r 64
  have e : setN q 64 ||| setN r 64 = setN (fun k => q k || r k) 64 := Nat.eq_of_testBit_eq fun k => by
    rw [Nat.testBit_or, setN_bit, setN_bit, setN_bit]
    cases decide (k < 64) <;> simp
  unfold bitI setI
  simp only
  have e2 : (BitVec.ofInt IntKind.u64.bits (setN q 64 : Nat) ||| BitVec.ofInt IntKind.u64.bits (setN r 64 : Nat)).toNat = setN q 64 ||| setN r 64 := by
    rw [BitVec.toNat_or]
    show (BitVec.ofInt 64 _).toNat ||| (BitVec.ofInt 64 _).toNat = _
    rw [ofInt_nat h1, ofInt_nat h2]
  rw [e2, e, wrap_u64n (setN_lt _ _)]
theorem and_nat {a b : Nat} (ha : a < 2 ^ 64) (hb : b < 2 ^ 64) : bitI .and .u64 (a : Int) (b : Int) = ((a &&& b : Nat) : Int) := by
  unfold bitI
  simp only
  have e2 : (BitVec.ofInt IntKind.u64.bits (a : Int) &&& BitVec.ofInt IntKind.u64.bits (b : Int)).toNat = a &&& b := by
    rw [BitVec.toNat_and]
    show (BitVec.ofInt 64 _).toNat &&& (BitVec.ofInt 64 _).toNat = _
    rw [ofInt_nat ha, ofInt_nat hb]
  rw [e2, wrap_u64n (Nat.lt_of_le_of_lt Nat.and_le_left ha)]
theorem one_set {h : Int} (h0 : 0 ≤ h) (h1 : h < 64) : shlI .u64 1 h = setI fun k => decide ((k : Int) = h) := by
  obtain ⟨n, rfl⟩ := Int.eq_ofNat_of_zero_le h0
  have hn : n < 64 := by omega
  have e : setN (fun k => decide ((k : Int) = (n : Int))) 64 = 2 ^ n := Nat.eq_of_testBit_eq fun k => by
    rw [setN_bit, Nat.testBit_two_pow]
    by_cases hk : n = k
    · subst hk; simp [hn]
    · rw [decide_eq_false hk, decide_eq_false (by omega : ¬ ((k : Int) = (n : Int))), Bool.and_false]
  unfold shlI setI
  rw [e]
  have hb : min ((n : Int).toNat) IntKind.u64.bits = n := by
    have : IntKind.u64.bits = 64 := rfl
    rw [this]; simp; omega
  rw [hb, Int.one_mul]
  have : (2 : Int) ^ n = ((2 ^ n : Nat) : Int) := by simp
  rw [this]
  exact wrap_u64n (Nat.pow_lt_pow_right (by omega) hn)

/-- The first of a set that is not empty, and the others. -/
theorem ctz_spec {x : Nat} (h0 : x ≠ 0) (h : x < 2 ^ 64) : Lib.ctz 64 x < 64 ∧ x.testBit (Lib.ctz 64 x) = true ∧ (∀ j, j < Lib.ctz 64 x → x.testBit j = false) ∧ ∀ j, (x &&& (x - 1)).testBit j = (x.testBit j && !decide (j = Lib.ctz 64 x)) := by
  obtain ⟨m, e, hlt⟩ := Lib.ctzFrom_spec 64 x (by omega) h
  have hc : Lib.ctz 64 x = Lib.ctzFrom 64 x := by unfold Lib.ctz; rw [if_neg h0]
  rw [hc]
  generalize Lib.ctzFrom 64 x = k at *
  have e1 : x = 2 ^ (k + 1) * m + 2 ^ k := by rw [e, Nat.pow_succ, Nat.mul_add, Nat.mul_one, Nat.mul_assoc]
  have hp : 2 ^ k < 2 ^ (k + 1) := Nat.pow_lt_pow_right (by omega) (by omega)
  have hpos : 0 < 2 ^ k := Nat.two_pow_pos k
  have b1 : ∀ j, x.testBit j = if j < k + 1 then (2 ^ k).testBit j else m.testBit (j - (k + 1)) := fun j => by rw [e1, Nat.testBit_two_pow_mul_add m hp]
  have b2 : ∀ j, (x - 1).testBit j = if j < k + 1 then (2 ^ k - 1).testBit j else m.testBit (j - (k + 1)) := fun j => by
    rw [show x - 1 = 2 ^ (k + 1) * m + (2 ^ k - 1) by omega, Nat.testBit_two_pow_mul_add m (by omega)]
  refine ⟨hlt, by rw [b1, if_pos (by omega), Nat.testBit_two_pow]; simp, fun j hj => by rw [b1, if_pos (by omega), Nat.testBit_two_pow, decide_eq_false (by omega)], fun j => ?_⟩
  rw [Nat.testBit_and, b1, b2]
  by_cases hj : j < k + 1
  · rw [if_pos hj, if_pos hj, Nat.testBit_two_pow, Nat.testBit_two_pow_sub_one]
    by_cases hk : k = j
    · subst hk; simp
    · rw [decide_eq_false hk]; simp
  · rw [if_neg hj, if_neg hj, decide_eq_false (by omega : ¬ j = k)]
    simp

/-- The members in increasing order. -/
def setL (q : Nat → Bool) : List Nat := (List.range 64).filter q
def tailN (l : List Nat) : Nat → Bool := fun k => l.contains k
theorem sort_step {k : Nat} {r : List Nat} (hs : (k :: r).Pairwise (· < ·)) (hb : ∀ x ∈ k :: r, x < 64) :
    setN (tailN (k :: r)) 64 ≠ 0 ∧ Lib.ctz 64 (setN (tailN (k :: r)) 64) = k ∧ setN (tailN (k :: r)) 64 &&& (setN (tailN (k :: r)) 64 - 1) = setN (tailN r) 64 := by
  have hk := hb k (by simp)
  have bit : ∀ j, (setN (tailN (k :: r)) 64).testBit j = (k :: r).contains j := fun j => by
    rw [setN_bit]
    by_cases hj : (k :: r).contains j = true
    · have : j < 64 := hb j (by simpa using hj)
      simp [this, tailN]
    · simp only [Bool.not_eq_true] at hj
      simp [tailN] at hj ⊢
      simp [hj]
  have h0 : setN (tailN (k :: r)) 64 ≠ 0 := fun h => by
    have := bit k
    rw [h] at this; simp at this
  obtain ⟨c1, c2, c3, c4⟩ := ctz_spec h0 (setN_lt _ 64)
  generalize Lib.ctz 64 (setN (tailN (k :: r)) 64) = c at *
  have hc : c = k := by
    have h1 := c2
    rw [bit] at h1
    have h2 : c ∈ k :: r := by simpa using h1
    rcases List.mem_cons.1 h2 with h | h
    · exact h
    · have h3 := (List.pairwise_cons.1 hs).1 c h
      have := c3 k h3
      rw [bit] at this; simp at this
  subst hc
  refine ⟨h0, rfl, Nat.eq_of_testBit_eq fun j => ?_⟩
  rw [c4, bit, setN_bit]
  have hno : c ∉ r := fun h => by have := (List.pairwise_cons.1 hs).1 c h; omega
  by_cases hj : j = c
  · subst hj
    simp [tailN, hno]
  · simp only [decide_eq_false hj, Bool.not_false, Bool.and_true, tailN]
    by_cases hr : j ∈ r
    · have := hb j (by simp [hr])
      simp [hr, this]
    · simp [hr, hj]
theorem setL_sorted (q : Nat → Bool) : (setL q).Pairwise (· < ·) := List.Pairwise.filter _ List.pairwise_lt_range
theorem setL_lt (q : Nat → Bool) : ∀ x ∈ setL q, x < 64 := fun x hx => List.mem_range.1 (List.mem_filter.1 hx).1
theorem setN_setL (q : Nat → Bool) : setN q 64 = setN (tailN (setL q)) 64 := setN_congr fun k hk => by
  simp only [tailN, setL]
  cases hq : q k with
  | true => symm; simp [hk, hq]
  | false => symm; simp [hq]
end Go.Wk

/- Layer 26: the library's TrailingZeros64, and the list of a space. -/
namespace Go.Proofs.YtcnfggpcploehaaDoor
set_option maxRecDepth 10000
open Go.Wk

def tabT (w : World) : Prop := Go.Proofs.TabAt 0 Lib.deBruijn64tab w
theorem tab_stays : Stays tabT := fun w w' hb h j hj => by
  have h1 := h j hj
  have hlt : 0 < w.heap.size := by
    unfold World.cell? at h1
    cases hh : w.heap[0]? with
    | none => rw [hh] at h1; cases h1
    | some o => exact (Array.getElem?_eq_some_iff.1 hh).1
  rw [World.cell?_of_block (w := w) (hb.block 0 hlt)]
  exact h1

def tzRen : Go.Shelf.Ren := ⟨fun | 29 => 59 | n => n, fun | 0 => 0 | 3 => 3 | 4 => 4 | 5 => 5 | 22 => 50 | 25 => 85 | 54 => 84 | n => n, fun | 1 => 0 | n => n⟩
theorem tzLays : Go.Proofs.Lays7.n29 Tryd.prog tzRen := {
  mixed := by kernel_rfl
  f29 := by kernel_rfl
  t0 := by kernel_rfl
  a0 := fun w => by kernel_rfl
  z0 := fun w => by kernel_rfl
  v0 := fun w => by kernel_rfl
  i0 := by kernel_rfl
  t3 := by kernel_rfl
  a3 := fun w => by kernel_rfl
  z3 := fun w => by kernel_rfl
  v3 := fun w => by kernel_rfl
  i3 := by kernel_rfl
  t4 := by kernel_rfl
  a4 := fun w => by kernel_rfl
  z4 := fun w => by kernel_rfl
  v4 := fun w => by kernel_rfl
  i4 := by kernel_rfl
  t5 := by kernel_rfl
  a5 := fun w => by kernel_rfl
  z5 := fun w => by kernel_rfl
  v5 := fun w => by kernel_rfl
  i5 := by kernel_rfl
  t22 := by kernel_rfl
  a22 := fun w => by kernel_rfl
  z22 := fun w => by kernel_rfl
  v22 := fun w => by kernel_rfl
  i22 := by kernel_rfl
  t25 := by kernel_rfl
  a25 := fun w => by kernel_rfl
  z25 := fun w => by kernel_rfl
  v25 := fun w => by kernel_rfl
  i25 := by kernel_rfl
  t54 := by kernel_rfl
  a54 := fun w => by kernel_rfl
  z54 := fun w => by kernel_rfl
  g1 := by kernel_rfl }
end Go.Proofs.YtcnfggpcploehaaDoor
