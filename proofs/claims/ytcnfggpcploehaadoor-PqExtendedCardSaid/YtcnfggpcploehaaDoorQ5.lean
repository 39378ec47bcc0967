/- Laid together: C12, Mw, Mx, Mq, R26, C26a, C26b, WkWh, C26c, WkX, WkY. -/
import Derived.Deep.Slices
import Derived.ProofKit
import Derived.Carry
import Derived.Test.YtcnfggpcploehaaDoorQ4

set_option linter.all false

/- Layer 12: the next arcs. -/
namespace Go.Proofs.YtcnfggpcploehaaDoor
set_option maxRecDepth 10000
open Go.Wk

def nextL (t : Topo) (down : List Bool) (d : Int) (l : List Int) (n : Int) : List Int := if n = d ∨ gI l n < 0 then [] else (arcsL t n true).filter (onP t down d l n)
def errN (t : Topo) (down : List Bool) (n d : Int) : Int := if errS t down d = 0 then (if n < 0 ∨ t.nodes ≤ n then 2 else 0) else errS t down d
def graphD (t : Topo) (down : List Bool) (d : Int) (l : List Int) : D := .agg [iD t.nodes, boolsD t.overload, linksD t.links, boolsD down, iD d, intsD l]

theorem c12_towards0 (t : Topo) (down : List Bool) (n d : Int) (h : errN t down n d = 0) : CtrO Tryd.prog 56 [.d (topoD t), .d (boolsD down), .d (iD n), .d (iD d)] [] [.ints .i64 (distL t down d false)]
    (.tup [.agg [.d (iD t.nodes), .d (boolsD t.overload), .d (linksD t.links), .d (boolsD down), .d (iD d), .own 0], .d (iD 0)]) := by
  refine spec_mem envOK (Go.Wk.enters_of Tryd.func56 (by kernel_rfl) (by kernel_rfl)) Tryd.func56 rfl rfl _ rfl (Nat.le_of_ble_eq_true rfl) rfl (by simp [kindsP, Blk.isRow]) fun w0 ρ0 => ?_
  have hs : errS t down d = 0 ∧ ¬ (n < 0 ∨ t.nodes ≤ n) := by
    unfold errN at h
    split at h
    · split at h
      · cases h
      · exact ⟨‹_›, ‹_›⟩
    · exact absurd h ‹_›
  have hR := c_Dist t down d
  rw [hs.1] at hR
  repeat' (first
  
    |refine zA ?_|refine zB ?_|refine zC (by kernel_rfl) (by kernel_rfl) ?_|refine zD ?_|refine zE ?_|refine zF rfl trivial ?_|refine zG ?_|refine zH rfl trivial ?_|refine zI ?_|refine zJ rfl trivial ?_|refine zK ?_|refine zL rfl trivial rfl ?_|refine zM ?_|refine zN rfl trivial ?_|refine zO rfl trivial ?_|refine zP rfl trivial (fun hc => ?_) (fun hc => ?_)|refine zQ rfl trivial (fun hc => ?_) (fun hc => ?_)|refine zR rfl trivial (fun hc => ?_) (fun hc => ?_)|refine zS rfl trivial (fun hc => ?_) (fun hc => ?_)|refine zT ?_|refine zU ?_|refine zF rfl ?_ ?_|refine zH rfl ?_ ?_|refine zJ rfl ?_ ?_|refine zL rfl ?_ rfl ?_|refine zV rfl trivial rfl rfl rfl ?_|refine zW rfl rfl rfl rfl ?_|refine zX rfl rfl trivial rfl trivial rfl rfl rfl rfl rfl ?_
    | refine ao_callR rfl (hR) trivial rfl rfl ?_
    |(show allP _; first | trivial | exact ob1 (fun h => h) | exact ob2 (fun h => h) (fun h => h) | exact ob1 (fun h => ⟨h.1, trivial⟩) | (simp only [obS]; first | omega | (intros; omega) | (simp only [obL]; first | omega | (intros; omega)) | (refine ⟨?_, ?_⟩ <;> intros <;> first | (with_reducible assumption) | omega) | ((repeat' refine And.intro ?_ ?_) <;> (intros; first | (with_reducible assumption) | omega | (simp only [obL]; omega))) | ((try simp only [obB] at *); (try simp only [Blk.len] at *); first | omega | (intros; omega)) | (simp_all; done))))
  · exfalso
    simp at hc
    exact hs.2 hc
  · (exact retM2 [2] rfl rfl rfl rfl (by repeat (first | exact BlksOK.nil | refine BlksOK.cells (by repeat (first | exact ArgsOK.nil | refine ArgsOK.cons ?_ ?_ | exact ArgOK.d _ | exact ArgOK.nil | exact ArgOK.rpp _ | exact ArgOK.ptr rfl | exact ArgOK.own rfl | exact ArgOK.ep rfl | exact ArgOK.sl rfl | refine ArgOK.clo ?_ | refine ArgOK.agg ?_ | exact ArgOK.data rfl rfl | refine ArgOK.rp rfl rfl ?_ rfl | exact DatOK.nil | refine DatOK.cons rfl rfl ?_ | exact ArgOK.bot _ | exact ArgOK.deq (by rfl))) ?_ | refine BlksOK.row rfl ?_ | exact BlksOK.gone ?_ | refine BlksOK.rowE rfl (by rfl) ?_)) (by repeat (first | exact ArgsOK.nil | refine ArgsOK.cons ?_ ?_ | exact ArgOK.d _ | exact ArgOK.nil | exact ArgOK.rpp _ | exact ArgOK.ptr rfl | exact ArgOK.own rfl | exact ArgOK.ep rfl | exact ArgOK.sl rfl | refine ArgOK.clo ?_ | refine ArgOK.agg ?_ | exact ArgOK.data rfl rfl | refine ArgOK.rp rfl rfl ?_ rfl | exact DatOK.nil | refine DatOK.cons rfl rfl ?_ | exact ArgOK.bot _ | exact ArgOK.deq (by rfl))) (by repeat (first | exact ArgsOK.nil | refine ArgsOK.cons ?_ ?_ | exact ArgOK.d _ | exact ArgOK.nil | exact ArgOK.rpp _ | exact ArgOK.ptr rfl | exact ArgOK.own rfl | exact ArgOK.ep rfl | exact ArgOK.sl rfl | refine ArgOK.clo ?_ | refine ArgOK.agg ?_ | exact ArgOK.data rfl rfl | refine ArgOK.rp rfl rfl ?_ rfl | exact DatOK.nil | refine DatOK.cons rfl rfl ?_ | exact ArgOK.bot _ | exact ArgOK.deq (by rfl))))
theorem c12_towards1 (t : Topo) (down : List Bool) (n d : Int) (h : errN t down n d ≠ 0) : CtrO Tryd.prog 56 [.d (topoD t), .d (boolsD down), .d (iD n), .d (iD d)] [] []
    (.tup [.agg [.d (iD 0), .nil, .nil, .nil, .d (iD 0), .nil], .d (iD (errN t down n d))]) := by
  refine spec_mem envOK (Go.Wk.enters_of Tryd.func56 (by kernel_rfl) (by kernel_rfl)) Tryd.func56 rfl rfl _ rfl (Nat.le_of_ble_eq_true rfl) rfl (by simp [kindsP, Blk.isRow]) fun w0 ρ0 => ?_
  have hR := c_Dist t down d
  by_cases h1 : errS t down d = 0
  · have h2 : n < 0 ∨ t.nodes ≤ n := by
      unfold errN at h
      rw [if_pos h1] at h
      split at h
      · assumption
      · exact absurd rfl h
    have e : errN t down n d = 2 := by unfold errN; rw [if_pos h1, if_pos h2]
    rw [h1] at hR
    rw [e]
    repeat' (first
    
      |refine zA ?_|refine zB ?_|refine zC (by kernel_rfl) (by kernel_rfl) ?_|refine zD ?_|refine zE ?_|refine zF rfl trivial ?_|refine zG ?_|refine zH rfl trivial ?_|refine zI ?_|refine zJ rfl trivial ?_|refine zK ?_|refine zL rfl trivial rfl ?_|refine zM ?_|refine zN rfl trivial ?_|refine zO rfl trivial ?_|refine zP rfl trivial (fun hc => ?_) (fun hc => ?_)|refine zQ rfl trivial (fun hc => ?_) (fun hc => ?_)|refine zR rfl trivial (fun hc => ?_) (fun hc => ?_)|refine zS rfl trivial (fun hc => ?_) (fun hc => ?_)|refine zT ?_|refine zU ?_|refine zF rfl ?_ ?_|refine zH rfl ?_ ?_|refine zJ rfl ?_ ?_|refine zL rfl ?_ rfl ?_|refine zV rfl trivial rfl rfl rfl ?_|refine zW rfl rfl rfl rfl ?_|refine zX rfl rfl trivial rfl trivial rfl rfl rfl rfl rfl ?_
      | refine ao_callR rfl (hR) trivial rfl rfl ?_
      |(show allP _; first | trivial | exact ob1 (fun h => h) | exact ob2 (fun h => h) (fun h => h) | exact ob1 (fun h => ⟨h.1, trivial⟩) | (simp only [obS]; first | omega | (intros; omega) | (simp only [obL]; first | omega | (intros; omega)) | (refine ⟨?_, ?_⟩ <;> intros <;> first | (with_reducible assumption) | omega) | ((repeat' refine And.intro ?_ ?_) <;> (intros; first | (with_reducible assumption) | omega | (simp only [obL]; omega))) | ((try simp only [obB] at *); (try simp only [Blk.len] at *); first | omega | (intros; omega)) | (simp_all; done))))
    · (exact retM2 [] rfl rfl rfl rfl (by repeat (first | exact BlksOK.nil | refine BlksOK.cells (by repeat (first | exact ArgsOK.nil | refine ArgsOK.cons ?_ ?_ | exact ArgOK.d _ | exact ArgOK.nil | exact ArgOK.rpp _ | exact ArgOK.ptr rfl | exact ArgOK.own rfl | exact ArgOK.ep rfl | exact ArgOK.sl rfl | refine ArgOK.clo ?_ | refine ArgOK.agg ?_ | exact ArgOK.data rfl rfl | refine ArgOK.rp rfl rfl ?_ rfl | exact DatOK.nil | refine DatOK.cons rfl rfl ?_ | exact ArgOK.bot _ | exact ArgOK.deq (by rfl))) ?_ | refine BlksOK.row rfl ?_ | exact BlksOK.gone ?_ | refine BlksOK.rowE rfl (by rfl) ?_)) (by repeat (first | exact ArgsOK.nil | refine ArgsOK.cons ?_ ?_ | exact ArgOK.d _ | exact ArgOK.nil | exact ArgOK.rpp _ | exact ArgOK.ptr rfl | exact ArgOK.own rfl | exact ArgOK.ep rfl | exact ArgOK.sl rfl | refine ArgOK.clo ?_ | refine ArgOK.agg ?_ | exact ArgOK.data rfl rfl | refine ArgOK.rp rfl rfl ?_ rfl | exact DatOK.nil | refine DatOK.cons rfl rfl ?_ | exact ArgOK.bot _ | exact ArgOK.deq (by rfl))) (by repeat (first | exact ArgsOK.nil | refine ArgsOK.cons ?_ ?_ | exact ArgOK.d _ | exact ArgOK.nil | exact ArgOK.rpp _ | exact ArgOK.ptr rfl | exact ArgOK.own rfl | exact ArgOK.ep rfl | exact ArgOK.sl rfl | refine ArgOK.clo ?_ | refine ArgOK.agg ?_ | exact ArgOK.data rfl rfl | refine ArgOK.rp rfl rfl ?_ rfl | exact DatOK.nil | refine DatOK.cons rfl rfl ?_ | exact ArgOK.bot _ | exact ArgOK.deq (by rfl))))
    · exfalso
      simp at hc
      omega
  · have e : errN t down n d = errS t down d := by unfold errN; rw [if_neg h1]
    have hd : decide (errS t down d = 0) = false := decide_eq_false h1
    rw [e]
    repeat' (first
    
      |refine zA ?_|refine zB ?_|refine zC (by kernel_rfl) (by kernel_rfl) ?_|refine zD ?_|refine zE ?_|refine zF rfl trivial ?_|refine zG ?_|refine zH rfl trivial ?_|refine zI ?_|refine zJ rfl trivial ?_|refine zK ?_|refine zL rfl trivial rfl ?_|refine zM ?_|refine zN rfl trivial ?_|refine zO rfl trivial ?_|refine zP rfl trivial (fun hc => ?_) (fun hc => ?_)|refine zQ rfl trivial (fun hc => ?_) (fun hc => ?_)|refine zR rfl trivial (fun hc => ?_) (fun hc => ?_)|refine zS rfl trivial (fun hc => ?_) (fun hc => ?_)|refine zT ?_|refine zU ?_|refine zF rfl ?_ ?_|refine zH rfl ?_ ?_|refine zJ rfl ?_ ?_|refine zL rfl ?_ rfl ?_|refine zV rfl trivial rfl rfl rfl ?_|refine zW rfl rfl rfl rfl ?_|refine zX rfl rfl trivial rfl trivial rfl rfl rfl rfl rfl ?_
      | (exfalso; simp_all; done)
      | refine ao_callR rfl (hR) trivial rfl rfl ?_
      |(show allP _; first | trivial | exact ob1 (fun h => h) | exact ob2 (fun h => h) (fun h => h) | exact ob1 (fun h => ⟨h.1, trivial⟩) | (simp only [obS]; first | omega | (intros; omega) | (simp only [obL]; first | omega | (intros; omega)) | (refine ⟨?_, ?_⟩ <;> intros <;> first | (with_reducible assumption) | omega) | ((repeat' refine And.intro ?_ ?_) <;> (intros; first | (with_reducible assumption) | omega | (simp only [obL]; omega))) | ((try simp only [obB] at *); (try simp only [Blk.len] at *); first | omega | (intros; omega)) | (simp_all; done))))
    (exact retM2 [] rfl rfl rfl rfl (by repeat (first | exact BlksOK.nil | refine BlksOK.cells (by repeat (first | exact ArgsOK.nil | refine ArgsOK.cons ?_ ?_ | exact ArgOK.d _ | exact ArgOK.nil | exact ArgOK.rpp _ | exact ArgOK.ptr rfl | exact ArgOK.own rfl | exact ArgOK.ep rfl | exact ArgOK.sl rfl | refine ArgOK.clo ?_ | refine ArgOK.agg ?_ | exact ArgOK.data rfl rfl | refine ArgOK.rp rfl rfl ?_ rfl | exact DatOK.nil | refine DatOK.cons rfl rfl ?_ | exact ArgOK.bot _ | exact ArgOK.deq (by rfl))) ?_ | refine BlksOK.row rfl ?_ | exact BlksOK.gone ?_ | refine BlksOK.rowE rfl (by rfl) ?_)) (by repeat (first | exact ArgsOK.nil | refine ArgsOK.cons ?_ ?_ | exact ArgOK.d _ | exact ArgOK.nil | exact ArgOK.rpp _ | exact ArgOK.ptr rfl | exact ArgOK.own rfl | exact ArgOK.ep rfl | exact ArgOK.sl rfl | refine ArgOK.clo ?_ | refine ArgOK.agg ?_ | exact ArgOK.data rfl rfl | refine ArgOK.rp rfl rfl ?_ rfl | exact DatOK.nil | refine DatOK.cons rfl rfl ?_ | exact ArgOK.bot _ | exact ArgOK.deq (by rfl))) (by repeat (first | exact ArgsOK.nil | refine ArgsOK.cons ?_ ?_ | exact ArgOK.d _ | exact ArgOK.nil | exact ArgOK.rpp _ | exact ArgOK.ptr rfl | exact ArgOK.own rfl | exact ArgOK.ep rfl | exact ArgOK.sl rfl | refine ArgOK.clo ?_ | refine ArgOK.agg ?_ | exact ArgOK.data rfl rfl | refine ArgOK.rp rfl rfl ?_ rfl | exact DatOK.nil | refine DatOK.cons rfl rfl ?_ | exact ArgOK.bot _ | exact ArgOK.deq (by rfl))))

theorem filt_step {A : List Int} (p : Int → Bool) {i : Nat} (h : i < A.length) : (A.take (i + 1)).filter p = (A.take i).filter p ++ (if p (A.getD i 0) = true then [A.getD i 0] else []) := by
  rw [List.take_add_one, List.filter_append, List.getD_eq_getElem?_getD, List.getElem?_eq_getElem h]
  simp [List.filter_cons]
theorem filt_len (A : List Int) (p : Int → Bool) (i : Nat) : ((A.take i).filter p).length ≤ i := by
  have := List.length_filter_le p (A.take i)
  simp at this ⊢; omega
theorem onP_code (t : Topo) (down : List Bool) (d : Int) (l : List Int) (n a : Int) : onP t down d l n a = (!((decide (0 < (down.length : Int)) && down.getD a.toNat false) || decide (l.getD (headT t a).toNat 0 < 0) || (!decide (headT t a = d) && overT t (headT t a))) &&
    decide (l.getD n.toNat 0 = l.getD (headT t a).toNat 0 + costT t a)) := by
  have e1 : decide (0 < (down.length : Int)) = !decide (down.length = 0) := by by_cases h0 : down.length = 0 <;> simp [h0] <;> omega
  have e2 : ∀ z : Int, decide (0 ≤ z) = !decide (z < 0) := fun z => by by_cases h0 : z < 0 <;> simp [h0] <;> omega
  simp only [onP, upB, gI]
  rw [e1, e2]
  cases decide (down.length = 0) <;> cases down.getD a.toNat false <;> cases decide (l.getD (headT t a).toNat 0 < 0) <;> cases decide (headT t a = d) <;> cases overT t (headT t a) <;> simp
abbrev gBlk (t : Topo) (down : List Bool) (d : Int) (l : List Int) : Blk := .cells [.d (iD t.nodes), .d (boolsD t.overload), .d (linksD t.links), .d (boolsD down), .d (iD d), .d (intsD l)]

set_option maxHeartbeats 1000000 in
theorem c12_next (t : Topo) (down : List Bool) (d n : Int) (l : List Int) (hf : fitsB t down = true) (hl : (l.length : Int) = t.nodes) (hb : ∀ i : Int, 0 ≤ i → i < t.nodes → gI l i ≤ 65535 * 64 ∧ -1 ≤ gI l i) (n0 : 0 ≤ n) (n1 : n < t.nodes) :
    Ctr Tryd.prog 57 [graphD t down d l, iD n] [.ints .i64 (nextL t down d l n)] (.own 0) := by
  refine spec_of envOK (Go.Wk.enters_of Tryd.func57 (by kernel_rfl) (by kernel_rfl)) Tryd.func57 rfl rfl _ rfl (Nat.le_of_ble_eq_true rfl) rfl fun w0 => ?_
  have hv := fitsB_v hf
  repeat' (first
  
    |refine zA ?_|refine zB ?_|refine zC (by kernel_rfl) (by kernel_rfl) ?_|refine zD ?_|refine zE ?_|refine zF rfl trivial ?_|refine zG ?_|refine zH rfl trivial ?_|refine zI ?_|refine zJ rfl trivial ?_|refine zK ?_|refine zL rfl trivial rfl ?_|refine zM ?_|refine zN rfl trivial ?_|refine zO rfl trivial ?_|refine zP rfl trivial (fun hc => ?_) (fun hc => ?_)|refine zQ rfl trivial (fun hc => ?_) (fun hc => ?_)|refine zR rfl trivial (fun hc => ?_) (fun hc => ?_)|refine zS rfl trivial (fun hc => ?_) (fun hc => ?_)|refine zT ?_|refine zU ?_|refine zF rfl ?_ ?_|refine zH rfl ?_ ?_|refine zJ rfl ?_ ?_|refine zL rfl ?_ rfl ?_|refine zV rfl trivial rfl rfl rfl ?_|refine zW rfl rfl rfl rfl ?_|refine zX rfl rfl trivial rfl trivial rfl rfl rfl rfl rfl ?_
    | refine ao_callR rfl (c_Out _ _) trivial rfl rfl ?_
    |(show allP _; first | trivial | exact ob1 (fun h => h) | exact ob2 (fun h => h) (fun h => h) | exact ob1 (fun h => ⟨h.1, trivial⟩) | (simp only [obS]; first | omega | (intros; omega) | (simp only [obL]; first | omega | (intros; omega)) | (refine ⟨?_, ?_⟩ <;> intros <;> first | (with_reducible assumption) | omega) | ((repeat' refine And.intro ?_ ?_) <;> (intros; first | (with_reducible assumption) | omega | (simp only [obL]; omega))) | ((try simp only [obB] at *); (try simp only [Blk.len] at *); first | omega | (intros; omega)) | (simp_all; done))))
  · refine fin_ret ?_; exact retNil rfl (by simp only [nextL]; rw [if_pos (by simpa [gI] using hc)]; rfl) trivial
  · refine aw_weak (weak_nil (t := 5) (.ints .i64 []) rfl rfl rfl rfl rfl) (Nat.le_of_ble_eq_true rfl) ?_
    have hnx : nextL t down d l n = (arcsL t n true).filter (onP t down d l n) := by
      unfold nextL; rw [if_neg (by simpa [gI] using hc)]
    have hmem : ∀ a ∈ arcsL t n true, 0 ≤ a ∧ a < 2 * t.links.length := fun a ha => by
      have := (mem_arcsL hv).1 ha; exact ⟨this.1, this.2.1⟩
    have hlen := arcsL_len hv n true
    rw [hnx]
    generalize arcsL t n true = A at *
    have hbn : l.getD n.toNat 0 ≤ 65535 * 64 ∧ -1 ≤ l.getD n.toNat 0 := hb n n0 n1
    refine aw_loop (ι := Nat) (fun i => [(26, [], .d (iD i)), (25, [], .d (iD A.length)), (24, [], .own 1), (5, [], .own 2), (2, [], .ptr 0 0), (1, [], .d (iD n))]) (fun i => [gBlk t down d l, .ints .i64 A, .ints .i64 ((A.take i).filter (onP t down d l n))])
      (fun i => i ≤ A.length) (fun i => A.length - i) 0 (by simp) (fun _ => Nat.le_of_ble_eq_true rfl) (by refine weak_to ?_ ?_ rfl rfl
                                                                                                           · repeat (first | exact subF_nil | refine subF_cons (by first | rfl | (simp [look]; done)) ?_)
                                                                                                           · repeat (first | exact subS_nil | refine subS_cons (by first | rfl | (simp; done)) ?_)) fun i hi => ?_
    have hfl := filt_len A (onP t down d l n) i
    by_cases hil : i < A.length
    · have hst : (A.take (i + 1)).filter (onP t down d l n) = (A.take i).filter (onP t down d l n) ++ (if onP t down d l n (A.getD (Int.toNat (i : Int)) 0) = true then [A.getD (Int.toNat (i : Int)) 0] else []) := filt_step (onP t down d l n) hil
      obtain ⟨a0, a1⟩ := hmem (A.getD (Int.toNat (i : Int)) 0) (getD_mem (by simpa using hil))
      have ha := arc_ok hv a0 a1
      have hok := up_ok hf a0 a1
      have hbh : l.getD (headT t (A.getD (Int.toNat (i : Int)) 0)).toNat 0 ≤ 65535 * 64 ∧ -1 ≤ l.getD (headT t (A.getD (Int.toNat (i : Int)) 0)).toNat 0 := hb _ ha.2.2.1 ha.2.2.2.1
      have hpx := onP_code t down d l n (A.getD (Int.toNat (i : Int)) 0)
      have hbi : (i : Int) < (Blk.ints .i64 A).len := by simp [Blk.len]; omega
      repeat' (first
      
        |refine zA ?_|refine zB ?_|refine zC (by kernel_rfl) (by kernel_rfl) ?_|refine zD ?_|refine zE ?_|refine zF rfl trivial ?_|refine zG ?_|refine zH rfl trivial ?_|refine zI ?_|refine zJ rfl trivial ?_|refine zK ?_|refine zL rfl trivial rfl ?_|refine zM ?_|refine zN rfl trivial ?_|refine zO rfl trivial ?_|refine zP rfl trivial (fun hc => ?_) (fun hc => ?_)|refine zQ rfl trivial (fun hc => ?_) (fun hc => ?_)|refine zR rfl trivial (fun hc => ?_) (fun hc => ?_)|refine zS rfl trivial (fun hc => ?_) (fun hc => ?_)|refine zT ?_|refine zU ?_|refine zF rfl ?_ ?_|refine zH rfl ?_ ?_|refine zJ rfl ?_ ?_|refine zL rfl ?_ rfl ?_|refine zV rfl trivial rfl rfl rfl ?_|refine zW rfl rfl rfl rfl ?_|refine zX rfl rfl trivial rfl trivial rfl rfl rfl rfl rfl ?_
        | (exfalso; omega)
        | (first | refine ao_call rfl (c_Head _ _) rfl ?_ ?_ | refine aq_call rfl (c_Head _ _) rfl ?_ ?_)
        | (first | refine ao_call rfl (c_Cost _ _) rfl ?_ ?_ | refine aq_call rfl (c_Cost _ _) rfl ?_ ?_)
        | (first | refine ao_call rfl (c_Overloaded _ _) rfl ?_ ?_ | refine aq_call rfl (c_Overloaded _ _) rfl ?_ ?_)
        | refine ao_lit rfl rfl rfl rfl trivial rfl rfl rfl rfl rfl rfl ?_
        | refine ao_app rfl rfl rfl rfl trivial rfl trivial rfl rfl trivial rfl rfl rfl rfl rfl (by simp [Blk.len]; omega) rfl rfl rfl ?_
        |(show allP _; first | trivial | exact ob1 (fun h => h) | exact ob2 (fun h => h) (fun h => h) | exact ob1 (fun h => ⟨h.1, trivial⟩) | (simp only [obS]; first | omega | (intros; omega) | (simp only [obL]; first | omega | (intros; omega)) | (refine ⟨?_, ?_⟩ <;> intros <;> first | (with_reducible assumption) | omega) | ((repeat' refine And.intro ?_ ?_) <;> (intros; first | (with_reducible assumption) | omega | (simp only [obL]; omega))) | ((try simp only [obB] at *); (try simp only [Blk.len] at *); first | omega | (intros; omega)) | (simp_all; done))))
      · rw [show onP t down d l n (A.getD (Int.toNat (i : Int)) 0) = false by rw [hpx, hc]; rfl] at hst
        simp only [Bool.false_eq_true, if_false, List.append_nil] at hst
        refine ⟨i + 1, by omega, by omega, ?_⟩
        refine weak_to ?_ ?_ rfl rfl
        · repeat (first | exact subF_nil | refine subF_cons (by first | rfl | (simp [look]; done)) ?_)
        · repeat (first | exact subS_nil | refine subS_cons (by first | rfl | (rw [hst] <;> rfl)) ?_)
      · have hC : (decide (0 < (down.length : Int)) && down.getD (A.getD (Int.toNat (i : Int)) 0).toNat false || decide (l.getD (headT t (A.getD (Int.toNat (i : Int)) 0)).toNat 0 < 0) || !decide (headT t (A.getD (Int.toNat (i : Int)) 0) = d) && overT t (headT t (A.getD (Int.toNat (i : Int)) 0))) = false := by assumption
        rw [show onP t down d l n (A.getD (Int.toNat (i : Int)) 0) = true by rw [hpx, hC, decide_eq_true hc]; rfl] at hst
        simp only [if_true] at hst
        refine ⟨i + 1, by omega, by omega, ?_⟩
        refine weak_to ?_ ?_ rfl rfl
        · repeat (first | exact subF_nil | refine subF_cons (by first | rfl | (simp [look]; done)) ?_)
        · repeat (first | exact subS_nil | refine subS_cons (by first | rfl | (rw [hst] <;> rfl)) ?_)
      · have hC : (decide (0 < (down.length : Int)) && down.getD (A.getD (Int.toNat (i : Int)) 0).toNat false || decide (l.getD (headT t (A.getD (Int.toNat (i : Int)) 0)).toNat 0 < 0) || !decide (headT t (A.getD (Int.toNat (i : Int)) 0) = d) && overT t (headT t (A.getD (Int.toNat (i : Int)) 0))) = false := by assumption
        rw [show onP t down d l n (A.getD (Int.toNat (i : Int)) 0) = false by rw [hpx, hC, decide_eq_false hc]; rfl] at hst
        simp only [Bool.false_eq_true, if_false, List.append_nil] at hst
        refine ⟨i + 1, by omega, by omega, ?_⟩
        refine weak_to ?_ ?_ rfl rfl
        · repeat (first | exact subF_nil | refine subF_cons (by first | rfl | (simp [look]; done)) ?_)
        · repeat (first | exact subS_nil | refine subS_cons (by first | rfl | (rw [hst] <;> rfl)) ?_)
    · repeat' (first
      
        |refine zA ?_|refine zB ?_|refine zC (by kernel_rfl) (by kernel_rfl) ?_|refine zD ?_|refine zE ?_|refine zF rfl trivial ?_|refine zG ?_|refine zH rfl trivial ?_|refine zI ?_|refine zJ rfl trivial ?_|refine zK ?_|refine zL rfl trivial rfl ?_|refine zM ?_|refine zN rfl trivial ?_|refine zO rfl trivial ?_|refine zP rfl trivial (fun hc => ?_) (fun hc => ?_)|refine zQ rfl trivial (fun hc => ?_) (fun hc => ?_)|refine zR rfl trivial (fun hc => ?_) (fun hc => ?_)|refine zS rfl trivial (fun hc => ?_) (fun hc => ?_)|refine zT ?_|refine zU ?_|refine zF rfl ?_ ?_|refine zH rfl ?_ ?_|refine zJ rfl ?_ ?_|refine zL rfl ?_ rfl ?_|refine zV rfl trivial rfl rfl rfl ?_|refine zW rfl rfl rfl rfl ?_|refine zX rfl rfl trivial rfl trivial rfl rfl rfl rfl rfl ?_
        | (exfalso; omega)
        |(show allP _; first | trivial | exact ob1 (fun h => h) | exact ob2 (fun h => h) (fun h => h) | exact ob1 (fun h => ⟨h.1, trivial⟩) | (simp only [obS]; first | omega | (intros; omega) | (simp only [obL]; first | omega | (intros; omega)) | (refine ⟨?_, ?_⟩ <;> intros <;> first | (with_reducible assumption) | omega) | ((repeat' refine And.intro ?_ ?_) <;> (intros; first | (with_reducible assumption) | omega | (simp only [obL]; omega))) | ((try simp only [obB] at *); (try simp only [Blk.len] at *); first | omega | (intros; omega)) | (simp_all; done))))
      refine fin_ret ?_; exact retOwn rfl rfl (by rw [List.take_of_length_le (by omega)]) trivial

noncomputable def nextR (t : Topo) (down : List Bool) (n d : Int) : List Int := if errN t down n d = 0 then nextL t down d (distL t down d false) n else []
theorem errN_0 {t : Topo} {down : List Bool} {n d : Int} (h : errN t down n d = 0) : errS t down d = 0 ∧ 0 ≤ n ∧ n < t.nodes := by
  unfold errN at h
  split at h
  · split at h
    · cases h
    · exact ⟨‹_›, by omega, by omega⟩
  · exact absurd h ‹_›
theorem c12_Next (t : Topo) (down : List Bool) (n d : Int) : Ctr Tryd.prog 38 [topoD t, boolsD down, iD n, iD d] [.ints .i64 (nextR t down n d)] (.tup [.own 0, .d (iD (errN t down n d))]) := by
  by_cases h : errN t down n d = 0
  · refine spec_of envOK (Go.Wk.enters_of Tryd.func38 (by kernel_rfl) (by kernel_rfl)) Tryd.func38 rfl rfl _ rfl (Nat.le_of_ble_eq_true rfl) rfl fun w0 => ?_
    obtain ⟨hs, n0, n1⟩ := errN_0 h
    have hI := distL_is (fr := false) hs
    have hb := distL_bnd (fr := false) hs
    have hN := c12_next t down d n (distL t down d false) (errS_0 hs).1 hI.len (fun i i0 i1 => ⟨hb i i0 i1, by have := hI.sign i i0 i1; omega⟩) n0 n1
    repeat' (first
    
      |refine zA ?_|refine zB ?_|refine zC (by kernel_rfl) (by kernel_rfl) ?_|refine zD ?_|refine zE ?_|refine zF rfl trivial ?_|refine zG ?_|refine zH rfl trivial ?_|refine zI ?_|refine zJ rfl trivial ?_|refine zK ?_|refine zL rfl trivial rfl ?_|refine zM ?_|refine zN rfl trivial ?_|refine zO rfl trivial ?_|refine zP rfl trivial (fun hc => ?_) (fun hc => ?_)|refine zQ rfl trivial (fun hc => ?_) (fun hc => ?_)|refine zR rfl trivial (fun hc => ?_) (fun hc => ?_)|refine zS rfl trivial (fun hc => ?_) (fun hc => ?_)|refine zT ?_|refine zU ?_|refine zF rfl ?_ ?_|refine zH rfl ?_ ?_|refine zJ rfl ?_ ?_|refine zL rfl ?_ rfl ?_|refine zV rfl trivial rfl rfl rfl ?_|refine zW rfl rfl rfl rfl ?_|refine zX rfl rfl trivial rfl trivial rfl rfl rfl rfl rfl ?_
      | refine ao_callK rfl (c12_towards0 t down n d h) [] trivial rfl rfl (by repeat (first | exact ArgsP.nil | refine ArgsP.cons ?_ ?_ | exact ArgP.d _ | exact ArgP.nil | exact ArgP.nild | exact ArgP.ptr rfl | exact ArgP.own rfl | exact ArgP.ep rfl | exact ArgP.sl rfl | exact ArgP.rpp _ | refine ArgP.clo ?_ | refine ArgP.agg ?_ | refine ArgP.aggd ?_ | exact DatP.nil | refine DatP.d _ ?_ | refine DatP.nild ?_ | exact ArgP.bot _)) rfl rfl rfl rfl (by simp [kindsP, Blk.isRow]) rfl rfl rfl rfl rfl rfl ?_
      | refine ao_callR rfl (hN) trivial rfl rfl ?_
      |(show allP _; first | trivial | exact ob1 (fun h => h) | exact ob2 (fun h => h) (fun h => h) | exact ob1 (fun h => ⟨h.1, trivial⟩) | (simp only [obS]; first | omega | (intros; omega) | (simp only [obL]; first | omega | (intros; omega)) | (refine ⟨?_, ?_⟩ <;> intros <;> first | (with_reducible assumption) | omega) | ((repeat' refine And.intro ?_ ?_) <;> (intros; first | (with_reducible assumption) | omega | (simp only [obL]; omega))) | ((try simp only [obB] at *); (try simp only [Blk.len] at *); first | omega | (intros; omega)) | (simp_all; done))))
    refine fin_ret ?_; exact retOwn2 rfl rfl (by unfold nextR; rw [if_pos h]) (by rw [h]) trivial rfl
  · refine spec_of envOK (Go.Wk.enters_of Tryd.func38 (by kernel_rfl) (by kernel_rfl)) Tryd.func38 rfl rfl _ rfl (Nat.le_of_ble_eq_true rfl) rfl fun w0 => ?_
    repeat' (first
    
      |refine zA ?_|refine zB ?_|refine zC (by kernel_rfl) (by kernel_rfl) ?_|refine zD ?_|refine zE ?_|refine zF rfl trivial ?_|refine zG ?_|refine zH rfl trivial ?_|refine zI ?_|refine zJ rfl trivial ?_|refine zK ?_|refine zL rfl trivial rfl ?_|refine zM ?_|refine zN rfl trivial ?_|refine zO rfl trivial ?_|refine zP rfl trivial (fun hc => ?_) (fun hc => ?_)|refine zQ rfl trivial (fun hc => ?_) (fun hc => ?_)|refine zR rfl trivial (fun hc => ?_) (fun hc => ?_)|refine zS rfl trivial (fun hc => ?_) (fun hc => ?_)|refine zT ?_|refine zU ?_|refine zF rfl ?_ ?_|refine zH rfl ?_ ?_|refine zJ rfl ?_ ?_|refine zL rfl ?_ rfl ?_|refine zV rfl trivial rfl rfl rfl ?_|refine zW rfl rfl rfl rfl ?_|refine zX rfl rfl trivial rfl trivial rfl rfl rfl rfl rfl ?_
      | (exfalso; exact h (by assumption))
      | refine ao_callK rfl (c12_towards1 t down n d h) [] trivial rfl rfl (by repeat (first | exact ArgsP.nil | refine ArgsP.cons ?_ ?_ | exact ArgP.d _ | exact ArgP.nil | exact ArgP.nild | exact ArgP.ptr rfl | exact ArgP.own rfl | exact ArgP.ep rfl | exact ArgP.sl rfl | exact ArgP.rpp _ | refine ArgP.clo ?_ | refine ArgP.agg ?_ | refine ArgP.aggd ?_ | exact DatP.nil | refine DatP.d _ ?_ | refine DatP.nild ?_ | exact ArgP.bot _)) rfl rfl rfl rfl (by simp [kindsP, Blk.isRow]) rfl rfl rfl rfl rfl rfl ?_
      |(show allP _; first | trivial | exact ob1 (fun h => h) | exact ob2 (fun h => h) (fun h => h) | exact ob1 (fun h => ⟨h.1, trivial⟩) | (simp only [obS]; first | omega | (intros; omega) | (simp only [obL]; first | omega | (intros; omega)) | (refine ⟨?_, ?_⟩ <;> intros <;> first | (with_reducible assumption) | omega) | ((repeat' refine And.intro ?_ ?_) <;> (intros; first | (with_reducible assumption) | omega | (simp only [obL]; omega))) | ((try simp only [obB] at *); (try simp only [Blk.len] at *); first | omega | (intros; omega)) | (simp_all; done))))
    refine fin_ret ?_; exact retNil2 rfl (by unfold nextR; rw [if_neg h]; rfl) rfl trivial rfl
end Go.Proofs.YtcnfggpcploehaaDoor

/- Walks, plainly: what distances say of them; the reference's Path. -/
namespace Go.Proofs.YtcnfggpcploehaaDoor
set_option maxRecDepth 10000
open Go.Wk

/-- The arcs lead from one node to another; the nodes between are not overloaded; no arc is down. -/
def Pth (t : Topo) (down : List Bool) : Int → List Int → Int → Prop
  | x, [], y => x = y
  | x, a :: r, y => 0 ≤ a ∧ a < 2 * t.links.length ∧ upB down a = true ∧ tailT t a = x ∧ (r ≠ [] → overT t (headT t a) = false) ∧ Pth t down (headT t a) r y
def costP (t : Topo) (l : List Int) : Int := (l.map (costT t)).sum
theorem costP_cons (t : Topo) (a : Int) (r : List Int) : costP t (a :: r) = costT t a + costP t r := by simp [costP]
theorem costP_app (t : Topo) (a b : List Int) : costP t (a ++ b) = costP t a + costP t b := by simp [costP]

section
variable {t : Topo} {down : List Bool} {x y : Int} {l : List Int}

theorem Pth.snoc : ∀ {L : List Int} {x y : Int} {a : Int}, Pth t down x (L ++ [a]) y ↔ ∃ m, Pth t down x L m ∧ 0 ≤ a ∧ a < 2 * t.links.length ∧ upB down a = true ∧ tailT t a = m ∧ headT t a = y ∧ (L ≠ [] → overT t m = false)
  | [], x, y, a => by
    simp only [List.nil_append, Pth]
    constructor
    · rintro ⟨h1, h2, h3, h4, _, h5⟩; exact ⟨x, rfl, h1, h2, h3, h4, h5, fun h => absurd rfl h⟩
    · rintro ⟨m, rfl, h1, h2, h3, h4, h5, _⟩; exact ⟨h1, h2, h3, h4, fun h => absurd rfl h, h5⟩
  | b :: r, x, y, a => by
    simp only [List.cons_append, Pth]
    constructor
    · rintro ⟨h1, h2, h3, h4, h5, h6⟩
      obtain ⟨m, k1, k2, k3, k4, k5, k6, k7⟩ := Pth.snoc.1 h6
      have hno := h5 (by simp)
      refine ⟨m, ⟨h1, h2, h3, h4, fun _ => hno, k1⟩, k2, k3, k4, k5, k6, fun _ => ?_⟩
      cases r with
      | nil => simp only [Pth] at k1; rw [← k1]; exact hno
      | cons c q => exact k7 (by simp)
    · rintro ⟨m, ⟨h1, h2, h3, h4, h5, h6⟩, k2, k3, k4, k5, k6, k7⟩
      refine ⟨h1, h2, h3, h4, fun _ => ?_, Pth.snoc.2 ⟨m, h6, k2, k3, k4, k5, k6, fun _ => k7 (by simp)⟩⟩
      cases r with
      | nil => simp only [Pth] at h6; rw [h6]; exact k7 (by simp)
      | cons c q => exact h5 (by simp)

theorem IsDist.walk_to (hv : validB t = true) (hl : IsDist t down y false l) : ∀ (L : List Int) (x : Int), Pth t down x L y → 0 ≤ gI l x ∧ gI l x ≤ costP t L
  | [], x, h => by simp only [Pth] at h; rw [h, hl.self]; simp [costP]
  | a :: r, x, h => by
    obtain ⟨h1, h2, h3, h4, h5, h6⟩ := h
    have ih := IsDist.walk_to hv hl r _ h6
    have hok : okA t down y false a := ⟨h3, by
      simp only [nearT, cond_false]
      cases r with
      | nil => simp only [Pth] at h6; exact .inl h6
      | cons c q => exact .inr (h5 (by simp))⟩
    have := hl.close a h1 h2 hok ih.1
    simp only [nearT, farT, cond_false] at this
    rw [h4] at this
    rw [costP_cons]; omega
theorem IsDist.walk_from (hv : validB t = true) (hl : IsDist t down x true l) : ∀ (k : Nat) (L : List Int) (y : Int), L.length = k → Pth t down x L y → 0 ≤ gI l y ∧ gI l y ≤ costP t L := by
  intro k
  induction k with
  | zero =>
    intro L y hk h
    have := List.length_eq_zero_iff.1 hk
    subst this
    simp only [Pth] at h; rw [← h, hl.self]; simp [costP]
  | succ k ih =>
    intro L y hk h
    have hne : L ≠ [] := by intro e; subst e; simp at hk
    obtain ⟨M, a, rfl⟩ : ∃ M a, L = M ++ [a] := ⟨L.dropLast, L.getLast hne, (List.dropLast_concat_getLast hne).symm⟩
    obtain ⟨m, h1, h2, h3, h4, h5, h6, h7⟩ := Pth.snoc.1 h
    have i := ih M m (by simpa using hk) h1
    have hok : okA t down x true a := ⟨h4, by
      simp only [nearT, cond_true]
      rw [h5]
      cases M with
      | nil => simp only [Pth] at h1; exact .inl h1.symm
      | cons c q => exact .inr (h7 (by simp))⟩
    have := hl.close a h2 h3 hok (by simp only [nearT, cond_true]; rw [h5]; exact i.1)
    simp only [nearT, farT, cond_true] at this
    rw [h5, h6] at this
    rw [costP_app]
    have : costP t [a] = costT t a := by simp [costP]
    omega
theorem IsDist.some_to (hv : validB t = true) (hl : IsDist t down y false l) : ∀ (k : Nat) (x : Int), 0 ≤ x → x < t.nodes → 0 ≤ gI l x → gI l x ≤ k → ∃ L, Pth t down x L y ∧ costP t L = gI l x := by
  intro k
  induction k using Nat.strongRecOn with
  | _ k ih =>
    intro x x0 x1 hx hk
    by_cases hxy : x = y
    · exact ⟨[], hxy, by rw [hxy, hl.self]; rfl⟩
    · obtain ⟨a, a0, a1, a2, a3, a4, a5⟩ := hl.ground x x0 x1 hxy hx
      have hb := arc_ok hv a0 a1
      simp only [nearT, farT, cond_false] at a3 a4 a5
      obtain ⟨L, h1, h2⟩ := ih (k - 1) (by omega) (headT t a) hb.2.2.1 hb.2.2.2.1 a4 (by omega)
      rcases a2 with ⟨up, tr⟩
      simp only [nearT, cond_false] at tr
      by_cases hy : headT t a = y
      · refine ⟨[a], ⟨a0, a1, up, a3, fun h => absurd rfl h, hy⟩, ?_⟩
        rw [hy, hl.self] at a5
        have : costP t [a] = costT t a := by simp [costP]
        omega
      · refine ⟨a :: L, ⟨a0, a1, up, a3, fun _ => tr.resolve_left hy, h1⟩, ?_⟩
        rw [costP_cons]; omega
theorem IsDist.some_from (hv : validB t = true) (hl : IsDist t down x true l) : ∀ (k : Nat) (y : Int), 0 ≤ y → y < t.nodes → 0 ≤ gI l y → gI l y ≤ k → ∃ L, Pth t down x L y ∧ costP t L = gI l y := by
  intro k
  induction k using Nat.strongRecOn with
  | _ k ih =>
    intro y y0 y1 hy hk
    by_cases hxy : y = x
    · exact ⟨[], hxy.symm, by rw [hxy, hl.self]; rfl⟩
    · obtain ⟨a, a0, a1, a2, a3, a4, a5⟩ := hl.ground y y0 y1 hxy hy
      have hb := arc_ok hv a0 a1
      simp only [nearT, farT, cond_true] at a3 a4 a5
      obtain ⟨L, h1, h2⟩ := ih (k - 1) (by omega) (tailT t a) hb.1 hb.2.1 a4 (by omega)
      rcases a2 with ⟨up, tr⟩
      simp only [nearT, cond_true] at tr
      by_cases hx : tailT t a = x
      · refine ⟨[a], ⟨a0, a1, up, hx, fun h => absurd rfl h, a3⟩, ?_⟩
        rw [hx, hl.self] at a5
        have : costP t [a] = costT t a := by simp [costP]
        omega
      · refine ⟨L ++ [a], Pth.snoc.2 ⟨_, h1, a0, a1, up, rfl, a3, fun _ => tr.resolve_left hx⟩, ?_⟩
        rw [costP_app]
        have : costP t [a] = costT t a := by simp [costP]
        omega

/-- The distance from s to d is the same in both searches. -/
theorem dist_both (hv : validB t = true) {s d : Int} {a b : List Int} (s0 : 0 ≤ s) (s1 : s < t.nodes) (d0 : 0 ≤ d) (d1 : d < t.nodes) (ha : IsDist t down s true a) (hb : IsDist t down d false b) : gI a d = gI b s := by
  have sa := ha.sign d d0 d1
  have sb := hb.sign s s0 s1
  by_cases h : 0 ≤ gI a d
  · obtain ⟨L, h1, h2⟩ := ha.some_from hv (gI a d).toNat d d0 d1 h (by omega)
    have k := hb.walk_to hv L s h1
    obtain ⟨M, m1, m2⟩ := hb.some_to hv (gI b s).toNat s s0 s1 k.1 (by omega)
    have q := ha.walk_from hv M.length M d rfl m1
    omega
  · by_cases h' : 0 ≤ gI b s
    · obtain ⟨M, m1, m2⟩ := hb.some_to hv (gI b s).toNat s s0 s1 h' (by omega)
      have q := ha.walk_from hv M.length M d rfl m1
      omega
    · omega

/-! ### The reference's Path -/

def pthF (t : Topo) : Bool → Int → Int → List Int → Int × Int × Int
  | _, n, c, [] => (n, c, 0)
  | first, n, c, a :: r =>
    if !arcIn t a then (0, 0, 2) else if !decide (tailT t a = n) || (!first && overT t n) then (0, 0, 4) else pthF t false (headT t a) (c + costT t a) r
def pth9 (t : Topo) (n : Int) (l : List Int) : Int × Int × Int :=
  if validB t = true then (if n < 0 ∨ t.nodes ≤ n then (0, 0, 2) else pthF t true n 0 l) else (0, 0, 1)

theorem arcIn_b {a : Int} (hv : validB t = true) (h : arcIn t a = true) : 0 ≤ a ∧ a < 2 * t.links.length := by
  simp only [arcIn, Bool.and_eq_true, decide_eq_true_eq, arcsT, hv, cond_true] at h; exact h

theorem pthF_Pth (hv : validB t = true) : ∀ (l : List Int) (first : Bool) (n c to cost : Int), pthF t first n c l = (to, cost, 0) → (∀ a ∈ l, upB down a = true) →
    Pth t down n l to ∧ cost = c + costP t l ∧ (first = false → l ≠ [] → overT t n = false)
  | [], first, n, c, to, cost, h, _ => by
    simp only [pthF, Prod.mk.injEq] at h
    exact ⟨h.1, by simp [costP]; omega, fun _ h => absurd rfl h⟩
  | a :: r, first, n, c, to, cost, h, hup => by
    simp only [pthF] at h
    split at h
    · simp at h
    · rename_i hin
      split at h
      · simp at h
      · rename_i ht
        simp only [Bool.not_eq_true', Bool.not_eq_false] at hin
        simp only [Bool.not_eq_true, Bool.or_eq_false_iff, Bool.not_eq_false', decide_eq_true_eq, Bool.and_eq_false_iff] at ht
        obtain ⟨h1, h2, h3⟩ := pthF_Pth hv r false _ _ to cost h (fun b hb => hup b (by simp [hb]))
        obtain ⟨b0, b1⟩ := arcIn_b hv hin
        refine ⟨⟨b0, b1, hup a (by simp), ht.1, fun hr => h3 rfl hr, h1⟩, by rw [costP_cons]; omega, fun hf _ => ?_⟩
        rcases ht.2 with h | h
        · rw [hf] at h; cases h
        · exact h

theorem Pth.in (hv : validB t = true) : ∀ {l : List Int} {x y : Int}, Pth t down x l y → 0 ≤ x → x < t.nodes → 0 ≤ y ∧ y < t.nodes
  | [], x, y, h, h0, h1 => by simp only [Pth] at h; omega
  | a :: r, x, y, h, h0, h1 => by
    obtain ⟨a0, a1, _, _, _, h6⟩ := h
    have hb := arc_ok hv a0 a1
    exact Pth.in hv h6 hb.2.2.1 hb.2.2.2.1

/-- A first shortest path, as the reference's Path reads it. -/
theorem pthF_pathF (hv : validB t = true) {d : Int} (hl : IsDist t down d false l) : ∀ (k : Nat) (n c : Int) (first : Bool), 0 ≤ n → n < t.nodes → 0 ≤ gI l n → gI l n ≤ k → (first = true ∨ n = d ∨ overT t n = false) →
    pthF t first n c (pathF t down d l n) = (d, c + gI l n, 0) := by
  intro k
  induction k using Nat.strongRecOn with
  | _ k ih =>
    intro n c first h0 h1 hn hk hf
    by_cases hnd : n = d
    · rw [hnd, pathF_end, hl.self]; simp [pthF]
    · obtain ⟨a, e, a0, a1, a2, a3, a4, a5, a6, a7⟩ := nextP_some hv hl h0 h1 hn hnd
      obtain ⟨o1, o2, o3, o4⟩ := onP_iff.1 a3
      rw [pathF_step hv hl h0 h1 hn hnd e]
      simp only [pthF, arc_in hv a0 a1, Bool.not_true, Bool.false_eq_true, if_false, a2, decide_true, Bool.false_or]
      have hov : ¬ ((!first && overT t n) = true) := by
        rcases hf with h | h | h
        · rw [h]; simp
        · exact absurd h hnd
        · rw [h]; simp
      rw [if_neg hov, ih (k - 1) (by omega) _ _ _ a6 a7 a4 (by omega) (.inr o3)]
      rw [o4]
      simp only [Prod.mk.injEq, and_true, true_and]; omega

/-- Every arc of a first shortest path is up, and what follows from it on is the first shortest path from its tail. -/
theorem pathF_parts (hv : validB t = true) {d : Int} (hl : IsDist t down d false l) : ∀ (k : Nat) (n : Int), 0 ≤ n → n < t.nodes → 0 ≤ gI l n → gI l n ≤ k → ∀ i, i < (pathF t down d l n).length →
    upB down ((pathF t down d l n).getD i 0) = true ∧ 0 ≤ (pathF t down d l n).getD i 0 ∧ (pathF t down d l n).getD i 0 < 2 * t.links.length ∧ 0 ≤ gI l (tailT t ((pathF t down d l n).getD i 0)) ∧ (pathF t down d l n).drop i = pathF t down d l (tailT t ((pathF t down d l n).getD i 0)) := by
  intro k
  induction k using Nat.strongRecOn with
  | _ k ih =>
    intro n h0 h1 hn hk i hi
    by_cases hnd : n = d
    · rw [hnd, pathF_end] at hi; simp at hi
    · obtain ⟨a, e, a0, a1, a2, a3, a4, a5, a6, a7⟩ := nextP_some hv hl h0 h1 hn hnd
      obtain ⟨o1, o2, o3, o4⟩ := onP_iff.1 a3
      have hs := pathF_step hv hl h0 h1 hn hnd e
      cases i with
      | zero =>
        rw [hs]
        simp only [List.getD_cons_zero, List.drop_zero]
        refine ⟨o1, a0, a1, by rw [a2]; exact hn, by rw [a2, hs]⟩
      | succ i =>
        rw [hs] at hi ⊢
        simp only [List.getD_cons_succ, List.drop_succ_cons]
        exact ih (k - 1) (by omega) _ a6 a7 a4 (by omega) i (by simpa using hi)

end
end Go.Proofs.YtcnfggpcploehaaDoor

/- A mask with one arc more, plainly. -/
namespace Go.Proofs.YtcnfggpcploehaaDoor
set_option maxRecDepth 10000
open Go.Wk

def moreL (t : Topo) (down : List Bool) (a : Int) : List Bool := (down ++ (List.replicate (2 * (t.links.length : Int)).toNat false).drop down.length).set a.toNat true

section
variable {t : Topo} {down : List Bool} {a d : Int} {x y : List Int}

theorem fits_len (hf : fitsB t down = true) : down.length = 0 ∨ (down.length : Int) = 2 * t.links.length := by
  simp only [fitsB, Bool.and_eq_true, Bool.or_eq_true, decide_eq_true_eq] at hf
  exact hf.2
theorem more_len (hf : fitsB t down = true) : ((moreL t down a).length : Int) = 2 * t.links.length := by
  have := fits_len hf
  simp [moreL]; omega
theorem more_fits (hf : fitsB t down = true) : fitsB t (moreL t down a) = true := by
  simp only [fitsB, fitsB_v hf, more_len hf, decide_true, Bool.or_true, Bool.and_true]
theorem more_get (hf : fitsB t down = true) {b : Int} (a0 : 0 ≤ a) (a1 : a < 2 * t.links.length) (b0 : 0 ≤ b) (b1 : b < 2 * t.links.length) : (moreL t down a).getD b.toNat false = (decide (b = a) || (!decide (down.length = 0) && down.getD b.toNat false)) := by
  have hl := fits_len hf
  unfold moreL
  simp only [List.getD_eq_getElem?_getD]
  by_cases h : b = a
  · subst h
    rw [List.getElem?_set_self (by simp; omega)]
    simp
  · rw [List.getElem?_set_ne (by omega), decide_eq_false h, Bool.false_or]
    rcases hl with hl | hl
    · have : down = [] := List.eq_nil_of_length_eq_zero hl
      subst this
      simp
      rw [List.getElem?_replicate]
      split <;> rfl
    · rw [List.getElem?_append_left (by omega)]
      rw [decide_eq_false (by omega)]
      rfl
theorem more_up (hf : fitsB t down = true) {b : Int} (a0 : 0 ≤ a) (a1 : a < 2 * t.links.length) (b0 : 0 ≤ b) (b1 : b < 2 * t.links.length) : upB (moreL t down a) b = (upB down b && !decide (b = a)) := by
  have hl := more_len (a := a) hf
  unfold upB
  rw [more_get hf a0 a1 b0 b1, decide_eq_false (by omega)]
  cases decide (down.length = 0) <;> cases decide (b = a) <;> simp

theorem Pth.less (hf : fitsB t down = true) (a0 : 0 ≤ a) (a1 : a < 2 * t.links.length) : ∀ {L : List Int} {p q : Int}, Pth t (moreL t down a) p L q → Pth t down p L q
  | [], _, _, h => h
  | b :: r, _, _, ⟨h0, h1, h2, h3, h4, h5⟩ => ⟨h0, h1, by rw [more_up hf a0 a1 h0 h1] at h2; simp at h2; exact h2.1, h3, h4, Pth.less hf a0 a1 h5⟩

theorem more_ge (hf : fitsB t down = true) (a0 : 0 ≤ a) (a1 : a < 2 * t.links.length) (hx : IsDist t down d false x) (hy : IsDist t (moreL t down a) d false y) {n : Int} (n0 : 0 ≤ n) (n1 : n < t.nodes) (h : 0 ≤ gI y n) : 0 ≤ gI x n ∧ gI x n ≤ gI y n := by
  obtain ⟨L, hL, hc⟩ := hy.some_to (fitsB_v hf) (gI y n).toNat n n0 n1 h (by omega)
  have := hx.walk_to (fitsB_v hf) L n (Pth.less hf a0 a1 hL)
  rw [hc] at this
  exact this

theorem more_same (hf : fitsB t down = true) (a0 : 0 ≤ a) (a1 : a < 2 * t.links.length) (hx : IsDist t down d false x) (hy : IsDist t (moreL t down a) d false y) (hon : onR t down x a d = false) : y = x := by
  refine hy.unique (fitsB_v hf) ⟨hx.len, hx.self, hx.sign, fun b b0 b1 hb hn => ?_, fun i i0 i1 hne hi => ?_⟩
  · refine hx.close b b0 b1 ⟨?_, hb.2⟩ hn
    have := hb.1
    rw [more_up hf a0 a1 b0 b1] at this
    simp at this; exact this.1
  · obtain ⟨b, b0, b1, b2, b3, b4, b5⟩ := hx.ground i i0 i1 hne hi
    have hba : b ≠ a := by
      rintro rfl
      have h2 := b2.2
      simp only [nearT, farT, cond_false] at b3 b4 b5 h2
      have : onR t down x b d = true := by
        simp only [onR, transB, b2.1, b3, decide_eq_false hne, decide_eq_true b4, decide_eq_true b5, Bool.not_false, Bool.and_true, Bool.true_and, Bool.or_eq_true, decide_eq_true_eq, Bool.not_eq_true']
        exact h2
      rw [hon] at this; cases this
    exact ⟨b, b0, b1, ⟨by rw [more_up hf a0 a1 b0 b1, b2.1, decide_eq_false hba]; rfl, b2.2⟩, b3, b4, b5⟩
end
end Go.Proofs.YtcnfggpcploehaaDoor

/- Uses of a mask, plainly. -/
namespace Go.Proofs.YtcnfggpcploehaaDoor
set_option maxRecDepth 10000
open Go.Wk

def onU (t : Topo) (f g : List Int) (a x y : Int) : Bool :=
  !(decide (gI f (tailT t a) < 0) || decide (gI g (headT t a) < 0) || !transB t (tailT t a) x || !transB t (headT t a) y || decide (x = y)) && decide (gI f (tailT t a) + costT t a + gI g (headT t a) = gI g x)
def usesL (t : Topo) (down : List Bool) (f g : List Int) (x y : Int) : Bool := (arcsR (2 * t.links.length)).any fun a => !upB down a && onU t f g a x y
noncomputable def usesB (t : Topo) (down : List Bool) (x y : Int) : Bool :=
  fitsB t down && decide (0 ≤ x) && decide (x < t.nodes) && decide (0 ≤ y) && decide (y < t.nodes) && usesL t down (distL t [] x true) (distL t [] y false) x y

section
variable {t : Topo} {down : List Bool} {x y : Int} {f g : List Int}
theorem Pth.cat : ∀ {A B : List Int} {x u y : Int}, Pth t down x A u → Pth t down u B y → (A ≠ [] → B ≠ [] → overT t u = false) → Pth t down x (A ++ B) y
  | [], B, x, u, y, h, k, _ => by
    have : x = u := h
    subst this; exact k
  | a :: r, B, x, u, y, ⟨h0, h1, h2, h3, h4, h5⟩, k, ho => by
    refine ⟨h0, h1, h2, h3, fun hne => ?_, Pth.cat h5 k fun hr hB => ho (by simp) hB⟩
    by_cases hr : r = []
    · subst hr
      have : headT t a = u := h5
      rw [this]
      exact ho (by simp) (by simpa using hne)
    · exact h4 hr
theorem Pth.split : ∀ {A B : List Int} {x y : Int} {a : Int}, Pth t down x (A ++ a :: B) y → Pth t down x A (tailT t a) ∧ Pth t down (headT t a) B y ∧ 0 ≤ a ∧ a < 2 * t.links.length ∧ upB down a = true ∧ (A ≠ [] → overT t (tailT t a) = false) ∧ (B ≠ [] → overT t (headT t a) = false)
  | [], B, x, y, a, ⟨h0, h1, h2, h3, h4, h5⟩ => ⟨h3.symm, h5, h0, h1, h2, fun h => absurd rfl h, h4⟩
  | b :: r, B, x, y, a, ⟨h0, h1, h2, h3, h4, h5⟩ => by
    obtain ⟨p1, p2, p3, p4, p5, p6, p7⟩ := Pth.split h5
    refine ⟨⟨h0, h1, h2, h3, fun hr => h4 (by simp), p1⟩, p2, p3, p4, p5, fun _ => ?_, p7⟩
    by_cases hr : r = []
    · subst hr
      have : headT t b = tailT t a := p1
      rw [← this]; exact h4 (by simp)
    · exact p6 hr
theorem Pth.mono {m : List Bool} (h : ∀ a, 0 ≤ a → a < 2 * (t.links.length : Int) → upB down a = true → upB m a = true) : ∀ {L : List Int} {x y : Int}, Pth t down x L y → Pth t m x L y
  | [], _, _, k => k
  | _ :: _, _, _, ⟨h0, h1, h2, h3, h4, h5⟩ => ⟨h0, h1, h _ h0 h1 h2, h3, h4, Pth.mono h h5⟩
theorem Pth.at {m : List Bool} : ∀ {L : List Int} {x y : Int}, Pth t down x L y → (∀ a ∈ L, upB m a = true) → Pth t m x L y
  | [], _, _, k, _ => k
  | _ :: _, _, _, ⟨h0, h1, _, h3, h4, h5⟩, h => ⟨h0, h1, h _ (by simp), h3, h4, Pth.at h5 fun a ha => h a (by simp [ha])⟩
theorem up_nil (a : Int) : upB [] a = true := rfl
theorem Pth.free {L : List Int} (h : Pth t down x L y) : Pth t [] x L y := h.mono fun _ _ _ _ => rfl
theorem trans_iff {n e : Int} : transB t n e = true ↔ n = e ∨ overT t n = false := by simp [transB]

theorem Pth.nn (hv : validB t = true) : ∀ {L : List Int} {x y : Int}, Pth t down x L y → 0 ≤ costP t L ∧ (L ≠ [] → 0 < costP t L)
  | [], _, _, _ => by simp [costP]
  | b :: r, _, _, ⟨b0, b1, _, _, _, b5⟩ => by
    have hb := arc_ok hv b0 b1
    have := (Pth.nn hv b5).1
    rw [costP_cons]
    omega
/-- Every arc of a shortest path is on one. -/
theorem on_of (hv : validB t = true) (x0 : 0 ≤ x) (x1 : x < t.nodes) (hf : IsDist t [] x true f) (hg : IsDist t [] y false g) {A B : List Int} {a : Int} (hp : Pth t [] x (A ++ a :: B) y) (hc : costP t (A ++ a :: B) = gI g x) : onU t f g a x y = true := by
  obtain ⟨p1, p2, p3, p4, _, p6, p7⟩ := Pth.split hp
  have ha := arc_ok hv p3 p4
  obtain ⟨f0, f1⟩ := hf.walk_from hv A.length A _ rfl p1
  obtain ⟨g0, g1⟩ := hg.walk_to hv B _ p2
  rw [costP_app, costP_cons] at hc
  have hu : transB t (tailT t a) x = true := trans_iff.2 (by
    by_cases h : A = []
    · subst h; exact .inl (show x = tailT t a from p1).symm
    · exact .inr (p6 h))
  have hw : transB t (headT t a) y = true := trans_iff.2 (by
    by_cases h : B = []
    · subst h; exact .inl p2
    · exact .inr (p7 h))
  have hxy : x ≠ y := by
    rintro rfl
    have := hg.self
    have h1 : 0 ≤ costP t A := by omega
    have h2 : 0 ≤ costP t B := by omega
    omega
  obtain ⟨A', q1, q2⟩ := hf.some_from hv (gI f (tailT t a)).toNat _ ha.1 ha.2.1 f0 (by omega)
  obtain ⟨B', r1, r2⟩ := hg.some_to hv (gI g (headT t a)).toNat _ ha.2.2.1 ha.2.2.2.1 g0 (by omega)
  have hcat : Pth t [] x (A' ++ a :: B') y := q1.cat ⟨p3, p4, rfl, rfl, fun h => by
      rcases trans_iff.1 hw with h' | h'
      · rw [h'] at r1 r2
        exfalso
        have := hg.self
        rw [this] at r2
        match B', h, r1, r2 with
        | b :: r, _, ⟨b0, b1, _, _, _, b5⟩, r2 =>
          rw [costP_cons] at r2
          have hb := arc_ok hv b0 b1
          have := (hg.walk_to hv r _ b5)
          omega
      · exact h', r1⟩ fun h _ => by
    rcases trans_iff.1 hu with h' | h'
    · exfalso
      rw [h'] at q1 q2
      have hs := hf.self
      rw [hs] at q2
      match A', h, q1, q2 with
      | b :: r, _, ⟨b0, b1, _, _, _, b5⟩, q2 =>
        rw [costP_cons] at q2
        have hb := arc_ok hv b0 b1
        have := Pth.nn hv b5
        omega
    · exact h'
  have := hg.walk_to hv _ _ hcat
  rw [costP_app, costP_cons] at this
  simp only [onU, Bool.and_eq_true, Bool.not_eq_true', Bool.or_eq_false_iff, decide_eq_false_iff_not, decide_eq_true_eq, hu, hw]
  simp only [Bool.not_true, and_true, true_and]
  refine ⟨⟨⟨by omega, by omega⟩, hxy⟩, by omega⟩

/-- An arc that is on a shortest path, with one. -/
theorem on_path (hv : validB t = true) (x0 : 0 ≤ x) (x1 : x < t.nodes) (hf : IsDist t [] x true f) (hg : IsDist t [] y false g) {a : Int} (a0 : 0 ≤ a) (a1 : a < 2 * t.links.length) (h : onU t f g a x y = true) :
    ∃ A B, Pth t [] x (A ++ a :: B) y ∧ costP t (A ++ a :: B) = gI g x ∧ x ≠ y := by
  simp only [onU, Bool.and_eq_true, Bool.not_eq_true', Bool.or_eq_false_iff, decide_eq_false_iff_not, decide_eq_true_eq, Bool.not_eq_false'] at h
  obtain ⟨⟨⟨⟨⟨h1, h2⟩, hu⟩, hw⟩, hxy⟩, hc⟩ := h
  have ha := arc_ok hv a0 a1
  obtain ⟨A', q1, q2⟩ := hf.some_from hv (gI f (tailT t a)).toNat _ ha.1 ha.2.1 (by omega) (by omega)
  obtain ⟨B', r1, r2⟩ := hg.some_to hv (gI g (headT t a)).toNat _ ha.2.2.1 ha.2.2.2.1 (by omega) (by omega)
  refine ⟨A', B', q1.cat ⟨a0, a1, rfl, rfl, fun h => ?_, r1⟩ fun h _ => ?_, by rw [costP_app, costP_cons]; omega, hxy⟩
  · rcases trans_iff.1 hw with h' | h'
    · exfalso
      have hs := hg.self
      have := (Pth.nn hv r1).2 h
      rw [h'] at r2; omega
    · exact h'
  · rcases trans_iff.1 hu with h' | h'
    · exfalso
      have hs := hf.self
      have := (Pth.nn hv q1).2 h
      rw [h'] at q2; omega
    · exact h'

/-- What does not use the mask keeps its distance. -/
theorem unused_to (hv : validB t = true) (x0 : 0 ≤ x) (x1 : x < t.nodes) (hf : IsDist t [] x true f) (hg : IsDist t [] y false g) {g' : List Int} (hg' : IsDist t down y false g') (h : usesL t down f g x y = false) : gI g' x = gI g x := by
  have hany : ∀ a : Int, 0 ≤ a → a < 2 * t.links.length → onU t f g a x y = true → upB down a = true := fun a a0 a1 ho => by
    have := List.any_eq_false.1 h a (mem_arcsR.2 ⟨a0, by omega⟩)
    rw [ho, Bool.and_true] at this
    simpa using this
  have keep : ∀ (L : List Int), Pth t [] x L y → costP t L = gI g x → Pth t down x L y := fun L hL hc => hL.at fun a ha => by
    obtain ⟨A, B, rfl⟩ := List.append_of_mem ha
    have h2 := hL.split
    exact hany a h2.2.2.1 h2.2.2.2.1 (on_of hv x0 x1 hf hg hL hc)
  by_cases hx : 0 ≤ gI g x
  · obtain ⟨L, hL, hc⟩ := hg.some_to hv (gI g x).toNat x x0 x1 hx (by omega)
    obtain ⟨k1, k2⟩ := hg'.walk_to hv L x (keep L hL hc)
    obtain ⟨L', hL', hc'⟩ := hg'.some_to hv (gI g' x).toNat x x0 x1 k1 (by omega)
    have := hg.walk_to hv L' x hL'.free
    omega
  · have h1 := hg.sign x x0 x1
    have h2 := hg'.sign x x0 x1
    by_cases hx' : 0 ≤ gI g' x
    · obtain ⟨L', hL', hc'⟩ := hg'.some_to hv (gI g' x).toNat x x0 x1 hx' (by omega)
      have := hg.walk_to hv L' x hL'.free
      omega
    · omega
end
end Go.Proofs.YtcnfggpcploehaaDoor

/- The reference of layer 26: Uses. -/
namespace Go.Proofs.YtcnfggpcploehaaDoor
set_option maxRecDepth 10000
open Go.Wk

theorem r26_through (t : Topo) (n e : Int) : Ctr Tryd.prog 55 [topoD t, iD n, iD e] [] (.d (bD (transB t n e))) := by
  refine spec_of envOK (Go.Wk.enters_of Tryd.func55 (by kernel_rfl) (by kernel_rfl)) Tryd.func55 rfl rfl _ rfl (Nat.le_of_ble_eq_true rfl) rfl fun w0 => ?_
  repeat' (first
  
    |refine zA ?_|refine zB ?_|refine zC (by kernel_rfl) (by kernel_rfl) ?_|refine zD ?_|refine zE ?_|refine zF rfl trivial ?_|refine zG ?_|refine zH rfl trivial ?_|refine zI ?_|refine zJ rfl trivial ?_|refine zK ?_|refine zL rfl trivial rfl ?_|refine zM ?_|refine zN rfl trivial ?_|refine zO rfl trivial ?_|refine zP rfl trivial (fun hc => ?_) (fun hc => ?_)|refine zQ rfl trivial (fun hc => ?_) (fun hc => ?_)|refine zR rfl trivial (fun hc => ?_) (fun hc => ?_)|refine zS rfl trivial (fun hc => ?_) (fun hc => ?_)|refine zT ?_|refine zU ?_|refine zF rfl ?_ ?_|refine zH rfl ?_ ?_|refine zJ rfl ?_ ?_|refine zL rfl ?_ rfl ?_|refine zV rfl trivial rfl rfl rfl ?_|refine zW rfl rfl rfl rfl ?_|refine zX rfl rfl trivial rfl trivial rfl rfl rfl rfl rfl ?_
    | (first | refine ao_call rfl (r_Overloaded _ _) rfl ?_ ?_ | refine aq_call rfl (r_Overloaded _ _) rfl ?_ ?_)
    |(show allP _; first | trivial | exact ob1 (fun h => h) | exact ob2 (fun h => h) (fun h => h) | exact ob1 (fun h => ⟨h.1, trivial⟩) | (simp only [obS]; first | omega | (intros; omega) | (simp only [obL]; first | omega | (intros; omega)) | (refine ⟨?_, ?_⟩ <;> intros <;> first | (with_reducible assumption) | omega) | ((repeat' refine And.intro ?_ ?_) <;> (intros; first | (with_reducible assumption) | omega | (simp only [obL]; omega))) | ((try simp only [obB] at *); (try simp only [Blk.len] at *); first | omega | (intros; omega)) | (simp_all; done))))
  (refine fin_ret ?_; exact ret1 (by rfl) (by rfl) (by rfl))

set_option maxHeartbeats 1000000 in
theorem r26_on (t : Topo) (f g : List Int) (a x y : Int) (hv : validB t = true) (h0 : 0 ≤ a) (h1 : a < 2 * t.links.length) (x0 : 0 ≤ x) (x1 : x < t.nodes) (hf : (f.length : Int) = t.nodes) (hg : (g.length : Int) = t.nodes) (hfb : ∀ i : Int, 0 ≤ i → i < t.nodes → gI f i ≤ 65535 * 64 ∧ -1 ≤ gI f i) (hgb : ∀ i : Int, 0 ≤ i → i < t.nodes → gI g i ≤ 65535 * 64 ∧ -1 ≤ gI g i) :
    Ctr Tryd.prog 37 [topoD t, intsD f, intsD g, iD a, iD x, iD y] [] (.d (bD (onU t f g a x y))) := by
  refine spec_of envOK (Go.Wk.enters_of Tryd.func37 (by kernel_rfl) (by kernel_rfl)) Tryd.func37 rfl rfl _ rfl (Nat.le_of_ble_eq_true rfl) rfl fun w0 => ?_
  have hnn := validB_head hv
  have hk := arc_ok hv h0 h1
  have hy1 : f.getD (tailT t a).toNat 0 ≤ 65535 * 64 ∧ -1 ≤ f.getD (tailT t a).toNat 0 := hfb _ hk.1 hk.2.1
  have hy2 : g.getD (headT t a).toNat 0 ≤ 65535 * 64 ∧ -1 ≤ g.getD (headT t a).toNat 0 := hgb _ hk.2.2.1 hk.2.2.2.1
  clear hfb hgb
  repeat' (first
  
    |refine zA ?_|refine zB ?_|refine zC (by kernel_rfl) (by kernel_rfl) ?_|refine zD ?_|refine zE ?_|refine zF rfl trivial ?_|refine zG ?_|refine zH rfl trivial ?_|refine zI ?_|refine zJ rfl trivial ?_|refine zK ?_|refine zL rfl trivial rfl ?_|refine zM ?_|refine zN rfl trivial ?_|refine zO rfl trivial ?_|refine zP rfl trivial (fun hc => ?_) (fun hc => ?_)|refine zQ rfl trivial (fun hc => ?_) (fun hc => ?_)|refine zR rfl trivial (fun hc => ?_) (fun hc => ?_)|refine zS rfl trivial (fun hc => ?_) (fun hc => ?_)|refine zT ?_|refine zU ?_|refine zF rfl ?_ ?_|refine zH rfl ?_ ?_|refine zJ rfl ?_ ?_|refine zL rfl ?_ rfl ?_|refine zV rfl trivial rfl rfl rfl ?_|refine zW rfl rfl rfl rfl ?_|refine zX rfl rfl trivial rfl trivial rfl rfl rfl rfl rfl ?_
    | (first | refine ao_call rfl (r_Tail _ _) rfl ?_ ?_ | refine aq_call rfl (r_Tail _ _) rfl ?_ ?_)
    | (first | refine ao_call rfl (r_Head _ _) rfl ?_ ?_ | refine aq_call rfl (r_Head _ _) rfl ?_ ?_)
    | (first | refine ao_call rfl (r26_through _ _ _) rfl ?_ ?_ | refine aq_call rfl (r26_through _ _ _) rfl ?_ ?_)
    | (first | refine ao_call rfl (r_Cost _ _) rfl ?_ ?_ | refine aq_call rfl (r_Cost _ _) rfl ?_ ?_)
    |(show allP _; first | trivial | exact ob1 (fun h => h) | exact ob2 (fun h => h) (fun h => h) | exact ob1 (fun h => ⟨h.1, trivial⟩) | (simp only [obS]; first | omega | (intros; omega) | (simp only [obL]; first | omega | (intros; omega)) | (refine ⟨?_, ?_⟩ <;> intros <;> first | (with_reducible assumption) | omega) | ((repeat' refine And.intro ?_ ?_) <;> (intros; first | (with_reducible assumption) | omega | (simp only [obL]; omega))) | ((try simp only [obB] at *); (try simp only [Blk.len] at *); first | omega | (intros; omega)) | (simp_all; done))))
  · (refine fin_ret ?_; exact ret1 (by rfl) (by (simp only [onU, gI]; rw [hc]; rfl)) (by rfl))
  · (refine fin_ret ?_; exact ret1 (by rfl) (by (simp only [onU, gI]; rw [hc]; rfl)) (by rfl))

theorem usesL_step {t : Topo} {down : List Bool} {f g : List Int} {x y : Int} {n : Nat} (h : ∀ a : Nat, a < 2 * t.links.length → a < n → (!upB down a && onU t f g a x y) = false) (hn : 2 * t.links.length ≤ n) : usesL t down f g x y = false := by
  unfold usesL
  rw [List.any_eq_false]
  intro a ha
  obtain ⟨h0, h1⟩ := mem_arcsR.1 ha
  have := h a.toNat (by omega) (by omega)
  rw [show ((a.toNat : Nat) : Int) = a by omega] at this
  simp [this]

set_option maxHeartbeats 1000000 in
theorem r26_Uses (t : Topo) (down : List Bool) (x y : Int) : Ctr Tryd.prog 12 [topoD t, boolsD down, iD x, iD y] [] (.d (bD (usesB t down x y))) := by
  refine spec_of envOK (Go.Wk.enters_of Tryd.func12 (by kernel_rfl) (by kernel_rfl)) Tryd.func12 rfl rfl _ rfl (Nat.le_of_ble_eq_true rfl) rfl fun w0 => ?_
  by_cases hin : fitsB t down = true ∧ 0 ≤ x ∧ x < t.nodes ∧ 0 ≤ y ∧ y < t.nodes
  · obtain ⟨hfit, x0, x1, y0, y1⟩ := hin
    have hv := fitsB_v hfit
    have hnn := validB_head hv
    have hfn : fitsB t [] = true := by simp [fitsB, hv]
    have ex := errS_ok hfn x0 x1
    have ey := errS_ok hfn y0 y1
    have hF := distL_is (fr := true) ex
    have hG := distL_is (fr := false) ey
    have hfb := distL_bnd (fr := true) ex
    have hgb := distL_bnd (fr := false) ey
    have hR := (r_From t [] x).args (ds' := [topoD t, nilD, iD x]) ⟨DLe.refl _, DLe.nil, DLe.refl _, trivial⟩
    have hS := (r_Dist t [] y).args (ds' := [topoD t, nilD, iD y]) ⟨DLe.refl _, DLe.nil, DLe.refl _, trivial⟩
    have hu : usesB t down x y = usesL t down (distL t [] x true) (distL t [] y false) x y := by
      simp [usesB, hfit, x0, x1, y0, y1]
    rw [hu]
    rw [ex] at hR
    rw [ey] at hS
    have hfl := hF.len
    have hgl := hG.len
    have hfs := hF.sign
    have hgs := hG.sign
    generalize distL t [] x true = f at *
    generalize distL t [] y false = g at *
    repeat' (first
    
      |refine zA ?_|refine zB ?_|refine zC (by kernel_rfl) (by kernel_rfl) ?_|refine zD ?_|refine zE ?_|refine zF rfl trivial ?_|refine zG ?_|refine zH rfl trivial ?_|refine zI ?_|refine zJ rfl trivial ?_|refine zK ?_|refine zL rfl trivial rfl ?_|refine zM ?_|refine zN rfl trivial ?_|refine zO rfl trivial ?_|refine zP rfl trivial (fun hc => ?_) (fun hc => ?_)|refine zQ rfl trivial (fun hc => ?_) (fun hc => ?_)|refine zR rfl trivial (fun hc => ?_) (fun hc => ?_)|refine zS rfl trivial (fun hc => ?_) (fun hc => ?_)|refine zT ?_|refine zU ?_|refine zF rfl ?_ ?_|refine zH rfl ?_ ?_|refine zJ rfl ?_ ?_|refine zL rfl ?_ rfl ?_|refine zV rfl trivial rfl rfl rfl ?_|refine zW rfl rfl rfl rfl ?_|refine zX rfl rfl trivial rfl trivial rfl rfl rfl rfl rfl ?_
      | (first | refine ao_call rfl (r_Fits _ _) rfl ?_ ?_ | refine aq_call rfl (r_Fits _ _) rfl ?_ ?_)
      | refine ao_callR rfl (hR) trivial rfl rfl ?_
      | refine ao_callR rfl (hS) trivial rfl rfl ?_
      |(show allP _; first | trivial | exact ob1 (fun h => h) | exact ob2 (fun h => h) (fun h => h) | exact ob1 (fun h => ⟨h.1, trivial⟩) | (simp only [obS]; first | omega | (intros; omega) | (simp only [obL]; first | omega | (intros; omega)) | (refine ⟨?_, ?_⟩ <;> intros <;> first | (with_reducible assumption) | omega) | ((repeat' refine And.intro ?_ ?_) <;> (intros; first | (with_reducible assumption) | omega | (simp only [obL]; omega))) | ((try simp only [obB] at *); (try simp only [Blk.len] at *); first | omega | (intros; omega)) | (simp_all; done))))
    · exfalso
      rw [hfit] at hc
      simp only [Bool.not_true, Bool.false_or, Bool.or_eq_true, decide_eq_true_eq] at hc
      omega
    refine aw_loop (ι := Nat) (fun i => [(13, [], .d (iD i)), (11, [], .own 2), (9, [], .own 1), (4, [], .ptr 0 0), (1, [], .d (boolsD down)), (2, [], .d (iD x)), (3, [], .d (iD y))]) (fun _ => [tBlk t, .ints .i64 f, .ints .i64 g])
      (fun i => i ≤ 2 * t.links.length ∧ ∀ a : Nat, a < 2 * t.links.length → a < i → (!upB down a && onU t f g a x y) = false) (fun i => 2 * t.links.length - i) 0 ⟨by simp, fun a _ h => absurd h (Nat.not_lt_zero _)⟩ (fun _ => Nat.le_of_ble_eq_true rfl) (by refine weak_to ?_ ?_ rfl rfl
                                                                                                                                                                                                                                                                 · repeat (first | exact subF_nil | refine subF_cons (by first | rfl | (simp [look]; done)) ?_)
                                                                                                                                                                                                                                                                 · repeat (first | exact subS_nil | refine subS_cons (by first | rfl | (simp; done)) ?_)) fun i hi => ?_
    obtain ⟨hi, hno⟩ := hi
    by_cases hil : i < 2 * t.links.length
    · have hok := up_ok (a := (i : Int)) hfit (by omega) (by omega)
      have hon := r26_on t f g (i : Int) x y hv (by omega) (by omega) x0 x1 hfl hgl (fun j j0 j1 => ⟨hfb j j0 j1, by have := hfs j j0 j1; omega⟩) (fun j j0 j1 => ⟨hgb j j0 j1, by have := hgs j j0 j1; omega⟩)
      repeat' (first
      
        |refine zA ?_|refine zB ?_|refine zC (by kernel_rfl) (by kernel_rfl) ?_|refine zD ?_|refine zE ?_|refine zF rfl trivial ?_|refine zG ?_|refine zH rfl trivial ?_|refine zI ?_|refine zJ rfl trivial ?_|refine zK ?_|refine zL rfl trivial rfl ?_|refine zM ?_|refine zN rfl trivial ?_|refine zO rfl trivial ?_|refine zP rfl trivial (fun hc => ?_) (fun hc => ?_)|refine zQ rfl trivial (fun hc => ?_) (fun hc => ?_)|refine zR rfl trivial (fun hc => ?_) (fun hc => ?_)|refine zS rfl trivial (fun hc => ?_) (fun hc => ?_)|refine zT ?_|refine zU ?_|refine zF rfl ?_ ?_|refine zH rfl ?_ ?_|refine zJ rfl ?_ ?_|refine zL rfl ?_ rfl ?_|refine zV rfl trivial rfl rfl rfl ?_|refine zW rfl rfl rfl rfl ?_|refine zX rfl rfl trivial rfl trivial rfl rfl rfl rfl rfl ?_
        | (exfalso; omega)
        | (first | refine ao_call rfl (r_Up down _ hok) rfl ?_ ?_ | refine aq_call rfl (r_Up down _ hok) rfl ?_ ?_)
        | (first | refine ao_call rfl (hon) rfl ?_ ?_ | refine aq_call rfl (hon) rfl ?_ ?_)
        |(show allP _; first | trivial | exact ob1 (fun h => h) | exact ob2 (fun h => h) (fun h => h) | exact ob1 (fun h => ⟨h.1, trivial⟩) | (simp only [obS]; first | omega | (intros; omega) | (simp only [obL]; first | omega | (intros; omega)) | (refine ⟨?_, ?_⟩ <;> intros <;> first | (with_reducible assumption) | omega) | ((repeat' refine And.intro ?_ ?_) <;> (intros; first | (with_reducible assumption) | omega | (simp only [obL]; omega))) | ((try simp only [obB] at *); (try simp only [Blk.len] at *); first | omega | (intros; omega)) | (simp_all; done))))
      · (refine fin_ret ?_; exact ret1 (by rfl) (by (rw [show usesL t down f g x y = true from List.any_eq_true.2 ⟨(i : Int), mem_arcsR.2 ⟨by omega, by omega⟩, hc⟩])) (by rfl))
      · refine ⟨i + 1, ⟨by omega, fun a h1 h2 => ?_⟩, by omega, ?_⟩
        · rcases Nat.lt_succ_iff_lt_or_eq.1 h2 with h | rfl
          · exact hno a h1 h
          · exact hc
        · refine weak_to ?_ ?_ rfl rfl
          · repeat (first | exact subF_nil | refine subF_cons (by first | rfl | (simp [look]; done)) ?_)
          · repeat (first | exact subS_nil | refine subS_cons (by first | rfl | (simp; done)) ?_)
    · repeat' (first
      
        |refine zA ?_|refine zB ?_|refine zC (by kernel_rfl) (by kernel_rfl) ?_|refine zD ?_|refine zE ?_|refine zF rfl trivial ?_|refine zG ?_|refine zH rfl trivial ?_|refine zI ?_|refine zJ rfl trivial ?_|refine zK ?_|refine zL rfl trivial rfl ?_|refine zM ?_|refine zN rfl trivial ?_|refine zO rfl trivial ?_|refine zP rfl trivial (fun hc => ?_) (fun hc => ?_)|refine zQ rfl trivial (fun hc => ?_) (fun hc => ?_)|refine zR rfl trivial (fun hc => ?_) (fun hc => ?_)|refine zS rfl trivial (fun hc => ?_) (fun hc => ?_)|refine zT ?_|refine zU ?_|refine zF rfl ?_ ?_|refine zH rfl ?_ ?_|refine zJ rfl ?_ ?_|refine zL rfl ?_ rfl ?_|refine zV rfl trivial rfl rfl rfl ?_|refine zW rfl rfl rfl rfl ?_|refine zX rfl rfl trivial rfl trivial rfl rfl rfl rfl rfl ?_
        | (exfalso; omega)
        |(show allP _; first | trivial | exact ob1 (fun h => h) | exact ob2 (fun h => h) (fun h => h) | exact ob1 (fun h => ⟨h.1, trivial⟩) | (simp only [obS]; first | omega | (intros; omega) | (simp only [obL]; first | omega | (intros; omega)) | (refine ⟨?_, ?_⟩ <;> intros <;> first | (with_reducible assumption) | omega) | ((repeat' refine And.intro ?_ ?_) <;> (intros; first | (with_reducible assumption) | omega | (simp only [obL]; omega))) | ((try simp only [obB] at *); (try simp only [Blk.len] at *); first | omega | (intros; omega)) | (simp_all; done))))
      (refine fin_ret ?_; exact ret1 (by rfl) (by (rw [usesL_step hno (by omega)])) (by rfl))
  · have hu : usesB t down x y = false := by
      refine Bool.eq_false_iff.2 fun h => hin ?_
      simp only [usesB, Bool.and_eq_true, decide_eq_true_eq] at h
      exact ⟨h.1.1.1.1.1, h.1.1.1.1.2, h.1.1.1.2, h.1.1.2, h.1.2⟩
    repeat' (first
    
      |refine zA ?_|refine zB ?_|refine zC (by kernel_rfl) (by kernel_rfl) ?_|refine zD ?_|refine zE ?_|refine zF rfl trivial ?_|refine zG ?_|refine zH rfl trivial ?_|refine zI ?_|refine zJ rfl trivial ?_|refine zK ?_|refine zL rfl trivial rfl ?_|refine zM ?_|refine zN rfl trivial ?_|refine zO rfl trivial ?_|refine zP rfl trivial (fun hc => ?_) (fun hc => ?_)|refine zQ rfl trivial (fun hc => ?_) (fun hc => ?_)|refine zR rfl trivial (fun hc => ?_) (fun hc => ?_)|refine zS rfl trivial (fun hc => ?_) (fun hc => ?_)|refine zT ?_|refine zU ?_|refine zF rfl ?_ ?_|refine zH rfl ?_ ?_|refine zJ rfl ?_ ?_|refine zL rfl ?_ rfl ?_|refine zV rfl trivial rfl rfl rfl ?_|refine zW rfl rfl rfl rfl ?_|refine zX rfl rfl trivial rfl trivial rfl rfl rfl rfl rfl ?_
      | (first | refine ao_call rfl (r_Fits _ _) rfl ?_ ?_ | refine aq_call rfl (r_Fits _ _) rfl ?_ ?_)
      |(show allP _; first | trivial | exact ob1 (fun h => h) | exact ob2 (fun h => h) (fun h => h) | exact ob1 (fun h => ⟨h.1, trivial⟩) | (simp only [obS]; first | omega | (intros; omega) | (simp only [obL]; first | omega | (intros; omega)) | (refine ⟨?_, ?_⟩ <;> intros <;> first | (with_reducible assumption) | omega) | ((repeat' refine And.intro ?_ ?_) <;> (intros; first | (with_reducible assumption) | omega | (simp only [obL]; omega))) | ((try simp only [obB] at *); (try simp only [Blk.len] at *); first | omega | (intros; omega)) | (simp_all; done))))
    · (refine fin_ret ?_; exact ret1 (by rfl) (by (rw [hu])) (by rfl))
    · exfalso
      refine hin ?_
      simp only [Bool.or_eq_false_iff, decide_eq_false_iff_not, Bool.not_eq_false'] at hc
      exact ⟨hc.1.1.1.1, by omega, by omega, by omega, by omega⟩
end Go.Proofs.YtcnfggpcploehaaDoor

/- Layer 26: list, wrong, Uses. -/
namespace Go.Proofs.YtcnfggpcploehaaDoor
set_option maxRecDepth 10000
open Go.Wk

theorem c_TZ (x : Nat) (hx : x < 18446744073709551616) : CtrT tabT Tryd.prog 59 [.int .u64 x] [] (.d (iD (Lib.ctz 64 x))) := by
  refine ⟨Go.Wk.enters_of Tryd.func59 (by kernel_rfl) (by kernel_rfl), fun w vs hT hvs => ?_⟩
  obtain ⟨hl, hv⟩ := hvs
  match vs, hl, hv with
  | [v], _, hv =>
    have hv0 := hv 0 v _ rfl rfl
    cases hv0
    refine (Go.Proofs.Any7.bits_TrailingZeros64 tzLays x hx w fun _ => hT).mono ?_
    rintro e w' ⟨rfl, rfl⟩
    exact ⟨_, fun _ => none, rfl, ⟨Go.RowKit.Below.refl _ _, fun i b hi => absurd hi (Nat.not_lt_zero _), fun i j b hi => absurd hi (Nat.not_lt_zero _), fun i blk h => by simp at h, .d (.int _ _)⟩⟩

theorem setI_tail (q : Nat → Bool) : setI q = ((setN (tailN (setL q)) 64 : Nat) : Int) := by unfold setI; rw [setN_setL]
def intsN (l : List Nat) : List Int := l.map fun (k : Nat) => (k : Int)
theorem c26_list (q : Nat → Bool) : CtrT tabT Tryd.prog 41 [.int .u64 (setI q)] [.ints .i64 (intsN (setL q))] (.own 0) := by
  refine spec_ofT envOK (Go.Wk.enters_of Tryd.func41 (by kernel_rfl) (by kernel_rfl)) Tryd.func41 rfl rfl _ rfl (Nat.le_of_ble_eq_true rfl) rfl fun w0 hTw => ?_
  rw [setI_tail]
  have hs := setL_sorted q
  have hb := setL_lt q
  have hlen : (setL q).length ≤ 64 := by unfold setL; have := List.length_filter_le q (List.range 64); simp at this ⊢; exact this
  generalize setL q = M at *
  repeat' (first
  
    |refine zA ?_|refine zB ?_|refine zC (by kernel_rfl) (by kernel_rfl) ?_|refine zD ?_|refine zE ?_|refine zF rfl trivial ?_|refine zG ?_|refine zH rfl trivial ?_|refine zI ?_|refine zJ rfl trivial ?_|refine zK ?_|refine zL rfl trivial rfl ?_|refine zM ?_|refine zN rfl trivial ?_|refine zO rfl trivial ?_|refine zP rfl trivial (fun hc => ?_) (fun hc => ?_)|refine zQ rfl trivial (fun hc => ?_) (fun hc => ?_)|refine zR rfl trivial (fun hc => ?_) (fun hc => ?_)|refine zS rfl trivial (fun hc => ?_) (fun hc => ?_)|refine zT ?_|refine zU ?_|refine zF rfl ?_ ?_|refine zH rfl ?_ ?_|refine zJ rfl ?_ ?_|refine zL rfl ?_ rfl ?_|refine zV rfl trivial rfl rfl rfl ?_|refine zW rfl rfl rfl rfl ?_|refine zX rfl rfl trivial rfl trivial rfl rfl rfl rfl rfl ?_
  
    |(show allP _; first | trivial | exact ob1 (fun h => h) | exact ob2 (fun h => h) (fun h => h) | exact ob1 (fun h => ⟨h.1, trivial⟩) | (simp only [obS]; first | omega | (intros; omega) | (simp only [obL]; first | omega | (intros; omega)) | (refine ⟨?_, ?_⟩ <;> intros <;> first | (with_reducible assumption) | omega) | ((repeat' refine And.intro ?_ ?_) <;> (intros; first | (with_reducible assumption) | omega | (simp only [obL]; omega))) | ((try simp only [obB] at *); (try simp only [Blk.len] at *); first | omega | (intros; omega)) | (simp_all; done))))
  refine aw_weak (weak_nil (t := 3) (.ints .i64 []) rfl rfl rfl rfl rfl) (Nat.le_of_ble_eq_true rfl) ?_
  refine aw_loop (ι := Nat) (fun i => [(0, [], .d (.int .u64 ((setN (tailN (M.drop i)) 64 : Nat) : Int))), (3, [], .own 0)]) (fun i => [.ints .i64 (intsN (M.take i))])
    (fun i => i ≤ M.length) (fun i => M.length - i) 0 (by simp) (fun _ => Nat.le_of_ble_eq_true rfl) (by refine weak_to ?_ ?_ rfl rfl
                                                                                                         · repeat (first | exact subF_nil | refine subF_cons (by first | rfl | (simp [look]; done)) ?_)
                                                                                                         · repeat (first | exact subS_nil | refine subS_cons (by first | rfl | (simp; done)) ?_)) fun i hi => ?_
  by_cases hil : i < M.length
  · have hd : M.drop i = M.getD i 0 :: M.drop (i + 1) := by rw [List.getD_eq_getElem?_getD, List.getElem?_eq_getElem hil]; exact List.drop_eq_getElem_cons hil
    have hss : (M.getD i 0 :: M.drop (i + 1)).Pairwise (· < ·) := by rw [← hd]; exact hs.sublist (List.drop_sublist _ _)
    obtain ⟨h0, h1, h2⟩ := sort_step hss (fun x hx => hb x (by rw [← hd] at hx; exact List.mem_of_mem_drop hx))
    rw [← hd] at h0 h1 h2
    have hx := setN_lt (tailN (M.drop i)) 64
    have htk : M.take (i + 1) = M.take i ++ [M.getD i 0] := by rw [List.take_add_one, List.getD_eq_getElem?_getD, List.getElem?_eq_getElem hil]; rfl
    generalize setN (tailN (M.drop i)) 64 = x at *
    have hT := c_TZ x hx
    rw [h1] at hT
    have w1 : InR .u64 (x : Int) := wrap_u64n hx
    have w2 : InR .u64 ((x : Int) - 1) := by rw [show (x : Int) - 1 = ((x - 1 : Nat) : Int) by omega]; exact wrap_u64n (by omega)
    have hand : bitI .and .u64 (x : Int) ((x : Int) - 1) = ((setN (tailN (M.drop (i + 1))) 64 : Nat) : Int) := by
      rw [show (x : Int) - 1 = ((x - 1 : Nat) : Int) by omega, and_nat hx (by omega), h2]
    have hln : (intsN (M.take i)).length ≤ 64 := by simp [intsN]; omega
    repeat' (first
    
      |refine zA ?_|refine zB ?_|refine zC (by kernel_rfl) (by kernel_rfl) ?_|refine zD ?_|refine zE ?_|refine zF rfl trivial ?_|refine zG ?_|refine zH rfl trivial ?_|refine zI ?_|refine zJ rfl trivial ?_|refine zK ?_|refine zL rfl trivial rfl ?_|refine zM ?_|refine zN rfl trivial ?_|refine zO rfl trivial ?_|refine zP rfl trivial (fun hc => ?_) (fun hc => ?_)|refine zQ rfl trivial (fun hc => ?_) (fun hc => ?_)|refine zR rfl trivial (fun hc => ?_) (fun hc => ?_)|refine zS rfl trivial (fun hc => ?_) (fun hc => ?_)|refine zT ?_|refine zU ?_|refine zF rfl ?_ ?_|refine zH rfl ?_ ?_|refine zJ rfl ?_ ?_|refine zL rfl ?_ rfl ?_|refine zV rfl trivial rfl rfl rfl ?_|refine zW rfl rfl rfl rfl ?_|refine zX rfl rfl trivial rfl trivial rfl rfl rfl rfl rfl ?_
      | (exfalso; omega)
      | refine ao_callRT hTw tab_stays rfl (hT) trivial rfl rfl ?_
      | refine ao_lit rfl rfl rfl rfl trivial rfl rfl rfl rfl rfl rfl ?_
      | refine ao_app rfl rfl rfl rfl trivial rfl trivial rfl rfl trivial rfl rfl rfl rfl rfl (by simp [Blk.len]; omega) rfl rfl rfl ?_
      |(show allP _; first | trivial | exact ob1 (fun h => h) | exact ob2 (fun h => h) (fun h => h) | exact ob1 (fun h => ⟨h.1, trivial⟩) | (simp only [obS]; first | omega | (intros; omega) | (simp only [obL]; first | omega | (intros; omega)) | (refine ⟨?_, ?_⟩ <;> intros <;> first | (with_reducible assumption) | omega) | ((repeat' refine And.intro ?_ ?_) <;> (intros; first | (with_reducible assumption) | omega | (simp only [obL]; omega))) | ((try simp only [obB] at *); (try simp only [Blk.len] at *); first | omega | (intros; omega)) | (simp_all; done))))
    have hout : intsN (M.take (i + 1)) = intsN (M.take i) ++ [((M.getD i 0 : Nat) : Int)] := by rw [htk]; simp [intsN]
    refine ⟨i + 1, by omega, by omega, ?_⟩
    refine weak_to ?_ ?_ rfl rfl
    · repeat (first | exact subF_nil | refine subF_cons (by first | rfl | (simp [look]; done) | (rw [hand] <;> rfl)) ?_)
    · repeat (first | exact subS_nil | refine subS_cons (by first | rfl | (simp; done) | (rw [hout] <;> rfl)) ?_)
  · have hnil : M.drop i = [] := List.drop_eq_nil_of_le (by omega)
    have hz : setN (tailN (M.drop i)) 64 = 0 := by rw [hnil]; exact setN_none 64
    rw [hz]
    repeat' (first
    
      |refine zA ?_|refine zB ?_|refine zC (by kernel_rfl) (by kernel_rfl) ?_|refine zD ?_|refine zE ?_|refine zF rfl trivial ?_|refine zG ?_|refine zH rfl trivial ?_|refine zI ?_|refine zJ rfl trivial ?_|refine zK ?_|refine zL rfl trivial rfl ?_|refine zM ?_|refine zN rfl trivial ?_|refine zO rfl trivial ?_|refine zP rfl trivial (fun hc => ?_) (fun hc => ?_)|refine zQ rfl trivial (fun hc => ?_) (fun hc => ?_)|refine zR rfl trivial (fun hc => ?_) (fun hc => ?_)|refine zS rfl trivial (fun hc => ?_) (fun hc => ?_)|refine zT ?_|refine zU ?_|refine zF rfl ?_ ?_|refine zH rfl ?_ ?_|refine zJ rfl ?_ ?_|refine zL rfl ?_ rfl ?_|refine zV rfl trivial rfl rfl rfl ?_|refine zW rfl rfl rfl rfl ?_|refine zX rfl rfl trivial rfl trivial rfl rfl rfl rfl rfl ?_
      | (exfalso; omega)
      |(show allP _; first | trivial | exact ob1 (fun h => h) | exact ob2 (fun h => h) (fun h => h) | exact ob1 (fun h => ⟨h.1, trivial⟩) | (simp only [obS]; first | omega | (intros; omega) | (simp only [obL]; first | omega | (intros; omega)) | (refine ⟨?_, ?_⟩ <;> intros <;> first | (with_reducible assumption) | omega) | ((repeat' refine And.intro ?_ ?_) <;> (intros; first | (with_reducible assumption) | omega | (simp only [obL]; omega))) | ((try simp only [obB] at *); (try simp only [Blk.len] at *); first | omega | (intros; omega)) | (simp_all; done))))
    refine fin_ret ?_; exact retOwn rfl rfl (by rw [List.take_of_length_le (by omega)]) trivial

theorem fits_code (t : Topo) (down : List Bool) : fitsB t down = !(!validB t || !decide ((down.length : Int) = 0) && !decide ((down.length : Int) = arcsT t)) := by
  unfold fitsB arcsT
  cases hv : validB t with
  | false => rfl
  | true =>
    have e1 : decide (down.length = 0) = decide ((down.length : Int) = 0) := decide_eq_decide.2 (by omega)
    rw [e1]
    simp only [cond_true, Bool.true_and, Bool.not_true, Bool.false_or, Bool.not_and, Bool.not_not]
theorem c26_wrong (t : Topo) (down : List Bool) (n : Int) : Ctr Tryd.prog 29 [topoD t, boolsD down, iD n] [] (.d (iD (errS t down n))) := by
  refine spec_of envOK (Go.Wk.enters_of Tryd.func29 (by kernel_rfl) (by kernel_rfl)) Tryd.func29 rfl rfl _ rfl (Nat.le_of_ble_eq_true rfl) rfl fun w0 => ?_
  have hf := fits_code t down
  repeat' (first
  
    |refine zA ?_|refine zB ?_|refine zC (by kernel_rfl) (by kernel_rfl) ?_|refine zD ?_|refine zE ?_|refine zF rfl trivial ?_|refine zG ?_|refine zH rfl trivial ?_|refine zI ?_|refine zJ rfl trivial ?_|refine zK ?_|refine zL rfl trivial rfl ?_|refine zM ?_|refine zN rfl trivial ?_|refine zO rfl trivial ?_|refine zP rfl trivial (fun hc => ?_) (fun hc => ?_)|refine zQ rfl trivial (fun hc => ?_) (fun hc => ?_)|refine zR rfl trivial (fun hc => ?_) (fun hc => ?_)|refine zS rfl trivial (fun hc => ?_) (fun hc => ?_)|refine zT ?_|refine zU ?_|refine zF rfl ?_ ?_|refine zH rfl ?_ ?_|refine zJ rfl ?_ ?_|refine zL rfl ?_ rfl ?_|refine zV rfl trivial rfl rfl rfl ?_|refine zW rfl rfl rfl rfl ?_|refine zX rfl rfl trivial rfl trivial rfl rfl rfl rfl rfl ?_
    | (first | refine ao_call rfl (c_Valid _) rfl ?_ ?_ | refine aq_call rfl (c_Valid _) rfl ?_ ?_)
    | (first | refine ao_call rfl (c_Arcs _) rfl ?_ ?_ | refine aq_call rfl (c_Arcs _) rfl ?_ ?_)
    |(show allP _; first | trivial | exact ob1 (fun h => h) | exact ob2 (fun h => h) (fun h => h) | exact ob1 (fun h => ⟨h.1, trivial⟩) | (simp only [obS]; first | omega | (intros; omega) | (simp only [obL]; first | omega | (intros; omega)) | (refine ⟨?_, ?_⟩ <;> intros <;> first | (with_reducible assumption) | omega) | ((repeat' refine And.intro ?_ ?_) <;> (intros; first | (with_reducible assumption) | omega | (simp only [obL]; omega))) | ((try simp only [obB] at *); (try simp only [Blk.len] at *); first | omega | (intros; omega)) | (simp_all; done))))
  · (refine fin_ret ?_; exact ret1 (by rfl) (by (unfold errS; rw [hf, hc]; rfl)) (by rfl))
  · have h1 : (!validB t || !decide ((down.length : Int) = 0) && !decide ((down.length : Int) = arcsT t)) = false := by assumption
    (refine fin_ret ?_; exact ret1 (by rfl) (by (unfold errS; rw [hf, h1, hc]; rfl)) (by rfl))
  · have h1 : (!validB t || !decide ((down.length : Int) = 0) && !decide ((down.length : Int) = arcsT t)) = false := by assumption
    (refine fin_ret ?_; exact ret1 (by rfl) (by (unfold errS; rw [hf, h1, hc]; rfl)) (by rfl))

theorem uses_sum {t : Topo} (hv : validB t = true) {f g : List Int} {a x y : Int} (a0 : 0 ≤ a) (a1 : a < 2 * t.links.length) (hg : gI g y = 0) (hx : gI g x < 0 ∨ x = y) : onU t f g a x y = false := by
  have ha := arc_ok hv a0 a1
  rcases hx with hx | rfl
  · simp only [onU, Bool.and_eq_false_iff, Bool.not_eq_false', Bool.or_eq_true, decide_eq_true_eq, decide_eq_false_iff_not]
    by_cases h1 : gI f (tailT t a) < 0
    · exact .inl (.inl (.inl (.inl (.inl h1))))
    · by_cases h2 : gI g (headT t a) < 0
      · exact .inl (.inl (.inl (.inl (.inr h2))))
      · exact .inr (by omega)
  · simp [onU]
/-- What the code asks of an arc, against what the document says. -/
theorem uses_code {t : Topo} (hv : validB t = true) {f g : List Int} {a x y : Int} (a0 : 0 ≤ a) (a1 : a < 2 * t.links.length) (hg : gI g y = 0) :
    ((decide (tailT t a = x) || !overT t (tailT t a)) && (decide (headT t a = y) || !overT t (headT t a)) && decide (0 ≤ gI f (tailT t a)) && decide (0 ≤ gI g (headT t a)) && decide (gI f (tailT t a) + costT t a + gI g (headT t a) = gI g x)) = onU t f g a x y := by
  have ha := arc_ok hv a0 a1
  have e2 : ∀ z : Int, decide (0 ≤ z) = !decide (z < 0) := fun z => by by_cases h0 : z < 0 <;> simp [h0] <;> omega
  by_cases hxy : x = y
  · rw [uses_sum hv a0 a1 hg (.inr hxy)]
    subst hxy
    rw [hg]
    by_cases h1 : gI f (tailT t a) < 0
    · rw [e2, decide_eq_true h1]; simp
    · by_cases h2 : gI g (headT t a) < 0
      · rw [e2 (gI g _), decide_eq_true h2]; simp
      · rw [decide_eq_false (by omega : ¬ gI f (tailT t a) + costT t a + gI g (headT t a) = 0)]; simp
  · unfold onU transB
    rw [e2, e2, decide_eq_false hxy]
    cases decide (gI f (tailT t a) < 0) <;> cases decide (gI g (headT t a) < 0) <;> cases (decide (tailT t a = x) || !overT t (tailT t a)) <;> cases (decide (headT t a = y) || !overT t (headT t a)) <;> simp

theorem usesL_no {t : Topo} {down : List Bool} {f g : List Int} {x y : Int} (h : ∀ a : Int, 0 ≤ a → a < 2 * t.links.length → (!upB down a && onU t f g a x y) = false) : usesL t down f g x y = false := by
  unfold usesL
  rw [List.any_eq_false]
  intro a ha
  obtain ⟨h0, h1⟩ := mem_arcsR.1 ha
  rw [h a h0 (by omega)]; simp

set_option maxHeartbeats 1000000 in
theorem c26_Uses (t : Topo) (down : List Bool) (x y : Int) : Ctr Tryd.prog 11 [topoD t, boolsD down, iD x, iD y] [] (.d (bD (usesB t down x y))) := by
  refine spec_of envOK (Go.Wk.enters_of Tryd.func11 (by kernel_rfl) (by kernel_rfl)) Tryd.func11 rfl rfl _ rfl (Nat.le_of_ble_eq_true rfl) rfl fun w0 => ?_
  by_cases hin : errS t down x = 0 ∧ errS t down y = 0
  · obtain ⟨hex, hey⟩ := hin
    obtain ⟨hfit, x0, x1⟩ := errS_0 hex
    obtain ⟨_, y0, y1⟩ := errS_0 hey
    have hv := fitsB_v hfit
    have hnn := validB_head hv
    have hfn : fitsB t [] = true := by simp [fitsB, hv]
    have ex := errS_ok hfn x0 x1
    have ey := errS_ok hfn y0 y1
    have hF := distL_is (fr := true) ex
    have hG := distL_is (fr := false) ey
    have hfb := distL_bnd (fr := true) ex
    have hgb := distL_bnd (fr := false) ey
    have hW1 := c26_wrong t down x
    have hW2 := c26_wrong t down y
    rw [hex] at hW1
    rw [hey] at hW2
    have hR := (c_From t [] x).args (ds' := [topoD t, nilD, iD x]) ⟨DLe.refl _, DLe.nil, DLe.refl _, trivial⟩
    have hS := (c_Dist t [] y).args (ds' := [topoD t, nilD, iD y]) ⟨DLe.refl _, DLe.nil, DLe.refl _, trivial⟩
    have hu : usesB t down x y = usesL t down (distL t [] x true) (distL t [] y false) x y := by
      simp [usesB, hfit, x0, x1, y0, y1]
    rw [hu]
    rw [ex] at hR
    rw [ey] at hS
    have hfl := hF.len
    have hgl := hG.len
    have hfs := hF.sign
    have hgs := hG.sign
    have hgy := hG.self
    generalize distL t [] x true = f at *
    generalize distL t [] y false = g at *
    have hix : x < (Blk.ints .i64 g).len := by simp [Blk.len]; omega
    repeat' (first
    
      |refine zA ?_|refine zB ?_|refine zC (by kernel_rfl) (by kernel_rfl) ?_|refine zD ?_|refine zE ?_|refine zF rfl trivial ?_|refine zG ?_|refine zH rfl trivial ?_|refine zI ?_|refine zJ rfl trivial ?_|refine zK ?_|refine zL rfl trivial rfl ?_|refine zM ?_|refine zN rfl trivial ?_|refine zO rfl trivial ?_|refine zP rfl trivial (fun hc => ?_) (fun hc => ?_)|refine zQ rfl trivial (fun hc => ?_) (fun hc => ?_)|refine zR rfl trivial (fun hc => ?_) (fun hc => ?_)|refine zS rfl trivial (fun hc => ?_) (fun hc => ?_)|refine zT ?_|refine zU ?_|refine zF rfl ?_ ?_|refine zH rfl ?_ ?_|refine zJ rfl ?_ ?_|refine zL rfl ?_ rfl ?_|refine zV rfl trivial rfl rfl rfl ?_|refine zW rfl rfl rfl rfl ?_|refine zX rfl rfl trivial rfl trivial rfl rfl rfl rfl rfl ?_
      | (first | refine ao_call rfl (hW1) rfl ?_ ?_ | refine aq_call rfl (hW1) rfl ?_ ?_)
      | (first | refine ao_call rfl (hW2) rfl ?_ ?_ | refine aq_call rfl (hW2) rfl ?_ ?_)
      | refine ao_callR rfl (hR) trivial rfl rfl ?_
      | refine ao_callR rfl (hS) trivial rfl rfl ?_
      |(show allP _; first | trivial | exact ob1 (fun h => h) | exact ob2 (fun h => h) (fun h => h) | exact ob1 (fun h => ⟨h.1, trivial⟩) | (simp only [obS]; first | omega | (intros; omega) | (simp only [obL]; first | omega | (intros; omega)) | (refine ⟨?_, ?_⟩ <;> intros <;> first | (with_reducible assumption) | omega) | ((repeat' refine And.intro ?_ ?_) <;> (intros; first | (with_reducible assumption) | omega | (simp only [obL]; omega))) | ((try simp only [obB] at *); (try simp only [Blk.len] at *); first | omega | (intros; omega)) | (simp_all; done))))
    · (refine fin_ret ?_; exact ret1 (by rfl) (by (rw [usesL_no fun a a0 a1 => by rw [uses_sum hv a0 a1 hgy (.inl hc)]; simp])) (by rfl))
    have hlen := fits_len hfit
    refine aw_loop (ι := Nat) (fun i => [(49, [], .d (iD i)), (48, [], .d (iD down.length)), (47, [], .d (boolsD down)), (11, [], .own 2), (9, [], .own 1), (4, [], .ptr 0 0), (2, [], .d (iD x)), (3, [], .d (iD y))]) (fun _ => [tBlk t, .ints .i64 f, .ints .i64 g])
      (fun i => i ≤ down.length ∧ ∀ a : Nat, a < i → (!upB down a && onU t f g a x y) = false) (fun i => down.length - i) 0 ⟨by simp, fun a h => absurd h (Nat.not_lt_zero _)⟩ (fun _ => Nat.le_of_ble_eq_true rfl) (by refine weak_to ?_ ?_ rfl rfl
                                                                                                                                                                                                                        · repeat (first | exact subF_nil | refine subF_cons (by first | rfl | (simp [look]; done)) ?_)
                                                                                                                                                                                                                        · repeat (first | exact subS_nil | refine subS_cons (by first | rfl | (simp; done)) ?_)) fun i hi => ?_
    obtain ⟨hi, hno⟩ := hi
    by_cases hil : i < down.length
    · have ha := arc_ok (a := (i : Int)) hv (by omega) (by omega)
      have hcode := uses_code (f := f) (x := x) (a := (i : Int)) hv (by omega) (by omega) hgy
      have hfb1 : f.getD (tailT t (i : Int)).toNat 0 ≤ 65535 * 64 := hfb _ ha.1 ha.2.1
      have hfs1 : f.getD (tailT t (i : Int)).toNat 0 = -1 ∨ 0 ≤ f.getD (tailT t (i : Int)).toNat 0 := hfs _ ha.1 ha.2.1
      have hgb1 : g.getD (headT t (i : Int)).toNat 0 ≤ 65535 * 64 := hgb _ ha.2.2.1 ha.2.2.2.1
      have hgs1 : g.getD (headT t (i : Int)).toNat 0 = -1 ∨ 0 ≤ g.getD (headT t (i : Int)).toNat 0 := hgs _ ha.2.2.1 ha.2.2.2.1
      have hi1 : tailT t (i : Int) < (Blk.ints .i64 f).len := by simp [Blk.len]; omega
      have hi2 : headT t (i : Int) < (Blk.ints .i64 g).len := by simp [Blk.len]; omega
      have key : (down.getD ((i : Int)).toNat false && ((decide (tailT t (i : Int) = x) || !overT t (tailT t (i : Int))) && (decide (headT t (i : Int) = y) || !overT t (headT t (i : Int)))) && decide (0 ≤ gI f (tailT t (i : Int))) && decide (0 ≤ gI g (headT t (i : Int))) && decide (gI f (tailT t (i : Int)) + costT t (i : Int) + gI g (headT t (i : Int)) = gI g x)) = (!upB down (i : Int) && onU t f g (i : Int) x y) := by
        rw [← hcode]
        unfold upB
        rw [decide_eq_false (by omega : ¬ down.length = 0)]
        simp only [Bool.false_or, Bool.not_not, Bool.and_assoc]
      simp only [gI] at key
      repeat' (first
      
        |refine zA ?_|refine zB ?_|refine zC (by kernel_rfl) (by kernel_rfl) ?_|refine zD ?_|refine zE ?_|refine zF rfl trivial ?_|refine zG ?_|refine zH rfl trivial ?_|refine zI ?_|refine zJ rfl trivial ?_|refine zK ?_|refine zL rfl trivial rfl ?_|refine zM ?_|refine zN rfl trivial ?_|refine zO rfl trivial ?_|refine zP rfl trivial (fun hc => ?_) (fun hc => ?_)|refine zQ rfl trivial (fun hc => ?_) (fun hc => ?_)|refine zR rfl trivial (fun hc => ?_) (fun hc => ?_)|refine zS rfl trivial (fun hc => ?_) (fun hc => ?_)|refine zT ?_|refine zU ?_|refine zF rfl ?_ ?_|refine zH rfl ?_ ?_|refine zJ rfl ?_ ?_|refine zL rfl ?_ rfl ?_|refine zV rfl trivial rfl rfl rfl ?_|refine zW rfl rfl rfl rfl ?_|refine zX rfl rfl trivial rfl trivial rfl rfl rfl rfl rfl ?_
        | (exfalso; omega)
        | (first | refine ao_call rfl (c_Tail _ _) rfl ?_ ?_ | refine aq_call rfl (c_Tail _ _) rfl ?_ ?_)
        | (first | refine ao_call rfl (c_Head _ _) rfl ?_ ?_ | refine aq_call rfl (c_Head _ _) rfl ?_ ?_)
        | (first | refine ao_call rfl (c_Overloaded _ _) rfl ?_ ?_ | refine aq_call rfl (c_Overloaded _ _) rfl ?_ ?_)
        | (first | refine ao_call rfl (c_Cost _ _) rfl ?_ ?_ | refine aq_call rfl (c_Cost _ _) rfl ?_ ?_)
        |(show allP _; first | trivial | exact ob1 (fun h => h) | exact ob2 (fun h => h) (fun h => h) | exact ob1 (fun h => ⟨h.1, trivial⟩) | (simp only [obS]; first | omega | (intros; omega) | (simp only [obL]; first | omega | (intros; omega)) | (refine ⟨?_, ?_⟩ <;> intros <;> first | (with_reducible assumption) | omega) | ((repeat' refine And.intro ?_ ?_) <;> (intros; first | (with_reducible assumption) | omega | (simp only [obL]; omega))) | ((try simp only [obB] at *); (try simp only [Blk.len] at *); first | omega | (intros; omega)) | (simp_all; done))))
      · (refine fin_ret ?_; exact ret1 (by rfl) (by (rw [show usesL t down f g x y = true from List.any_eq_true.2 ⟨(i : Int), mem_arcsR.2 ⟨by omega, by omega⟩, by rw [← key]; exact hc⟩])) (by rfl))
      · refine ⟨i + 1, ⟨by omega, fun a h2 => ?_⟩, by omega, ?_⟩
        · rcases Nat.lt_succ_iff_lt_or_eq.1 h2 with h | rfl
          · exact hno a h
          · rw [← key]; exact hc
        · refine weak_to ?_ ?_ rfl rfl
          · repeat (first | exact subF_nil | refine subF_cons (by first | rfl | (simp [look]; done)) ?_)
          · repeat (first | exact subS_nil | refine subS_cons (by first | rfl | (simp; done)) ?_)
    · repeat' (first
      
        |refine zA ?_|refine zB ?_|refine zC (by kernel_rfl) (by kernel_rfl) ?_|refine zD ?_|refine zE ?_|refine zF rfl trivial ?_|refine zG ?_|refine zH rfl trivial ?_|refine zI ?_|refine zJ rfl trivial ?_|refine zK ?_|refine zL rfl trivial rfl ?_|refine zM ?_|refine zN rfl trivial ?_|refine zO rfl trivial ?_|refine zP rfl trivial (fun hc => ?_) (fun hc => ?_)|refine zQ rfl trivial (fun hc => ?_) (fun hc => ?_)|refine zR rfl trivial (fun hc => ?_) (fun hc => ?_)|refine zS rfl trivial (fun hc => ?_) (fun hc => ?_)|refine zT ?_|refine zU ?_|refine zF rfl ?_ ?_|refine zH rfl ?_ ?_|refine zJ rfl ?_ ?_|refine zL rfl ?_ rfl ?_|refine zV rfl trivial rfl rfl rfl ?_|refine zW rfl rfl rfl rfl ?_|refine zX rfl rfl trivial rfl trivial rfl rfl rfl rfl rfl ?_
        | (exfalso; omega)
        |(show allP _; first | trivial | exact ob1 (fun h => h) | exact ob2 (fun h => h) (fun h => h) | exact ob1 (fun h => ⟨h.1, trivial⟩) | (simp only [obS]; first | omega | (intros; omega) | (simp only [obL]; first | omega | (intros; omega)) | (refine ⟨?_, ?_⟩ <;> intros <;> first | (with_reducible assumption) | omega) | ((repeat' refine And.intro ?_ ?_) <;> (intros; first | (with_reducible assumption) | omega | (simp only [obL]; omega))) | ((try simp only [obB] at *); (try simp only [Blk.len] at *); first | omega | (intros; omega)) | (simp_all; done))))
      (refine fin_ret ?_; exact ret1 (by rfl) (by (rw [usesL_no fun a a0 a1 => by
        rcases hlen with h | h
        · unfold upB; rw [decide_eq_true h]; simp
        · have := hno a.toNat (by omega)
          rw [show ((a.toNat : Nat) : Int) = a by omega] at this
          exact this])) (by rfl))
  · have hu : usesB t down x y = false := by
      refine Bool.eq_false_iff.2 fun h => hin ?_
      simp only [usesB, Bool.and_eq_true, decide_eq_true_eq] at h
      exact ⟨errS_ok h.1.1.1.1.1 h.1.1.1.1.2 h.1.1.1.2, errS_ok h.1.1.1.1.1 h.1.1.2 h.1.2⟩
    repeat' (first
    
      |refine zA ?_|refine zB ?_|refine zC (by kernel_rfl) (by kernel_rfl) ?_|refine zD ?_|refine zE ?_|refine zF rfl trivial ?_|refine zG ?_|refine zH rfl trivial ?_|refine zI ?_|refine zJ rfl trivial ?_|refine zK ?_|refine zL rfl trivial rfl ?_|refine zM ?_|refine zN rfl trivial ?_|refine zO rfl trivial ?_|refine zP rfl trivial (fun hc => ?_) (fun hc => ?_)|refine zQ rfl trivial (fun hc => ?_) (fun hc => ?_)|refine zR rfl trivial (fun hc => ?_) (fun hc => ?_)|refine zS rfl trivial (fun hc => ?_) (fun hc => ?_)|refine zT ?_|refine zU ?_|refine zF rfl ?_ ?_|refine zH rfl ?_ ?_|refine zJ rfl ?_ ?_|refine zL rfl ?_ rfl ?_|refine zV rfl trivial rfl rfl rfl ?_|refine zW rfl rfl rfl rfl ?_|refine zX rfl rfl trivial rfl trivial rfl rfl rfl rfl rfl ?_
      | (first | refine ao_call rfl (c26_wrong _ _ _) rfl ?_ ?_ | refine aq_call rfl (c26_wrong _ _ _) rfl ?_ ?_)
      |(show allP _; first | trivial | exact ob1 (fun h => h) | exact ob2 (fun h => h) (fun h => h) | exact ob1 (fun h => ⟨h.1, trivial⟩) | (simp only [obS]; first | omega | (intros; omega) | (simp only [obL]; first | omega | (intros; omega)) | (refine ⟨?_, ?_⟩ <;> intros <;> first | (with_reducible assumption) | omega) | ((repeat' refine And.intro ?_ ?_) <;> (intros; first | (with_reducible assumption) | omega | (simp only [obL]; omega))) | ((try simp only [obB] at *); (try simp only [Blk.len] at *); first | omega | (intros; omega)) | (simp_all; done))))
    · (refine fin_ret ?_; exact ret1 (by rfl) (by (rw [hu])) (by rfl))
    · exfalso
      refine hin ?_
      simp only [Bool.or_eq_false_iff, Bool.not_eq_false', decide_eq_true_eq] at hc
      exact hc
end Go.Proofs.YtcnfggpcploehaaDoor

/- Layer 26: the spaces. -/
namespace Go.Proofs.YtcnfggpcploehaaDoor
set_option maxRecDepth 10000
open Go.Wk

/-- The members below a bound. -/
def upto (q : Nat → Bool) (i : Nat) : Nat → Bool := fun k => decide (k < i) && q k
theorem upto_0 (q : Nat → Bool) : setI (upto q 0) = 0 := by
  rw [← setI_none]; exact setI_congr fun k _ => by simp [upto]
theorem upto_no {q : Nat → Bool} {i : Nat} (h : q i = false) : setI (upto q (i + 1)) = setI (upto q i) := setI_congr fun k _ => by
  unfold upto
  by_cases hk : k = i
  · subst hk; simp [h]
  · have e : decide (k < i + 1) = decide (k < i) := decide_eq_decide.2 (by omega)
    rw [e]
theorem upto_yes {q : Nat → Bool} {i : Nat} (hi : i < 64) (h : q i = true) : bitI .or .u64 (setI (upto q i)) (shlI .u64 1 (i : Int)) = setI (upto q (i + 1)) := by
  rw [one_set (by omega) (by omega), or_set]
  refine setI_congr fun k _ => ?_
  unfold upto
  by_cases hk : k = i
  · subst hk; simp [h]
  · have e : decide (k < i + 1) = decide (k < i) := decide_eq_decide.2 (by omega)
    rw [e, decide_eq_false (by omega : ¬ (k : Int) = (i : Int))]; simp
noncomputable def pQ (t : Topo) (down : List Bool) (n : Int) : Nat → Bool := fun k => decide ((k : Int) < t.nodes) && (decide (0 ≤ gI (distL t [] n true) k) && !usesB t down n k)
noncomputable def qQ (t : Topo) (down : List Bool) (d : Int) : Nat → Bool := fun k => decide ((k : Int) < t.nodes) && (decide (0 ≤ gI (distL t [] d false) k) && !usesB t down k d)
theorem upto_all {q : Nat → Bool} {n : Nat} (h : ∀ k, q k = true → k < n) : setI (upto q n) = setI q := setI_congr fun k _ => by
  unfold upto
  by_cases hk : k < n
  · simp [hk]
  · cases hq : q k with
    | false => simp
    | true => exact absurd (h k hq) hk
theorem pQ_lt {t : Topo} {down : List Bool} {n : Int} {k : Nat} (h : pQ t down n k = true) : (k : Int) < t.nodes := by
  simp only [pQ, Bool.and_eq_true, decide_eq_true_eq] at h; exact h.1
theorem qQ_lt {t : Topo} {down : List Bool} {n : Int} {k : Nat} (h : qQ t down n k = true) : (k : Int) < t.nodes := by
  simp only [qQ, Bool.and_eq_true, decide_eq_true_eq] at h; exact h.1

set_option maxHeartbeats 1000000 in
theorem c26_pspace (t : Topo) (down : List Bool) (n : Int) (hv : validB t = true) (n0 : 0 ≤ n) (n1 : n < t.nodes) : Ctr Tryd.prog 45 [topoD t, boolsD down, iD n] [] (.d (.int .u64 (setI (pQ t down n)))) := by
  refine spec_of envOK (Go.Wk.enters_of Tryd.func45 (by kernel_rfl) (by kernel_rfl)) Tryd.func45 rfl rfl _ rfl (Nat.le_of_ble_eq_true rfl) rfl fun w0 => ?_
  have hnn := validB_head hv
  have en : errS t [] n = 0 := errS_ok (by simp [fitsB, hv]) n0 n1
  have hF := distL_is (fr := true) en
  have hR := (c_From t [] n).args (ds' := [topoD t, nilD, iD n]) ⟨DLe.refl _, DLe.nil, DLe.refl _, trivial⟩
  rw [en] at hR
  have hfl := hF.len
  have hq : ∀ i : Nat, (i : Int) < t.nodes → pQ t down n i = (decide (0 ≤ (distL t [] n true).getD (i : Int).toNat 0) && !usesB t down n i) := fun i hi => by
    unfold pQ; rw [decide_eq_true hi]; rfl
  have hql : ∀ k, pQ t down n k = true → k < (distL t [] n true).length := fun k hk => by have := pQ_lt hk; omega
  rw [← upto_all hql]
  generalize pQ t down n = q at *
  generalize distL t [] n true = f at *
  repeat' (first
  
    |refine zA ?_|refine zB ?_|refine zC (by kernel_rfl) (by kernel_rfl) ?_|refine zD ?_|refine zE ?_|refine zF rfl trivial ?_|refine zG ?_|refine zH rfl trivial ?_|refine zI ?_|refine zJ rfl trivial ?_|refine zK ?_|refine zL rfl trivial rfl ?_|refine zM ?_|refine zN rfl trivial ?_|refine zO rfl trivial ?_|refine zP rfl trivial (fun hc => ?_) (fun hc => ?_)|refine zQ rfl trivial (fun hc => ?_) (fun hc => ?_)|refine zR rfl trivial (fun hc => ?_) (fun hc => ?_)|refine zS rfl trivial (fun hc => ?_) (fun hc => ?_)|refine zT ?_|refine zU ?_|refine zF rfl ?_ ?_|refine zH rfl ?_ ?_|refine zJ rfl ?_ ?_|refine zL rfl ?_ rfl ?_|refine zV rfl trivial rfl rfl rfl ?_|refine zW rfl rfl rfl rfl ?_|refine zX rfl rfl trivial rfl trivial rfl rfl rfl rfl rfl ?_
    | refine ao_callR rfl (hR) trivial rfl rfl ?_
    |(show allP _; first | trivial | exact ob1 (fun h => h) | exact ob2 (fun h => h) (fun h => h) | exact ob1 (fun h => ⟨h.1, trivial⟩) | (simp only [obS]; first | omega | (intros; omega) | (simp only [obL]; first | omega | (intros; omega)) | (refine ⟨?_, ?_⟩ <;> intros <;> first | (with_reducible assumption) | omega) | ((repeat' refine And.intro ?_ ?_) <;> (intros; first | (with_reducible assumption) | omega | (simp only [obL]; omega))) | ((try simp only [obB] at *); (try simp only [Blk.len] at *); first | omega | (intros; omega)) | (simp_all; done))))
  refine aw_loop (ι := Nat) (fun i => [(20, [], .d (iD i)), (19, [], .d (iD f.length)), (18, [], .own 1), (7, [], .d (.int .u64 (setI (upto q i)))), (3, [], .ptr 0 0), (1, [], .d (boolsD down)), (2, [], .d (iD n))]) (fun _ => [tBlk t, .ints .i64 f])
    (fun i => i ≤ f.length) (fun i => f.length - i) 0 (by simp) (fun _ => Nat.le_of_ble_eq_true rfl) ?_ fun i hi => ?_
  · refine weak_to ?_ ?_ rfl rfl
    · repeat (first | exact subF_nil | refine subF_cons (by first | rfl | (simp [look]; done) | (rw [upto_0] <;> rfl)) ?_)
    · repeat (first | exact subS_nil | refine subS_cons (by first | rfl | (simp; done) | rfl) ?_)
  by_cases hil : i < f.length
  · have hqi := hq i (by omega)
    have hbi : (i : Int) < (Blk.ints .i64 f).len := by simp [Blk.len]; omega
    repeat' (first
    
      |refine zA ?_|refine zB ?_|refine zC (by kernel_rfl) (by kernel_rfl) ?_|refine zD ?_|refine zE ?_|refine zF rfl trivial ?_|refine zG ?_|refine zH rfl trivial ?_|refine zI ?_|refine zJ rfl trivial ?_|refine zK ?_|refine zL rfl trivial rfl ?_|refine zM ?_|refine zN rfl trivial ?_|refine zO rfl trivial ?_|refine zP rfl trivial (fun hc => ?_) (fun hc => ?_)|refine zQ rfl trivial (fun hc => ?_) (fun hc => ?_)|refine zR rfl trivial (fun hc => ?_) (fun hc => ?_)|refine zS rfl trivial (fun hc => ?_) (fun hc => ?_)|refine zT ?_|refine zU ?_|refine zF rfl ?_ ?_|refine zH rfl ?_ ?_|refine zJ rfl ?_ ?_|refine zL rfl ?_ rfl ?_|refine zV rfl trivial rfl rfl rfl ?_|refine zW rfl rfl rfl rfl ?_|refine zX rfl rfl trivial rfl trivial rfl rfl rfl rfl rfl ?_
      | (exfalso; omega)
      | (first | refine ao_call rfl (c26_Uses _ _ _ _) rfl ?_ ?_ | refine aq_call rfl (c26_Uses _ _ _ _) rfl ?_ ?_)
      |(show allP _; first | trivial | exact ob1 (fun h => h) | exact ob2 (fun h => h) (fun h => h) | exact ob1 (fun h => ⟨h.1, trivial⟩) | (simp only [obS]; first | omega | (intros; omega) | (simp only [obL]; first | omega | (intros; omega)) | (refine ⟨?_, ?_⟩ <;> intros <;> first | (with_reducible assumption) | omega) | ((repeat' refine And.intro ?_ ?_) <;> (intros; first | (with_reducible assumption) | omega | (simp only [obL]; omega))) | ((try simp only [obB] at *); (try simp only [Blk.len] at *); first | omega | (intros; omega)) | (simp_all; done))))
    · have hy : q i = true := by rw [hqi]; exact hc
      refine ⟨i + 1, by omega, by omega, ?_⟩
      refine weak_to ?_ ?_ rfl rfl
      · repeat (first | exact subF_nil | refine subF_cons (by first | rfl | (simp [look]; done) | (rw [upto_yes (by omega) hy] <;> rfl)) ?_)
      · repeat (first | exact subS_nil | refine subS_cons (by first | rfl | (simp; done) | rfl) ?_)
    · have hy : q i = false := by rw [hqi]; exact hc
      refine ⟨i + 1, by omega, by omega, ?_⟩
      refine weak_to ?_ ?_ rfl rfl
      · repeat (first | exact subF_nil | refine subF_cons (by first | rfl | (simp [look]; done) | (rw [upto_no hy] <;> rfl)) ?_)
      · repeat (first | exact subS_nil | refine subS_cons (by first | rfl | (simp; done) | rfl) ?_)
  · repeat' (first
    
      |refine zA ?_|refine zB ?_|refine zC (by kernel_rfl) (by kernel_rfl) ?_|refine zD ?_|refine zE ?_|refine zF rfl trivial ?_|refine zG ?_|refine zH rfl trivial ?_|refine zI ?_|refine zJ rfl trivial ?_|refine zK ?_|refine zL rfl trivial rfl ?_|refine zM ?_|refine zN rfl trivial ?_|refine zO rfl trivial ?_|refine zP rfl trivial (fun hc => ?_) (fun hc => ?_)|refine zQ rfl trivial (fun hc => ?_) (fun hc => ?_)|refine zR rfl trivial (fun hc => ?_) (fun hc => ?_)|refine zS rfl trivial (fun hc => ?_) (fun hc => ?_)|refine zT ?_|refine zU ?_|refine zF rfl ?_ ?_|refine zH rfl ?_ ?_|refine zJ rfl ?_ ?_|refine zL rfl ?_ rfl ?_|refine zV rfl trivial rfl rfl rfl ?_|refine zW rfl rfl rfl rfl ?_|refine zX rfl rfl trivial rfl trivial rfl rfl rfl rfl rfl ?_
      | (exfalso; omega)
      |(show allP _; first | trivial | exact ob1 (fun h => h) | exact ob2 (fun h => h) (fun h => h) | exact ob1 (fun h => ⟨h.1, trivial⟩) | (simp only [obS]; first | omega | (intros; omega) | (simp only [obL]; first | omega | (intros; omega)) | (refine ⟨?_, ?_⟩ <;> intros <;> first | (with_reducible assumption) | omega) | ((repeat' refine And.intro ?_ ?_) <;> (intros; first | (with_reducible assumption) | omega | (simp only [obL]; omega))) | ((try simp only [obB] at *); (try simp only [Blk.len] at *); first | omega | (intros; omega)) | (simp_all; done))))
    have he : i = f.length := by omega
    subst he
    (refine fin_ret ?_; exact ret1 (by rfl) (by rfl) (by rfl))

def spaceR (t : Topo) (down : List Bool) (n : Int) (q : Nat → Bool) : List Int := if errS t down n = 0 then intsN (setL q) else []
theorem c26_PSpace (t : Topo) (down : List Bool) (n : Int) : CtrT tabT Tryd.prog 16 [topoD t, boolsD down, iD n] [.ints .i64 (spaceR t down n (pQ t down n))] (.tup [.own 0, .d (iD (errS t down n))]) := by
  refine spec_ofT envOK (Go.Wk.enters_of Tryd.func16 (by kernel_rfl) (by kernel_rfl)) Tryd.func16 rfl rfl _ rfl (Nat.le_of_ble_eq_true rfl) rfl fun w0 hTw => ?_
  by_cases he : errS t down n = 0
  · obtain ⟨hfit, n0, n1⟩ := errS_0 he
    have hP := c26_pspace t down n (fitsB_v hfit) n0 n1
    have hL := c26_list (pQ t down n)
    rw [show spaceR t down n (pQ t down n) = intsN (setL (pQ t down n)) from if_pos he, he]
    repeat' (first
    
      |refine zA ?_|refine zB ?_|refine zC (by kernel_rfl) (by kernel_rfl) ?_|refine zD ?_|refine zE ?_|refine zF rfl trivial ?_|refine zG ?_|refine zH rfl trivial ?_|refine zI ?_|refine zJ rfl trivial ?_|refine zK ?_|refine zL rfl trivial rfl ?_|refine zM ?_|refine zN rfl trivial ?_|refine zO rfl trivial ?_|refine zP rfl trivial (fun hc => ?_) (fun hc => ?_)|refine zQ rfl trivial (fun hc => ?_) (fun hc => ?_)|refine zR rfl trivial (fun hc => ?_) (fun hc => ?_)|refine zS rfl trivial (fun hc => ?_) (fun hc => ?_)|refine zT ?_|refine zU ?_|refine zF rfl ?_ ?_|refine zH rfl ?_ ?_|refine zJ rfl ?_ ?_|refine zL rfl ?_ rfl ?_|refine zV rfl trivial rfl rfl rfl ?_|refine zW rfl rfl rfl rfl ?_|refine zX rfl rfl trivial rfl trivial rfl rfl rfl rfl rfl ?_
      | (exfalso; exact absurd he (by assumption))
      | (first | refine ao_call rfl (c26_wrong t down n) rfl ?_ ?_ | refine aq_call rfl (c26_wrong t down n) rfl ?_ ?_)
      | (first | refine ao_call rfl (hP) rfl ?_ ?_ | refine aq_call rfl (hP) rfl ?_ ?_)
      | refine ao_callRT hTw tab_stays rfl (hL) trivial rfl rfl ?_
      |(show allP _; first | trivial | exact ob1 (fun h => h) | exact ob2 (fun h => h) (fun h => h) | exact ob1 (fun h => ⟨h.1, trivial⟩) | (simp only [obS]; first | omega | (intros; omega) | (simp only [obL]; first | omega | (intros; omega)) | (refine ⟨?_, ?_⟩ <;> intros <;> first | (with_reducible assumption) | omega) | ((repeat' refine And.intro ?_ ?_) <;> (intros; first | (with_reducible assumption) | omega | (simp only [obL]; omega))) | ((try simp only [obB] at *); (try simp only [Blk.len] at *); first | omega | (intros; omega)) | (simp_all; done))))
    refine fin_ret ?_; exact retOwn2 rfl rfl rfl rfl trivial rfl
  · rw [show spaceR t down n (pQ t down n) = [] from if_neg he]
    repeat' (first
    
      |refine zA ?_|refine zB ?_|refine zC (by kernel_rfl) (by kernel_rfl) ?_|refine zD ?_|refine zE ?_|refine zF rfl trivial ?_|refine zG ?_|refine zH rfl trivial ?_|refine zI ?_|refine zJ rfl trivial ?_|refine zK ?_|refine zL rfl trivial rfl ?_|refine zM ?_|refine zN rfl trivial ?_|refine zO rfl trivial ?_|refine zP rfl trivial (fun hc => ?_) (fun hc => ?_)|refine zQ rfl trivial (fun hc => ?_) (fun hc => ?_)|refine zR rfl trivial (fun hc => ?_) (fun hc => ?_)|refine zS rfl trivial (fun hc => ?_) (fun hc => ?_)|refine zT ?_|refine zU ?_|refine zF rfl ?_ ?_|refine zH rfl ?_ ?_|refine zJ rfl ?_ ?_|refine zL rfl ?_ rfl ?_|refine zV rfl trivial rfl rfl rfl ?_|refine zW rfl rfl rfl rfl ?_|refine zX rfl rfl trivial rfl trivial rfl rfl rfl rfl rfl ?_
      | (exfalso; exact absurd (by assumption) he)
      | (first | refine ao_call rfl (c26_wrong t down n) rfl ?_ ?_ | refine aq_call rfl (c26_wrong t down n) rfl ?_ ?_)
      |(show allP _; first | trivial | exact ob1 (fun h => h) | exact ob2 (fun h => h) (fun h => h) | exact ob1 (fun h => ⟨h.1, trivial⟩) | (simp only [obS]; first | omega | (intros; omega) | (simp only [obL]; first | omega | (intros; omega)) | (refine ⟨?_, ?_⟩ <;> intros <;> first | (with_reducible assumption) | omega) | ((repeat' refine And.intro ?_ ?_) <;> (intros; first | (with_reducible assumption) | omega | (simp only [obL]; omega))) | ((try simp only [obB] at *); (try simp only [Blk.len] at *); first | omega | (intros; omega)) | (simp_all; done))))
    refine fin_ret ?_; exact retNil2 rfl rfl rfl trivial rfl

set_option maxHeartbeats 1000000 in
theorem c26_QSpace (t : Topo) (down : List Bool) (n : Int) : CtrT tabT Tryd.prog 25 [topoD t, boolsD down, iD n] [.ints .i64 (spaceR t down n (qQ t down n))] (.tup [.own 0, .d (iD (errS t down n))]) := by
  refine spec_ofT envOK (Go.Wk.enters_of Tryd.func25 (by kernel_rfl) (by kernel_rfl)) Tryd.func25 rfl rfl _ rfl (Nat.le_of_ble_eq_true rfl) rfl fun w0 hTw => ?_
  by_cases he : errS t down n = 0
  · obtain ⟨hfit, n0, n1⟩ := errS_0 he
    have hv := fitsB_v hfit
    have hnn := validB_head hv
    have en : errS t [] n = 0 := errS_ok (by simp [fitsB, hv]) n0 n1
    have hF := distL_is (fr := false) en
    have hR := (c_Dist t [] n).args (ds' := [topoD t, nilD, iD n]) ⟨DLe.refl _, DLe.nil, DLe.refl _, trivial⟩
    rw [en] at hR
    have hfl := hF.len
    have hq : ∀ i : Nat, (i : Int) < t.nodes → qQ t down n i = (decide (0 ≤ (distL t [] n false).getD (i : Int).toNat 0) && !usesB t down i n) := fun i hi => by
      unfold qQ; rw [decide_eq_true hi]; rfl
    have hql : ∀ k, qQ t down n k = true → k < (distL t [] n false).length := fun k hk => by have := qQ_lt hk; omega
    rw [show spaceR t down n (qQ t down n) = intsN (setL (qQ t down n)) from if_pos he, he]
    have hL := c26_list (qQ t down n)
    generalize qQ t down n = q at *
    generalize distL t [] n false = f at *
    repeat' (first
    
      |refine zA ?_|refine zB ?_|refine zC (by kernel_rfl) (by kernel_rfl) ?_|refine zD ?_|refine zE ?_|refine zF rfl trivial ?_|refine zG ?_|refine zH rfl trivial ?_|refine zI ?_|refine zJ rfl trivial ?_|refine zK ?_|refine zL rfl trivial rfl ?_|refine zM ?_|refine zN rfl trivial ?_|refine zO rfl trivial ?_|refine zP rfl trivial (fun hc => ?_) (fun hc => ?_)|refine zQ rfl trivial (fun hc => ?_) (fun hc => ?_)|refine zR rfl trivial (fun hc => ?_) (fun hc => ?_)|refine zS rfl trivial (fun hc => ?_) (fun hc => ?_)|refine zT ?_|refine zU ?_|refine zF rfl ?_ ?_|refine zH rfl ?_ ?_|refine zJ rfl ?_ ?_|refine zL rfl ?_ rfl ?_|refine zV rfl trivial rfl rfl rfl ?_|refine zW rfl rfl rfl rfl ?_|refine zX rfl rfl trivial rfl trivial rfl rfl rfl rfl rfl ?_
      | (exfalso; exact absurd he (by assumption))
      | (first | refine ao_call rfl (c26_wrong t down n) rfl ?_ ?_ | refine aq_call rfl (c26_wrong t down n) rfl ?_ ?_)
      | refine ao_callR rfl (hR) trivial rfl rfl ?_
      |(show allP _; first | trivial | exact ob1 (fun h => h) | exact ob2 (fun h => h) (fun h => h) | exact ob1 (fun h => ⟨h.1, trivial⟩) | (simp only [obS]; first | omega | (intros; omega) | (simp only [obL]; first | omega | (intros; omega)) | (refine ⟨?_, ?_⟩ <;> intros <;> first | (with_reducible assumption) | omega) | ((repeat' refine And.intro ?_ ?_) <;> (intros; first | (with_reducible assumption) | omega | (simp only [obL]; omega))) | ((try simp only [obB] at *); (try simp only [Blk.len] at *); first | omega | (intros; omega)) | (simp_all; done))))
    refine aw_loop (ι := Nat) (fun i => [(29, [], .d (iD i)), (28, [], .d (iD f.length)), (27, [], .own 1), (9, [], .d (.int .u64 (setI (upto q i)))), (3, [], .ptr 0 0), (1, [], .d (boolsD down)), (2, [], .d (iD n))]) (fun _ => [tBlk t, .ints .i64 f])
      (fun i => i ≤ f.length) (fun i => f.length - i) 0 (by simp) (fun _ => Nat.le_of_ble_eq_true rfl) ?_ fun i hi => ?_
    · refine weak_to ?_ ?_ rfl rfl
      · repeat (first | exact subF_nil | refine subF_cons (by first | rfl | (simp [look]; done) | (rw [upto_0] <;> rfl)) ?_)
      · repeat (first | exact subS_nil | refine subS_cons (by first | rfl | (simp; done) | rfl) ?_)
    by_cases hil : i < f.length
    · have hqi := hq i (by omega)
      have hbi : (i : Int) < (Blk.ints .i64 f).len := by simp [Blk.len]; omega
      repeat' (first
      
        |refine zA ?_|refine zB ?_|refine zC (by kernel_rfl) (by kernel_rfl) ?_|refine zD ?_|refine zE ?_|refine zF rfl trivial ?_|refine zG ?_|refine zH rfl trivial ?_|refine zI ?_|refine zJ rfl trivial ?_|refine zK ?_|refine zL rfl trivial rfl ?_|refine zM ?_|refine zN rfl trivial ?_|refine zO rfl trivial ?_|refine zP rfl trivial (fun hc => ?_) (fun hc => ?_)|refine zQ rfl trivial (fun hc => ?_) (fun hc => ?_)|refine zR rfl trivial (fun hc => ?_) (fun hc => ?_)|refine zS rfl trivial (fun hc => ?_) (fun hc => ?_)|refine zT ?_|refine zU ?_|refine zF rfl ?_ ?_|refine zH rfl ?_ ?_|refine zJ rfl ?_ ?_|refine zL rfl ?_ rfl ?_|refine zV rfl trivial rfl rfl rfl ?_|refine zW rfl rfl rfl rfl ?_|refine zX rfl rfl trivial rfl trivial rfl rfl rfl rfl rfl ?_
        | (exfalso; omega)
        | (first | refine ao_call rfl (c26_Uses _ _ _ _) rfl ?_ ?_ | refine aq_call rfl (c26_Uses _ _ _ _) rfl ?_ ?_)
        |(show allP _; first | trivial | exact ob1 (fun h => h) | exact ob2 (fun h => h) (fun h => h) | exact ob1 (fun h => ⟨h.1, trivial⟩) | (simp only [obS]; first | omega | (intros; omega) | (simp only [obL]; first | omega | (intros; omega)) | (refine ⟨?_, ?_⟩ <;> intros <;> first | (with_reducible assumption) | omega) | ((repeat' refine And.intro ?_ ?_) <;> (intros; first | (with_reducible assumption) | omega | (simp only [obL]; omega))) | ((try simp only [obB] at *); (try simp only [Blk.len] at *); first | omega | (intros; omega)) | (simp_all; done))))
      · have hy : q i = true := by rw [hqi]; exact hc
        refine ⟨i + 1, by omega, by omega, ?_⟩
        refine weak_to ?_ ?_ rfl rfl
        · repeat (first | exact subF_nil | refine subF_cons (by first | rfl | (simp [look]; done) | (rw [upto_yes (by omega) hy] <;> rfl)) ?_)
        · repeat (first | exact subS_nil | refine subS_cons (by first | rfl | (simp; done) | rfl) ?_)
      · have hy : q i = false := by rw [hqi]; exact hc
        refine ⟨i + 1, by omega, by omega, ?_⟩
        refine weak_to ?_ ?_ rfl rfl
        · repeat (first | exact subF_nil | refine subF_cons (by first | rfl | (simp [look]; done) | (rw [upto_no hy] <;> rfl)) ?_)
        · repeat (first | exact subS_nil | refine subS_cons (by first | rfl | (simp; done) | rfl) ?_)
    · have he : i = f.length := by omega
      subst he
      rw [upto_all hql]
      repeat' (first
      
        |refine zA ?_|refine zB ?_|refine zC (by kernel_rfl) (by kernel_rfl) ?_|refine zD ?_|refine zE ?_|refine zF rfl trivial ?_|refine zG ?_|refine zH rfl trivial ?_|refine zI ?_|refine zJ rfl trivial ?_|refine zK ?_|refine zL rfl trivial rfl ?_|refine zM ?_|refine zN rfl trivial ?_|refine zO rfl trivial ?_|refine zP rfl trivial (fun hc => ?_) (fun hc => ?_)|refine zQ rfl trivial (fun hc => ?_) (fun hc => ?_)|refine zR rfl trivial (fun hc => ?_) (fun hc => ?_)|refine zS rfl trivial (fun hc => ?_) (fun hc => ?_)|refine zT ?_|refine zU ?_|refine zF rfl ?_ ?_|refine zH rfl ?_ ?_|refine zJ rfl ?_ ?_|refine zL rfl ?_ rfl ?_|refine zV rfl trivial rfl rfl rfl ?_|refine zW rfl rfl rfl rfl ?_|refine zX rfl rfl trivial rfl trivial rfl rfl rfl rfl rfl ?_
        | (exfalso; omega)
        | refine ao_callRT hTw tab_stays rfl (hL) trivial rfl rfl ?_
        |(show allP _; first | trivial | exact ob1 (fun h => h) | exact ob2 (fun h => h) (fun h => h) | exact ob1 (fun h => ⟨h.1, trivial⟩) | (simp only [obS]; first | omega | (intros; omega) | (simp only [obL]; first | omega | (intros; omega)) | (refine ⟨?_, ?_⟩ <;> intros <;> first | (with_reducible assumption) | omega) | ((repeat' refine And.intro ?_ ?_) <;> (intros; first | (with_reducible assumption) | omega | (simp only [obL]; omega))) | ((try simp only [obB] at *); (try simp only [Blk.len] at *); first | omega | (intros; omega)) | (simp_all; done))))
      refine fin_ret ?_; exact retOwn2 rfl rfl rfl rfl trivial rfl
  · rw [show spaceR t down n (qQ t down n) = [] from if_neg he]
    repeat' (first
    
      |refine zA ?_|refine zB ?_|refine zC (by kernel_rfl) (by kernel_rfl) ?_|refine zD ?_|refine zE ?_|refine zF rfl trivial ?_|refine zG ?_|refine zH rfl trivial ?_|refine zI ?_|refine zJ rfl trivial ?_|refine zK ?_|refine zL rfl trivial rfl ?_|refine zM ?_|refine zN rfl trivial ?_|refine zO rfl trivial ?_|refine zP rfl trivial (fun hc => ?_) (fun hc => ?_)|refine zQ rfl trivial (fun hc => ?_) (fun hc => ?_)|refine zR rfl trivial (fun hc => ?_) (fun hc => ?_)|refine zS rfl trivial (fun hc => ?_) (fun hc => ?_)|refine zT ?_|refine zU ?_|refine zF rfl ?_ ?_|refine zH rfl ?_ ?_|refine zJ rfl ?_ ?_|refine zL rfl ?_ rfl ?_|refine zV rfl trivial rfl rfl rfl ?_|refine zW rfl rfl rfl rfl ?_|refine zX rfl rfl trivial rfl trivial rfl rfl rfl rfl rfl ?_
      | (exfalso; exact absurd (by assumption) he)
      | (first | refine ao_call rfl (c26_wrong t down n) rfl ?_ ?_ | refine aq_call rfl (c26_wrong t down n) rfl ?_ ?_)
      |(show allP _; first | trivial | exact ob1 (fun h => h) | exact ob2 (fun h => h) (fun h => h) | exact ob1 (fun h => ⟨h.1, trivial⟩) | (simp only [obS]; first | omega | (intros; omega) | (simp only [obL]; first | omega | (intros; omega)) | (refine ⟨?_, ?_⟩ <;> intros <;> first | (with_reducible assumption) | omega) | ((repeat' refine And.intro ?_ ?_) <;> (intros; first | (with_reducible assumption) | omega | (simp only [obL]; omega))) | ((try simp only [obB] at *); (try simp only [Blk.len] at *); first | omega | (intros; omega)) | (simp_all; done))))
    refine fin_ret ?_; exact retNil2 rfl rfl rfl trivial rfl

/-- The extended space, as the code gathers it over the first arcs. -/
noncomputable def extQ (t : Topo) (down : List Bool) (n : Int) (A : List Int) : Nat → Bool := fun k => pQ t down n k || A.any fun a => upB down a && (decide ((k : Int) = headT t a) || (!overT t (headT t a) && pQ t down (headT t a) k))
theorem ext_step (t : Topo) (down : List Bool) (n : Int) {A : List Int} {i : Nat} (h : i < A.length) (k : Nat) : extQ t down n (A.take (i + 1)) k = (extQ t down n (A.take i) k || (upB down (A.getD i 0) && (decide ((k : Int) = headT t (A.getD i 0)) || (!overT t (headT t (A.getD i 0)) && pQ t down (headT t (A.getD i 0)) k)))) := by
  unfold extQ
  rw [List.take_add_one, List.any_append, List.getD_eq_getElem?_getD, List.getElem?_eq_getElem h]
  simp [Bool.or_assoc]
theorem ext_no {t : Topo} {down : List Bool} {n : Int} {A : List Int} {i : Nat} (h : i < A.length) (hu : upB down (A.getD i 0) = false) : setI (extQ t down n (A.take (i + 1))) = setI (extQ t down n (A.take i)) := setI_congr fun k _ => by
  rw [ext_step t down n h, hu]; simp
theorem ext_one {t : Topo} {down : List Bool} {n : Int} {A : List Int} {i : Nat} (h : i < A.length) (hu : upB down (A.getD i 0) = true) (h0 : 0 ≤ headT t (A.getD i 0)) (h1 : headT t (A.getD i 0) < 64) (ho : overT t (headT t (A.getD i 0)) = true) :
    bitI .or .u64 (setI (extQ t down n (A.take i))) (shlI .u64 1 (headT t (A.getD i 0))) = setI (extQ t down n (A.take (i + 1))) := by
  rw [one_set h0 h1, or_set]
  exact setI_congr fun k _ => by rw [ext_step t down n h, hu, ho]; simp
theorem ext_two {t : Topo} {down : List Bool} {n : Int} {A : List Int} {i : Nat} (h : i < A.length) (hu : upB down (A.getD i 0) = true) (h0 : 0 ≤ headT t (A.getD i 0)) (h1 : headT t (A.getD i 0) < 64) (ho : overT t (headT t (A.getD i 0)) = false) :
    bitI .or .u64 (bitI .or .u64 (setI (extQ t down n (A.take i))) (shlI .u64 1 (headT t (A.getD i 0)))) (setI (pQ t down (headT t (A.getD i 0)))) = setI (extQ t down n (A.take (i + 1))) := by
  rw [one_set h0 h1, or_set, or_set]
  exact setI_congr fun k _ => by rw [ext_step t down n h, hu, ho]; simp [Bool.or_assoc]
set_option maxHeartbeats 1000000 in
theorem c26_Extended (t : Topo) (down : List Bool) (n : Int) : CtrT tabT Tryd.prog 27 [topoD t, boolsD down, iD n] [.ints .i64 (spaceR t down n (extQ t down n (arcsL t n true)))] (.tup [.own 0, .d (iD (errS t down n))]) := by
  refine spec_ofT envOK (Go.Wk.enters_of Tryd.func27 (by kernel_rfl) (by kernel_rfl)) Tryd.func27 rfl rfl _ rfl (Nat.le_of_ble_eq_true rfl) rfl fun w0 hTw => ?_
  by_cases he : errS t down n = 0
  · obtain ⟨hfit, n0, n1⟩ := errS_0 he
    have hv := fitsB_v hfit
    have hnn := validB_head hv
    have hP := c26_pspace t down n hv n0 n1
    rw [show spaceR t down n (extQ t down n (arcsL t n true)) = intsN (setL (extQ t down n (arcsL t n true))) from if_pos he, he]
    have hmem : ∀ a ∈ arcsL t n true, 0 ≤ a ∧ a < 2 * t.links.length := fun a ha => by
      have := (mem_arcsL hv).1 ha; exact ⟨this.1, this.2.1⟩
    have hlen := arcsL_len hv n true
    have hO := c_Out t n
    generalize arcsL t n true = A at *
    repeat' (first
    
      |refine zA ?_|refine zB ?_|refine zC (by kernel_rfl) (by kernel_rfl) ?_|refine zD ?_|refine zE ?_|refine zF rfl trivial ?_|refine zG ?_|refine zH rfl trivial ?_|refine zI ?_|refine zJ rfl trivial ?_|refine zK ?_|refine zL rfl trivial rfl ?_|refine zM ?_|refine zN rfl trivial ?_|refine zO rfl trivial ?_|refine zP rfl trivial (fun hc => ?_) (fun hc => ?_)|refine zQ rfl trivial (fun hc => ?_) (fun hc => ?_)|refine zR rfl trivial (fun hc => ?_) (fun hc => ?_)|refine zS rfl trivial (fun hc => ?_) (fun hc => ?_)|refine zT ?_|refine zU ?_|refine zF rfl ?_ ?_|refine zH rfl ?_ ?_|refine zJ rfl ?_ ?_|refine zL rfl ?_ rfl ?_|refine zV rfl trivial rfl rfl rfl ?_|refine zW rfl rfl rfl rfl ?_|refine zX rfl rfl trivial rfl trivial rfl rfl rfl rfl rfl ?_
      | (exfalso; exact absurd he (by assumption))
      | (first | refine ao_call rfl (c26_wrong t down n) rfl ?_ ?_ | refine aq_call rfl (c26_wrong t down n) rfl ?_ ?_)
      | (first | refine ao_call rfl (hP) rfl ?_ ?_ | refine aq_call rfl (hP) rfl ?_ ?_)
      | refine ao_callR rfl (hO) trivial rfl rfl ?_
      |(show allP _; first | trivial | exact ob1 (fun h => h) | exact ob2 (fun h => h) (fun h => h) | exact ob1 (fun h => ⟨h.1, trivial⟩) | (simp only [obS]; first | omega | (intros; omega) | (simp only [obL]; first | omega | (intros; omega)) | (refine ⟨?_, ?_⟩ <;> intros <;> first | (with_reducible assumption) | omega) | ((repeat' refine And.intro ?_ ?_) <;> (intros; first | (with_reducible assumption) | omega | (simp only [obL]; omega))) | ((try simp only [obB] at *); (try simp only [Blk.len] at *); first | omega | (intros; omega)) | (simp_all; done))))
    refine aw_loop (ι := Nat) (fun i => [(28, [], .d (iD i)), (27, [], .d (iD A.length)), (26, [], .own 1), (9, [], .d (.int .u64 (setI (extQ t down n (A.take i))))), (3, [], .ptr 0 0), (1, [], .d (boolsD down)), (2, [], .d (iD n))]) (fun _ => [tBlk t, .ints .i64 A])
      (fun i => i ≤ A.length) (fun i => A.length - i) 0 (by simp) (fun _ => Nat.le_of_ble_eq_true rfl) ?_ fun i hi => ?_
    · refine weak_to ?_ ?_ rfl rfl
      · repeat (first | exact subF_nil | refine subF_cons (by first | rfl | (simp [look]; done) | (rw [show setI (extQ t down n (A.take 0)) = setI (pQ t down n) from setI_congr fun k _ => by simp [extQ]] <;> rfl)) ?_)
      · repeat (first | exact subS_nil | refine subS_cons (by first | rfl | (simp; done) | rfl) ?_)
    by_cases hil : i < A.length
    · obtain ⟨a0, a1⟩ := hmem (A.getD (Int.toNat (i : Int)) 0) (getD_mem (by simpa using hil))
      have ha := arc_ok hv a0 a1
      have hok := up_ok hfit a0 a1
      have hbi : (i : Int) < (Blk.ints .i64 A).len := by simp [Blk.len]; omega
      have hup : upB down (A.getD (Int.toNat (i : Int)) 0) = !(decide (0 < (down.length : Int)) && down.getD (A.getD (Int.toNat (i : Int)) 0).toNat false) := by
        unfold upB
        by_cases h0 : down.length = 0
        · simp [h0]
        · rw [decide_eq_false h0, decide_eq_true (by omega : 0 < (down.length : Int))]; simp
      have hPh := c26_pspace t down _ hv ha.2.2.1 ha.2.2.2.1
      repeat' (first
      
        |refine zA ?_|refine zB ?_|refine zC (by kernel_rfl) (by kernel_rfl) ?_|refine zD ?_|refine zE ?_|refine zF rfl trivial ?_|refine zG ?_|refine zH rfl trivial ?_|refine zI ?_|refine zJ rfl trivial ?_|refine zK ?_|refine zL rfl trivial rfl ?_|refine zM ?_|refine zN rfl trivial ?_|refine zO rfl trivial ?_|refine zP rfl trivial (fun hc => ?_) (fun hc => ?_)|refine zQ rfl trivial (fun hc => ?_) (fun hc => ?_)|refine zR rfl trivial (fun hc => ?_) (fun hc => ?_)|refine zS rfl trivial (fun hc => ?_) (fun hc => ?_)|refine zT ?_|refine zU ?_|refine zF rfl ?_ ?_|refine zH rfl ?_ ?_|refine zJ rfl ?_ ?_|refine zL rfl ?_ rfl ?_|refine zV rfl trivial rfl rfl rfl ?_|refine zW rfl rfl rfl rfl ?_|refine zX rfl rfl trivial rfl trivial rfl rfl rfl rfl rfl ?_
        | (exfalso; omega)
        | (first | refine ao_call rfl (c_Head _ _) rfl ?_ ?_ | refine aq_call rfl (c_Head _ _) rfl ?_ ?_)
        | (first | refine ao_call rfl (c_Overloaded _ _) rfl ?_ ?_ | refine aq_call rfl (c_Overloaded _ _) rfl ?_ ?_)
        | (first | refine ao_call rfl (hPh) rfl ?_ ?_ | refine aq_call rfl (hPh) rfl ?_ ?_)
        |(show allP _; first | trivial | exact ob1 (fun h => h) | exact ob2 (fun h => h) (fun h => h) | exact ob1 (fun h => ⟨h.1, trivial⟩) | (simp only [obS]; first | omega | (intros; omega) | (simp only [obL]; first | omega | (intros; omega)) | (refine ⟨?_, ?_⟩ <;> intros <;> first | (with_reducible assumption) | omega) | ((repeat' refine And.intro ?_ ?_) <;> (intros; first | (with_reducible assumption) | omega | (simp only [obL]; omega))) | ((try simp only [obB] at *); (try simp only [Blk.len] at *); first | omega | (intros; omega)) | (simp_all; done))))
      · rw [hc] at hup
        refine ⟨i + 1, by omega, by omega, ?_⟩
        refine weak_to ?_ ?_ rfl rfl
        · repeat (first | exact subF_nil | refine subF_cons (by first | rfl | (simp [look]; done) | (rw [ext_no hil hup] <;> rfl)) ?_)
        · repeat (first | exact subS_nil | refine subS_cons (by first | rfl | (simp; done) | rfl) ?_)
      · have h2 : (decide (0 < (down.length : Int)) && down.getD (A.getD (Int.toNat (i : Int)) 0).toNat false) = false := by assumption
        rw [h2] at hup
        refine ⟨i + 1, by omega, by omega, ?_⟩
        have hst : bitI .or .u64 (bitI .or .u64 (setI (extQ t down n (A.take i))) (shlI .u64 1 (headT t (A.getD (Int.toNat (i : Int)) 0)))) (setI (pQ t down (headT t (A.getD (Int.toNat (i : Int)) 0)))) = setI (extQ t down n (A.take (i + 1))) := ext_two hil hup ha.2.2.1 (Int.lt_of_lt_of_le ha.2.2.2.1 (by omega)) hc
        refine weak_to ?_ ?_ rfl rfl
        · repeat (first | exact subF_nil | refine subF_cons (by first | rfl | (simp [look]; done) | (rw [hst] <;> rfl)) ?_)
        · repeat (first | exact subS_nil | refine subS_cons (by first | rfl | (simp; done) | rfl) ?_)
      · have h2 : (decide (0 < (down.length : Int)) && down.getD (A.getD (Int.toNat (i : Int)) 0).toNat false) = false := by assumption
        rw [h2] at hup
        refine ⟨i + 1, by omega, by omega, ?_⟩
        have hst : bitI .or .u64 (setI (extQ t down n (A.take i))) (shlI .u64 1 (headT t (A.getD (Int.toNat (i : Int)) 0))) = setI (extQ t down n (A.take (i + 1))) := ext_one hil hup ha.2.2.1 (Int.lt_of_lt_of_le ha.2.2.2.1 (by omega)) hc
        refine weak_to ?_ ?_ rfl rfl
        · repeat (first | exact subF_nil | refine subF_cons (by first | rfl | (simp [look]; done) | (rw [hst] <;> rfl)) ?_)
        · repeat (first | exact subS_nil | refine subS_cons (by first | rfl | (simp; done) | rfl) ?_)
    · repeat' (first
      
        |refine zA ?_|refine zB ?_|refine zC (by kernel_rfl) (by kernel_rfl) ?_|refine zD ?_|refine zE ?_|refine zF rfl trivial ?_|refine zG ?_|refine zH rfl trivial ?_|refine zI ?_|refine zJ rfl trivial ?_|refine zK ?_|refine zL rfl trivial rfl ?_|refine zM ?_|refine zN rfl trivial ?_|refine zO rfl trivial ?_|refine zP rfl trivial (fun hc => ?_) (fun hc => ?_)|refine zQ rfl trivial (fun hc => ?_) (fun hc => ?_)|refine zR rfl trivial (fun hc => ?_) (fun hc => ?_)|refine zS rfl trivial (fun hc => ?_) (fun hc => ?_)|refine zT ?_|refine zU ?_|refine zF rfl ?_ ?_|refine zH rfl ?_ ?_|refine zJ rfl ?_ ?_|refine zL rfl ?_ rfl ?_|refine zV rfl trivial rfl rfl rfl ?_|refine zW rfl rfl rfl rfl ?_|refine zX rfl rfl trivial rfl trivial rfl rfl rfl rfl rfl ?_
        | (exfalso; omega)
        | refine ao_callRT hTw tab_stays rfl (c26_list _) trivial rfl rfl ?_
        |(show allP _; first | trivial | exact ob1 (fun h => h) | exact ob2 (fun h => h) (fun h => h) | exact ob1 (fun h => ⟨h.1, trivial⟩) | (simp only [obS]; first | omega | (intros; omega) | (simp only [obL]; first | omega | (intros; omega)) | (refine ⟨?_, ?_⟩ <;> intros <;> first | (with_reducible assumption) | omega) | ((repeat' refine And.intro ?_ ?_) <;> (intros; first | (with_reducible assumption) | omega | (simp only [obL]; omega))) | ((try simp only [obB] at *); (try simp only [Blk.len] at *); first | omega | (intros; omega)) | (simp_all; done))))
      refine fin_ret ?_; exact retOwn2 rfl rfl (by rw [List.take_of_length_le (by omega)]) rfl trivial rfl
  · rw [show spaceR t down n (extQ t down n (arcsL t n true)) = [] from if_neg he]
    repeat' (first
    
      |refine zA ?_|refine zB ?_|refine zC (by kernel_rfl) (by kernel_rfl) ?_|refine zD ?_|refine zE ?_|refine zF rfl trivial ?_|refine zG ?_|refine zH rfl trivial ?_|refine zI ?_|refine zJ rfl trivial ?_|refine zK ?_|refine zL rfl trivial rfl ?_|refine zM ?_|refine zN rfl trivial ?_|refine zO rfl trivial ?_|refine zP rfl trivial (fun hc => ?_) (fun hc => ?_)|refine zQ rfl trivial (fun hc => ?_) (fun hc => ?_)|refine zR rfl trivial (fun hc => ?_) (fun hc => ?_)|refine zS rfl trivial (fun hc => ?_) (fun hc => ?_)|refine zT ?_|refine zU ?_|refine zF rfl ?_ ?_|refine zH rfl ?_ ?_|refine zJ rfl ?_ ?_|refine zL rfl ?_ rfl ?_|refine zV rfl trivial rfl rfl rfl ?_|refine zW rfl rfl rfl rfl ?_|refine zX rfl rfl trivial rfl trivial rfl rfl rfl rfl rfl ?_
      | (exfalso; exact absurd (by assumption) he)
      | (first | refine ao_call rfl (c26_wrong t down n) rfl ?_ ?_ | refine aq_call rfl (c26_wrong t down n) rfl ?_ ?_)
      |(show allP _; first | trivial | exact ob1 (fun h => h) | exact ob2 (fun h => h) (fun h => h) | exact ob1 (fun h => ⟨h.1, trivial⟩) | (simp only [obS]; first | omega | (intros; omega) | (simp only [obL]; first | omega | (intros; omega)) | (refine ⟨?_, ?_⟩ <;> intros <;> first | (with_reducible assumption) | omega) | ((repeat' refine And.intro ?_ ?_) <;> (intros; first | (with_reducible assumption) | omega | (simp only [obL]; omega))) | ((try simp only [obB] at *); (try simp only [Blk.len] at *); first | omega | (intros; omega)) | (simp_all; done))))
    refine fin_ret ?_; exact retNil2 rfl rfl rfl trivial rfl
end Go.Proofs.YtcnfggpcploehaaDoor

/- The step over a guarded call of a function that leaves the store as it is; arguments as the callee sees them. -/
namespace Go.Wk
set_option maxRecDepth 10000
open Go.RowKit

section
variable {P : Program} {env : Env} {w0 : Base} {n : Nat} {l0 : List Oper} {K : Fr → List Blk → Prop} {l : List Oper} {F : Fr} {S : List Blk}
theorem isCallC_gof {o : Oper} {g : List Bool} {f : FuncId} {avs : List V} {os : List Prop} (h : isCallC F l0 o = some (g, f, avs, os)) : gof F l0 o.guard = some g := by
  unfold isCallC at h
  split at h
  · split at h
    · split at h
      · simp at h; obtain ⟨rfl, _⟩ := h; assumption
      · simp at h
    · simp at h
  · simp at h
theorem ao_callCg {o : Oper} {f : FuncId} {as0 avs : List V} {os : List Prop} {r : D} {g : List Bool} {d : Nat} (h : isCallC F l0 o = some (g, f, avs, os)) (sp : allT g → CtrO P f as0 [] [] (.d r)) (hs : vfl (.d r) = true) (ho : allP os)
    (ha : ArgsOK S [] as0 avs) (hF : killFs (rowNames [] []) F = some F) (hq : quietS (rowNames [] []) [] 0 S = true) (hd : o.dst = some d) (hdn : Nat.blt d n = true) (k : AO P env w0 n l0 K l ((d, g, .d r) :: F) S) : AO P env w0 n l0 K (o :: l) F S := by
  intro hE ρ a w hr
  obtain ⟨hw1, hw2⟩ := gof_wanted hr.fr (isCallC_gof h)
  by_cases hall : allT g
  · unfold wpList
    rw [if_pos (hw1 hall)]
    refine .inl (callC_run hr h hall (sp hall) [] ho rfl ha rfl rfl hF hq (by simp [kindsP]) (by simp [bflL]) rfl rfl rfl hs rfl fun ρ' w' u hr' hu _ => ?_)
    rw [hd]
    rw [show appB S [] = S by simp [appB_eq]] at hr' hu
    exact k hE ρ' _ w' ⟨hr'.fr.put (Nat.le_of_ble_eq_true hdn) ⟨fun _ => hu, fun h => absurd hall h⟩, hr'.mem⟩
  · refine wpList_skip (hw2 hall) ?_
    rw [hd]
    exact k hE ρ _ w ⟨hr.fr.put (Nat.le_of_ble_eq_true hdn) ⟨fun h => absurd h hall, fun _ => rfl⟩, hr.mem⟩
end
end Go.Wk

/- Layer 26: the affected destinations. -/
namespace Go.Proofs.YtcnfggpcploehaaDoor
set_option maxRecDepth 10000
open Go.Wk

theorem c26_hit (down : List Bool) (a : Int) (h0 : 0 ≤ a) (h1 : a < down.length) : CtrO Tryd.prog 40 [.d (iD a), .rp [boolsD down]] [] [] (.d (bD (down.getD a.toNat false))) := by
  refine spec_mem envOK (Go.Wk.enters_of Tryd.func40 (by kernel_rfl) (by kernel_rfl)) Tryd.func40 rfl rfl _ rfl (Nat.le_of_ble_eq_true rfl) rfl (by simp [kindsP, Blk.isRow]) fun w0 ρ0 => ?_
  repeat' (first
  
    |refine zA ?_|refine zB ?_|refine zC (by kernel_rfl) (by kernel_rfl) ?_|refine zD ?_|refine zE ?_|refine zF rfl trivial ?_|refine zG ?_|refine zH rfl trivial ?_|refine zI ?_|refine zJ rfl trivial ?_|refine zK ?_|refine zL rfl trivial rfl ?_|refine zM ?_|refine zN rfl trivial ?_|refine zO rfl trivial ?_|refine zP rfl trivial (fun hc => ?_) (fun hc => ?_)|refine zQ rfl trivial (fun hc => ?_) (fun hc => ?_)|refine zR rfl trivial (fun hc => ?_) (fun hc => ?_)|refine zS rfl trivial (fun hc => ?_) (fun hc => ?_)|refine zT ?_|refine zU ?_|refine zF rfl ?_ ?_|refine zH rfl ?_ ?_|refine zJ rfl ?_ ?_|refine zL rfl ?_ rfl ?_|refine zV rfl trivial rfl rfl rfl ?_|refine zW rfl rfl rfl rfl ?_|refine zX rfl rfl trivial rfl trivial rfl rfl rfl rfl rfl ?_
    | (exfalso; omega)
    |(show allP _; first | trivial | exact ob1 (fun h => h) | exact ob2 (fun h => h) (fun h => h) | exact ob1 (fun h => ⟨h.1, trivial⟩) | (simp only [obS]; first | omega | (intros; omega) | (simp only [obL]; first | omega | (intros; omega)) | (refine ⟨?_, ?_⟩ <;> intros <;> first | (with_reducible assumption) | omega) | ((repeat' refine And.intro ?_ ?_) <;> (intros; first | (with_reducible assumption) | omega | (simp only [obL]; omega))) | ((try simp only [obB] at *); (try simp only [Blk.len] at *); first | omega | (intros; omega)) | (simp_all; done))))
  (exact retM1 [] rfl rfl rfl rfl (by repeat (first | exact BlksOK.nil | refine BlksOK.cells (by repeat (first | exact ArgsOK.nil | refine ArgsOK.cons ?_ ?_ | exact ArgOK.d _ | exact ArgOK.nil | exact ArgOK.rpp _ | exact ArgOK.ptr rfl | exact ArgOK.own rfl | exact ArgOK.ep rfl | exact ArgOK.sl rfl | refine ArgOK.clo ?_ | refine ArgOK.agg ?_ | exact ArgOK.data rfl rfl | refine ArgOK.rp rfl rfl ?_ rfl | exact DatOK.nil | refine DatOK.cons rfl rfl ?_ | exact ArgOK.bot _ | exact ArgOK.deq (by rfl))) ?_ | refine BlksOK.row rfl ?_ | exact BlksOK.gone ?_ | refine BlksOK.rowE rfl (by rfl) ?_)) (by repeat (first | exact ArgsOK.nil | refine ArgsOK.cons ?_ ?_ | exact ArgOK.d _ | exact ArgOK.nil | exact ArgOK.rpp _ | exact ArgOK.ptr rfl | exact ArgOK.own rfl | exact ArgOK.ep rfl | exact ArgOK.sl rfl | refine ArgOK.clo ?_ | refine ArgOK.agg ?_ | exact ArgOK.data rfl rfl | refine ArgOK.rp rfl rfl ?_ rfl | exact DatOK.nil | refine DatOK.cons rfl rfl ?_ | exact ArgOK.bot _ | exact ArgOK.deq (by rfl))))

def firstI (p : Int → Bool) (l : List Int) : Int := if l.any p = true then (l.findIdx p : Int) else -1
theorem firstI_at {p : Int → Bool} {l : List Int} {i : Nat} (h : i < l.length) (hp : p (l.getD i 0) = true) (hno : ∀ j, j < i → p (l.getD j 0) = false) : firstI p l = i := by
  rw [List.getD_eq_getElem?_getD, List.getElem?_eq_getElem h] at hp
  have ha : l.any p = true := List.any_eq_true.2 ⟨l[i], List.getElem_mem h, hp⟩
  unfold firstI
  rw [if_pos ha, (List.findIdx_eq h).2 ⟨hp, fun j hj => by
    have := hno j hj
    rw [List.getD_eq_getElem?_getD, List.getElem?_eq_getElem (by omega)] at this
    exact this⟩]
theorem firstI_no {p : Int → Bool} {l : List Int} (hno : ∀ j, j < l.length → p (l.getD j 0) = false) : firstI p l = -1 := by
  unfold firstI
  rw [if_neg]
  rw [Bool.not_eq_true, List.any_eq_false]
  intro x hx
  obtain ⟨j, hj, rfl⟩ := List.mem_iff_getElem.1 hx
  have := hno j hj
  rw [List.getD_eq_getElem?_getD, List.getElem?_eq_getElem hj] at this
  simpa using this
theorem firstI_ge (p : Int → Bool) (l : List Int) : decide (0 ≤ firstI p l) = l.any p := by
  unfold firstI
  cases l.any p <;> simp <;> omega
def gone (down : List Bool) (a : Int) : Bool := down.getD a.toNat false

theorem c26_index (down : List Bool) (l : List Int) (hl : ∀ a ∈ l, 0 ≤ a ∧ a < down.length) (hn : l.length ≤ 1000) : CtrO Tryd.prog 58 [.d (intsD l), .clo 40 [.rp [boolsD down]]] [] [] (.d (iD (firstI (gone down) l))) := by
  refine spec_mem envOK (Go.Wk.enters_of Tryd.func58 (by kernel_rfl) (by kernel_rfl)) Tryd.func58 rfl rfl _ rfl (Nat.le_of_ble_eq_true rfl) rfl (by simp [kindsP, Blk.isRow]) fun w0 ρ0 => ?_
  repeat' (first
  
    |refine zA ?_|refine zB ?_|refine zC (by kernel_rfl) (by kernel_rfl) ?_|refine zD ?_|refine zE ?_|refine zF rfl trivial ?_|refine zG ?_|refine zH rfl trivial ?_|refine zI ?_|refine zJ rfl trivial ?_|refine zK ?_|refine zL rfl trivial rfl ?_|refine zM ?_|refine zN rfl trivial ?_|refine zO rfl trivial ?_|refine zP rfl trivial (fun hc => ?_) (fun hc => ?_)|refine zQ rfl trivial (fun hc => ?_) (fun hc => ?_)|refine zR rfl trivial (fun hc => ?_) (fun hc => ?_)|refine zS rfl trivial (fun hc => ?_) (fun hc => ?_)|refine zT ?_|refine zU ?_|refine zF rfl ?_ ?_|refine zH rfl ?_ ?_|refine zJ rfl ?_ ?_|refine zL rfl ?_ rfl ?_|refine zV rfl trivial rfl rfl rfl ?_|refine zW rfl rfl rfl rfl ?_|refine zX rfl rfl trivial rfl trivial rfl rfl rfl rfl rfl ?_
    | (exfalso; omega)
    |(show allP _; first | trivial | exact ob1 (fun h => h) | exact ob2 (fun h => h) (fun h => h) | exact ob1 (fun h => ⟨h.1, trivial⟩) | (simp only [obS]; first | omega | (intros; omega) | (simp only [obL]; first | omega | (intros; omega)) | (refine ⟨?_, ?_⟩ <;> intros <;> first | (with_reducible assumption) | omega) | ((repeat' refine And.intro ?_ ?_) <;> (intros; first | (with_reducible assumption) | omega | (simp only [obL]; omega))) | ((try simp only [obB] at *); (try simp only [Blk.len] at *); first | omega | (intros; omega)) | (simp_all; done))))
  refine aw_loop (ι := Nat) (fun i => [(8, [], .d (iD i)), (7, [], .d (iD l.length)), (0, [], .d (intsD l)), (1, [], .clo 40 [.rp [boolsD down]])]) (fun _ => [])
    (fun i => i ≤ l.length ∧ ∀ j, j < i → gone down (l.getD j 0) = false) (fun i => l.length - i) 0 ⟨by simp, fun j h => absurd h (Nat.not_lt_zero _)⟩ (fun _ => Nat.le_of_ble_eq_true rfl) (by refine weak_to ?_ ?_ rfl rfl
                                                                                                                                                                                                · repeat (first | exact subF_nil | refine subF_cons (by first | rfl | (simp [look]; done)) ?_)
                                                                                                                                                                                                · repeat (first | exact subS_nil | refine subS_cons (by first | rfl | (simp; done)) ?_)) fun i hi => ?_
  obtain ⟨hi, hno⟩ := hi
  by_cases hil : i < l.length
  · obtain ⟨a0, a1⟩ := hl (l.getD (Int.toNat (i : Int)) 0) (getD_mem (by simpa using hil))
    have hC := c26_hit down _ a0 a1
    repeat' (first
    
      |refine zA ?_|refine zB ?_|refine zC (by kernel_rfl) (by kernel_rfl) ?_|refine zD ?_|refine zE ?_|refine zF rfl trivial ?_|refine zG ?_|refine zH rfl trivial ?_|refine zI ?_|refine zJ rfl trivial ?_|refine zK ?_|refine zL rfl trivial rfl ?_|refine zM ?_|refine zN rfl trivial ?_|refine zO rfl trivial ?_|refine zP rfl trivial (fun hc => ?_) (fun hc => ?_)|refine zQ rfl trivial (fun hc => ?_) (fun hc => ?_)|refine zR rfl trivial (fun hc => ?_) (fun hc => ?_)|refine zS rfl trivial (fun hc => ?_) (fun hc => ?_)|refine zT ?_|refine zU ?_|refine zF rfl ?_ ?_|refine zH rfl ?_ ?_|refine zJ rfl ?_ ?_|refine zL rfl ?_ rfl ?_|refine zV rfl trivial rfl rfl rfl ?_|refine zW rfl rfl rfl rfl ?_|refine zX rfl rfl trivial rfl trivial rfl rfl rfl rfl rfl ?_
      | (exfalso; omega)
      | refine ao_callK rfl (hC) [] trivial rfl rfl (by repeat (first | exact ArgsP.nil | refine ArgsP.cons ?_ ?_ | exact ArgP.d _ | exact ArgP.nil | exact ArgP.nild | exact ArgP.ptr rfl | exact ArgP.own rfl | exact ArgP.ep rfl | exact ArgP.sl rfl | exact ArgP.rpp _ | refine ArgP.clo ?_ | refine ArgP.agg ?_ | refine ArgP.aggd ?_ | exact DatP.nil | refine DatP.d _ ?_ | refine DatP.nild ?_ | exact ArgP.bot _)) rfl rfl rfl rfl (by simp [kindsP, Blk.isRow]) rfl rfl rfl rfl rfl rfl ?_
      |(show allP _; first | trivial | exact ob1 (fun h => h) | exact ob2 (fun h => h) (fun h => h) | exact ob1 (fun h => ⟨h.1, trivial⟩) | (simp only [obS]; first | omega | (intros; omega) | (simp only [obL]; first | omega | (intros; omega)) | (refine ⟨?_, ?_⟩ <;> intros <;> first | (with_reducible assumption) | omega) | ((repeat' refine And.intro ?_ ?_) <;> (intros; first | (with_reducible assumption) | omega | (simp only [obL]; omega))) | ((try simp only [obB] at *); (try simp only [Blk.len] at *); first | omega | (intros; omega)) | (simp_all; done))))
    · rw [firstI_at hil hc hno]
      (exact retM1 [] rfl rfl rfl rfl (by repeat (first | exact BlksOK.nil | refine BlksOK.cells (by repeat (first | exact ArgsOK.nil | refine ArgsOK.cons ?_ ?_ | exact ArgOK.d _ | exact ArgOK.nil | exact ArgOK.rpp _ | exact ArgOK.ptr rfl | exact ArgOK.own rfl | exact ArgOK.ep rfl | exact ArgOK.sl rfl | refine ArgOK.clo ?_ | refine ArgOK.agg ?_ | exact ArgOK.data rfl rfl | refine ArgOK.rp rfl rfl ?_ rfl | exact DatOK.nil | refine DatOK.cons rfl rfl ?_ | exact ArgOK.bot _ | exact ArgOK.deq (by rfl))) ?_ | refine BlksOK.row rfl ?_ | exact BlksOK.gone ?_ | refine BlksOK.rowE rfl (by rfl) ?_)) (by repeat (first | exact ArgsOK.nil | refine ArgsOK.cons ?_ ?_ | exact ArgOK.d _ | exact ArgOK.nil | exact ArgOK.rpp _ | exact ArgOK.ptr rfl | exact ArgOK.own rfl | exact ArgOK.ep rfl | exact ArgOK.sl rfl | refine ArgOK.clo ?_ | refine ArgOK.agg ?_ | exact ArgOK.data rfl rfl | refine ArgOK.rp rfl rfl ?_ rfl | exact DatOK.nil | refine DatOK.cons rfl rfl ?_ | exact ArgOK.bot _ | exact ArgOK.deq (by rfl))))
    · refine ⟨i + 1, ⟨by omega, fun j hj => ?_⟩, by omega, ?_⟩
      · rcases Nat.lt_succ_iff_lt_or_eq.1 hj with h | rfl
        · exact hno j h
        · exact hc
      · refine weak_to ?_ ?_ rfl rfl
        · repeat (first | exact subF_nil | refine subF_cons (by first | rfl | (simp [look]; done)) ?_)
        · repeat (first | exact subS_nil | refine subS_cons (by first | rfl | (simp; done)) ?_)
  · repeat' (first
    
      |refine zA ?_|refine zB ?_|refine zC (by kernel_rfl) (by kernel_rfl) ?_|refine zD ?_|refine zE ?_|refine zF rfl trivial ?_|refine zG ?_|refine zH rfl trivial ?_|refine zI ?_|refine zJ rfl trivial ?_|refine zK ?_|refine zL rfl trivial rfl ?_|refine zM ?_|refine zN rfl trivial ?_|refine zO rfl trivial ?_|refine zP rfl trivial (fun hc => ?_) (fun hc => ?_)|refine zQ rfl trivial (fun hc => ?_) (fun hc => ?_)|refine zR rfl trivial (fun hc => ?_) (fun hc => ?_)|refine zS rfl trivial (fun hc => ?_) (fun hc => ?_)|refine zT ?_|refine zU ?_|refine zF rfl ?_ ?_|refine zH rfl ?_ ?_|refine zJ rfl ?_ ?_|refine zL rfl ?_ rfl ?_|refine zV rfl trivial rfl rfl rfl ?_|refine zW rfl rfl rfl rfl ?_|refine zX rfl rfl trivial rfl trivial rfl rfl rfl rfl rfl ?_
      | (exfalso; omega)
      |(show allP _; first | trivial | exact ob1 (fun h => h) | exact ob2 (fun h => h) (fun h => h) | exact ob1 (fun h => ⟨h.1, trivial⟩) | (simp only [obS]; first | omega | (intros; omega) | (simp only [obL]; first | omega | (intros; omega)) | (refine ⟨?_, ?_⟩ <;> intros <;> first | (with_reducible assumption) | omega) | ((repeat' refine And.intro ?_ ?_) <;> (intros; first | (with_reducible assumption) | omega | (simp only [obL]; omega))) | ((try simp only [obB] at *); (try simp only [Blk.len] at *); first | omega | (intros; omega)) | (simp_all; done))))
    have he : i = l.length := by omega
    subst he
    rw [firstI_no hno]
    (exact retM1 [] rfl rfl rfl rfl (by repeat (first | exact BlksOK.nil | refine BlksOK.cells (by repeat (first | exact ArgsOK.nil | refine ArgsOK.cons ?_ ?_ | exact ArgOK.d _ | exact ArgOK.nil | exact ArgOK.rpp _ | exact ArgOK.ptr rfl | exact ArgOK.own rfl | exact ArgOK.ep rfl | exact ArgOK.sl rfl | refine ArgOK.clo ?_ | refine ArgOK.agg ?_ | exact ArgOK.data rfl rfl | refine ArgOK.rp rfl rfl ?_ rfl | exact DatOK.nil | refine DatOK.cons rfl rfl ?_ | exact ArgOK.bot _ | exact ArgOK.deq (by rfl))) ?_ | refine BlksOK.row rfl ?_ | exact BlksOK.gone ?_ | refine BlksOK.rowE rfl (by rfl) ?_)) (by repeat (first | exact ArgsOK.nil | refine ArgsOK.cons ?_ ?_ | exact ArgOK.d _ | exact ArgOK.nil | exact ArgOK.rpp _ | exact ArgOK.ptr rfl | exact ArgOK.own rfl | exact ArgOK.ep rfl | exact ArgOK.sl rfl | refine ArgOK.clo ?_ | refine ArgOK.agg ?_ | exact ArgOK.data rfl rfl | refine ArgOK.rp rfl rfl ?_ rfl | exact DatOK.nil | refine DatOK.cons rfl rfl ?_ | exact ArgOK.bot _ | exact ArgOK.deq (by rfl))))
theorem c26_contains (down : List Bool) (l : List Int) (hl : ∀ a ∈ l, 0 ≤ a ∧ a < down.length) (hn : l.length ≤ 1000) : CtrO Tryd.prog 39 [.d (intsD l), .clo 40 [.rp [boolsD down]]] [] [] (.d (bD (l.any (gone down)))) := by
  refine spec_mem envOK (Go.Wk.enters_of Tryd.func39 (by kernel_rfl) (by kernel_rfl)) Tryd.func39 rfl rfl _ rfl (Nat.le_of_ble_eq_true rfl) rfl (by simp [kindsP, Blk.isRow]) fun w0 ρ0 => ?_
  rw [← firstI_ge]
  repeat' (first
  
    |refine zA ?_|refine zB ?_|refine zC (by kernel_rfl) (by kernel_rfl) ?_|refine zD ?_|refine zE ?_|refine zF rfl trivial ?_|refine zG ?_|refine zH rfl trivial ?_|refine zI ?_|refine zJ rfl trivial ?_|refine zK ?_|refine zL rfl trivial rfl ?_|refine zM ?_|refine zN rfl trivial ?_|refine zO rfl trivial ?_|refine zP rfl trivial (fun hc => ?_) (fun hc => ?_)|refine zQ rfl trivial (fun hc => ?_) (fun hc => ?_)|refine zR rfl trivial (fun hc => ?_) (fun hc => ?_)|refine zS rfl trivial (fun hc => ?_) (fun hc => ?_)|refine zT ?_|refine zU ?_|refine zF rfl ?_ ?_|refine zH rfl ?_ ?_|refine zJ rfl ?_ ?_|refine zL rfl ?_ rfl ?_|refine zV rfl trivial rfl rfl rfl ?_|refine zW rfl rfl rfl rfl ?_|refine zX rfl rfl trivial rfl trivial rfl rfl rfl rfl rfl ?_
    | (exfalso; omega)
    | refine ao_callK rfl (c26_index down l hl hn) [] trivial rfl rfl (by repeat (first | exact ArgsP.nil | refine ArgsP.cons ?_ ?_ | exact ArgP.d _ | exact ArgP.nil | exact ArgP.nild | exact ArgP.ptr rfl | exact ArgP.own rfl | exact ArgP.ep rfl | exact ArgP.sl rfl | exact ArgP.rpp _ | refine ArgP.clo ?_ | refine ArgP.agg ?_ | refine ArgP.aggd ?_ | exact DatP.nil | refine DatP.d _ ?_ | refine DatP.nild ?_ | exact ArgP.bot _)) rfl rfl rfl rfl (by simp [kindsP, Blk.isRow]) rfl rfl rfl rfl rfl rfl ?_
    |(show allP _; first | trivial | exact ob1 (fun h => h) | exact ob2 (fun h => h) (fun h => h) | exact ob1 (fun h => ⟨h.1, trivial⟩) | (simp only [obS]; first | omega | (intros; omega) | (simp only [obL]; first | omega | (intros; omega)) | (refine ⟨?_, ?_⟩ <;> intros <;> first | (with_reducible assumption) | omega) | ((repeat' refine And.intro ?_ ?_) <;> (intros; first | (with_reducible assumption) | omega | (simp only [obL]; omega))) | ((try simp only [obB] at *); (try simp only [Blk.len] at *); first | omega | (intros; omega)) | (simp_all; done))))
  (exact retM1 [] rfl rfl rfl rfl (by repeat (first | exact BlksOK.nil | refine BlksOK.cells (by repeat (first | exact ArgsOK.nil | refine ArgsOK.cons ?_ ?_ | exact ArgOK.d _ | exact ArgOK.nil | exact ArgOK.rpp _ | exact ArgOK.ptr rfl | exact ArgOK.own rfl | exact ArgOK.ep rfl | exact ArgOK.sl rfl | refine ArgOK.clo ?_ | refine ArgOK.agg ?_ | exact ArgOK.data rfl rfl | refine ArgOK.rp rfl rfl ?_ rfl | exact DatOK.nil | refine DatOK.cons rfl rfl ?_ | exact ArgOK.bot _ | exact ArgOK.deq (by rfl))) ?_ | refine BlksOK.row rfl ?_ | exact BlksOK.gone ?_ | refine BlksOK.rowE rfl (by rfl) ?_)) (by repeat (first | exact ArgsOK.nil | refine ArgsOK.cons ?_ ?_ | exact ArgOK.d _ | exact ArgOK.nil | exact ArgOK.rpp _ | exact ArgOK.ptr rfl | exact ArgOK.own rfl | exact ArgOK.ep rfl | exact ArgOK.sl rfl | refine ArgOK.clo ?_ | refine ArgOK.agg ?_ | exact ArgOK.data rfl rfl | refine ArgOK.rp rfl rfl ?_ rfl | exact DatOK.nil | refine DatOK.cons rfl rfl ?_ | exact ArgOK.bot _ | exact ArgOK.deq (by rfl))))

noncomputable def affQ (t : Topo) (down : List Bool) (n : Int) : Nat → Bool := fun k => decide ((k : Int) < t.nodes) && (decide (0 < (down.length : Int)) && (nextR t [] n k).any (gone down))
theorem affQ_lt {t : Topo} {down : List Bool} {n : Int} {k : Nat} (h : affQ t down n k = true) : (k : Int) < t.nodes := by
  simp only [affQ, Bool.and_eq_true, decide_eq_true_eq] at h; exact h.1
set_option maxHeartbeats 1000000 in
theorem c26_Affected (t : Topo) (down : List Bool) (n : Int) : CtrT tabT Tryd.prog 13 [topoD t, boolsD down, iD n] [.ints .i64 (spaceR t down n (affQ t down n))] (.tup [.own 0, .d (iD (errS t down n))]) := by
  refine spec_ofT envOK (Go.Wk.enters_of Tryd.func13 (by kernel_rfl) (by kernel_rfl)) Tryd.func13 rfl rfl _ rfl (Nat.le_of_ble_eq_true rfl) rfl fun w0 hTw => ?_
  by_cases he : errS t down n = 0
  · obtain ⟨hfit, n0, n1⟩ := errS_0 he
    have hv := fitsB_v hfit
    have hnn := validB_head hv
    rw [show spaceR t down n (affQ t down n) = intsN (setL (affQ t down n)) from if_pos he, he]
    have hL := c26_list (affQ t down n)
    repeat' (first
    
      |refine zA ?_|refine zB ?_|refine zC (by kernel_rfl) (by kernel_rfl) ?_|refine zD ?_|refine zE ?_|refine zF rfl trivial ?_|refine zG ?_|refine zH rfl trivial ?_|refine zI ?_|refine zJ rfl trivial ?_|refine zK ?_|refine zL rfl trivial rfl ?_|refine zM ?_|refine zN rfl trivial ?_|refine zO rfl trivial ?_|refine zP rfl trivial (fun hc => ?_) (fun hc => ?_)|refine zQ rfl trivial (fun hc => ?_) (fun hc => ?_)|refine zR rfl trivial (fun hc => ?_) (fun hc => ?_)|refine zS rfl trivial (fun hc => ?_) (fun hc => ?_)|refine zT ?_|refine zU ?_|refine zF rfl ?_ ?_|refine zH rfl ?_ ?_|refine zJ rfl ?_ ?_|refine zL rfl ?_ rfl ?_|refine zV rfl trivial rfl rfl rfl ?_|refine zW rfl rfl rfl rfl ?_|refine zX rfl rfl trivial rfl trivial rfl rfl rfl rfl rfl ?_
      | (exfalso; exact absurd he (by assumption))
      | (first | refine ao_call rfl (c26_wrong t down n) rfl ?_ ?_ | refine aq_call rfl (c26_wrong t down n) rfl ?_ ?_)
      |(show allP _; first | trivial | exact ob1 (fun h => h) | exact ob2 (fun h => h) (fun h => h) | exact ob1 (fun h => ⟨h.1, trivial⟩) | (simp only [obS]; first | omega | (intros; omega) | (simp only [obL]; first | omega | (intros; omega)) | (refine ⟨?_, ?_⟩ <;> intros <;> first | (with_reducible assumption) | omega) | ((repeat' refine And.intro ?_ ?_) <;> (intros; first | (with_reducible assumption) | omega | (simp only [obL]; omega))) | ((try simp only [obB] at *); (try simp only [Blk.len] at *); first | omega | (intros; omega)) | (simp_all; done))))
    have hmem : ∀ d : Int, ∀ a ∈ nextR t [] n d, 0 ≤ a ∧ a < 2 * t.links.length := fun d a ha => by
      unfold nextR at ha
      split at ha
      · unfold nextL at ha
        split at ha
        · simp at ha
        · have := (mem_arcsL hv).1 (List.mem_filter.1 ha).1; exact ⟨this.1, this.2.1⟩
      · simp at ha
    have hlen : ∀ d : Int, (nextR t [] n d).length ≤ 1000 := fun d => by
      unfold nextR
      split
      · unfold nextL
        split
        · simp
        · have h1 := List.length_filter_le (onP t [] d (distL t [] d false) n) (arcsL t n true)
          have h2 := arcsL_len hv n true
          omega
      · simp
    have hfl := fits_len hfit
    have hq : ∀ i : Nat, (i : Int) < t.nodes → affQ t down n i = (decide (0 < (down.length : Int)) && (nextR t [] n i).any (gone down)) := fun i hi => by
      unfold affQ; rw [decide_eq_true hi]; rfl
    have hql : ∀ k, affQ t down n k = true → k < t.nodes.toNat := fun k hk => by have := affQ_lt hk; omega
    generalize affQ t down n = q at *
    refine aw_loop (ι := Nat) (fun i => [(22, [], .d (iD i)), (21, [], .d (iD t.nodes)), (9, [], .d (.int .u64 (setI (upto q i)))), (3, [], .ptr 0 0), (4, [], .ptr 1 0), (2, [], .d (iD n))]) (fun _ => [tBlk t, .cells [.d (boolsD down)]])
      (fun i => i ≤ t.nodes.toNat) (fun i => t.nodes.toNat - i) 0 (by simp) (fun _ => Nat.le_of_ble_eq_true rfl) ?_ fun i hi => ?_
    · refine weak_to ?_ ?_ rfl rfl
      · repeat (first | exact subF_nil | refine subF_cons (by first | rfl | (simp [look]; done) | (rw [upto_0] <;> rfl)) ?_)
      · repeat (first | exact subS_nil | refine subS_cons (by first | rfl | (simp; done) | rfl) ?_)
    by_cases hil : i < t.nodes.toNat
    · have hqi := hq i (by omega)
      have hN := (c12_Next t [] n i).args (ds' := [topoD t, nilD, iD n, iD i]) ⟨DLe.refl _, DLe.nil, DLe.refl _, DLe.refl _, trivial⟩
      have hm := hmem i
      have hl := hlen i
      generalize nextR t [] n i = A at *
      repeat' (first
      
        |refine zA ?_|refine zB ?_|refine zC (by kernel_rfl) (by kernel_rfl) ?_|refine zD ?_|refine zE ?_|refine zF rfl trivial ?_|refine zG ?_|refine zH rfl trivial ?_|refine zI ?_|refine zJ rfl trivial ?_|refine zK ?_|refine zL rfl trivial rfl ?_|refine zM ?_|refine zN rfl trivial ?_|refine zO rfl trivial ?_|refine zP rfl trivial (fun hc => ?_) (fun hc => ?_)|refine zQ rfl trivial (fun hc => ?_) (fun hc => ?_)|refine zR rfl trivial (fun hc => ?_) (fun hc => ?_)|refine zS rfl trivial (fun hc => ?_) (fun hc => ?_)|refine zT ?_|refine zU ?_|refine zF rfl ?_ ?_|refine zH rfl ?_ ?_|refine zJ rfl ?_ ?_|refine zL rfl ?_ rfl ?_|refine zV rfl trivial rfl rfl rfl ?_|refine zW rfl rfl rfl rfl ?_|refine zX rfl rfl trivial rfl trivial rfl rfl rfl rfl rfl ?_
        | (exfalso; omega)
        | refine ao_callR rfl (hN) trivial rfl rfl ?_
        | refine ao_callCg rfl (fun hg => c26_contains down A (fun a ha => by have h1 : decide (0 < (down.length : Int)) = true := hg.1; have h2 := of_decide_eq_true h1; have := hm a ha; omega) hl) rfl ?_ (by repeat (first | exact ArgsOK.nil | refine ArgsOK.cons ?_ ?_ | exact ArgOK.d _ | exact ArgOK.nil | exact ArgOK.rpp _ | exact ArgOK.ptr rfl | exact ArgOK.own rfl | exact ArgOK.ep rfl | exact ArgOK.sl rfl | refine ArgOK.clo ?_ | refine ArgOK.agg ?_ | exact ArgOK.data rfl rfl | refine ArgOK.rp rfl rfl ?_ rfl | exact DatOK.nil | refine DatOK.cons rfl rfl ?_ | exact ArgOK.bot _)) rfl rfl rfl (by kernel_rfl) ?_
        |(show allP _; first | trivial | exact ob1 (fun h => h) | exact ob2 (fun h => h) (fun h => h) | exact ob1 (fun h => ⟨h.1, trivial⟩) | (simp only [obS]; first | omega | (intros; omega) | (simp only [obL]; first | omega | (intros; omega)) | (refine ⟨?_, ?_⟩ <;> intros <;> first | (with_reducible assumption) | omega) | ((repeat' refine And.intro ?_ ?_) <;> (intros; first | (with_reducible assumption) | omega | (simp only [obL]; omega))) | ((try simp only [obB] at *); (try simp only [Blk.len] at *); first | omega | (intros; omega)) | (simp_all; done))))
      · have hy : q i = true := by rw [hqi]; exact hc
        refine ⟨i + 1, by omega, by omega, ?_⟩
        refine weak_to ?_ ?_ rfl rfl
        · repeat (first | exact subF_nil | refine subF_cons (by first | rfl | (simp [look]; done) | (rw [upto_yes (by omega) hy] <;> rfl)) ?_)
        · repeat (first | exact subS_nil | refine subS_cons (by first | rfl | (simp; done) | rfl) ?_)
      · have hy : q i = false := by rw [hqi]; exact hc
        refine ⟨i + 1, by omega, by omega, ?_⟩
        refine weak_to ?_ ?_ rfl rfl
        · repeat (first | exact subF_nil | refine subF_cons (by first | rfl | (simp [look]; done) | (rw [upto_no hy] <;> rfl)) ?_)
        · repeat (first | exact subS_nil | refine subS_cons (by first | rfl | (simp; done) | rfl) ?_)
    · have he : i = t.nodes.toNat := by omega
      subst he
      rw [upto_all hql]
      repeat' (first
      
        |refine zA ?_|refine zB ?_|refine zC (by kernel_rfl) (by kernel_rfl) ?_|refine zD ?_|refine zE ?_|refine zF rfl trivial ?_|refine zG ?_|refine zH rfl trivial ?_|refine zI ?_|refine zJ rfl trivial ?_|refine zK ?_|refine zL rfl trivial rfl ?_|refine zM ?_|refine zN rfl trivial ?_|refine zO rfl trivial ?_|refine zP rfl trivial (fun hc => ?_) (fun hc => ?_)|refine zQ rfl trivial (fun hc => ?_) (fun hc => ?_)|refine zR rfl trivial (fun hc => ?_) (fun hc => ?_)|refine zS rfl trivial (fun hc => ?_) (fun hc => ?_)|refine zT ?_|refine zU ?_|refine zF rfl ?_ ?_|refine zH rfl ?_ ?_|refine zJ rfl ?_ ?_|refine zL rfl ?_ rfl ?_|refine zV rfl trivial rfl rfl rfl ?_|refine zW rfl rfl rfl rfl ?_|refine zX rfl rfl trivial rfl trivial rfl rfl rfl rfl rfl ?_
        | (exfalso; omega)
        | refine ao_callRT hTw tab_stays rfl (hL) trivial rfl rfl ?_
        |(show allP _; first | trivial | exact ob1 (fun h => h) | exact ob2 (fun h => h) (fun h => h) | exact ob1 (fun h => ⟨h.1, trivial⟩) | (simp only [obS]; first | omega | (intros; omega) | (simp only [obL]; first | omega | (intros; omega)) | (refine ⟨?_, ?_⟩ <;> intros <;> first | (with_reducible assumption) | omega) | ((repeat' refine And.intro ?_ ?_) <;> (intros; first | (with_reducible assumption) | omega | (simp only [obL]; omega))) | ((try simp only [obB] at *); (try simp only [Blk.len] at *); first | omega | (intros; omega)) | (simp_all; done))))
      refine fin_ret ?_; exact retOwn2 rfl rfl rfl rfl trivial rfl
  · rw [show spaceR t down n (affQ t down n) = [] from if_neg he]
    repeat' (first
    
      |refine zA ?_|refine zB ?_|refine zC (by kernel_rfl) (by kernel_rfl) ?_|refine zD ?_|refine zE ?_|refine zF rfl trivial ?_|refine zG ?_|refine zH rfl trivial ?_|refine zI ?_|refine zJ rfl trivial ?_|refine zK ?_|refine zL rfl trivial rfl ?_|refine zM ?_|refine zN rfl trivial ?_|refine zO rfl trivial ?_|refine zP rfl trivial (fun hc => ?_) (fun hc => ?_)|refine zQ rfl trivial (fun hc => ?_) (fun hc => ?_)|refine zR rfl trivial (fun hc => ?_) (fun hc => ?_)|refine zS rfl trivial (fun hc => ?_) (fun hc => ?_)|refine zT ?_|refine zU ?_|refine zF rfl ?_ ?_|refine zH rfl ?_ ?_|refine zJ rfl ?_ ?_|refine zL rfl ?_ rfl ?_|refine zV rfl trivial rfl rfl rfl ?_|refine zW rfl rfl rfl rfl ?_|refine zX rfl rfl trivial rfl trivial rfl rfl rfl rfl rfl ?_
      | (exfalso; exact absurd (by assumption) he)
      | (first | refine ao_call rfl (c26_wrong t down n) rfl ?_ ?_ | refine aq_call rfl (c26_wrong t down n) rfl ?_ ?_)
      |(show allP _; first | trivial | exact ob1 (fun h => h) | exact ob2 (fun h => h) (fun h => h) | exact ob1 (fun h => ⟨h.1, trivial⟩) | (simp only [obS]; first | omega | (intros; omega) | (simp only [obL]; first | omega | (intros; omega)) | (refine ⟨?_, ?_⟩ <;> intros <;> first | (with_reducible assumption) | omega) | ((repeat' refine And.intro ?_ ?_) <;> (intros; first | (with_reducible assumption) | omega | (simp only [obL]; omega))) | ((try simp only [obB] at *); (try simp only [Blk.len] at *); first | omega | (intros; omega)) | (simp_all; done))))
    refine fin_ret ?_; exact retNil2 rfl rfl rfl trivial rfl
end Go.Proofs.YtcnfggpcploehaaDoor

/- From a contract to a law's row: arguments that read as data. -/
namespace Go.Wk
set_option maxRecDepth 10000
open Go.RowKit Go.Deep

/-! ### Shapes -/

inductive Sc where
  | int (k : IntKind)
  | bool
  | str
inductive Shp where
  | sc (s : Sc)
  | sl (es : List Sc)

def Sc.fit : Sc → D → Prop
  | .int k, .int k' n => k' = k ∧ (Lit.int k n).wf = true
  | .bool, .bool _ => True
  | .str, .str _ => True
  | _, _ => False
def Sc.G (s : Sc) (v : Value) : Prop := ∃ x : D, s.fit x ∧ ∀ R w, RelD R w v x
def fitL : List Sc → List D → Prop
  | [], [] => True
  | s :: r, x :: q => s.fit x ∧ fitL r q
  | _, _ => False
def Shp.fit : Shp → D → Prop
  | .sc s, x => s.fit x
  | .sl es, .arr e n get => e = es.length ∧ n ≤ maxLen ∧ ∀ i, i < n → fitL es (get i)
  | _, _ => False
def Shp.G (w : World) (s : Shp) (v : Value) : Prop := ∃ x : D, s.fit x ∧ RelD (fun k => k < w.heap.size) w v x

/-- The kinds of whole numbers. -/
def IntOK (P : Program) : Env → Prop
  | [] => True
  | (t, ⟨.int _, _, _, .int k _⟩) :: r => P.underlying t = some (.int k) ∧ IntOK P r
  | _ :: r => IntOK P r
theorem IntOK.get {P : Program} {env : Env} (h : IntOK P env) {t : TypeId} {s b : Nat} {k k' : IntKind} {n : Int} (ht : ti? env t = some ⟨.int k', s, b, .int k n⟩) : P.underlying t = some (.int k) := by
  induction env with
  | nil => simp [ti?] at ht
  | cons x r ih =>
    obtain ⟨k', y⟩ := x
    simp only [ti?] at ht
    cases hb : Nat.beq k' t with
    | true =>
      have := Nat.eq_of_beq_eq_true hb; subst this
      simp only [hb, cond_true, Option.some.injEq] at ht
      subst ht
      exact h.1
    | false =>
      simp only [hb, cond_false] at ht
      refine ih ?_ ht
      unfold IntOK at h
      split at h
      · rename_i h'; simp at h'
      · rename_i h'; obtain ⟨_, rfl⟩ := List.cons.inj h'; exact h.2
      · rename_i h'; obtain ⟨_, rfl⟩ := List.cons.inj h'; exact h

section flat
variable {α : Type}
def flF (rec : TypeId → Option (List α)) : Nat → List (Nat × TypeId) → Option (List α)
  | _, [] => some []
  | acc, (off, t) :: r => match rec t with
    | some es => bif Nat.beq off acc then (match flF rec (acc + es.length) r with
        | some q => some (es ++ q)
        | none => none) else none
    | none => none
def flRep : Nat → List α → List α
  | 0, _ => []
  | n + 1, es => es ++ flRep n es
theorem flRep_len (n : Nat) (es : List α) : (flRep n es).length = n * es.length := by
  induction n with
  | zero => simp [flRep]
  | succ n ih => simp [flRep, ih, Nat.succ_mul, Nat.add_comm]

def Pw (G : α → Value → Prop) (es : List α) (cs : List Value) : Prop := cs.length = es.length ∧ ∀ (i : Nat) v s, cs[i]? = some v → es[i]? = some s → G s v

theorem flF_pw {rec : TypeId → Option (List α)} {G : α → Value → Prop} {cs : List Value} : ∀ {fs : List (Nat × TypeId)} {acc : Nat} {q : List α}, flF rec acc fs = some q →
    (∀ off t, (off, t) ∈ fs → ∀ es, rec t = some es → Pw G es ((cs.drop off).take es.length)) → ∀ (i : Nat) s v, q[i]? = some s → cs[acc + i]? = some v → G s v
  | [], acc, q, h, _ => by simp [flF] at h; subst h; intro i s v hs; simp at hs
  | (off, t) :: r, acc, q, h, hall => by
    simp only [flF] at h
    split at h
    · rename_i es hes
      cases hb : Nat.beq off acc with
      | false => simp [hb] at h
      | true =>
        have := Nat.eq_of_beq_eq_true hb; subst this
        simp only [hb, cond_true] at h
        split at h
        · rename_i q' hq
          simp at h; subst h
          intro i s v hs hv
          have hp := hall off t (by simp) es hes
          by_cases hi : i < es.length
          · rw [List.getElem?_append_left hi] at hs
            exact hp.2 i v s (by rw [List.getElem?_take, if_pos hi, List.getElem?_drop]; exact hv) hs
          · rw [List.getElem?_append_right (by omega)] at hs
            exact flF_pw hq (fun off' t' hm => hall off' t' (by simp [hm])) (i - es.length) s v hs (by rw [show off + es.length + (i - es.length) = off + i by omega]; exact hv)
        · simp at h
    · simp at h
theorem flRep_pw {G : α → Value → Prop} {cs : List Value} {es : List α} : ∀ {n base : Nat}, (∀ j, j < n → Pw G es ((cs.drop ((base + j) * es.length)).take es.length)) → ∀ (i : Nat) s v, (flRep n es)[i]? = some s → cs[base * es.length + i]? = some v → G s v
  | 0, _, _ => by intro i s v hs; simp [flRep] at hs
  | n + 1, base, hall => by
    intro i s v hs hv
    simp only [flRep] at hs
    by_cases hi : i < es.length
    · rw [List.getElem?_append_left hi] at hs
      exact (hall 0 (by omega)).2 i v s (by rw [Nat.add_zero, List.getElem?_take, if_pos hi, List.getElem?_drop]; exact hv) hs
    · rw [List.getElem?_append_right (by omega)] at hs
      exact flRep_pw (base := base + 1) (fun j hj => by rw [show base + 1 + j = base + (j + 1) by omega]; exact hall (j + 1) (by omega)) (i - es.length) s v hs (by rw [show (base + 1) * es.length + (i - es.length) = base * es.length + i by rw [Nat.add_mul, Nat.one_mul]; omega]; exact hv)
end flat

def szB {α : Type} (n : Nat) : Option (List α) → Option (List α)
  | some es => bif Nat.beq es.length n then some es else none
  | none => none
theorem szB_eq {α : Type} {n : Nat} {o : Option (List α)} {es : List α} (h : szB n o = some es) : o = some es ∧ es.length = n := by
  unfold szB at h
  split at h
  · rename_i es'
    cases hb : Nat.beq es'.length n with
    | false => simp [hb] at h
    | true => simp [hb] at h; subst h; exact ⟨rfl, Nat.eq_of_beq_eq_true hb⟩
  · simp at h

def scO (env : Env) : Nat → TypeId → Option (List Sc)
  | 0, _ => none
  | f + 1, t => match ti? env t with
    | some ⟨.bool, n, _, _⟩ => szB n (some [.bool])
    | some ⟨.int _, n, _, .int k _⟩ => szB n (some [.int k])
    | some ⟨.str, n, _, _⟩ => szB n (some [.str])
    | some ⟨.struct fs, n, _, _⟩ => szB n (flF (scO env f) 0 fs)
    | some ⟨.array m e, n, _, _⟩ => szB n (match scO env f e with
      | some es => some (flRep m es)
      | none => none)
    | _ => none
def shpO (env : Env) : Nat → TypeId → Option (List Shp)
  | 0, _ => none
  | f + 1, t => match ti? env t with
    | some ⟨.bool, n, _, _⟩ => szB n (some [.sc .bool])
    | some ⟨.int _, n, _, .int k _⟩ => szB n (some [.sc (.int k)])
    | some ⟨.str, n, _, _⟩ => szB n (some [.sc .str])
    | some ⟨.slice e, n, _, _⟩ => szB n (match scO env f e with
      | some es => some [.sl es]
      | none => none)
    | some ⟨.struct fs, n, _, _⟩ => szB n (flF (shpO env f) 0 fs)
    | some ⟨.array m e, n, _, _⟩ => szB n (match shpO env f e with
      | some es => some (flRep m es)
      | none => none)
    | _ => none

section
variable {P : Program} {env : Env}

theorem cellsOf_ti (hE : EnvOK P env) {t : TypeId} {ti : TI} (h : ti? env t = some ti) : P.cellsOf t = ti.size := by
  obtain ⟨i, hi, hs, _⟩ := (hE.get h).info
  simp [Program.cellsOf, hi, hs]
theorem scO_len (hE : EnvOK P env) {f : Nat} {t : TypeId} {es : List Sc} (h : scO env f t = some es) : es.length = P.cellsOf t := by
  cases f with
  | zero => simp [scO] at h
  | succ f =>
    simp only [scO] at h
    split at h
    all_goals first
      | (rename_i ht; rw [cellsOf_ti hE ht]; exact (szB_eq h).2)
      | simp at h
theorem shpO_len (hE : EnvOK P env) {f : Nat} {t : TypeId} {es : List Shp} (h : shpO env f t = some es) : es.length = P.cellsOf t := by
  cases f with
  | zero => simp [shpO] at h
  | succ f =>
    simp only [shpO] at h
    split at h
    all_goals first
      | (rename_i ht; rw [cellsOf_ti hE ht]; exact (szB_eq h).2)
      | simp at h

variable {H : Type} {enc : TypeId × Value → H} {w : World} {base : Nat} {spare : Nat → Bool} {held : Bool}

theorem szB_some {α : Type} {n : Nat} {o : Option (List α)} {es : List α} (h : szB n o = some es) : o = some es := (szB_eq h).1

theorem trod_flF {α : Type} {G : α → Value → Prop} {rec : TypeId → Option (List α)} (hlen : ∀ t es, rec t = some es → es.length = P.cellsOf t)
    (hrec : ∀ t es, rec t = some es → ∀ (fuel : Nat) (cs : List Value) (x : DataW H × List MemPlace), DataW.trod enc P w base spare held fuel t cs = some x → Pw G es cs)
    {t : TypeId} {fs : Array Field} {q : List α} (ht : P.underlying t = some (.struct fs)) (hq : flF rec 0 (fs.toList.map fun f => (f.offset, f.type)) = some q) (hl : q.length = P.cellsOf t)
    {fuel : Nat} {cs : List Value} {x : DataW H × List MemPlace} (h : DataW.trod enc P w base spare held fuel t cs = some x) : Pw G q cs := by
  obtain ⟨xs, n, _, _, hcs, hxs, hf⟩ := DataW.trod_struct ht h
  refine ⟨by omega, fun i v s hv hs => ?_⟩
  refine flF_pw (cs := cs) hq (fun off t' hm es hes => ?_) i s v hs (by simpa using hv)
  obtain ⟨f, hfm, he⟩ := List.mem_map.1 hm
  simp only [Prod.mk.injEq] at he
  obtain ⟨rfl, rfl⟩ := he
  obtain ⟨k, hk, hfk⟩ := List.mem_iff_getElem.1 hfm
  have hk' : fs[k]? = some f := by
    have hk2 : k < fs.size := by simpa using hk
    rw [Array.getElem?_eq_getElem hk2]
    simpa using hfk
  have h1 := hf k f hk'
  have hk3 : k < xs.length := by rw [hxs]; simpa using hk
  rw [List.getElem?_eq_getElem hk3] at h1
  have := hrec _ es hes _ _ _ h1
  rwa [hlen _ es hes]

theorem trod_arr {α : Type} {G : α → Value → Prop} {t e : TypeId} {m : Nat} {es : List α} (hes : es.length = P.cellsOf e)
    (hrec : ∀ (fuel : Nat) (cs : List Value) (x : DataW H × List MemPlace), DataW.trod enc P w base spare held fuel e cs = some x → Pw G es cs)
    (ht : P.underlying t = some (.array m e)) (hl : (flRep m es).length = P.cellsOf t)
    {fuel : Nat} {cs : List Value} {x : DataW H × List MemPlace} (h : DataW.trod enc P w base spare held fuel t cs = some x) : Pw G (flRep m es) cs := by
  cases fuel with
  | zero => simp [DataW.trod] at h
  | succ n =>
    simp only [DataW.trod, ht] at h
    split at h
    · rename_i hcs
      refine ⟨by omega, fun i v s hv hs => ?_⟩
      refine flRep_pw (cs := cs) (base := 0) (n := m) (es := es) (fun j hj => ?_) i s v hs (by simpa using hv)
      cases hm : (List.range m).mapM fun i => DataW.trod enc P w base spare held n e ((cs.drop (i * P.cellsOf e)).take (P.cellsOf e)) with
      | none => rw [hm] at h; simp at h
      | some ys =>
        have hget : ∀ {l : List Nat} {ys : List (DataW H × List MemPlace)}, l.mapM (fun i => DataW.trod enc P w base spare held n e ((cs.drop (i * P.cellsOf e)).take (P.cellsOf e))) = some ys → ∀ x ∈ l, ∃ y, DataW.trod enc P w base spare held n e ((cs.drop (x * P.cellsOf e)).take (P.cellsOf e)) = some y := by
          intro l
          induction l with
          | nil => simp
          | cons a r ih =>
            intro ys hys
            simp only [List.mapM_cons, Option.bind_eq_bind, Option.pure_def] at hys
            cases ha : DataW.trod enc P w base spare held n e ((cs.drop (a * P.cellsOf e)).take (P.cellsOf e)) with
            | none => simp [ha] at hys
            | some b =>
              cases hr : r.mapM fun i => DataW.trod enc P w base spare held n e ((cs.drop (i * P.cellsOf e)).take (P.cellsOf e)) with
              | none => simp [ha, hr] at hys
              | some q =>
                intro x hx
                rcases List.mem_cons.1 hx with rfl | hx
                · exact ⟨b, ha⟩
                · exact ih hr x hx
        obtain ⟨y, hy⟩ := hget hm j (List.mem_range.2 hj)
        have := hrec _ _ _ hy
        rw [Nat.zero_add, hes]; exact this
    · cases h

theorem Pw_one {α : Type} {G : α → Value → Prop} {a : α} {v : Value} (h : G a v) : Pw G [a] [v] := by
  refine ⟨rfl, fun i u s hu hs => ?_⟩
  cases i with
  | zero => simp at hu hs; subst hu hs; exact h
  | succ i => simp at hu

theorem trod_sc (hE : EnvOK P env) (hI : IntOK P env) : ∀ (f : Nat) (t : TypeId) (es : List Sc), scO env f t = some es → ∀ (fuel : Nat) (cs : List Value) (x : DataW H × List MemPlace),
    DataW.trod enc P w base spare held fuel t cs = some x → Pw Sc.G es cs := by
  intro f
  induction f with
  | zero => intro t es h; simp [scO] at h
  | succ f ih =>
    intro t es hs fuel cs x h
    have hlen := scO_len hE hs
    simp only [scO] at hs
    split at hs
    · rename_i ht
      obtain ⟨d, hd, hk⟩ := (hE.get ht).desc
      have := desc_bool hk; subst this
      have := szB_some hs; simp at this; subst this
      obtain ⟨b, rfl, _⟩ := DataW.trod_bool hd h
      exact Pw_one ⟨.bool b, trivial, fun _ _ => .bool b⟩
    · rename_i ht
      have hd := hI.get ht
      have := szB_some hs; simp at this; subst this
      obtain ⟨b, rfl, _, hw⟩ := DataW.trod_int hd h
      exact Pw_one ⟨.int _ b, ⟨rfl, hw⟩, fun _ _ => .int _ b⟩
    · rename_i ht
      obtain ⟨d, hd, hk⟩ := (hE.get ht).desc
      have := desc_str hk; subst this
      have := szB_some hs; simp at this; subst this
      obtain ⟨b, rfl, _, hw⟩ := DataW.trod_string hd h
      exact Pw_one ⟨.str b, trivial, fun _ _ => .str b⟩
    · rename_i ht
      obtain ⟨d, hd, hk⟩ := (hE.get ht).desc
      obtain ⟨fl, rfl, rfl⟩ := desc_struct hk
      exact trod_flF (rec := scO env f) (fun t es => scO_len hE) (fun t es hes fuel cs x hx => ih t es hes fuel cs x hx) hd (szB_some hs) hlen h
    · rename_i ht
      obtain ⟨d, hd, hk⟩ := (hE.get ht).desc
      have := desc_array hk; subst this
      have hs' := szB_some hs
      split at hs'
      · rename_i es' hes
        simp at hs'; subst hs'
        exact trod_arr (scO_len hE hes) (fun fuel cs x hx => ih _ es' hes fuel cs x hx) hd hlen h
      · simp at hs'
    · simp at hs

theorem fitL_of : ∀ {es : List Sc} {vs : List Value}, Pw Sc.G es vs → ∃ ds : List D, fitL es ds ∧ ds.length = vs.length ∧ ∀ (i : Nat) v x, vs[i]? = some v → ds[i]? = some x → ∀ R w, RelD R w v x
  | [], vs, h => ⟨[], trivial, by have := h.1; simp at this; simp [this], fun i v x _ hx => by simp at hx⟩
  | s :: r, vs, h => by
    cases vs with
    | nil => have := h.1; simp at this
    | cons v q =>
      obtain ⟨ds, h1, h2, h3⟩ := fitL_of (es := r) (vs := q) ⟨by have := h.1; simpa using this, fun i u s' hu hs' => h.2 (i + 1) u s' (by simpa using hu) (by simpa using hs')⟩
      obtain ⟨x, hx, hr⟩ := h.2 0 v s (by simp) (by simp)
      refine ⟨x :: ds, ⟨hx, h1⟩, by simp [h2], fun i u y hu hy => ?_⟩
      cases i with
      | zero => simp at hu hy; subst hu hy; exact hr
      | succ i => exact h3 i u y (by simpa using hu) (by simpa using hy)

/-- The cells of an argument: a slice's address leads to a block. -/
def AdrOK (w : World) (v : Value) : Prop := ∀ a len cap, v = .slice (some a) len cap → a.spot = none ∧ a.block < w.heap.size

theorem trod_shp (hE : EnvOK P env) (hI : IntOK P env) : ∀ (f : Nat) (t : TypeId) (es : List Shp), shpO env f t = some es → ∀ (fuel : Nat) (cs : List Value) (x : DataW H × List MemPlace),
    DataW.trod enc P w base spare held fuel t cs = some x → Pw (fun s v => AdrOK w v → Shp.G w s v) es cs := by
  intro f
  induction f with
  | zero => intro t es h; simp [shpO] at h
  | succ f ih =>
    intro t es hs fuel cs x h
    have hlen := shpO_len hE hs
    simp only [shpO] at hs
    split at hs
    · rename_i ht
      obtain ⟨d, hd, hk⟩ := (hE.get ht).desc
      have := desc_bool hk; subst this
      have := szB_some hs; simp at this; subst this
      obtain ⟨b, rfl, _⟩ := DataW.trod_bool hd h
      exact Pw_one fun _ => ⟨.bool b, trivial, .bool b⟩
    · rename_i ht
      have hd := hI.get ht
      have := szB_some hs; simp at this; subst this
      obtain ⟨b, rfl, _, hw⟩ := DataW.trod_int hd h
      exact Pw_one fun _ => ⟨.int _ b, ⟨rfl, hw⟩, .int _ b⟩
    · rename_i ht
      obtain ⟨d, hd, hk⟩ := (hE.get ht).desc
      have := desc_str hk; subst this
      have := szB_some hs; simp at this; subst this
      obtain ⟨b, rfl, _, hw⟩ := DataW.trod_string hd h
      exact Pw_one fun _ => ⟨.str b, trivial, .str b⟩
    · rename_i e n by_ z ht
      obtain ⟨d, hd, hk⟩ := (hE.get ht).desc
      have := desc_slice hk; subst this
      have hs' := szB_some hs
      split at hs'
      · rename_i es' hes
        simp at hs'; subst hs'
        have hel := scO_len hE hes
        rcases open_slice hd h with ⟨rfl, _⟩ | ⟨a, len, cap, m, n', Dt, Pl, rfl, hb, hlc, hcm, hm, _, hx⟩
        · exact Pw_one fun _ => ⟨.arr es'.length 0 (fun _ => []), ⟨rfl, by simp, fun i hi => by omega⟩, .nil _ _⟩
        · refine Pw_one fun hadr => ?_
          obtain ⟨hspot, hblk⟩ := hadr a len cap rfl
          have hlm : len ≤ m := by rw [hm]; split <;> omega
          have key : ∀ i, i < len → ∃ (vs : List Value) (ds : List D), vs.length = es'.length ∧ fitL es' ds ∧ ds.length = es'.length ∧ (∀ j, j < es'.length → w.cell? ⟨a.block, a.off + (i * es'.length + j), none⟩ = vs[j]?) ∧ ∀ (j : Nat) v x, vs[j]? = some v → ds[j]? = some x → ∀ R w, RelD R w v x := by
            intro i hi
            obtain ⟨cs', h1, h2⟩ := hx i (by omega)
            obtain ⟨_, c2, c3⟩ := World.cells?_some h1
            have hp := trod_sc hE hI f e es' hes _ _ _ h2
            obtain ⟨ds, f1, f2, f3⟩ := fitL_of hp
            refine ⟨cs', ds, hp.1, f1, by rw [f2, hp.1], fun j hj => ?_, f3⟩
            have := c3 j (by rw [← hel]; exact hj)
            rw [← this]
            congr 1
            obtain ⟨ab, ao, as0⟩ := a
            simp only at hspot; subst hspot
            rw [add_off, add_off]
            congr 1
            rw [hel]; simp only; omega
          let vsF : Nat → List Value := fun i => if h : i < len then (key i h).choose else []
          let dsF : Nat → List D := fun i => if h : i < len then (key i h).choose_spec.choose else []
          have hF : ∀ i, i < len → (vsF i).length = es'.length ∧ fitL es' (dsF i) ∧ (dsF i).length = es'.length ∧ (∀ j, j < es'.length → w.cell? ⟨a.block, a.off + (i * es'.length + j), none⟩ = (vsF i)[j]?) ∧ ∀ (j : Nat) v x, (vsF i)[j]? = some v → (dsF i)[j]? = some x → ∀ R w, RelD R w v x := fun i hi => by
            simp only [vsF, dsF, dif_pos hi]
            exact (key i hi).choose_spec.choose_spec
          refine ⟨.arr es'.length len dsF, ⟨rfl, by omega, fun i hi => (hF i hi).2.1⟩, ?_⟩
          obtain ⟨ab, ao, as0⟩ := a
          simp only at hspot hblk; subst hspot
          refine .arr ab ao len cap es'.length dsF (fun i j => (vsF i).getD j (.bool false)) hblk (by omega) (fun i hi => (hF i hi).2.2.1) (fun i j hi hj => ?_) (fun i j x hi hx => ?_)
          · have h4 := (hF i hi).2.2.2.1 j hj
            simp only at h4
            rw [h4, List.getD_eq_getElem?_getD, List.getElem?_eq_getElem (by rw [(hF i hi).1]; exact hj)]; rfl
          · have hj : j < es'.length := by rw [← (hF i hi).2.2.1]; exact (List.getElem?_eq_some_iff.1 hx).1
            refine (hF i hi).2.2.2.2 j _ x ?_ hx _ _
            rw [List.getD_eq_getElem?_getD, List.getElem?_eq_getElem (by rw [(hF i hi).1]; exact hj)]; rfl
      · simp at hs'
    · rename_i ht
      obtain ⟨d, hd, hk⟩ := (hE.get ht).desc
      obtain ⟨fl, rfl, rfl⟩ := desc_struct hk
      exact trod_flF (rec := shpO env f) (fun t es => shpO_len hE) (fun t es hes fuel cs x hx => ih t es hes fuel cs x hx) hd (szB_some hs) hlen h
    · rename_i ht
      obtain ⟨d, hd, hk⟩ := (hE.get ht).desc
      have := desc_array hk; subst this
      have hs' := szB_some hs
      split at hs'
      · rename_i es' hes
        simp at hs'; subst hs'
        exact trod_arr (shpO_len hE hes) (fun fuel cs x hx => ih _ es' hes fuel cs x hx) hd hlen h
      · simp at hs'
    · simp at hs

end
end Go.Wk

/- From a contract to a law's row. -/
namespace Go.Wk
set_option maxRecDepth 10000
open Go.RowKit Go.Deep

section
variable {P : Program} {env : Env} {H : Type} {enc : TypeId × Value → H} {W : World} {base : Nat} {spare : Nat → Bool} {held : Bool}

theorem cell_adr {u : TypeId} {v : Value} (h : Cell.okWide P W .any base u v) : AdrOK W v := by
  rintro a len cap rfl
  have h2 : Cell.ok P W .any base u (.slice (some a) len cap) := by
    unfold Cell.okWide at h
    split at h
    all_goals first
      | exact h
      | (rename_i he; cases he)
      | (rename_i he _; cases he)
  unfold Cell.ok at h2
  split at h2
  all_goals try (rename_i he; cases he; done)
  all_goals try (exact h2.elim)
  · rename_i he
    cases he
    obtain ⟨_, _, _, hs, row, cells, hsh, _⟩ := h2
    refine ⟨hs, ?_⟩
    unfold World.shape? at hsh
    cases hb : W.heap[a.block]? with
    | none => rw [hb] at hsh; simp at hsh
    | some o => exact (Array.getElem?_eq_some_iff.1 hb).1

def fitS : List Shp → List D → Prop
  | [], [] => True
  | s :: r, x :: q => s.fit x ∧ fitS r q
  | _, _ => False

theorem fitS_of : ∀ {es : List Shp} {vs : List Value}, Pw (fun s v => AdrOK W v → Shp.G W s v) es vs → (∀ v ∈ vs, AdrOK W v) → ∃ ds : List D, fitS es ds ∧ ds.length = vs.length ∧ ∀ (i : Nat) v x, vs[i]? = some v → ds[i]? = some x → RelD (fun k => k < W.heap.size) W v x
  | [], vs, h, _ => ⟨[], trivial, by have := h.1; simp at this; simp [this], fun i v x _ hx => by simp at hx⟩
  | s :: r, vs, h, ha => by
    cases vs with
    | nil => have := h.1; simp at this
    | cons v q =>
      obtain ⟨ds, h1, h2, h3⟩ := fitS_of (es := r) (vs := q) ⟨by have := h.1; simpa using this, fun i u s' hu hs' => h.2 (i + 1) u s' (by simpa using hu) (by simpa using hs')⟩ (fun v hv => ha v (by simp [hv]))
      obtain ⟨x, hx, hr⟩ := h.2 0 v s (by simp) (by simp) (ha v (by simp))
      refine ⟨x :: ds, ⟨hx, h1⟩, by simp [h2], fun i u y hu hy => ?_⟩
      cases i with
      | zero => simp at hu hy; subst hu hy; exact hr
      | succ i => exact h3 i u y (by simpa using hu) (by simpa using hy)

/-- An argument that is a struct or an array. -/
theorem arg_agg (hE : EnvOK P env) (hI : IntOK P env) {t : TypeId} {ti : TI} {es : List Shp} (ht : ti? env t = some ti) (ha : ti.k.agg = true) (hs : shpO env 10 t = some es) {v : Value} {d : DataW H} {p : List MemPlace} (hok : Value.okWide P W .any base t v) (h : DataW.Trod enc P W 0 spare held t v d p) :
    ∃ ds, fitS es ds ∧ RelD (fun k => k < W.heap.size) W v (.agg ds) := by
  obtain ⟨fuel, hf⟩ := h
  obtain ⟨dd, hd, hk⟩ := (hE.get ht).desc
  have hcs : ∃ cs, v = .agg cs ∧ ∀ c ∈ cs.toList, AdrOK W c := by
    have key : (∃ cs, v = .agg cs ∧ cs.size = P.cellsOf t ∧ Row.okWide P W .any base t cs) := by
      unfold Value.okWide at hok
      rw [hd] at hok
      cases dd <;> first
        | exact hok
        | (simp [summ] at hk; rw [← hk] at ha; simp [Kd.agg] at ha; done)
    obtain ⟨cs, rfl, _, ts, _, _, hr⟩ := key
    refine ⟨cs, rfl, fun c hc => ?_⟩
    obtain ⟨k, hk, hck⟩ := List.mem_iff_getElem.1 hc
    have hk2 : k < cs.size := by simpa using hk
    obtain ⟨u, _, hu⟩ := hr k c (by rw [Array.getElem?_eq_getElem hk2]; simpa using hck)
    exact cell_adr hu
  obtain ⟨cs, rfl, hadr⟩ := hcs
  have hp := trod_shp hE hI 10 t es hs _ _ _ hf
  obtain ⟨ds, h1, h2, h3⟩ := fitS_of hp hadr
  refine ⟨ds, h1, ?_⟩
  have := RelD.agg (R := fun k => k < W.heap.size) (w := W) cs.toList ds (by simpa [Value.cells] using h2.symm) (fun i v x hv hx => h3 i v x (by simpa [Value.cells] using hv) hx)
  simpa using this

/-- An argument of one cell. -/
theorem arg_one (hE : EnvOK P env) (hI : IntOK P env) {t : TypeId} {ti : TI} {s : Shp} (ht : ti? env t = some ti) (ha : ti.k.agg = false) (hs : shpO env 10 t = some [s]) {v : Value} {d : DataW H} {p : List MemPlace} (hok : Value.okWide P W .any base t v) (h : DataW.Trod enc P W 0 spare held t v d p) :
    ∃ x, s.fit x ∧ RelD (fun k => k < W.heap.size) W v x := by
  obtain ⟨fuel, hf⟩ := h
  obtain ⟨dd, hd, hk⟩ := (hE.get ht).desc
  have hc : Cell.okWide P W .any base t v := by
    unfold Value.okWide at hok
    rw [hd] at hok
    cases dd <;> first
      | exact hok
      | (simp [summ] at hk; rw [← hk] at ha; simp [Kd.agg] at ha; done)
  have hcell : v.cells = #[v] := by
    cases v <;> first
      | rfl
      | (exfalso
         unfold Cell.okWide at hc
         split at hc
         all_goals first
           | (rename_i he; cases he; done)
           | (rename_i he _; cases he; done)
           | skip
         unfold Cell.ok at hc
         split at hc
         all_goals first
           | (rename_i he; cases he; done)
           | exact hc)
  have hp := trod_shp hE hI 10 t [s] hs _ _ _ hf
  rw [hcell] at hp
  obtain ⟨x, hx, hr⟩ := hp.2 0 v s (by simp) (by simp) (cell_adr hc)
  exact ⟨x, hx, hr⟩

theorem trodAll_stays (hl : laidOutB P = true) {W' : World} (hb : Below W.heap.size W W') : ∀ {ts : List TypeId} {vs : List Value} {ds : List (DataW H)} {ps : List MemPlace}, (∀ t ∈ ts, P.readableRec t = true ∧ t < P.types.size) →
    DataW.TrodAll enc P W 0 (fun _ => true) true ts vs ds ps → (∀ x ∈ ps, x.block < W.heap.size) → DataW.TrodAll enc P W' 0 (fun b => decide (b < W.heap.size)) true ts vs ds ps
  | [], [], [], _, _, h, _ => h
  | t :: ts, v :: vs, d :: ds, ps, ht, h, hlt => by
    obtain ⟨p, q, h1, h2, rfl⟩ := h
    exact ⟨p, q, Below.trod hl (ht t (by simp)).1 (ht t (by simp)).2 h1 hb (fun x hx => hlt x (by simp [hx])), trodAll_stays hl hb (fun t ht' => ht t (by simp [ht'])) h2 (fun x hx => hlt x (by simp [hx])), rfl⟩
  | [], _ :: _, _, _, _, h, _ => h.elim
  | [], [], _ :: _, _, _, h, _ => h.elim
  | _ :: _, [], _, _, _, h, _ => h.elim
  | _ :: _, _ :: _, [], _, _, h, _ => h.elim

end

/-- The row of a law, lifted. -/
theorem law_lifted {C : Checked} {os : Os} {f : FuncId} {fn : Func} {s : ChangeSpec} {conds : List PathCond} {fresh handsOn : Bool} {H : Type} {enc : TypeId × Value → H}
    (own : ownKnob C.prog.godebug = none) (started : os.Started) (noInit : C.prog.inits.idxOf? f = none) (hfn : C.prog.funcs[f]? = some fn)
    (witness : ∃ (w : World) (tape : Tape) (i : Input), w.os = os ∧ (w.forCall tape i).Shaped C.prog ∧ i.vars = [] ∧ Input.okWide C.prog (w.forCall tape i) .any w.heap.size f i ∧
      s.pre6 enc C.prog fn conds false (w.forCall tape i).memory i.args ∧ ({} : Assume).holds C.prog (lone (Frame.enter C.prog f i.args .normal) [] (w.forCall tape i)))
    (hl : laidOutB C.prog = true) (hvars : s.vars = []) (hread : ∀ t ∈ fn.params.toList, C.prog.readableRec t = true ∧ t < C.prog.types.size) {tb : TypeId} (hres : fn.resultTypes = #[tb]) (htb : C.prog.underlying tb = some .bool)
    (hspec : ∀ ds : List (DataW H), ds.length = fn.params.size → (s.fn H (ds ++ [])).results = [.lit (.bool true)] ∧ (s.fn H (ds ++ [])).args = ds ∧ (s.fn H (ds ++ [])).vars = [])
    (key : ∀ (W : World) (base : Nat) (args : Array Value) (ds : List (DataW H)) (p : List MemPlace), (∀ (j : Nat) t v, fn.params[j]? = some t → args[j]? = some v → Value.okWide C.prog W .any base t v) →
      DataW.TrodAll enc C.prog W 0 (fun _ => true) true fn.params.toList args.toList ds p → ∃ xs : List D, RelDs (fun k => k < W.heap.size) W args.toList xs ∧ Ctr C.prog f xs [] (.d (.bool true))) :
    ReturnsInHanded {} C os f .any (s.pre6 enc C.prog fn conds false) (s.post enc C.prog fn false fresh handsOn false) := by
  refine returnsInHanded_of_change own started noInit hfn witness ?_
  intro W base args ds gs before hval hW hcnd _
  have hlt := hW.lt
  obtain ⟨p, q, hA, hV, rfl, hfz, hnd⟩ := hW
  obtain ⟨xs, hxs, hctr⟩ := key W base args ds p hval hA
  have hV' := hV
  rw [hvars] at hV
  have hg : gs = [] ∧ q = [] := by
    cases gs with
    | nil => exact ⟨rfl, hV⟩
    | cons g r => exact hV.elim
  obtain ⟨rfl, rfl⟩ := hg
  have hlen : ∀ {ts : List TypeId} {vs : List Value} {ds : List (DataW H)} {ps : List MemPlace}, DataW.TrodAll enc C.prog W 0 (fun _ => true) true ts vs ds ps → ds.length = ts.length := by
    intro ts
    induction ts with
    | nil => intro vs ds ps h; cases vs <;> cases ds <;> first | rfl | exact h.elim
    | cons t r ih =>
      intro vs ds ps h
      cases vs with
      | nil => exact h.elim
      | cons v q => cases ds with
        | nil => exact h.elim
        | cons d e => obtain ⟨_, _, _, h2, _⟩ := h; simp [ih h2]
  obtain ⟨s1, s2, s3⟩ := hspec ds (by have := hlen hA; simpa using this)
  refine (hctr.2 W args.toList hxs).mono ?_
  rintro e W' ⟨v, ρ, rfl, hout⟩
  refine ⟨v, rfl, ds, [], p ++ [], [], p, [], ⟨p, [], hA, hV', rfl, hfz, hnd⟩, ?_, ?_, ?_, hout.ext.frame _, fun h => by cases h⟩
  · have hv : v = .bool true := by
      have := hout.val
      cases this with | d h => cases h; rfl
    rw [s1, hres, hv]
    exact ⟨[], [], ⟨1, by simp [DataW.trod, htb, Value.cells]⟩, rfl, rfl⟩
  · rw [s2]
    exact trodAll_stays hl hout.ext hread hA (fun x hx => hlt x (by simp [hx]))
  · rw [s3, hvars]; rfl

end Go.Wk
