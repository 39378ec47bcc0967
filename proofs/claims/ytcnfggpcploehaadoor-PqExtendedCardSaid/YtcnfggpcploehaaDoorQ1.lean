/- Laid together: WkH, WkZ, WkI, WkJ, WkK, WkL, WkM, WkN, WkO, WkP. -/
import Derived.Test.YtcnfggpcploehaaDoorRows
import Derived.Deep.AppendSrc
import Derived.Test.YtcnfggpcploehaaDoorQ0

set_option linter.all false

/- A function's entry and end. -/
namespace Go.Wk
set_option maxRecDepth 10000
open Go.RowKit

def ofD : D → V
  | .agg cs => .agg (mapF V.d cs)
  | x => .d x
theorem ofD_rel {R R' : Nat → Prop} {w : World} (hR : ∀ k, R k → R' k) {v : Value} {x : D} (h : RelD R w v x) (S : List Blk) (ρ : Nat → Option Nat) : RelV S ρ R' w v (ofD x) := by
  have mono : ∀ {v x}, RelD R w v x → RelD R' w v x := fun h => h.mono fun k hk => ⟨hR k hk, rfl⟩
  cases x with
  | agg cs =>
    cases h with
    | agg vals _ hl hr =>
      refine .agg vals _ (by simp [mapF_eq, hl]) fun i v x hv hx => ?_
      rw [mapF_eq, List.getElem?_map] at hx
      cases hc : cs[i]? with
      | none => rw [hc] at hx; simp at hx
      | some y => rw [hc] at hx; simp at hx; subst hx; exact .d (mono (hr i v y hv hc))
  | _ => exact .d (mono h)

def entryF : Nat → List D → Fr
  | _, [] => []
  | i, x :: r => (i, [], ofD x) :: entryF (i + 1) r

theorem entryF_get {ds : List D} {i t : Nat} {g : List Bool} {v : V} (h : look (entryF i ds) t = some (g, v)) : g = [] ∧ ∃ j x, ds[j]? = some x ∧ t = i + j ∧ v = ofD x := by
  induction ds generalizing i with
  | nil => simp [entryF, look] at h
  | cons x r ih =>
    simp only [entryF, look] at h
    cases hb : Nat.beq i t with
    | true =>
      have := Nat.eq_of_beq_eq_true hb
      subst this
      simp only [hb, cond_true, Option.some.injEq, Prod.mk.injEq] at h
      exact ⟨h.1.symm, 0, x, by simp, by simp, h.2.symm⟩
    | false =>
      simp only [hb, cond_false] at h
      obtain ⟨h1, j, y, h2, h3, h4⟩ := ih h
      exact ⟨h1, j + 1, y, by simpa using h2, by omega, h4⟩

/-- The same, laid out. -/
def entryO : Nat → List D → Option Fr
  | _, [] => some []
  | i, .agg cs :: r => match vcells cs with
    | some vs => match entryO (i + 1) r with
      | some F => some ((i, [], .agg vs) :: F)
      | none => none
    | none => none
  | i, x :: r => match entryO (i + 1) r with
    | some F => some ((i, [], .d x) :: F)
    | none => none
theorem entryO_eq (i : Nat) (ds : List D) : entryO i ds = some (entryF i ds) := by
  induction ds generalizing i with
  | nil => rfl
  | cons x r ih => cases x <;> simp [entryO, entryF, ih, ofD, vcells_eq]

/-! ### Results -/

def D.flat : D → Bool
  | .agg cs => cs.all D.scal
  | x => x.scal
theorem RelD.flat {x : D} (hf : x.flat = true) {R R' : Nat → Prop} {w : World} {v : Value} (h : RelD R w v x) : RelD R' w v x := by
  cases x with
  | agg cs =>
    simp only [D.flat, List.all_eq_true] at hf
    cases h with
    | agg vals _ hl hr =>
      refine .agg vals _ hl fun i v x hv hx => ?_
      have hs := hf x (List.mem_of_getElem? hx)
      rw [RelD.valOf_eq hs (hr i v x hv hx)]
      exact RelD.of_scal hs _ _
  | bool b => cases h; constructor
  | int k n => cases h; constructor
  | str s => cases h; constructor
  | nilp => cases h; constructor
  | fn f => cases h; constructor
  | arr esz n get => simp [D.flat, D.scal] at hf

/-- A row all of whose cells say all by themselves. -/
def Blk.flat : Blk → Prop
  | .ints .. | .bools .. => True
  | .row _ n get => ∀ i, i < n → ∀ x ∈ get i, x.scal = true
  | _ => False
theorem Blk.flat_get {b : Blk} (h : b.flat) {i j : Nat} {x : D} (hi : i < b.len) (hx : (b.get i)[j]? = some x) : x.scal = true := by
  cases b with
  | cells cs => exact h.elim
  | gone => exact h.elim
  | ints k xs => cases j <;> simp [Blk.get] at hx; subst hx; rfl
  | bools xs => cases j <;> simp [Blk.get] at hx; subst hx; rfl
  | row esz n get => exact h i hi x (List.mem_of_getElem? hx)
theorem Blk.flat_row {b : Blk} (h : b.flat) : b.isRow = true := by cases b <;> first | rfl | exact h.elim

def resL (env : Env) (F : Fr) (S : List Blk) : List ResultVar → Option (List V)
  | [] => some []
  | .tmp t :: r => match look F t with
    | some ([], v) => match resL env F S r with
      | some vs => some (v :: vs)
      | none => none
    | _ => none
  | .cell a t :: r => match look F a with
    | some ([], p) => match execLoad env S t p with
      | some v => match resL env F S r with
        | some vs => some (v :: vs)
        | none => none
      | none => none
    | _ => none

/-- How a value over the function's own blocks is handed out over the contract's ('ns': the contract's i-th block is the function's block of that name, or a nil slice). -/
def expV (ns : List (Option Nat)) : V → V → Prop
  | .d x, .d y => x = y ∧ x.flat = true
  | .own nm, .own i => nthF ns i = some (some nm)
  | .nil, .own i => nthF ns i = some none
  | .agg cs, .d (.agg ds) => cs = ds.map V.d ∧ ds.all D.scal = true
  | _, _ => False
def expL (ns : List (Option Nat)) : List V → List V → Prop
  | [], [] => True
  | v :: r, u :: s => expV ns v u ∧ expL ns r s
  | _, _ => False
def expS (S : List Blk) : List (Option Nat) → List Blk → Prop
  | [], [] => True
  | some nm :: r, b :: rb => nthF S nm = some b ∧ b.flat ∧ r.contains (some nm) = false ∧ expS S r rb
  | none :: r, b :: rb => b.len = 0 ∧ b.flat ∧ expS S r rb
  | _, _ => False

theorem expS_len {S : List Blk} {ns : List (Option Nat)} {rS : List Blk} (h : expS S ns rS) : ns.length = rS.length := by
  induction ns generalizing rS with
  | nil => cases rS with
    | nil => rfl
    | cons => exact h.elim
  | cons x r ih => cases rS with
    | nil => cases x <;> exact h.elim
    | cons b rb => cases x with
      | none => simp [ih h.2.2]
      | some nm => simp [ih h.2.2.2]
theorem expS_get {S : List Blk} {ns : List (Option Nat)} {rS : List Blk} (h : expS S ns rS) {i : Nat} {b : Blk} (hb : rS[i]? = some b) :
    b.flat ∧ ((∃ nm, ns[i]? = some (some nm) ∧ S[nm]? = some b) ∨ (ns[i]? = some none ∧ b.len = 0)) := by
  induction ns generalizing rS i with
  | nil => cases rS with
    | nil => simp at hb
    | cons => exact h.elim
  | cons x r ih => cases rS with
    | nil => cases x <;> exact h.elim
    | cons c rb => cases x with
      | none =>
        cases i with
        | zero => simp at hb; subst hb; exact ⟨h.2.1, .inr ⟨by simp, h.1⟩⟩
        | succ i => simpa using ih h.2.2 (by simpa using hb)
      | some nm =>
        cases i with
        | zero => simp at hb; subst hb; exact ⟨h.2.1, .inl ⟨nm, by simp, by rw [← nthF_eq]; exact h.1⟩⟩
        | succ i => simpa using ih h.2.2.2 (by simpa using hb)
theorem expS_inj {S : List Blk} {ns : List (Option Nat)} {rS : List Blk} (h : expS S ns rS) {i j nm : Nat} (hi : ns[i]? = some (some nm)) (hj : ns[j]? = some (some nm)) : i = j := by
  induction ns generalizing rS i j with
  | nil => simp at hi
  | cons x r ih => cases rS with
    | nil => cases x <;> exact h.elim
    | cons c rb => cases x with
      | none =>
        cases i with
        | zero => simp at hi
        | succ i => cases j with
          | zero => simp at hj
          | succ j => exact congrArg (· + 1) (ih h.2.2 (by simpa using hi) (by simpa using hj))
      | some m =>
        have hno : ∀ k : Nat, r[k]? ≠ some (some m) := fun k hk => by
          have hc : r.contains (some m) = true := by simpa using List.mem_of_getElem? hk
          rw [h.2.2.1] at hc; cases hc
        cases i with
        | zero =>
          simp at hi; subst hi
          cases j with
          | zero => rfl
          | succ j => exact absurd (by simpa using hj) (hno j)
        | succ i => cases j with
          | zero => simp at hj; subst hj; exact absurd (by simpa using hi) (hno i)
          | succ j => exact congrArg (· + 1) (ih h.2.2.2 (by simpa using hi) (by simpa using hj))

def retOK (env : Env) (rs : List ResultVar) (rS : List Blk) (rv : V) (F : Fr) (S : List Blk) : Prop :=
  ∃ vs ns, resL env F S rs = some vs ∧ expS S ns rS ∧ match vs with
    | [v] => expV ns v rv
    | vs => ∃ us, rv = .tup us ∧ expL ns vs us

def resRun (tmps : Array Value) : ResultVar → Sem Value
  | .tmp t => pure (tmps.getD t undef)
  | .cell a t => do loadVar t (← asAddr (tmps.getD a undef))

inductive AllRun (P : Program) (tmps : Array Value) (w : World) : List ResultVar → List Value → Prop
  | nil : AllRun P tmps w [] []
  | cons {r : ResultVar} {v : Value} {rs : List ResultVar} {vs : List Value} (h : (resRun tmps r).run P w = .ok v w) (t : AllRun P tmps w rs vs) : AllRun P tmps w (r :: rs) (v :: vs)

def retVal : List Value → Value
  | [v] => v
  | vs => .tuple vs.toArray

theorem run_mapM {P : Program} {tmps : Array Value} {w : World} {rs : List ResultVar} {vs : List Value} (h : AllRun P tmps w rs vs) : (rs.mapM (resRun tmps)).run P w = .ok vs w := by
  induction h with
  | nil => rfl
  | cons h t ih => simp only [List.mapM_cons, Sem.run_bind, h, Result.andThen, ih]; rfl

theorem run_results {P : Program} {fn : Func} {tmps : Array Value} {w : World} {rs : List ResultVar} {vs : List Value} (hres : fn.results = rs.toArray) (h : AllRun P tmps w rs vs) : (results fn tmps).run P w = .ok (retVal vs) w := by
  have e : results fn tmps = (do let vs ← List.toArray <$> rs.mapM (resRun tmps); pure (if h : vs.size = 1 then vs[0] else .tuple vs)) := by
    unfold results
    rw [hres, List.mapM_toArray]
    have hf : (fun x => match x with | .tmp t => pure (tmps.getD t undef) | .cell a t => do loadVar t (← asAddr (tmps.getD a undef)) : ResultVar → Sem Value) = resRun tmps := by
      funext r; cases r <;> rfl
    congr 1
  rw [e]
  have hm := run_mapM h
  simp only [map_eq_pure_bind, Sem.run_bind, hm, Result.andThen, Sem.run_pure]
  match vs, h with
  | [], _ => rfl
  | [v], _ => rfl
  | v :: u :: r, _ => simp [retVal]

theorem resL_run {P : Program} {env : Env} (hE : EnvOK P env) {w0 : Base} {n : Nat} {F : Fr} {S : List Blk} {ρ : Nat → Option Nat} {a : Act} {w : World} (hf : FrOK n F S ρ a w) (hm : Mem w0 S ρ w) :
    ∀ {rs : List ResultVar} {vs : List V}, resL env F S rs = some vs → ∃ vals, AllRun P a.tmps w rs vals ∧ vals.length = vs.length ∧ ∀ (i : Nat) u x, vals[i]? = some u → vs[i]? = some x → RelV S ρ (Rr S ρ w) w u x := by
  intro rs
  induction rs with
  | nil => intro vs h; simp [resL] at h; subst h; exact ⟨[], .nil, rfl, fun i u x hu => by simp at hu⟩
  | cons r rs ih =>
    intro vs h
    have fin : ∀ {val : Value} {v : V} {vs' : List V}, resL env F S rs = some vs' → (resRun a.tmps r).run P w = .ok val w → RelV S ρ (Rr S ρ w) w val v → vs = v :: vs' →
        ∃ vals, AllRun P a.tmps w (r :: rs) vals ∧ vals.length = vs.length ∧ ∀ (i : Nat) u x, vals[i]? = some u → vs[i]? = some x → RelV S ρ (Rr S ρ w) w u x := by
      intro val v vs' hr hrun hrel he
      obtain ⟨vals, h1, h2, h3⟩ := ih hr
      subst he
      refine ⟨val :: vals, .cons hrun h1, by simp [h2], fun i u x hu hx => ?_⟩
      cases i with
      | zero => simp at hu hx; subst hu hx; exact hrel
      | succ i => exact h3 i u x (by simpa using hu) (by simpa using hx)
    cases r with
    | tmp t =>
      simp only [resL] at h
      split at h
      · rename_i v hl
        split at h
        · rename_i vs' hr
          simp at h
          exact fin hr rfl ((hf.get t [] v hl).1 trivial) h.symm
        · simp at h
      · simp at h
    | cell x t =>
      simp only [resL] at h
      split at h
      · rename_i p hl
        split at h
        · rename_i v hv
          split at h
          · rename_i vs' hr
            simp at h
            have hp := (hf.get x [] p hl).1 trivial
            obtain ⟨val, hrun, hrel⟩ := execLoad_sound (P := P) hE hm hv hp (N := []) (by simp)
            refine fin hr ?_ hrel h.symm
            have := hrun w (fun _ _ _ => rfl)
            show ((asAddr (a.tmps.getD x undef)) >>= fun ad => loadVar t ad : Sem Value).run P w = .ok val w
            generalize a.tmps.getD x undef = u at this hp
            cases hp with
            | ptr hb => simpa [asAddr, Instr.loadAt, Instr.sureAddr] using this
            | ep hb hs hi => simpa [asAddr, Instr.loadAt, Instr.sureAddr] using this
            | rp val hR hc hr => simpa [asAddr, Instr.loadAt, Instr.sureAddr] using this
            | _ => simp [execLoad] at hv <;> (split at hv <;> simp at hv)
          · simp at h
        · simp at h
      · simp at h

theorem out_of {w0 : World} {S : List Blk} {ρ : Nat → Option Nat} {w : World} (hm : Mem (Base.of w0) S ρ w) {ns : List (Option Nat)} {rS : List Blk} (hS : expS S ns rS) :
    (∀ i b, i < rS.length → (ns.getD i none).bind ρ = some b → w0.heap.size ≤ b ∧ b < w.heap.size) ∧
    (∀ i j b, i < rS.length → j < rS.length → (ns.getD i none).bind ρ = some b → (ns.getD j none).bind ρ = some b → i = j) ∧
    ∀ i blk, rS[i]? = some blk → RelBlk rS (fun i => (ns.getD i none).bind ρ) (Rf w0 rS (fun i => (ns.getD i none).bind ρ) w) w i blk := by
  have named : ∀ {i b}, i < rS.length → (ns.getD i none).bind ρ = some b → ∃ nm blk, ns[i]? = some (some nm) ∧ rS[i]? = some blk ∧ S[nm]? = some blk ∧ ρ nm = some b := by
    intro i b hi hb
    obtain ⟨hf, ⟨nm, h1, h2⟩ | ⟨h1, _⟩⟩ := expS_get hS (List.getElem?_eq_getElem hi)
    · refine ⟨nm, _, h1, List.getElem?_eq_getElem hi, h2, ?_⟩
      rw [List.getD_eq_getElem?_getD, h1] at hb; simpa using hb
    · rw [List.getD_eq_getElem?_getD, h1] at hb; simp at hb
  refine ⟨fun i b hi hb => ?_, fun i j b hi hj hbi hbj => ?_, fun i blk hb => ?_⟩
  · obtain ⟨nm, blk, _, _, h3, h4⟩ := named hi hb
    have := hm.lt nm b (List.getElem?_eq_some_iff.1 h3).1 h4
    exact ⟨this.1.resolve_right (fun h => h), this.2⟩
  · obtain ⟨nm, blk, h1, _, h3, h4⟩ := named hi hbi
    obtain ⟨nm', blk', h1', _, h3', h4'⟩ := named hj hbj
    have := hm.inj nm nm' b (List.getElem?_eq_some_iff.1 h3).1 (List.getElem?_eq_some_iff.1 h3').1 h4 h4'
    subst this
    exact expS_inj hS h1 h1'
  · obtain ⟨hf, ⟨nm, h1, h2⟩ | ⟨h1, h0⟩⟩ := expS_get hS hb
    · have hrow := Blk.flat_row hf
      have hρ : (ns.getD i none).bind ρ = ρ nm := by rw [List.getD_eq_getElem?_getD, h1]; rfl
      have key : (ρ nm = none ∧ blk.len = 0) ∨ ∃ b c ty, ρ nm = some b ∧ w.heap[b]? = some (.cells c ty (0, 0)) ∧ blk.len * blk.esz ≤ c.size ∧ (∀ i, i < blk.len → (blk.get i).length = blk.esz) ∧
          ∀ (i j : Nat) x, i < blk.len → (blk.get i)[j]? = some x → ∃ v, c[i * blk.esz + j]? = some v ∧ RelD (Rf w0 rS (fun i => (ns.getD i none).bind ρ) w) w v x := by
        rcases (hm.blk nm blk h2).row hrow with h | ⟨b, c, ty, h1, h2, h3, h4, h5⟩
        · exact .inl h
        · exact .inr ⟨b, c, ty, h1, h2, h3, h4, fun i j x hi hx => let ⟨v, hv, hr⟩ := h5 i j x hi hx; ⟨v, hv, by
            have hs := Blk.flat_get hf hi hx
            rw [RelD.valOf_eq hs hr]; exact RelD.of_scal hs _ _⟩⟩
      unfold RelBlk
      cases blk <;> first | exact hf.elim | (simp only [hρ]; exact key)
    · have hρ : (ns.getD i none).bind ρ = none := by rw [List.getD_eq_getElem?_getD, h1]; rfl
      unfold RelBlk
      cases blk <;> first | exact hf.elim | exact .inl ⟨hρ, h0⟩

theorem expV_out {w0 : World} {S : List Blk} {ρ : Nat → Option Nat} {w : World} {ns : List (Option Nat)} {rS : List Blk} (hS : expS S ns rS) {v rv : V} (he : expV ns v rv) {u : Value} (hu : RelV S ρ (Rr S ρ w) w u v) :
    RelV rS (fun i => (ns.getD i none).bind ρ) (Rf w0 rS (fun i => (ns.getD i none).bind ρ) w) w u rv := by
  have hlen := expS_len hS
  unfold expV at he
  split at he
  · obtain ⟨rfl, hf⟩ := he
    cases hu with | d h => exact .d (h.flat hf)
  · rename_i nm i
    rw [nthF_eq] at he
    have hi : i < rS.length := by rw [← hlen]; exact (List.getElem?_eq_some_iff.1 he).1
    obtain ⟨hf, ⟨nm', h1, h2⟩ | ⟨h1, _⟩⟩ := expS_get hS (List.getElem?_eq_getElem hi)
    · rw [he] at h1; cases h1
      have hρ : (ns.getD i none).bind ρ = ρ nm := by rw [List.getD_eq_getElem?_getD, he]; rfl
      have hsh : shape rS i = shape S nm := by simp [shape, h2, List.getElem?_eq_getElem hi]
      cases hu with
      | ownNil hb hs => exact .ownNil (by rw [hρ]; exact hb) (by rw [hsh]; exact hs)
      | own hb hs hc hcap => exact .own (by rw [hρ]; exact hb) (by rw [hsh]; exact hs) hc hcap
    · rw [he] at h1; cases h1
  · rename_i i
    rw [nthF_eq] at he
    have hi : i < rS.length := by rw [← hlen]; exact (List.getElem?_eq_some_iff.1 he).1
    obtain ⟨hf, ⟨nm', h1, h2⟩ | ⟨h1, h0⟩⟩ := expS_get hS (List.getElem?_eq_getElem hi)
    · rw [he] at h1; cases h1
    · have hρ : (ns.getD i none).bind ρ = none := by rw [List.getD_eq_getElem?_getD, he]; rfl
      cases hu
      exact .ownNil (esz := rS[i].esz) hρ (by simp [shape, List.getElem?_eq_getElem hi, h0])
  · rename_i cs ds
    obtain ⟨rfl, hsc⟩ := he
    cases hu with
    | agg vals _ hl hr =>
      refine .d (.agg vals ds (by simpa using hl) fun i v x hv hx => ?_)
      have := hr i v (.d x) hv (by simp [hx])
      cases this with
      | d h =>
        have hs : x.scal = true := by rw [List.all_eq_true] at hsc; exact hsc x (List.mem_of_getElem? hx)
        rw [RelD.valOf_eq hs h]; exact RelD.of_scal hs _ _
  · exact he.elim

theorem expL_get {ns : List (Option Nat)} {vs us : List V} (h : expL ns vs us) : vs.length = us.length ∧ ∀ (i : Nat) v u, vs[i]? = some v → us[i]? = some u → expV ns v u := by
  induction vs generalizing us with
  | nil => cases us with
    | nil => simp
    | cons => exact h.elim
  | cons v r ih => cases us with
    | nil => exact h.elim
    | cons u s =>
      obtain ⟨h1, h2⟩ := ih h.2
      refine ⟨by simp [h1], fun i a b ha hb => ?_⟩
      cases i with
      | zero => simp at ha hb; subst ha hb; exact h.1
      | succ i => exact h2 i a b (by simpa using ha) (by simpa using hb)

/-- A contract out of a walk. -/
theorem spec_of {P : Program} {env : Env} (hE : EnvOK P env) {f : FuncId} {fn : Func} {c : Code} {rs : List ResultVar} {ds : List D} {rS : List Blk} {rv : V} (hen : Enters P f) (hf : P.funcs[f]? = some fn) (hb : fn.body = some c)
    (hrs : fn.results = rs.toArray) (n : Nat) (hn : fn.ntmps = n) (hds : ds.length ≤ n) {F0 : Fr} (hF : entryO 0 ds = some F0)
    (k : ∀ w0, AW P env (Base.of w0) n c (fun e F S => (e = .normal ∨ e = .ret) ∧ retOK env rs rS rv F S) F0 []) : Ctr P f ds rS rv := by
  rw [entryO_eq] at hF; cases hF
  refine ⟨hen, fun w vs hvs => ?_⟩
  obtain ⟨hl, hv⟩ := hvs
  refine calls_of_wp hf hb (Code.wp_mono (fun e a' w' hq => ?_) (k w hE (fun _ => none) _ w ⟨⟨?_, rfl, fun t g v h => ?_⟩, ⟨Kept.refl _, Nat.zero_le _, fun i b hi => absurd hi (Nat.not_lt_zero _), fun i b hi => by simp at hi, fun i j b hi => by simp at hi, ⟨fun k hk => hk.elim, fun i b hb => (by cases hb), fun k hk => hk.elim⟩, fun i blk h => by simp at h⟩⟩))
  · obtain ⟨F', S', ρ', hr, hex, vs', ns, hres, hS, hval⟩ := hq
    obtain ⟨vals, hall, hlen, hrel⟩ := resL_run (P := P) hE hr.fr hr.mem hres
    have hrun := run_results hrs hall
    have hout := out_of hr.mem hS
    have done : ∃ v ρ, Ending.returned (retVal vals) = .returned v ∧ Out w rS ρ w' v rv := by
      refine ⟨_, fun i => (ns.getD i none).bind ρ', rfl, hr.mem.below.of, hout.1, hout.2.1, hout.2.2, ?_⟩
      match vals, vs', hlen, hrel, hval with
      | [u], [v], _, hrel, hval => exact expV_out hS hval (hrel 0 u v (by simp) (by simp))
      | [], [], _, hrel, ⟨us, hus, hL⟩ =>
        subst hus
        have := (expL_get hL).1
        simp at this
        cases us with
        | nil => exact .tup [] [] rfl fun i v x hv => by simp at hv
        | cons => simp at this
      | u :: u' :: ur, v :: v' :: vr, hlen, hrel, ⟨us, hus, hL⟩ =>
        subst hus
        obtain ⟨l1, l2⟩ := expL_get hL
        exact .tup _ us (by rw [hlen, l1]) fun i a b ha hb' => by
          have hi : i < (v :: v' :: vr).length := by rw [l1]; exact (List.getElem?_eq_some_iff.1 hb').1
          exact expV_out hS (l2 i _ b (List.getElem?_eq_getElem hi) hb') (hrel i a _ ha (List.getElem?_eq_getElem hi))
    rcases hex with rfl | rfl
    · exact ⟨hr.fr.defers, _, hrun, done⟩
    · exact ⟨hr.fr.defers, _, hrun, done⟩
  · simp [hl, hn]; omega
  · obtain ⟨rfl, j, x, hx, rfl, rfl⟩ := entryF_get h
    refine ⟨fun _ => ?_, fun h => absurd trivial h⟩
    have hj : j < vs.length := by rw [hl]; exact (List.getElem?_eq_some_iff.1 hx).1
    have hg : (vs.toArray ++ Array.replicate (fn.ntmps - vs.toArray.size) undef).getD (0 + j) undef = vs[j] := by
      rw [Nat.zero_add, Array.getD_eq_getD_getElem?, Array.getElem?_append_left (by simpa using hj)]
      simp [hj]
    rw [hg]
    exact ofD_rel (fun k hk => ⟨hk, fun i hi => by simp at hi⟩) (hv j _ x (List.getElem?_eq_getElem hj) hx) _ _

theorem enters_of {P : Program} {f : FuncId} {fn : Func} (hf : P.funcs[f]? = some fn) (hn : (fn.name == "runtime.NumGoroutine") = false) (hb : fn.body.isNone = false) : Enters P f := by
  intro args w
  have hn' : fn.name ≠ "runtime.NumGoroutine" := by simpa using hn
  have hb' : fn.body ≠ none := by intro h; rw [h] at hb; cases hb
  simp [callFunc, hf, hn', hb']

theorem ob1 {p : Prop} (h : p) : allP [p] := ⟨h, trivial⟩
theorem ob2 {p q : Prop} (h : p) (k : q) : allP [p, q] := ⟨h, k, trivial⟩
theorem ob3 {p q r : Prop} (h : p) (k : q) (m : r) : allP [p, q, r] := ⟨h, k, m, trivial⟩
theorem fin_ret {env : Env} {rs : List ResultVar} {rS : List Blk} {rv : V} {F : Fr} {S : List Blk} (h : retOK env rs rS rv F S) : (Exit.ret = .normal ∨ Exit.ret = .ret) ∧ retOK env rs rS rv F S := ⟨.inr rfl, h⟩
theorem ret1 {env : Env} {rs : List ResultVar} {x y : D} {F : Fr} {S : List Blk} (h : resL env F S rs = some [.d x]) (hx : x = y) (hf : y.flat = true) : retOK env rs [] (.d y) F S :=
  ⟨_, [], h, trivial, hx, hx ▸ hf⟩

end Go.Wk

/- The types of this translation, in short. -/
namespace Go.Proofs.YtcnfggpcploehaaDoor
open Go.Wk

def env : Env := [
  (1, ⟨.other, 1, 8, .nilFunc⟩),
  (2, ⟨(.int .i64), 1, 8, .int .i64 0⟩),
  (3, ⟨(.int .i64), 1, 8, .int .i64 0⟩),
  (4, ⟨.bool, 1, 1, .bool false⟩),
  (5, ⟨(.int .u8), 1, 1, .int .u8 0⟩),
  (9, ⟨.str, 1, 16, .string ⟨#[]⟩⟩),
  (12, ⟨(.int .u64), 1, 8, .int .u64 0⟩),
  (13, ⟨(.struct [(0, 9), (1, 12)]), 2, 24, .agg #[.string ⟨#[]⟩, .int .u64 0]⟩),
  (21, ⟨(.int .i32), 1, 4, .int .i32 0⟩),
  (22, ⟨(.slice 4), 1, 24, .slice none 0 0⟩),
  (23, ⟨(.slice 43), 1, 24, .slice none 0 0⟩),
  (24, ⟨(.struct [(0, 3), (1, 22), (2, 23)]), 3, 56, .agg #[.int .i64 0, .slice none 0 0, .slice none 0 0]⟩),
  (25, ⟨(.struct [(0, 3), (1, 22), (2, 23)]), 3, 56, .agg #[.int .i64 0, .slice none 0 0, .slice none 0 0]⟩),
  (26, ⟨(.struct [(0, 25), (3, 22), (4, 3), (5, 3)]), 6, 96, .agg #[.int .i64 0, .slice none 0 0, .slice none 0 0, .slice none 0 0, .int .i64 0, .int .i64 0]⟩),
  (27, ⟨(.struct [(0, 25), (3, 22), (4, 3), (5, 3)]), 6, 96, .agg #[.int .i64 0, .slice none 0 0, .slice none 0 0, .slice none 0 0, .int .i64 0, .int .i64 0]⟩),
  (28, ⟨.other, 1, 8, .nilFunc⟩),
  (29, ⟨.other, 1, 8, .nilFunc⟩),
  (30, ⟨.other, 1, 8, .nilFunc⟩),
  (31, ⟨(.slice 3), 1, 24, .slice none 0 0⟩),
  (32, ⟨(.int .i64), 1, 8, .int .i64 0⟩),
  (34, ⟨.other, 1, 8, .nilFunc⟩),
  (35, ⟨.other, 1, 8, .nilFunc⟩),
  (36, ⟨.other, 1, 8, .nilFunc⟩),
  (37, ⟨.other, 1, 8, .nilFunc⟩),
  (38, ⟨.other, 1, 8, .nilFunc⟩),
  (39, ⟨.other, 1, 8, .nilFunc⟩),
  (40, ⟨.other, 1, 8, .nilFunc⟩),
  (41, ⟨(.array 2 3), 2, 16, .agg #[.int .i64 0, .int .i64 0]⟩),
  (42, ⟨(.struct [(0, 3), (1, 3), (2, 41), (4, 3), (5, 3), (6, 3)]), 7, 56, .agg #[.int .i64 0, .int .i64 0, .int .i64 0, .int .i64 0, .int .i64 0, .int .i64 0, .int .i64 0]⟩),
  (43, ⟨(.struct [(0, 3), (1, 3), (2, 41), (4, 3), (5, 3), (6, 3)]), 7, 56, .agg #[.int .i64 0, .int .i64 0, .int .i64 0, .int .i64 0, .int .i64 0, .int .i64 0, .int .i64 0]⟩),
  (44, ⟨.other, 1, 8, .nilFunc⟩),
  (46, ⟨.other, 1, 8, .nilFunc⟩),
  (47, ⟨.other, 1, 8, .nilFunc⟩),
  (48, ⟨.other, 1, 8, .nilFunc⟩),
  (49, ⟨.other, 1, 8, .nilFunc⟩),
  (50, ⟨(.int .u64), 1, 8, .int .u64 0⟩),
  (51, ⟨(.int .u64), 1, 8, .int .u64 0⟩),
  (52, ⟨.other, 1, 8, .nilFunc⟩),
  (53, ⟨.other, 1, 8, .nilFunc⟩),
  (54, ⟨.other, 1, 8, .nilFunc⟩),
  (55, ⟨.other, 1, 8, .nilFunc⟩),
  (56, ⟨.other, 1, 8, .nilFunc⟩),
  (57, ⟨.other, 1, 8, .nilFunc⟩),
  (58, ⟨.other, 1, 8, .nilFunc⟩),
  (59, ⟨.other, 1, 8, .nilFunc⟩),
  (60, ⟨.other, 1, 8, .nilFunc⟩),
  (61, ⟨.other, 1, 8, .nilFunc⟩),
  (62, ⟨.other, 1, 8, .nilFunc⟩),
  (63, ⟨(.struct [(0, 56), (1, 37)]), 2, 16, .agg #[.nilFunc, .nilFunc]⟩),
  (64, ⟨(.struct [(0, 56), (1, 37)]), 2, 16, .agg #[.nilFunc, .nilFunc]⟩),
  (66, ⟨.other, 1, 8, .nilFunc⟩),
  (67, ⟨(.struct [(0, 25), (3, 22), (4, 3), (5, 31)]), 6, 112, .agg #[.int .i64 0, .slice none 0 0, .slice none 0 0, .slice none 0 0, .int .i64 0, .slice none 0 0]⟩),
  (68, ⟨(.struct [(0, 25), (3, 22), (4, 3), (5, 31)]), 6, 112, .agg #[.int .i64 0, .slice none 0 0, .slice none 0 0, .slice none 0 0, .int .i64 0, .slice none 0 0]⟩),
  (70, ⟨.other, 1, 8, .nilFunc⟩),
  (71, ⟨.other, 1, 8, .nilFunc⟩),
  (72, ⟨.other, 1, 8, .nilFunc⟩),
  (73, ⟨.other, 1, 8, .nilFunc⟩),
  (74, ⟨.other, 1, 8, .nilFunc⟩),
  (75, ⟨.other, 1, 8, .nilFunc⟩),
  (76, ⟨(.ptr 87), 1, 8, .pointer none⟩),
  (78, ⟨.other, 1, 8, .nilFunc⟩),
  (79, ⟨.other, 1, 8, .nilFunc⟩),
  (81, ⟨.other, 1, 8, .nilFunc⟩),
  (83, ⟨.other, 1, 8, .nilFunc⟩),
  (84, ⟨(.array 64 5), 64, 64, .agg #[.int .u8 0, .int .u8 0, .int .u8 0, .int .u8 0, .int .u8 0, .int .u8 0, .int .u8 0, .int .u8 0, .int .u8 0, .int .u8 0, .int .u8 0, .int .u8 0, .int .u8 0, .int .u8 0, .int .u8 0, .int .u8 0, .int .u8 0, .int .u8 0, .int .u8 0, .int .u8 0, .int .u8 0, .int .u8 0, .int .u8 0, .int .u8 0, .int .u8 0, .int .u8 0, .int .u8 0, .int .u8 0, .int .u8 0, .int .u8 0, .int .u8 0, .int .u8 0, .int .u8 0, .int .u8 0, .int .u8 0, .int .u8 0, .int .u8 0, .int .u8 0, .int .u8 0, .int .u8 0, .int .u8 0, .int .u8 0, .int .u8 0, .int .u8 0, .int .u8 0, .int .u8 0, .int .u8 0, .int .u8 0, .int .u8 0, .int .u8 0, .int .u8 0, .int .u8 0, .int .u8 0, .int .u8 0, .int .u8 0, .int .u8 0, .int .u8 0, .int .u8 0, .int .u8 0, .int .u8 0, .int .u8 0, .int .u8 0, .int .u8 0, .int .u8 0]⟩),
  (85, ⟨(.int .u64), 1, 8, .int .u64 0⟩),
  (86, ⟨(.struct [(0, 31), (1, 31), (2, 31)]), 3, 72, .agg #[.slice none 0 0, .slice none 0 0, .slice none 0 0]⟩),
  (87, ⟨(.struct [(0, 31), (1, 31), (2, 31)]), 3, 72, .agg #[.slice none 0 0, .slice none 0 0, .slice none 0 0]⟩),
  (88, ⟨.other, 1, 8, .nilFunc⟩),
  (89, ⟨.other, 1, 8, .nilFunc⟩),
  (90, ⟨.other, 1, 8, .nilFunc⟩),
  (91, ⟨.other, 1, 8, .nilFunc⟩),
  (97, ⟨.other, 1, 8, .nilFunc⟩),
  (98, ⟨(.int .u32), 1, 4, .int .u32 0⟩),
  (102, ⟨(.ptr 5), 1, 8, .pointer none⟩)]

theorem envOK : EnvOK Tryd.prog env := ⟨⟨by kernel_rfl, by kernel_rfl⟩, ⟨by kernel_rfl, by kernel_rfl⟩, ⟨by kernel_rfl, by kernel_rfl⟩, ⟨by kernel_rfl, by kernel_rfl⟩, ⟨by kernel_rfl, by kernel_rfl⟩, ⟨by kernel_rfl, by kernel_rfl⟩, ⟨by kernel_rfl, by kernel_rfl⟩, ⟨by kernel_rfl, by kernel_rfl⟩, ⟨by kernel_rfl, by kernel_rfl⟩, ⟨by kernel_rfl, by kernel_rfl⟩, ⟨by kernel_rfl, by kernel_rfl⟩, ⟨by kernel_rfl, by kernel_rfl⟩, ⟨by kernel_rfl, by kernel_rfl⟩, ⟨by kernel_rfl, by kernel_rfl⟩, ⟨by kernel_rfl, by kernel_rfl⟩, ⟨by kernel_rfl, by kernel_rfl⟩, ⟨by kernel_rfl, by kernel_rfl⟩, ⟨by kernel_rfl, by kernel_rfl⟩, ⟨by kernel_rfl, by kernel_rfl⟩, ⟨by kernel_rfl, by kernel_rfl⟩, ⟨by kernel_rfl, by kernel_rfl⟩, ⟨by kernel_rfl, by kernel_rfl⟩, ⟨by kernel_rfl, by kernel_rfl⟩, ⟨by kernel_rfl, by kernel_rfl⟩, ⟨by kernel_rfl, by kernel_rfl⟩, ⟨by kernel_rfl, by kernel_rfl⟩, ⟨by kernel_rfl, by kernel_rfl⟩, ⟨by kernel_rfl, by kernel_rfl⟩, ⟨by kernel_rfl, by kernel_rfl⟩, ⟨by kernel_rfl, by kernel_rfl⟩, ⟨by kernel_rfl, by kernel_rfl⟩, ⟨by kernel_rfl, by kernel_rfl⟩, ⟨by kernel_rfl, by kernel_rfl⟩, ⟨by kernel_rfl, by kernel_rfl⟩, ⟨by kernel_rfl, by kernel_rfl⟩, ⟨by kernel_rfl, by kernel_rfl⟩, ⟨by kernel_rfl, by kernel_rfl⟩, ⟨by kernel_rfl, by kernel_rfl⟩, ⟨by kernel_rfl, by kernel_rfl⟩, ⟨by kernel_rfl, by kernel_rfl⟩, ⟨by kernel_rfl, by kernel_rfl⟩, ⟨by kernel_rfl, by kernel_rfl⟩, ⟨by kernel_rfl, by kernel_rfl⟩, ⟨by kernel_rfl, by kernel_rfl⟩, ⟨by kernel_rfl, by kernel_rfl⟩, ⟨by kernel_rfl, by kernel_rfl⟩, ⟨by kernel_rfl, by kernel_rfl⟩, ⟨by kernel_rfl, by kernel_rfl⟩, ⟨by kernel_rfl, by kernel_rfl⟩, ⟨by kernel_rfl, by kernel_rfl⟩, ⟨by kernel_rfl, by kernel_rfl⟩, ⟨by kernel_rfl, by kernel_rfl⟩, ⟨by kernel_rfl, by kernel_rfl⟩, ⟨by kernel_rfl, by kernel_rfl⟩, ⟨by kernel_rfl, by kernel_rfl⟩, ⟨by kernel_rfl, by kernel_rfl⟩, ⟨by kernel_rfl, by kernel_rfl⟩, ⟨by kernel_rfl, by kernel_rfl⟩, ⟨by kernel_rfl, by kernel_rfl⟩, ⟨by kernel_rfl, by kernel_rfl⟩, ⟨by kernel_rfl, by kernel_rfl⟩, ⟨by kernel_rfl, by kernel_rfl⟩, ⟨by kernel_rfl, by kernel_rfl⟩, ⟨by kernel_rfl, by kernel_rfl⟩, ⟨by kernel_rfl, by kernel_rfl⟩, ⟨by kernel_rfl, by kernel_rfl⟩, ⟨by kernel_rfl, by kernel_rfl⟩, ⟨by kernel_rfl, by kernel_rfl⟩, ⟨by kernel_rfl, by kernel_rfl⟩, ⟨by kernel_rfl, by kernel_rfl⟩, ⟨by kernel_rfl, by kernel_rfl⟩, ⟨by kernel_rfl, by kernel_rfl⟩, ⟨by kernel_rfl, by kernel_rfl⟩, ⟨by kernel_rfl, by kernel_rfl⟩, ⟨by kernel_rfl, by kernel_rfl⟩, trivial⟩

end Go.Proofs.YtcnfggpcploehaaDoor

/- New blocks, and writes into the call's own. -/
namespace Go.Wk
set_option maxRecDepth 10000
open Go.RowKit

def upd (ρ : Nat → Option Nat) (nm : Nat) (g : Option Nat) : Nat → Option Nat := fun i => if i = nm then g else ρ i
theorem upd_same (ρ : Nat → Option Nat) (nm : Nat) (g : Option Nat) : upd ρ nm g nm = g := if_pos rfl
theorem upd_ne (ρ : Nat → Option Nat) {nm i : Nat} (g : Option Nat) (h : i ≠ nm) : upd ρ nm g i = ρ i := if_neg h
theorem upd_hid {w0 : Base} {n m nm : Nat} {ρ : Nat → Option Nat} {w w' : World} {g : Option Nat} (h : Hid w0 n ρ w) (hm : m = n) (hn : nm < n) (hs : w.heap.size ≤ w'.heap.size) (hg : ∀ b, g = some b → b < w'.heap.size) : Hid w0 m (upd ρ nm g) w' := by
  subst hm
  refine ⟨fun k hk => ?_, fun i b hb => ?_, h.no⟩
  · obtain ⟨i, h1, h2⟩ := h.1 k hk
    exact ⟨i, h1, by rw [upd_ne _ _ (by omega)]; exact h2⟩
  · by_cases hi : i = nm
    · subst hi; rw [upd_same] at hb; exact hg b hb
    · rw [upd_ne _ _ hi] at hb; exact Nat.lt_of_lt_of_le (h.2 i b hb) hs

/-- Whatever stood in the old relation stands in the new one. -/
structure Moves (S : List Blk) (ρ : Nat → Option Nat) (w : World) (S' : List Blk) (ρ' : Nat → Option Nat) (w' : World) : Prop where
  R : ∀ k, Rr S ρ w k → Rr S' ρ' w' k ∧ w'.heap[k]? = w.heap[k]?
  names : ∀ nm, nm < S.length → ρ' nm = ρ nm ∧ shape S' nm = shape S nm ∧ ∀ b e m, ρ nm = some b → rowAt w b e m → rowAt w' b e m

section
variable {w0 : Base} {w w' : World} {n : Nat} {F : Fr} {S S' : List Blk} {ρ ρ' : Nat → Option Nat} {a : Act}

theorem Moves.v (h : Moves S ρ w S' ρ' w') {u : Value} {x : V} (hv : RelV S ρ (Rr S ρ w) w u x) : RelV S' ρ' (Rr S' ρ' w') w' u x :=
  hv.mono h.R fun nm hu => h.names nm (hv.uses_lt nm hu)
theorem Moves.d (h : Moves S ρ w S' ρ' w') {u : Value} {x : D} (hv : RelD (Rr S ρ w) w u x) : RelD (Rr S' ρ' w') w' u x := hv.mono h.R
theorem Moves.fr (h : Moves S ρ w S' ρ' w') (hf : FrOK n F S ρ a w) : FrOK n F S' ρ' a w' :=
  ⟨hf.size, hf.defers, fun t g v hl => ⟨fun hg => h.v ((hf.get t g v hl).1 hg), (hf.get t g v hl).2⟩⟩

theorem shape_app {S : List Blk} (r : List Blk) {nm : Nat} (h : nm < S.length) : shape (S ++ r) nm = shape S nm := by simp [shape, List.getElem?_append_left h]

/-- A block of the call's own that is not touched. -/
theorem Moves.blk (h : Moves S ρ w S' ρ' w') {nm : Nat} (hn : nm < S.length) {blk : Blk} (hb : RelBlk S ρ (Rr S ρ w) w nm blk) (hk : ∀ b, ρ nm = some b → b < w.heap.size → w'.heap[b]? = w.heap[b]?) : RelBlk S' ρ' (Rr S' ρ' w') w' nm blk := by
  have hρ := (h.names nm hn).1
  have row : ((ρ nm = none ∧ blk.len = 0) ∨ ∃ b c ty, ρ nm = some b ∧ w.heap[b]? = some (.cells c ty (0, 0)) ∧ blk.len * blk.esz ≤ c.size ∧ (∀ i, i < blk.len → (blk.get i).length = blk.esz) ∧
      ∀ (i j : Nat) x, i < blk.len → (blk.get i)[j]? = some x → ∃ v, c[i * blk.esz + j]? = some v ∧ RelD (Rr S ρ w) w v x) →
      ((ρ' nm = none ∧ blk.len = 0) ∨ ∃ b c ty, ρ' nm = some b ∧ w'.heap[b]? = some (.cells c ty (0, 0)) ∧ blk.len * blk.esz ≤ c.size ∧ (∀ i, i < blk.len → (blk.get i).length = blk.esz) ∧
      ∀ (i j : Nat) x, i < blk.len → (blk.get i)[j]? = some x → ∃ v, c[i * blk.esz + j]? = some v ∧ RelD (Rr S' ρ' w') w' v x) := by
    rw [hρ]
    rintro (h0 | ⟨b, c, ty, h1, h2, h3, h4, h5⟩)
    · exact .inl h0
    · exact .inr ⟨b, c, ty, h1, by rw [hk b h1 (lt_of_get h2)]; exact h2, h3, h4, fun i j x hi hx => let ⟨v, hv, hr⟩ := h5 i j x hi hx; ⟨v, hv, h.d hr⟩⟩
  cases blk with
  | gone => trivial
  | cells cs =>
    obtain ⟨b, vals, ty, h1, h2, h3, h4⟩ := hb
    exact ⟨b, vals, ty, by rw [hρ]; exact h1, by rw [hk b h1 (lt_of_get h2)]; exact h2, h3, fun i v x hv hx => h.v (h4 i v x hv hx)⟩
  | ints k xs => exact row hb
  | bools xs => exact row hb
  | row esz n get => exact row hb

/-- One new block. -/
theorem moves_grow (he : Ext w w') {g : Nat} (hg : w.heap.size ≤ g) (blk : Blk) : Moves S ρ w (S ++ [blk]) (grw ρ S.length (some g)) w' := by
  exact ⟨fun k hk => ⟨grw_rr (fun b hb => by cases hb; exact hg) he.size hk, he.block k hk.1⟩, fun nm hn => ⟨grw_lt _ _ hn, shape_app _ hn, fun b e m _ h => Ext.cap he h⟩⟩

theorem mem_grow (hm : Mem w0 S ρ w) (he : Ext w w') {g : Nat} (hg : w.heap.size ≤ g) (hg' : g < w'.heap.size) {blk : Blk}
    (hb : RelBlk (S ++ [blk]) (grw ρ S.length (some g)) (Rr (S ++ [blk]) (grw ρ S.length (some g)) w') w' S.length blk) : Mem w0 (S ++ [blk]) (grw ρ S.length (some g)) w' := by
  have hmv : Moves S ρ w _ _ w' := moves_grow (g := g) he hg blk
  refine ⟨hm.below.ext he, by have := hm.np; simp; omega, fun i b hi hb' => let ⟨h1, cs, h2⟩ := hm.pin i b hi hb'; have := hm.np; ⟨by rw [grw_lt _ _ (by omega)]; exact h1, cs, by rw [List.getElem?_append_left (by omega)]; exact h2⟩, fun i b hi hb' => ?_, fun i j b hi hj hbi hbj => ?_, grw_hid hm.hid (by simp) he.size (fun b hb => by cases hb; exact hg'), fun i blk' hb' => ?_⟩
  · by_cases hlt : i = S.length
    · subst hlt; rw [grw_same] at hb'; cases hb'; exact ⟨.inl (Nat.le_trans hm.below.size hg), hg'⟩
    · rw [grw_lt _ _ (by simp at hi; omega)] at hb'; have := hm.lt i b (by simp at hi; omega) hb'; exact ⟨this.1, Nat.lt_of_lt_of_le this.2 he.size⟩
  · by_cases hi' : i = S.length
    · by_cases hj' : j = S.length
      · omega
      · subst hi'; rw [grw_same] at hbi; cases hbi; rw [grw_lt _ _ (by simp at hj; omega)] at hbj; have := hm.lt j g (by simp at hj; omega) hbj; omega
    · by_cases hj' : j = S.length
      · subst hj'; rw [grw_same] at hbj; cases hbj; rw [grw_lt _ _ (by simp at hi; omega)] at hbi; have := hm.lt i g (by simp at hi; omega) hbi; omega
      · rw [grw_lt _ _ (by simp at hi; omega)] at hbi; rw [grw_lt _ _ (by simp at hj; omega)] at hbj; exact hm.inj i j b (by simp at hi; omega) (by simp at hj; omega) hbi hbj
  · by_cases hlt : i < S.length
    · rw [List.getElem?_append_left hlt] at hb'
      exact hmv.blk hlt (hm.blk i blk' hb') fun b _ hb => he.block b hb
    · have : i = S.length := by have := (List.getElem?_eq_some_iff.1 hb').1; simp at this; omega
      subst this
      simp at hb'; subst hb'; exact hb

/-- A write into one block of the call's own. -/
theorem moves_write {nm b : Nat} (hn : nm < S.length) (hb : ρ nm = some b) {cur cur' : Array Value} {ty : TypeId} (hh : w.heap[b]? = some (.cells cur ty (0, 0))) (hsz : cur'.size = cur.size)
    {blk blk' : Blk} (hblk : S[nm]? = some blk) (h1 : blk'.esz = blk.esz) (h2 : blk'.len = blk.len) : Moves S ρ w (S.set nm blk') ρ (w.setRow b cur') := by
  refine ⟨fun k hk => ⟨⟨by rw [size_setRow]; exact hk.1, hk.2⟩, setRow_other w b k cur' (fun h => hk.2 nm (by rw [hb, h]))⟩, fun i hi => ⟨rfl, ?_, fun b' e m hb' h => ?_⟩⟩
  · unfold shape
    by_cases h : nm = i
    · subst h; rw [List.getElem?_set_self hn, hblk]; simp [h1, h2]
    · rw [List.getElem?_set_ne h]
  · obtain ⟨c, t, hc, hs, hl⟩ := h
    by_cases h : b' = b
    · subst h
      rw [hh] at hc
      simp only [Option.some.injEq, Obj.cells.injEq] at hc
      obtain ⟨rfl, rfl, _⟩ := hc
      exact ⟨cur', ty, setRow_heap w b' cur cur' ty _ hh, by rw [hsz]; exact hs, hl⟩
    · exact ⟨c, t, by rw [setRow_other w b b' cur' h]; exact hc, hs, hl⟩

theorem below_row {w0 : Base} {w : World} (h : Kept w0 w) {b : Nat} (hb : w0.own b) (c : Array Value) : Kept w0 (w.setRow b c) := by
  refine ⟨h.os, h.tape, h.output, by rw [size_setRow]; exact h.size, fun k hk hi => ?_⟩
  rw [← h.block k hk hi]
  refine setRow_other w b k c fun he => ?_
  subst he
  rcases hb with hb | hb
  · omega
  · exact hi hb

theorem mem_write (hm : Mem w0 S ρ w) {nm b : Nat} (hn : nm < S.length) (hb : ρ nm = some b) {cur cur' : Array Value} {ty : TypeId} (hh : w.heap[b]? = some (.cells cur ty (0, 0))) (hsz : cur'.size = cur.size)
    {blk blk' : Blk} (hblk : S[nm]? = some blk) (hp : ∀ cs, blk = .cells cs → ∃ cs', blk' = .cells cs') (h1 : blk'.esz = blk.esz) (h2 : blk'.len = blk.len)
    (hrel : RelBlk (S.set nm blk') ρ (Rr (S.set nm blk') ρ (w.setRow b cur')) (w.setRow b cur') nm blk') : Mem w0 (S.set nm blk') ρ (w.setRow b cur') := by
  have hmv : Moves S ρ w _ _ _ := moves_write hn hb hh hsz hblk h1 h2
  refine ⟨below_row hm.below (hm.lt nm b hn hb).1 _, by simpa using hm.np, fun i b' hi hb' => let ⟨k1, cs, k2⟩ := hm.pin i b' hi hb'; ⟨k1, by
    by_cases h : nm = i
    · subst h; rw [hblk] at k2; cases k2; obtain ⟨cs', he⟩ := hp cs rfl; exact ⟨cs', by rw [List.getElem?_set_self hn, he]⟩
    · exact ⟨cs, by rw [List.getElem?_set_ne h]; exact k2⟩⟩, fun i b' hi hb' => ?_, fun i j b' hi hj => hm.inj i j b' (by simpa using hi) (by simpa using hj), by simpa using hm.hid.mono (Nat.le_refl _) (by rw [size_setRow]; exact Nat.le_refl _), fun i blk'' hb'' => ?_⟩
  · have := hm.lt i b' (by simpa using hi) hb'; rw [size_setRow]; exact this
  · have hi : i < S.length := by have := (List.getElem?_eq_some_iff.1 hb'').1; simpa using this
    by_cases h : nm = i
    · subst h; rw [List.getElem?_set_self hn] at hb''; cases hb''; exact hrel
    · rw [List.getElem?_set_ne h] at hb''
      exact hmv.blk hi (hm.blk i blk'' hb'') fun b'' hb''' _ => setRow_other w b b'' cur' fun he => by
        subst he; exact h (hm.inj nm i b'' hn hi hb hb''')

end

/-! ### Values of one cell -/

def snocO : List Blk → Blk → Option (List Blk × Nat)
  | [], b => some ([b], 0)
  | x :: r, b => match snocO r b with
    | some (r', k) => some (x :: r', k + 1)
    | none => none
theorem snocO_eq (S : List Blk) (b : Blk) : snocO S b = some (S ++ [b], S.length) := by
  induction S with
  | nil => rfl
  | cons x r ih => simp [snocO, ih]
def setO : List Blk → Nat → Blk → Option (List Blk)
  | [], _, _ => none
  | _ :: r, 0, b => some (b :: r)
  | x :: r, n + 1, b => match setO r n b with
    | some r' => some (x :: r')
    | none => none
theorem setO_eq {S S' : List Blk} {n : Nat} {b : Blk} (h : setO S n b = some S') : S' = S.set n b ∧ n < S.length := by
  induction S generalizing n S' with
  | nil => simp [setO] at h
  | cons x r ih => cases n with
    | zero => simp [setO] at h; subst h; simp
    | succ n =>
      simp only [setO] at h
      cases hr : setO r n b with
      | none => rw [hr] at h; simp at h
      | some r' => rw [hr] at h; simp at h; subst h; obtain ⟨h1, h2⟩ := ih hr; simp [h1]; omega
end Go.Wk

/- Operations that make or write the call's own memory. -/
namespace Go.Wk
set_option maxRecDepth 10000
open Go.RowKit

/-- The operation leads from every fitting state to a fitting state. -/
def StepsTo (P : Program) (n : Nat) (o : Oper) (F : Fr) (S : List Blk) (F' : Fr) (S' : List Blk) : Prop :=
  ∀ w0 ρ a w, Rel w0 n F S ρ a w → ∃ nx w' ρ' a', (execOp a.eval o).run P w = .ok nx w' ∧ Rel w0 n F' S' ρ' a' w' ∧ ((∃ val, nx = .value val ∧ a' = a.put o.dst val) ∨ (nx = .skip ∧ a' = a.put o.dst undef))

section
variable {P : Program} {env : Env} {w0 : Base} {n : Nat} {l0 : List Oper} {K : Fr → List Blk → Prop} {l : List Oper} {F : Fr} {S : List Blk}

theorem ao_steps {o : Oper} {F' : Fr} {S' : List Blk} (hg : o.guard = none) (h : EnvOK P env → StepsTo P n o F S F' S') (k : AO P env w0 n l0 K l F' S') : AO P env w0 n l0 K (o :: l) F S := by
  intro hE ρ a w hr
  obtain ⟨nx, w', ρ', a', hrun, hr', hcase⟩ := h hE w0 ρ a w hr
  refine wpList_plain hg fun K' hK => ?_
  unfold Oper.wp
  rw [hrun]
  rcases hcase with ⟨val, rfl, rfl⟩ | ⟨rfl, rfl⟩
  · exact hK _ _ (k hE ρ' _ w' hr')
  · exact hK _ _ (k hE ρ' _ w' hr')

theorem alloc_ext (w : World) (o : Obj) : Ext w (w.alloc o) := (Below.refl _ _).alloc (Nat.le_refl _) o

theorem put_new {ρ ρ' : Nat → Option Nat} {a : Act} {w w' : World} {S' : List Blk} (hr : Rel w0 n F S ρ a w) (hmv : Moves S ρ w S' ρ' w') (hm : Mem w0 S' ρ' w') {d : Nat} (hd : d < n) {val : Value} {v : V}
    (hv : RelV S' ρ' (Rr S' ρ' w') w' val v) : Rel w0 n ((d, [], v) :: F) S' ρ' (a.put (some d) val) w' :=
  ⟨(hmv.fr hr.fr).put hd ⟨fun _ => hv, fun h => absurd trivial h⟩, hm⟩

/-- A new block of cells. -/
theorem new_cells {ρ : Nat → Option Nat} {a : Act} {w : World} (hr : Rel w0 n F S ρ a w) {d : Nat} (hd : d < n) {u : Value} {cs : List V} {T : TypeId}
    (hc : u.cells.size = cs.length ∧ ∀ (i : Nat) v y, u.cells[i]? = some v → cs[i]? = some y → RelV S ρ (Rr S ρ w) w v y) :
    Rel w0 n ((d, [], .ptr S.length 0) :: F) (S ++ [.cells cs]) (grw ρ S.length (some w.heap.size)) (a.put (some d) (.pointer (some ⟨w.heap.size, 0, none⟩))) (w.alloc (.cells u.cells T)) := by
  have he := alloc_ext w (.cells u.cells T)
  have hmv : Moves S ρ w _ _ (w.alloc (.cells u.cells T)) := moves_grow (g := w.heap.size) he (Nat.le_refl _) (.cells cs)
  have hh : (w.alloc (.cells u.cells T)).heap[w.heap.size]? = some (.cells u.cells T (0, 0)) := heap_alloc_new w _
  refine put_new hr hmv (mem_grow hr.mem he (Nat.le_refl _) (by simp) ⟨w.heap.size, u.cells.toList, T, grw_same _ _ _, by simpa using hh, by simpa using hc.1, fun i v y hv hy => hmv.v (hc.2 i v y (by simpa using hv) hy)⟩) hd ?_
  exact .ptr (grw_same _ _ _) (by simp [shape])

theorem steps_box {d : Nat} {T ty : TypeId} {x : Operand} {pos : String} {after : Array Edge} {g : Option (Nat × Bool)} {v : V} {ps : List Prop} {cs : List V} {S' : List Blk} {nm : Nat} (hx : rd F [] x = some (v, ps)) (hp : allP ps) (hc : cellsOf v = some cs)
    (hS : snocO S (.cells cs) = some (S', nm)) (hd : Nat.blt d n = true) : StepsTo P n ⟨some d, .box T x, ty, pos, after, g⟩ F S ((d, [], .ptr nm 0) :: F) S' := by
  rw [snocO_eq] at hS; cases hS
  intro w0 ρ a w hr
  have hu := rd_sound hr.fr hx hp trivial
  obtain ⟨c1, c2⟩ := cellsOf_rel hc hu
  exact ⟨_, _, _, _, by simp [execOp, Instr.box, newVar, newRow], new_cells (T := T) hr (Nat.le_of_ble_eq_true hd) ⟨c1, fun i v y hv hy => (c2 i v y hv hy).1⟩, .inl ⟨_, rfl, rfl⟩⟩

theorem steps_alloc {d : Nat} {T ty : TypeId} {pos : String} {after : Array Edge} {g : Option (Nat × Bool)} {ti : TI} {cs : List V} {S' : List Blk} {nm : Nat} (hT : TIok P T ti) (hz : zeroV ti.zero = some cs)
    (hS : snocO S (.cells cs) = some (S', nm)) (hd : Nat.blt d n = true) : StepsTo P n ⟨some d, .alloc T, ty, pos, after, g⟩ F S ((d, [], .ptr nm 0) :: F) S' := by
  rw [snocO_eq] at hS; cases hS
  intro w0 ρ a w hr
  obtain ⟨i, hi, _, _, hzero⟩ := hT.info
  exact ⟨_, _, _, _, by simp [execOp, Instr.alloc, zeroValue, typeInfo, hi, hzero, newVar, newRow], new_cells (T := T) hr (Nat.le_of_ble_eq_true hd) (zeroV_rel hz _ _ _ _), .inl ⟨_, rfl, rfl⟩⟩

/-- What a store does to a block. -/
def storeBlk (blk : Blk) (k off : Nat) (cs : List V) : Option Blk :=   -- at element k (a row), from cell off on
  match blk with
  | .cells l => match setC l off cs with
    | some l' => some (.cells l')
    | none => none
  | .ints kd xs => match off, cs with
    | 0, [.d (.int kd' m)] => if kd = kd' then some (.ints kd (xs.set k m)) else none
    | _, _ => none
  | .bools xs => match off, cs with
    | 0, [.d (.bool b)] => some (.bools (xs.set k b))
    | _, _ => none
  | _ => none

theorem run_storeAt {T : TypeId} {ti : TI} (hT : TIok P T ti) {u : Value} {vals : List Value} (hu : u.cells.toList = vals) (hl : vals.length = ti.size) (h1 : ∀ v ∈ vals, v.oneCell' = true) {w : World} {b o : Nat} {cur : Array Value} {ty : TypeId}
    (hh : w.heap[b]? = some (.cells cur ty (0, 0))) (hfit : o + vals.length ≤ cur.size) :
    (Instr.storeAt T (.pointer (some ⟨b, o, none⟩)) u).run P w = .ok () (w.setRow b (cur.toList.take o ++ vals ++ cur.toList.drop (o + vals.length)).toArray) := by
  have hs := run_storeCells_at P b o ty vals 0 cur w hh (by simpa using hfit) h1
  simp only [Nat.add_zero] at hs
  have hsz : u.cells.size = ti.size := by rw [← hl, ← hu]; simp
  simp only [Instr.storeAt, Instr.sureAddr, pure_bind, storeVar, Sem.run_bind, run_sizeOf hT, Result.andThen]
  rw [if_neg (by simp [hsz])]
  simp only [hu, hs]

theorem splice_get {cur : List Value} {vals : List Value} {o : Nat} (hfit : o + vals.length ≤ cur.length) (i : Nat) :
    (cur.take o ++ vals ++ cur.drop (o + vals.length))[i]? = if o ≤ i ∧ i < o + vals.length then vals[i - o]? else cur[i]? := by
  have hto : (cur.take o).length = o := by simp; omega
  by_cases h : i < o
  · rw [if_neg (by omega), List.append_assoc, List.getElem?_append_left (by omega), List.getElem?_take, if_pos h]
  · by_cases h2 : i < o + vals.length
    · rw [if_pos ⟨by omega, h2⟩, List.append_assoc, List.getElem?_append_right (by omega), hto, List.getElem?_append_left (by omega)]
    · rw [if_neg (by omega), List.getElem?_append_right (by simp; omega), List.getElem?_drop]
      congr 1
      simp [hto]; omega

theorem steps_store_ptr {T ty : TypeId} {p x : Operand} {pos : String} {after : Array Edge} {g : Option (Nat × Bool)} {ti : TI} {v : V} {qs ps : List Prop} {nm off : Nat} {cs : List V} {blk blk' : Blk} {S' : List Blk} (hT : TIok P T ti)
    (hp : rd F [] p = some (.ptr nm off, qs)) (hq : allP qs) (hx : rd F [] x = some (v, ps)) (hps : allP ps) (hc : cellsOf v = some cs) (hl : cs.length = ti.size) (hb : S[nm]? = some blk) {l : List V} (hcells : blk = .cells l)
    (hs : storeBlk blk 0 off cs = some blk') (hS : setO S nm blk' = some S') : StepsTo P n ⟨none, .store T p x, ty, pos, after, g⟩ F S F S' := by
  subst hcells
  intro w0 ρ a w hr
  obtain ⟨rfl, hn⟩ := setO_eq hS
  have hpv := rd_sound hr.fr hp hq trivial
  have hu := rd_sound hr.fr hx hps trivial
  obtain ⟨c1, c2⟩ := cellsOf_rel hc hu
  generalize hpe : a.eval p = pv at hpv
  cases hpv with
  | @ptr _ b _ hbρ _ =>
  obtain ⟨b', vals, t, h1, h2, h3, h4⟩ := hr.mem.blk nm _ hb
  rw [hbρ] at h1; cases h1
  simp only [storeBlk] at hs
  split at hs
  · rename_i l' hset
    simp at hs; subst hs
    obtain ⟨s1, s2, s3⟩ := setC_get hset
    let uv := (a.eval x).cells.toList
    have huv : uv.length = cs.length := by simpa [uv] using c1
    have h1' : ∀ z ∈ uv, z.oneCell' = true := by
      intro z hz
      obtain ⟨i, hi, rfl⟩ := List.mem_iff_getElem.1 hz
      have hic : i < cs.length := by omega
      exact (c2 i _ _ (by simp [uv]) (List.getElem?_eq_getElem hic)).2
    by_cases hcs : cs = []
    · -- nothing is written
      subst hcs
      have hu0 : uv = [] := List.eq_nil_of_length_eq_zero huv
      simp [setC] at hset
      subst hset
      have hrun : (Instr.storeAt T (.pointer (some ⟨b, off, none⟩)) (a.eval x)).run P w = .ok () w := by
        have hsz : (a.eval x).cells.size = ti.size := by rw [← hl]; exact c1
        simp only [Instr.storeAt, Instr.sureAddr, pure_bind, storeVar, Sem.run_bind, run_sizeOf hT, Result.andThen]
        rw [if_neg (by simp [hsz])]
        have : (a.eval x).cells.toList = [] := hu0
        simp [this, storeCells]
      have hSe : S.set nm (.cells l) = S := List.ext_getElem? fun i => by
        by_cases h : nm = i
        · subst h; rw [List.getElem?_set_self hn, hb]
        · rw [List.getElem?_set_ne h]
      rw [hSe]
      exact ⟨.skip, w, ρ, _, by simp only [execOp, hpe, Sem.run_bind, hrun, Result.andThen, Sem.run_pure], hr, .inr ⟨rfl, rfl⟩⟩
    · have hfit : off + uv.length ≤ vals.toArray.size := by
        rcases s2 with h | h
        · exact absurd h hcs
        · simp [huv, h3]; omega
      have hrun := run_storeAt hT (u := a.eval x) rfl (by rw [huv, hl]) h1' h2 hfit
      have hsz : (vals.take off ++ uv ++ vals.drop (off + uv.length)).toArray.size = vals.toArray.size := by simp at hfit ⊢; omega
      have hmv := moves_write (ρ := ρ) hn hbρ h2 hsz (blk' := .cells l') hb rfl rfl
      refine ⟨.skip, _, ρ, _, by simp only [execOp, hpe, Sem.run_bind, hrun, Result.andThen, Sem.run_pure]; rfl, ⟨hmv.fr hr.fr, mem_write hr.mem hn hbρ h2 hsz hb (fun _ _ => ⟨_, rfl⟩) rfl rfl ⟨b, vals.take off ++ uv ++ vals.drop (off + uv.length), t, hbρ, setRow_heap w b _ _ t _ h2, ?_, fun i z y hz hy => ?_⟩⟩, .inr ⟨rfl, rfl⟩⟩
      · simp at hfit ⊢; omega
      · refine hmv.v ?_
        rw [splice_get (by simpa using hfit)] at hz
        rw [s3 i, ← huv] at hy
        split at hz
        · rename_i hc'
          rw [if_pos hc'] at hy
          exact (c2 (i - off) z y (by simpa [uv] using hz) hy).1
        · rename_i hc'
          rw [if_neg hc'] at hy
          exact h4 i z y hz hy
  · simp at hs

end
end Go.Wk

/- New rows: make, literals; calls whose results lie in new memory. -/
namespace Go.Wk
set_option maxRecDepth 10000
open Go.RowKit

def scalD : Value → Option D
  | .bool b => some (.bool b)
  | .int k n => some (.int k n)
  | .string s => some (.str s)
  | .pointer none => some .nilp
  | .slice none 0 0 => some nilD
  | _ => none
theorem scalD_rel {v : Value} {x : D} (h : scalD v = some x) (R : Nat → Prop) (w : World) : RelD R w v x := by
  unfold scalD at h
  split at h <;> simp at h <;> subst h
  · exact .bool _
  · exact .int _ _
  · exact .str _
  · exact .nilp
  · exact .nil 0 _
def scalDs : List Value → Option (List D)
  | [] => some []
  | v :: r => match scalD v, scalDs r with
    | some x, some xs => some (x :: xs)
    | _, _ => none
theorem scalDs_rel {vs : List Value} {ds : List D} (h : scalDs vs = some ds) : ds.length = vs.length ∧ ∀ (i : Nat) x, ds[i]? = some x → ∃ v, vs[i]? = some v ∧ ∀ R w, RelD R w v x := by
  induction vs generalizing ds with
  | nil => simp [scalDs] at h; subst h; simp
  | cons v r ih =>
    simp only [scalDs] at h
    split at h
    · rename_i x xs hx hxs
      simp at h; subst h
      obtain ⟨h1, h2⟩ := ih hxs
      refine ⟨by simp [h1], fun i y hy => ?_⟩
      cases i with
      | zero => simp at hy; subst hy; exact ⟨v, by simp, fun R w => scalD_rel hx R w⟩
      | succ i => simpa using h2 i y (by simpa using hy)
    · simp at h
def zeroDs (z : Value) : Option (List D) := scalDs z.cells.toList

def mkRow (te : TI) (n : Nat) : Option Blk :=
  match te.zero with
  | .int k 0 => some (.ints k (List.replicate n 0))
  | .bool false => some (.bools (List.replicate n false))
  | z => match zeroDs z with
    | some ds => some (.row te.size n fun _ => ds)
    | none => none

section
variable {P : Program} {env : Env} {w0 : Base} {n : Nat} {l0 : List Oper} {K : Fr → List Blk → Prop} {l : List Oper} {F : Fr} {S : List Blk}

theorem new_row {ρ : Nat → Option Nat} {a : Act} {w w' : World} (hr : Rel w0 n F S ρ a w) (he : Ext w w') {d : Nat} (hd : d < n) {c : Array Value} {e : TypeId} {blk : Blk} (hrow : blk.isRow = true) {cap : Nat} (hh : w'.heap[w.heap.size]? = some (.cells c e (0, 0)))
    (hcs : c.size = cap * blk.esz) (hcap : blk.len ≤ cap) (hmax : cap ≤ maxLen) (hlen : ∀ i, i < blk.len → (blk.get i).length = blk.esz)
    (hrel : ∀ (i j : Nat) x, i < blk.len → (blk.get i)[j]? = some x → ∃ v, c[i * blk.esz + j]? = some v ∧ RelD (Rr S ρ w) w v x) :
    Rel w0 n ((d, [], .own S.length) :: F) (S ++ [blk]) (grw ρ S.length (some w.heap.size)) (a.put (some d) (.slice (some ⟨w.heap.size, 0, none⟩) blk.len cap)) w' := by
  have hmv : Moves S ρ w _ _ w' := moves_grow (g := w.heap.size) he (Nat.le_refl _) blk
  have hb : RelBlk (S ++ [blk]) (grw ρ S.length (some w.heap.size)) (Rr (S ++ [blk]) (grw ρ S.length (some w.heap.size)) w') w' S.length blk := by
    have key : (grw ρ S.length (some w.heap.size) S.length = none ∧ blk.len = 0) ∨ ∃ b c ty, grw ρ S.length (some w.heap.size) S.length = some b ∧ w'.heap[b]? = some (.cells c ty (0, 0)) ∧ blk.len * blk.esz ≤ c.size ∧ (∀ i, i < blk.len → (blk.get i).length = blk.esz) ∧
        ∀ (i j : Nat) x, i < blk.len → (blk.get i)[j]? = some x → ∃ v, c[i * blk.esz + j]? = some v ∧ RelD (Rr (S ++ [blk]) (grw ρ S.length (some w.heap.size)) w') w' v x :=
      .inr ⟨w.heap.size, c, e, grw_same _ _ _, hh, by rw [hcs]; exact Nat.mul_le_mul_right _ hcap, hlen, fun i j x hi hx => let ⟨v, hv, hr⟩ := hrel i j x hi hx; ⟨v, hv, hmv.d hr⟩⟩
    cases blk <;> first | (simp [Blk.isRow] at hrow; done) | exact key
  refine put_new hr hmv (mem_grow hr.mem he (Nat.le_refl _) (lt_of_get hh) hb) hd ?_
  exact .own (esz := blk.esz) (grw_same _ _ _) (by simp [shape]) hcap ⟨c, e, hh, hcs, hmax⟩

theorem madeCells_get {z : Array Value} {n esz : Nat} (hz : z.size = esz) {i j : Nat} (hi : i < n) (hj : j < esz) : (madeCells z (n * esz))[i * esz + j]? = z[j]? := by
  have hlt : i * esz + j < n * esz := by
    have : (i + 1) * esz ≤ n * esz := Nat.mul_le_mul_right _ hi
    rw [Nat.add_mul] at this; omega
  have hmod : (i * esz + j) % esz = j := by rw [Nat.add_comm, Nat.add_mul_mod_self_right, Nat.mod_eq_of_lt hj]
  have hjz : j < z.size := by omega
  simp [madeCells, hlt, hz, hmod]
  rw [getElem!_pos z j hjz, Array.getElem?_eq_getElem hjz]

theorem mkRow_ok {te : TI} {m : Nat} {blk : Blk} (h : mkRow te m = some blk) (hz : te.zero.cells.size = te.size) : blk.isRow = true ∧ blk.len = m ∧ blk.esz = te.size ∧ (∀ i, i < m → (blk.get i).length = te.size) ∧
    ∀ (i j : Nat) x, i < m → (blk.get i)[j]? = some x → ∃ v, te.zero.cells[j]? = some v ∧ ∀ R w, RelD R w v x := by
  unfold mkRow at h
  split at h
  · rename_i k hzero
    simp at h; subst h
    have hs : te.size = 1 := by rw [← hz, hzero]; rfl
    refine ⟨rfl, by simp [Blk.len], hs.symm, fun i hi => by rw [hs]; rfl, fun i j x hi hx => ?_⟩
    cases j with
    | zero =>
      simp only [Blk.get, List.getElem?_cons_zero, Option.some.injEq] at hx; subst hx
      exact ⟨.int k 0, by rw [hzero]; rfl, fun R w => by simp [hi]; exact .int k 0⟩
    | succ j => simp [Blk.get] at hx
  · rename_i hzero
    simp at h; subst h
    have hs : te.size = 1 := by rw [← hz, hzero]; rfl
    refine ⟨rfl, by simp [Blk.len], hs.symm, fun i hi => by rw [hs]; rfl, fun i j x hi hx => ?_⟩
    cases j with
    | zero =>
      simp only [Blk.get, List.getElem?_cons_zero, Option.some.injEq] at hx; subst hx
      exact ⟨.bool false, by rw [hzero]; rfl, fun R w => by simp [hi]; exact .bool false⟩
    | succ j => simp [Blk.get] at hx
  · split at h
    · rename_i ds hds
      simp at h; subst h
      obtain ⟨h1, h2⟩ := scalDs_rel hds
      refine ⟨rfl, rfl, rfl, fun i hi => by simp only [Blk.get]; rw [h1, ← hz]; simp, fun i j x hi hx => ?_⟩
      obtain ⟨v, hv, hr⟩ := h2 j x hx
      exact ⟨v, by simpa using hv, hr⟩
    · simp at h

theorem steps_make {d : Nat} {T ty e : TypeId} {s by_ : Nat} {z : Value} {x y : Operand} {pos : String} {after : Array Edge} {g : Option (Nat × Bool)} {te : TI} {k k' : IntKind} {m : Int} {ps qs : List Prop} {blk : Blk} {S' : List Blk} {nm : Nat}
    (hT : TIok P T ⟨.slice e, s, by_, z⟩) (he : TIok P e te) (hz : te.zero.cells.size = te.size) (hx : rd F [] x = some (.d (.int k m), ps)) (hp : allP ps) (hy : rd F [] y = some (.d (.int k' m), qs)) (hq : allP qs)
    (h0 : 0 ≤ m) (h1 : te.bytes * m.toNat ≤ 140737488355328) (h2 : m ≤ 9223372036854775807) (hb : mkRow te m.toNat = some blk) (hS : snocO S blk = some (S', nm)) (hd : Nat.blt d n = true) :
    StepsTo P n ⟨some d, .makeSlice T x y, ty, pos, after, g⟩ F S ((d, [], .own nm) :: F) S' := by
  rw [snocO_eq] at hS; cases hS
  intro w0 ρ a w hr
  have ex : a.eval x = .int k m := by
    have := rd_sound hr.fr hx hp trivial
    generalize a.eval x = u at this
    cases this with | d h => cases h; rfl
  have ey : a.eval y = .int k' m := by
    have := rd_sound hr.fr hy hq trivial
    generalize a.eval y = u at this
    cases this with | d h => cases h; rfl
  obtain ⟨dd, hdd, hk⟩ := hT.desc
  have := desc_slice hk; subst this
  obtain ⟨i, hi, hsz, hby, hzero⟩ := he.info
  have hbytes : (i.bytes : Int) * m ≤ 281474976710656 := by
    rw [hby]
    have e1 : (m.toNat : Int) = m := Int.toNat_of_nonneg h0
    have : ((te.bytes * m.toNat : Nat) : Int) ≤ 140737488355328 := by omega
    rw [Int.natCast_mul, e1] at this
    omega
  have hrun := run_make (P := P) w T e i te.zero hdd hi hzero k k' m m h0 (Int.le_refl _) hbytes h2
  obtain ⟨b1, b2, b3, b4, b5⟩ := mkRow_ok hb hz
  have hrow := new_row (w' := w.alloc (.cells (madeCells te.zero.cells (m.toNat * i.size)) e)) hr (alloc_ext w _) (Nat.le_of_ble_eq_true hd) (blk := blk) (cap := m.toNat) (c := madeCells te.zero.cells (m.toNat * i.size)) (e := e) b1 (heap_alloc_new w _)
    (by rw [size_madeCells, b3, hsz]) (by rw [b2]; exact Nat.le_refl _) (by unfold maxLen; omega) (fun j hj => by rw [b3]; exact b4 j (by rw [← b2]; exact hj)) fun j c x hj hx => by
      rw [b2] at hj
      obtain ⟨v, hv, hr'⟩ := b5 j c x hj hx
      have hc : c < te.size := by rw [← b4 j hj]; exact (List.getElem?_eq_some_iff.1 hx).1
      exact ⟨v, by rw [b3, hsz, madeCells_get hz hj hc]; exact hv, hr' _ _⟩
  rw [b2] at hrow
  exact ⟨_, _, _, _, by simp only [execOp, ex, ey]; exact run_v hrun, hrow, .inl ⟨_, rfl, rfl⟩⟩

/-! ### Results in new memory -/

mutual
def V.shift (k : Nat) : V → V
  | .agg cs => .agg (V.shiftL k cs)
  | .tup cs => .tup (V.shiftL k cs)
  | .ptr m o => .ptr (k + m) o
  | .ep m i o => .ep (k + m) i o
  | .own m => .own (k + m)
  | .sl m o l => .sl (k + m) o l
  | .clo f cs => .clo f (V.shiftL k cs)
  | .d x => .d x
  | .nil => .nil
  | .rp cs => .rp cs
  | .bot => .bot
def V.shiftL (k : Nat) : List V → List V
  | [] => []
  | x :: r => V.shift k x :: V.shiftL k r
end
theorem V.shiftL_eq (k : Nat) (l : List V) : V.shiftL k l = l.map (V.shift k) := by
  induction l with
  | nil => rfl
  | cons x r ih => simp [V.shiftL, ih]
def Blk.shift (k : Nat) : Blk → Blk
  | .cells cs => .cells (V.shiftL k cs)
  | b => b
theorem Blk.shift_esz (k : Nat) (b : Blk) : (b.shift k).esz = b.esz ∧ (b.shift k).len = b.len := by cases b <;> exact ⟨rfl, rfl⟩
def appS (k : Nat) : List Blk → List Blk → List Blk   -- S ++ (rS shifted by k)
  | [], [] => []
  | [], b :: r => b.shift k :: appS k [] r
  | x :: s, r => x :: appS k s r
theorem appS_eq (k : Nat) (S r : List Blk) : appS k S r = S ++ r.map (Blk.shift k) := by
  induction S with
  | nil => induction r with
    | nil => simp [appS]
    | cons b r ih => simp [appS, ih]
  | cons x s ih => simp [appS, ih]

def comb (m r : Nat) (ρ ρr : Nat → Option Nat) : Nat → Option Nat := fun i => if i < m then ρ i else if i < m + r then ρr (i - m) else ρ (i - r)
theorem comb_hi (m : Nat) {r : Nat} (ρ ρr : Nat → Option Nat) {i : Nat} (h : i < r) : comb m r ρ ρr (m + i) = ρr i := by unfold comb; rw [if_neg (by omega), if_pos (by omega)]; congr 1; omega
theorem comb_lo {m i : Nat} (r : Nat) (ρ ρr : Nat → Option Nat) (h : i < m) : comb m r ρ ρr i = ρ i := if_pos h
theorem comb_out (m r : Nat) (ρ ρr : Nat → Option Nat) {i : Nat} (h : m + r ≤ i) : comb m r ρ ρr i = ρ (i - r) := by unfold comb; rw [if_neg (by omega), if_neg (by omega)]

theorem shape_hi (S rS : List Blk) (i : Nat) : shape (S ++ rS.map (Blk.shift S.length)) (S.length + i) = shape rS i := by
  unfold shape
  rw [List.getElem?_append_right (by omega), show S.length + i - S.length = i by omega, List.getElem?_map]
  cases rS[i]? with
  | none => rfl
  | some b => simp [Blk.shift_esz]

theorem RelV.shift {rS : List Blk} {ρ ρr : Nat → Option Nat} {R R' : Nat → Prop} {w' : World} (hR : ∀ k, R k → R' k) {u : Value} {x : V} (h : RelV rS ρr R w' u x) :
    RelV (S ++ rS.map (Blk.shift S.length)) (comb S.length rS.length ρ ρr) R' w' u (x.shift S.length) := by
  induction h with
  | d h => exact .d (h.mono fun k hk => ⟨hR k hk, rfl⟩)
  | nil => exact .nil
  | bot v => exact .bot v
  | rp val hb hc h => exact .rp val (hR _ hb) hc fun j x hx => (h j x hx).mono fun k hk => ⟨hR k hk, rfl⟩
  | agg vals cs hl h ih =>
    simp only [V.shift, V.shiftL_eq]
    refine .agg vals _ (by simpa using hl) fun i v x hv hx => ?_
    rw [List.getElem?_map] at hx
    cases hc : cs[i]? with
    | none => rw [hc] at hx; simp at hx
    | some y => rw [hc] at hx; simp at hx; subst hx; exact ih i v y hv hc
  | tup vals cs hl h ih =>
    simp only [V.shift, V.shiftL_eq]
    refine .tup vals _ (by simpa using hl) fun i v x hv hx => ?_
    rw [List.getElem?_map] at hx
    cases hc : cs[i]? with
    | none => rw [hc] at hx; simp at hx
    | some y => rw [hc] at hx; simp at hx; subst hx; exact ih i v y hv hc
  | clo f vals cs hl h ih =>
    simp only [V.shift, V.shiftL_eq]
    refine .clo f vals _ (by simpa using hl) fun i v x hv hx => ?_
    rw [List.getElem?_map] at hx
    cases hc : cs[i]? with
    | none => rw [hc] at hx; simp at hx
    | some y => rw [hc] at hx; simp at hx; subst hx; exact ih i v y hv hc
  | ptr hb hs => exact .ptr (by rw [comb_hi _ _ _ (shape_lt hs)]; exact hb) (by rw [shape_hi]; exact hs)
  | ep hb hs hi => exact .ep (by rw [comb_hi _ _ _ (shape_lt (by rw [hs]; rfl))]; exact hb) (by rw [shape_hi]; exact hs) hi
  | ownNil hb hs => exact .ownNil (by rw [comb_hi _ _ _ (shape_lt (by rw [hs]; rfl))]; exact hb) (by rw [shape_hi]; exact hs)
  | own hb hs hc hcap => exact .own (by rw [comb_hi _ _ _ (shape_lt (by rw [hs]; rfl))]; exact hb) (by rw [shape_hi]; exact hs) hc hcap
  | slNil hb hs => exact .slNil (by rw [comb_hi _ _ _ (shape_lt hs)]; exact hb) (by rw [shape_hi]; exact hs)
  | sl hb hs hl hc hcap => exact .sl (by rw [comb_hi _ _ _ (shape_lt (by rw [hs]; rfl))]; exact hb) (by rw [shape_hi]; exact hs) hl hc hcap

/-- Behind a call: the caller's own blocks, and the callee's results beside them. -/
theorem out_rel {ρ ρr : Nat → Option Nat} {a : Act} {w w' : World} (hr : Rel w0 n F S ρ a w) {rS : List Blk} {u : Value} {rv : V} (ho : Out w rS ρr w' u rv) {d : Nat} (hd : d < n) :
    Rel w0 n ((d, [], rv.shift S.length) :: F) (S ++ rS.map (Blk.shift S.length)) (comb S.length rS.length ρ ρr) (a.put (some d) u) w' := by
  have hmv : Moves S ρ w (S ++ rS.map (Blk.shift S.length)) (comb S.length rS.length ρ ρr) w' := by
    refine ⟨fun k hk => ⟨⟨Nat.lt_of_lt_of_le hk.1 ho.ext.size, fun i hi => ?_⟩, ho.ext.block k hk.1⟩, fun nm hn => ⟨comb_lo _ _ _ hn, shape_app _ hn, fun b e m _ h => Ext.cap ho.ext h⟩⟩
    by_cases hlt : i < S.length
    · rw [comb_lo _ _ _ hlt] at hi; exact hk.2 i hi
    · by_cases hlt2 : i < S.length + rS.length
      · obtain ⟨j, rfl⟩ : ∃ j, i = S.length + j := ⟨i - S.length, by omega⟩
        rw [comb_hi _ _ _ (by omega)] at hi
        have := ho.lt j k (by omega) hi
        have := hk.1
        omega
      · rw [comb_out _ _ _ _ (by omega)] at hi; exact hk.2 _ hi
  have hR : ∀ k, Rf w rS ρr w' k → Rr (S ++ rS.map (Blk.shift S.length)) (comb S.length rS.length ρ ρr) w' k := by
    intro k hk
    refine ⟨hk.2.1, fun i hi => ?_⟩
    have hk1 := hk.1
    by_cases hlt : i < S.length
    · rw [comb_lo _ _ _ hlt] at hi
      have := hr.mem.hid.2 i k hi
      omega
    · by_cases hlt2 : i < S.length + rS.length
      · obtain ⟨j, rfl⟩ : ∃ j, i = S.length + j := ⟨i - S.length, by omega⟩
        rw [comb_hi _ _ _ (by omega)] at hi
        exact hk.2.2 j hi
      · rw [comb_out _ _ _ _ (by omega)] at hi
        have := hr.mem.hid.2 _ k hi
        omega
  refine put_new hr hmv ⟨hr.mem.below.ext ho.ext, by have := hr.mem.np; simp; omega, fun i b hi hb => let ⟨h1, cs, h2⟩ := hr.mem.pin i b hi hb; have := hr.mem.np; ⟨by rw [comb_lo _ _ _ (by omega)]; exact h1, cs, by rw [List.getElem?_append_left (by omega)]; exact h2⟩, fun i b hi hb => ?_, fun i j b hi hj hbi hbj => ?_, ⟨fun k hk => ?_, fun i b hb => ?_, hr.mem.hid.no⟩, fun i blk hb => ?_⟩ hd (ho.val.shift hR)
  · by_cases hlt : i < S.length
    · rw [comb_lo _ _ _ hlt] at hb
      have := hr.mem.lt i b hlt hb
      exact ⟨this.1, Nat.lt_of_lt_of_le this.2 ho.ext.size⟩
    · obtain ⟨j, rfl⟩ : ∃ j, i = S.length + j := ⟨i - S.length, by omega⟩
      rw [comb_hi _ _ _ (by simp at hi; omega)] at hb
      have := ho.lt j b (by simp at hi; omega) hb
      exact ⟨.inl (Nat.le_trans hr.mem.below.size this.1), this.2⟩
  · by_cases hi' : i < S.length
    · by_cases hj' : j < S.length
      · rw [comb_lo _ _ _ hi'] at hbi; rw [comb_lo _ _ _ hj'] at hbj; exact hr.mem.inj i j b hi' hj' hbi hbj
      · obtain ⟨j, rfl⟩ : ∃ k, j = S.length + k := ⟨j - S.length, by omega⟩
        rw [comb_lo _ _ _ hi'] at hbi; rw [comb_hi _ _ _ (by simp at hj; omega)] at hbj
        have := hr.mem.lt i b hi' hbi
        have := ho.lt j b (by simp at hj; omega) hbj
        omega
    · obtain ⟨i, rfl⟩ : ∃ k, i = S.length + k := ⟨i - S.length, by omega⟩
      rw [comb_hi _ _ _ (by simp at hi; omega)] at hbi
      by_cases hj' : j < S.length
      · rw [comb_lo _ _ _ hj'] at hbj
        have := hr.mem.lt j b hj' hbj
        have := ho.lt i b (by simp at hi; omega) hbi
        omega
      · obtain ⟨j, rfl⟩ : ∃ k, j = S.length + k := ⟨j - S.length, by omega⟩
        rw [comb_hi _ _ _ (by simp at hj; omega)] at hbj
        rw [ho.inj i j b (by simp at hi; omega) (by simp at hj; omega) hbi hbj]
  · obtain ⟨i, h1, h2⟩ := hr.mem.hid.1 k hk
    exact ⟨i + rS.length, by simp; omega, by rw [comb_out _ _ _ _ (by omega), Nat.add_sub_cancel]; exact h2⟩
  · by_cases hlt : i < S.length
    · rw [comb_lo _ _ _ hlt] at hb
      exact Nat.lt_of_lt_of_le (hr.mem.hid.2 i b hb) ho.ext.size
    · by_cases hlt2 : i < S.length + rS.length
      · obtain ⟨j, rfl⟩ : ∃ j, i = S.length + j := ⟨i - S.length, by omega⟩
        rw [comb_hi _ _ _ (by omega)] at hb
        exact (ho.lt j b (by omega) hb).2
      · rw [comb_out _ _ _ _ (by omega)] at hb
        exact Nat.lt_of_lt_of_le (hr.mem.hid.2 _ b hb) ho.ext.size
  · by_cases hlt : i < S.length
    · rw [List.getElem?_append_left hlt] at hb
      exact hmv.blk hlt (hr.mem.blk i blk hb) fun b _ hb => ho.ext.block b hb
    · obtain ⟨j, rfl⟩ : ∃ k, i = S.length + k := ⟨i - S.length, by omega⟩
      rw [List.getElem?_append_right (by omega), show S.length + j - S.length = j by omega, List.getElem?_map] at hb
      cases hj : rS[j]? with
      | none => rw [hj] at hb; simp at hb
      | some b0 =>
        rw [hj] at hb; simp at hb; subst hb
        have h := ho.blk j b0 hj
        have hjl : j < rS.length := (List.getElem?_eq_some_iff.1 hj).1
        have row : ((ρr j = none ∧ b0.len = 0) ∨ ∃ b c ty, ρr j = some b ∧ w'.heap[b]? = some (.cells c ty (0, 0)) ∧ b0.len * b0.esz ≤ c.size ∧ (∀ i, i < b0.len → (b0.get i).length = b0.esz) ∧
            ∀ (i j : Nat) x, i < b0.len → (b0.get i)[j]? = some x → ∃ v, c[i * b0.esz + j]? = some v ∧ RelD (Rf w rS ρr w') w' v x) →
            ((comb S.length rS.length ρ ρr (S.length + j) = none ∧ b0.len = 0) ∨ ∃ b c ty, comb S.length rS.length ρ ρr (S.length + j) = some b ∧ w'.heap[b]? = some (.cells c ty (0, 0)) ∧ b0.len * b0.esz ≤ c.size ∧ (∀ i, i < b0.len → (b0.get i).length = b0.esz) ∧
            ∀ (i j : Nat) x, i < b0.len → (b0.get i)[j]? = some x → ∃ v, c[i * b0.esz + j]? = some v ∧ RelD (Rr (S ++ rS.map (Blk.shift S.length)) (comb S.length rS.length ρ ρr) w') w' v x) := by
          rw [comb_hi _ _ _ hjl]
          rintro (h | ⟨b, c, ty, h1, h2, h3, h4, h5⟩)
          · exact .inl h
          · exact .inr ⟨b, c, ty, h1, h2, h3, h4, fun i j x hi hx => let ⟨v, hv, hr⟩ := h5 i j x hi hx; ⟨v, hv, hr.mono fun k hk => ⟨hR k hk, rfl⟩⟩⟩
        cases b0 with
        | gone => trivial
        | cells cs =>
          obtain ⟨b, vals, ty, h1, h2, h3, h4⟩ := h
          refine ⟨b, vals, ty, by rw [comb_hi _ _ _ hjl]; exact h1, h2, by simp [V.shiftL_eq, h3], fun i v x hv hx => ?_⟩
          rw [V.shiftL_eq, List.getElem?_map] at hx
          cases hc : cs[i]? with
          | none => rw [hc] at hx; simp at hx
          | some y => rw [hc] at hx; simp at hx; subst hx; exact (h4 i v y hv hc).shift hR
        | ints k xs => exact row h
        | bools xs => exact row h
        | row esz m get => exact row h

mutual
def shiftO (k : Nat) : V → Option V
  | .agg cs => match shiftLO k cs with
    | some cs' => some (.agg cs')
    | none => none
  | .tup cs => match shiftLO k cs with
    | some cs' => some (.tup cs')
    | none => none
  | .ptr m o => some (.ptr (k + m) o)
  | .ep m i o => some (.ep (k + m) i o)
  | .own m => some (.own (k + m))
  | .sl m o l => some (.sl (k + m) o l)
  | .clo f cs => match shiftLO k cs with
    | some cs' => some (.clo f cs')
    | none => none
  | .d x => some (.d x)
  | .nil => some .nil
  | .rp cs => some (.rp cs)
  | .bot => some .bot
def shiftLO (k : Nat) : List V → Option (List V)
  | [] => some []
  | x :: r => match shiftO k x with
    | some x' => match shiftLO k r with
      | some r' => some (x' :: r')
      | none => none
    | none => none
end
mutual
theorem shiftO_eq (k : Nat) : ∀ x : V, shiftO k x = some (x.shift k)
  | .agg cs => by simp [shiftO, V.shift, shiftLO_eq k cs]
  | .tup cs => by simp [shiftO, V.shift, shiftLO_eq k cs]
  | .clo f cs => by simp [shiftO, V.shift, shiftLO_eq k cs]
  | .ptr .. | .ep .. | .own .. | .sl .. | .d .. | .nil | .rp .. | .bot => rfl
theorem shiftLO_eq (k : Nat) : ∀ l : List V, shiftLO k l = some (V.shiftL k l)
  | [] => rfl
  | x :: r => by simp [shiftLO, V.shiftL, shiftO_eq k x, shiftLO_eq k r]
end
def mapShO (k : Nat) : List Blk → Option (List Blk)
  | [] => some []
  | .cells cs :: r => match shiftLO k cs with
    | some cs' => match mapShO k r with
      | some r' => some (.cells cs' :: r')
      | none => none
    | none => none
  | b :: r => match mapShO k r with
    | some r' => some (b :: r')
    | none => none
theorem mapShO_eq (k : Nat) (r : List Blk) : mapShO k r = some (r.map (Blk.shift k)) := by
  induction r with
  | nil => simp [mapShO]
  | cons b r ih => cases b <;> simp [mapShO, ih, Blk.shift, shiftLO_eq]
def appO : List Blk → List Blk → Option (List Blk)
  | [], r => some r
  | x :: s, r => match appO s r with
    | some r' => some (x :: r')
    | none => none
theorem appO_eq (S r : List Blk) : appO S r = some (S ++ r) := by
  induction S with
  | nil => rfl
  | cons x s ih => simp [appO, ih]
def appSO (k : Nat) (S r : List Blk) : Option (List Blk) :=
  match mapShO k r with
  | some r' => appO S r'
  | none => none
theorem appSO_eq (k : Nat) (S r : List Blk) : appSO k S r = some (appS k S r) := by
  simp [appSO, mapShO_eq, appO_eq, appS_eq]

def lenO : List Blk → Nat
  | [] => 0
  | _ :: r => lenO r + 1
theorem lenO_eq (S : List Blk) : lenO S = S.length := by
  induction S with
  | nil => rfl
  | cons x r ih => simp [lenO, ih]

/-- What a call is. -/
def isCall (F : Fr) (S : List Blk) (o : Oper) (n : Nat) : Option (Nat × FuncId × List D × List Prop) :=
  match o.dst, o.guard, o.op with
  | some d, none, .call c => match calleeF F [] c.callee with
    | some (f, p) => match dargs F S [] c.args.toList with
      | some (ds, q) => bif Nat.blt d n then some (d, f, ds, p ++ q) else none
      | none => none
    | none => none
  | _, _, _ => none

theorem ao_callR {o : Oper} {d : Nat} {f : FuncId} {ds : List D} {os : List Prop} {rS : List Blk} {rv : V} (h : isCall F S o n = some (d, f, ds, os)) (sp : Ctr P f ds rS rv) (ho : allP os) {rv' : V} {S' : List Blk} (hv : shiftO (lenO S) rv = some rv') (hS : appSO (lenO S) S rS = some S')
    (k : AO P env w0 n l0 K l ((d, [], rv') :: F) S') : AO P env w0 n l0 K (o :: l) F S := by
  intro hE ρ a w hr
  rw [shiftO_eq] at hv; cases hv
  rw [appSO_eq] at hS; cases hS
  rw [lenO_eq, appS_eq] at k
  unfold isCall at h
  split at h
  · rename_i d' c hd hg hop
    split at h
    · rename_i f' p hc
      split at h
      · rename_i ds' q hq
        cases hn : Nat.blt d' n with
        | false => simp [hn] at h
        | true =>
          simp [hn] at h
          obtain ⟨rfl, rfl, rfl, rfl⟩ := h
          obtain ⟨hp, hq'⟩ := allP_append ho
          obtain ⟨x, hx, hxv⟩ := calleeF_sound (g := []) hr.fr trivial hc hp
          obtain ⟨cal, args, ts⟩ := c
          simp only at hx; subst hx
          refine wpList_plain hg fun K' hK => ?_
          unfold Oper.wp
          rw [run_call sp.1 hop hxv]
          have hda := dargs_sound hr.fr hr.mem (g := []) trivial hq hq'
          have := sp.2 w _ hda
          have harr : (args.toList.map a.eval).toArray = args.map a.eval := by apply Array.ext'; simp
          rw [harr] at this
          refine this.mono ?_
          rintro e w'' ⟨v, ρr, rfl, hout⟩
          refine hK _ _ ?_
          rw [hd]
          exact k hE _ _ w'' (out_rel hr hout (Nat.le_of_ble_eq_true hn))
      · simp at h
    · simp at h
  · simp at h

end
end Go.Wk

/- append. -/
namespace Go.Wk
set_option maxRecDepth 10000
open Go.RowKit

def D.one : D → Bool
  | .agg _ => false
  | _ => true
theorem D.one_cell {R : Nat → Prop} {w : World} {v : Value} {x : D} (h1 : x.one = true) (h : RelD R w v x) : v.oneCell' = true := by
  cases h <;> first | rfl | (simp [D.one] at h1; done)
def Blk.ones : Blk → Prop
  | .row _ n get => ∀ i, i < n → ∀ x ∈ get i, x.one = true
  | _ => True
theorem Blk.ones_get {b : Blk} (h : b.ones) {i j : Nat} {x : D} (hi : i < b.len) (hx : (b.get i)[j]? = some x) : x.one = true := by
  cases b with
  | cells cs => simp [Blk.get] at hx
  | gone => simp [Blk.get] at hx
  | ints k xs => cases j <;> simp [Blk.get] at hx; subst hx; rfl
  | bools xs => cases j <;> simp [Blk.get] at hx; subst hx; rfl
  | row esz n get => exact h i hi x (List.mem_of_getElem? hx)

/-- One row behind another. -/
def catB : Blk → Blk → Option Blk
  | .ints k xs, .ints k' ys => if k = k' then some (.ints k (xs ++ ys)) else none
  | .bools xs, .bools ys => some (.bools (xs ++ ys))
  | .row e n g, .row e' m g' => bif Nat.beq e e' then some (.row e (n + m) fun i => if i < n then g i else g' (i - n)) else none
  | _, _ => none
/-- A row behind another. -/
def CatP (a b c : Blk) : Prop := a.isRow = true ∧ b.isRow = true ∧ c.isRow = true ∧ a.esz = b.esz ∧ c.esz = b.esz ∧ c.len = a.len + b.len ∧ ∀ i, i < c.len → c.get i = if i < a.len then a.get i else b.get (i - a.len)
theorem catB_ok' {a b c : Blk} (h : catB a b = some c) : a.isRow = true ∧ b.isRow = true ∧ c.isRow = true ∧ a.esz = b.esz ∧ c.esz = b.esz ∧ c.len = a.len + b.len ∧ ∀ i, c.get i = if i < a.len then a.get i else b.get (i - a.len) := by
  unfold catB at h
  split at h
  · rename_i k xs k' ys
    split at h
    · subst_vars
      simp at h; subst h
      refine ⟨rfl, rfl, rfl, rfl, rfl, by simp [Blk.len], fun i => ?_⟩
      by_cases hi : i < xs.length
      · simp only [Blk.len, if_pos hi, Blk.get, List.getD_eq_getElem?_getD, List.getElem?_append_left hi]
      · simp only [Blk.len, if_neg hi, Blk.get, List.getD_eq_getElem?_getD, List.getElem?_append_right (Nat.le_of_not_lt hi)]
    · simp at h
  · rename_i xs ys
    simp at h; subst h
    refine ⟨rfl, rfl, rfl, rfl, rfl, by simp [Blk.len], fun i => ?_⟩
    by_cases hi : i < xs.length
    · simp only [Blk.len, if_pos hi, Blk.get, List.getD_eq_getElem?_getD, List.getElem?_append_left hi]
    · simp only [Blk.len, if_neg hi, Blk.get, List.getD_eq_getElem?_getD, List.getElem?_append_right (Nat.le_of_not_lt hi)]
  · rename_i e n g e' m g'
    cases hb : Nat.beq e e' with
    | false => simp [hb] at h
    | true =>
      simp [hb] at h; subst h
      have := Nat.eq_of_beq_eq_true hb
      exact ⟨rfl, rfl, rfl, this, this, rfl, fun i => rfl⟩
  · simp at h

theorem catB_ok {a b c : Blk} (h : catB a b = some c) : CatP a b c :=
  let ⟨h1, h2, h3, h4, h5, h6, h7⟩ := catB_ok' h
  ⟨h1, h2, h3, h4, h5, h6, fun i _ => h7 i⟩
/-- A row behind none. -/
theorem cat_none {a b c : Blk} (ha : a.isRow = true) (h0 : a.len = 0) (he : a.esz = b.esz) (hb : b.isRow = true) (hc : c.isRow = true) (hce : c.esz = b.esz) (hl : c.len = b.len) (hg : ∀ i, i < c.len → c.get i = b.get i) : CatP a b c :=
  ⟨ha, hb, hc, he, hce, by omega, fun i hi => by rw [h0, if_neg (Nat.not_lt_zero _), Nat.sub_zero]; exact hg i hi⟩

/-- The first elements of a row. -/
def takeB (k : Nat) : Blk → Option Blk
  | .ints kd xs => some (.ints kd (xs.take k))
  | .bools xs => some (.bools (xs.take k))
  | .row e _ g => some (.row e k g)
  | _ => none
theorem takeB_ok {k : Nat} {a b : Blk} (h : takeB k a = some b) (hk : k ≤ a.len) : a.isRow = true ∧ b.isRow = true ∧ b.esz = a.esz ∧ b.len = k ∧ ∀ i, i < k → b.get i = a.get i := by
  cases a <;> simp [takeB] at h <;> subst h
  · rename_i kd xs
    refine ⟨rfl, rfl, rfl, by simp [Blk.len] at hk ⊢; omega, fun i hi => ?_⟩
    simp [Blk.get, List.getD_eq_getElem?_getD, hi]
  · rename_i xs
    refine ⟨rfl, rfl, rfl, by simp [Blk.len] at hk ⊢; omega, fun i hi => ?_⟩
    simp [Blk.get, List.getD_eq_getElem?_getD, hi]
  · exact ⟨rfl, rfl, rfl, rfl, fun i _ => rfl⟩

/-- What is appended, as a row. -/
def srcB (S : List Blk) : V → Option Blk
  | .own nm => nthF S nm
  | .d (.arr esz m get) => some (.row esz m get)
  | _ => none

/-- A slice's elements lie in memory as the row says. -/
def Lies (R : Nat → Prop) (w : World) (u : Value) (b : Blk) : Prop :=
  (u = .slice none 0 0 ∧ b.len = 0) ∨ ∃ g o cap, u = .slice (some ⟨g, o, none⟩) b.len cap ∧ (∀ i, i < b.len → (b.get i).length = b.esz) ∧
    ∀ (i j : Nat) x, i < b.len → (b.get i)[j]? = some x → ∃ v, w.cell? ⟨g, o + (i * b.esz + j), none⟩ = some v ∧ RelD R w v x

section
variable {P : Program} {env : Env} {w0 : Base} {n : Nat} {l0 : List Oper} {K : Fr → List Blk → Prop} {l : List Oper} {F : Fr} {S : List Blk}

theorem srcB_lies {ρ : Nat → Option Nat} {w : World} (hm : Mem w0 S ρ w) {v : V} {b : Blk} (h : srcB S v = some b) (hrow : b.isRow = true) {u : Value} (hu : RelV S ρ (Rr S ρ w) w u v) : Lies (Rr S ρ w) w u b := by
  cases v <;> simp only [srcB, reduceCtorEq] at h
  case own nm =>
    rw [nthF_eq] at h
    cases hu with
    | ownNil hb hs => exact .inl ⟨rfl, by simp [shape, h] at hs; exact hs.2⟩
    | @own _ g esz len cap hb hs hc hcap =>
      have hs' : b.esz = esz ∧ b.len = len := by simp [shape, h] at hs; exact hs
      obtain ⟨rfl, rfl⟩ := hs'
      rcases (hm.blk nm _ h).row hrow with ⟨hn, _⟩ | ⟨g', c, ty, h1, h2, h3, h4, h5⟩
      · rw [hb] at hn; cases hn
      · rw [hb] at h1; cases h1
        exact .inr ⟨g, 0, cap, rfl, h4, fun i j x hi hx => let ⟨v, hv, hr⟩ := h5 i j x hi hx; ⟨v, by rw [cell_of h2, Nat.zero_add]; exact hv, hr⟩⟩
  case d x =>
    cases x <;> simp only [reduceCtorEq] at h
    simp at h; subst h
    cases hu with | d hu => ?_
    cases hu with
    | nil => exact .inl ⟨rfl, rfl⟩
    | arr g o m cap esz get val hR _ hlen hc hr =>
      exact .inr ⟨g, o, cap, rfl, hlen, fun i j x hi hx => ⟨val i j, hc i j hi (by have h9 := (List.getElem?_eq_some_iff.1 hx).1; have h10 := hlen i hi; simp only [Blk.get] at h9; omega), hr i j x hi hx⟩⟩

/-- A row's cells, one behind the other. -/
theorem lies_src {R : Nat → Prop} {w : World} {u : Value} {b : Blk} (h : Lies R w u b) (h1 : b.ones) {tx e' : TypeId} (hk : P.underlying tx = some (.slice e')) {size : Nat} (hs : b.esz = size) (hpos : 0 < size) :
    ∃ news : List Value, Src P size tx u b.len news w ∧ ∀ (i j : Nat) x, i < b.len → (b.get i)[j]? = some x → ∃ v, news[i * b.esz + j]? = some v ∧ RelD R w v x := by
  subst hs
  rcases h with ⟨rfl, h0⟩ | ⟨g, o, cap, rfl, hlen, hc⟩
  · refine ⟨[], ?_, fun i j x hi => by omega⟩
    rw [h0]; exact Src.ofNil w hk 0
  · let news : List Value := (List.range (b.len * b.esz)).map fun k => (w.cell? ⟨g, o + k, none⟩).getD undef
    have hcell : ∀ k, k < b.len * b.esz → ∃ i j x, i < b.len ∧ (b.get i)[j]? = some x ∧ k = i * b.esz + j := by
      intro k hk'
      have hi : k / b.esz < b.len := (Nat.div_lt_iff_lt_mul hpos).2 hk'
      have hj : k % b.esz < (b.get (k / b.esz)).length := by rw [hlen _ hi]; exact Nat.mod_lt _ hpos
      exact ⟨k / b.esz, k % b.esz, _, hi, List.getElem?_eq_getElem hj, by rw [Nat.mul_comm]; exact (Nat.div_add_mod k b.esz).symm⟩
    have hget : ∀ k u, news[k]? = some u → k < b.len * b.esz ∧ w.cell? ⟨g, o + k, none⟩ = some u := by
      intro k u hu
      rw [List.getElem?_map] at hu
      by_cases hlt : k < b.len * b.esz
      · rw [List.getElem?_range hlt] at hu
        simp at hu; subst hu
        obtain ⟨i, j, x, hi, hx, rfl⟩ := hcell k hlt
        obtain ⟨v, hv, _⟩ := hc i j x hi hx
        rw [hv]; exact ⟨hlt, rfl⟩
      · rw [List.getElem?_eq_none (by simp; omega)] at hu; simp at hu
    refine ⟨news, Src.ofSlice w hk ⟨g, o, none⟩ b.len cap news (by simp [news]) (fun k u hu => by rw [add_off]; exact (hget k u hu).2) fun u hu => ?_, fun i j x hi hx => ?_⟩
    · obtain ⟨k, hk', rfl⟩ := List.mem_iff_getElem.1 hu
      obtain ⟨hlt, hcu⟩ := hget k _ (List.getElem?_eq_getElem hk')
      obtain ⟨i, j, x, hi, hx, rfl⟩ := hcell k hlt
      obtain ⟨v, hv, hr⟩ := hc i j x hi hx
      rw [hv] at hcu; cases hcu
      exact D.one_cell (Blk.ones_get h1 hi hx) hr
    · obtain ⟨v, hv, hr⟩ := hc i j x hi hx
      have hj : j < b.esz := by have := (List.getElem?_eq_some_iff.1 hx).1; rw [hlen i hi] at this; exact this
      have hlt : i * b.esz + j < b.len * b.esz := by
        have : (i + 1) * b.esz ≤ b.len * b.esz := Nat.mul_le_mul_right _ hi
        rw [Nat.add_mul] at this; omega
      exact ⟨v, by simp [news, List.getElem?_range hlt, hv], hr⟩

theorem run_app_room {w : World} {t tx ty e : TypeId} {i : TypeInfo} (ht : P.underlying t = some (.slice e)) (hi : P.info? e = some i) {g sLen sCap : Nat} {x : Value} {m : Nat} {news : List Value} (hs : Src P i.size tx x m news w)
    (hroom : sLen + m ≤ sCap) {cur : Array Value} {et : TypeId} (hg : w.heap[g]? = some (.cells cur et (0, 0))) (hfit : sLen * i.size + news.length ≤ cur.size) :
    (Builtin.append_ #[t, tx] ty #[.slice (some ⟨g, 0, none⟩) sLen sCap, x]).run P w = .ok (.slice (some ⟨g, 0, none⟩) (sLen + m) sCap) (w.setRow g (cur.toList.take (sLen * i.size) ++ news ++ cur.toList.drop (sLen * i.size + news.length)).toArray) := by
  have hst := run_storeCells_at P g (sLen * i.size) et news 0 cur w hg (by simpa using hfit) hs.one
  simp only [Nat.add_zero] at hst
  rcases hs.kind with ⟨e', hk⟩ | hk <;> simp [Builtin.append_, run_underlying ht, run_underlying hk, sizeOf, typeInfo, hi, hs.len, hroom, hs.cells, Addr.add_lit, hst]

/-- A slice at the head of a whole row. -/
def Head (w : World) (v : Value) (len size : Nat) (olds : List Value) : Prop :=
  (v = .slice none 0 0 ∧ len = 0 ∧ olds = []) ∨ ∃ g cap cur ty, v = .slice (some ⟨g, 0, none⟩) len cap ∧ w.heap[g]? = some (.cells cur ty (0, 0)) ∧ len ≤ cap ∧ cap ≤ maxLen ∧ cur.size = cap * size ∧ cur.toList.take (len * size) = olds

/-- The three ends of an append. -/
theorem run_app {w : World} {t tx ty e : TypeId} {te : TI} {s by_ : Nat} {z : Value} (hT : TIok P t ⟨.slice e, s, by_, z⟩) (he : TIok P e te) (hz : te.zero.cells.size = te.size) {v : Value} {len : Nat} {olds : List Value} (hv : Head w v len te.size olds)
    {x : Value} {m : Nat} {news : List Value} (hs : Src P te.size tx x m news w) (h1 : (len + m) * te.bytes ≤ 140737488355328) (h2 : len + m ≤ maxLen) :
    (v = .slice none 0 0 ∧ m = 0 ∧ (Builtin.append_ #[t, tx] ty #[v, x]).run P w = .ok v w) ∨
    (∃ g cap cur et, v = .slice (some ⟨g, 0, none⟩) len cap ∧ w.heap[g]? = some (.cells cur et (0, 0)) ∧ len + m ≤ cap ∧ cap ≤ maxLen ∧ cur.size = cap * te.size ∧ cur.toList.take (len * te.size) = olds ∧
      (Builtin.append_ #[t, tx] ty #[v, x]).run P w = .ok (.slice (some ⟨g, 0, none⟩) (len + m) cap) (w.setRow g (olds ++ news ++ cur.toList.drop (len * te.size + news.length)).toArray)) ∨
    (∃ w' c cap, (Builtin.append_ #[t, tx] ty #[v, x]).run P w = .ok (.slice (some ⟨w.heap.size, 0, none⟩) (len + m) cap) w' ∧ Ext w w' ∧ w'.heap[w.heap.size]? = some (.cells c e (0, 0)) ∧ c.size = cap * te.size ∧ len + m ≤ cap ∧ cap ≤ maxLen ∧
      c.toList.take ((len + m) * te.size) = olds ++ news) := by
  obtain ⟨d, hd, hk⟩ := hT.desc
  have := desc_slice hk; subst this
  obtain ⟨i, hi, hsz, hby, hzero⟩ := he.info
  rw [← hsz] at hs hv hz ⊢
  rw [← hby] at h1
  have grown : ∀ (base : Option Addr) (sCap : Nat), sCap < len + m → olds.length = len * i.size → (Builtin.firstCells i.size len (.slice base len sCap)).run P w.drew = .ok olds.toArray w.drew →
      ∃ w' c cap, (Builtin.append_ #[t, tx] ty #[.slice base len sCap, x]).run P w = .ok (.slice (some ⟨w.heap.size, 0, none⟩) (len + m) cap) w' ∧ Ext w w' ∧ w'.heap[w.heap.size]? = some (.cells c e (0, 0)) ∧ c.size = cap * i.size ∧ len + m ≤ cap ∧ cap ≤ maxLen ∧
        c.toList.take ((len + m) * i.size) = olds ++ news := by
    intro base sCap hg hol hold
    have hr := run_append_grow_src (P := P) w t tx ty e i te.zero hd hi hzero base len sCap olds hold x m news hs hg (by simp only [maxLen] at h2; omega) (growslice_fits hg h1)
    have hge := grownCap_ge w (len + m) sCap e
    have hnl := hs.newsLen
    refine ⟨_, _, _, hr, ⟨rfl, rfl, rfl, by simp, fun k hk => by rw [heap_alloc_old w.drew _ hk]; rfl⟩, heap_alloc_new w.drew _, ?_, hge, grownCap_le_maxLen w (len + m) sCap e h2, ?_⟩
    · simp only [Array.size_append, List.size_toArray, List.length_append, size_zeroCells, hz, hol, hnl, ← Nat.add_mul]
      congr 1; omega
    · simp only [Array.toList_append]
      exact List.take_left' (by rw [List.length_append, hol, hnl, ← Nat.add_mul])
  rcases hv with ⟨rfl, rfl, rfl⟩ | ⟨g, cap, cur, et, rfl, hg, hlc, hcm, hcs, htake⟩
  · by_cases hm : m = 0
    · subst hm
      refine .inl ⟨rfl, rfl, ?_⟩
      have hn : news = [] := List.eq_nil_of_length_eq_zero (by simpa using hs.newsLen)
      subst hn
      rcases hs.kind with ⟨e', hk'⟩ | hk' <;> simp [Builtin.append_, run_underlying hd, run_underlying hk', sizeOf, typeInfo, hi, hs.len, hs.cells]
    · exact .inr (.inr (grown none 0 (by omega) (by simp) (run_firstCells_none w.drew i.size 0 0 0)))
  · by_cases hroom : len + m ≤ cap
    · refine .inr (.inl ⟨g, cap, cur, et, rfl, hg, hroom, hcm, hcs, htake, ?_⟩)
      have hfit : len * i.size + news.length ≤ cur.size := by rw [hs.newsLen, hcs, ← Nat.add_mul]; exact Nat.mul_le_mul_right _ hroom
      have := run_app_room hd hi hs hroom hg hfit (ty := ty)
      rw [htake] at this
      exact this
    · have hol : olds.length = len * i.size := by rw [← htake, List.length_take, Array.length_toList, hcs]; exact Nat.min_eq_left (Nat.mul_le_mul_right _ hlc)
      refine .inr (.inr (grown (some ⟨g, 0, none⟩) cap (by omega) hol ?_))
      refine run_firstCells_some w.drew i.size len ⟨g, 0, none⟩ len cap olds hol fun j u hu => ?_
      rw [add_off, Nat.zero_add]
      have : w.drew.cell? ⟨g, j, none⟩ = w.cell? ⟨g, j, none⟩ := rfl
      rw [this, cell_of hg]
      rw [← htake, List.getElem?_take] at hu
      split at hu
      · simpa using hu
      · cases hu

/-! ### What leads to a name is struck -/

def V.kill (nm : Nat) (x : V) : V := bif x.uses nm then .bot else x
def killF (nm : Nat) : Fr → Option Fr
  | [] => some []
  | (t, g, v) :: r => match killF nm r with
    | some r' => match V.uses v nm with
      | true => some ((t, g, .bot) :: r')
      | false => some ((t, g, v) :: r')
    | none => none
theorem killF_get {nm : Nat} {F F' : Fr} (h : killF nm F = some F') {t : Nat} {g : List Bool} {v : V} (hl : look F' t = some (g, v)) : ∃ v', look F t = some (g, v') ∧ v = v'.kill nm := by
  induction F generalizing F' with
  | nil => simp [killF] at h; subst h; simp [look] at hl
  | cons x r ih =>
    obtain ⟨k, g', u⟩ := x
    simp only [killF] at h
    split at h
    · rename_i r' hr
      have key : ∀ v0, F' = (k, g', v0) :: r' → v0 = u.kill nm → ∃ v', look ((k, g', u) :: r) t = some (g, v') ∧ v = v'.kill nm := by
        rintro v0 rfl hv0
        simp only [look] at hl ⊢
        cases hb : Nat.beq k t with
        | true =>
          simp only [hb, cond_true, Option.some.injEq, Prod.mk.injEq] at hl ⊢
          obtain ⟨rfl, rfl⟩ := hl
          exact ⟨u, ⟨rfl, rfl⟩, hv0⟩
        | false => simp only [hb, cond_false] at hl ⊢; exact ih hr hl
      split at h
      · rename_i hu; simp at h; exact key _ h.symm (by simp [V.kill, hu])
      · rename_i hu; simp at h; exact key _ h.symm (by simp [V.kill, hu])
    · simp at h
def killC (nm : Nat) : List V → Option (List V)
  | [] => some []
  | v :: r => match killC nm r with
    | some r' => match V.uses v nm with
      | true => some (.bot :: r')
      | false => some (v :: r')
    | none => none
theorem killC_get {nm : Nat} {l l' : List V} (h : killC nm l = some l') : l'.length = l.length ∧ ∀ (i : Nat) v, l'[i]? = some v → ∃ v', l[i]? = some v' ∧ v = v'.kill nm := by
  induction l generalizing l' with
  | nil => simp [killC] at h; subst h; simp
  | cons x r ih =>
    simp only [killC] at h
    split at h
    · rename_i r' hr
      obtain ⟨h1, h2⟩ := ih hr
      have key : ∀ v0, l' = v0 :: r' → v0 = x.kill nm → l'.length = (x :: r).length ∧ ∀ (i : Nat) v, l'[i]? = some v → ∃ v', (x :: r)[i]? = some v' ∧ v = v'.kill nm := by
        rintro v0 rfl hv0
        refine ⟨by simp [h1], fun i v hv => ?_⟩
        cases i with
        | zero => simp at hv; subst hv; exact ⟨x, by simp, hv0⟩
        | succ i => simpa using h2 i v (by simpa using hv)
      split at h
      · rename_i hu; simp at h; exact key _ h.symm (by simp [V.kill, hu])
      · rename_i hu; simp at h; exact key _ h.symm (by simp [V.kill, hu])
    · simp at h
/-- All blocks: the one named nm is replaced, in the others what leads to it is struck. -/
def killS (nm : Nat) (b : Blk) : Nat → List Blk → Option (List Blk)
  | _, [] => some []
  | i, x :: r => match killS nm b (i + 1) r with
    | some r' => match Nat.beq i nm with
      | true => some (b :: r')
      | false => match x with
        | .cells cs => match killC nm cs with
          | some cs' => some (.cells cs' :: r')
          | none => none
        | x => some (x :: r')
    | none => none
/-- The block that stands in another's place. -/
def Killed (nm : Nat) (x x' : Blk) : Prop := x' = x ∧ (∀ cs, x ≠ .cells cs) ∨ ∃ cs cs', x = .cells cs ∧ x' = .cells cs' ∧ cs'.length = cs.length ∧ ∀ (i : Nat) v, cs'[i]? = some v → ∃ v', cs[i]? = some v' ∧ v = v'.kill nm
theorem killS_get {nm : Nat} {b : Blk} {i : Nat} {S S' : List Blk} (h : killS nm b i S = some S') : S'.length = S.length ∧ ∀ (j : Nat) x', S'[j]? = some x' → (i + j = nm ∧ x' = b) ∨ (i + j ≠ nm ∧ ∃ x, S[j]? = some x ∧ Killed nm x x') := by
  induction S generalizing i S' with
  | nil => simp [killS] at h; subst h; simp
  | cons x r ih =>
    simp only [killS] at h
    split at h
    · rename_i r' hr
      obtain ⟨h1, h2⟩ := ih hr
      have key : ∀ x0, S' = x0 :: r' → ((i = nm ∧ x0 = b) ∨ (i ≠ nm ∧ Killed nm x x0)) → S'.length = (x :: r).length ∧ ∀ (j : Nat) x', S'[j]? = some x' → (i + j = nm ∧ x' = b) ∨ (i + j ≠ nm ∧ ∃ y, (x :: r)[j]? = some y ∧ Killed nm y x') := by
        rintro x0 rfl hx0
        refine ⟨by simp [h1], fun j x' hx' => ?_⟩
        cases j with
        | zero =>
          simp at hx'; subst hx'
          rcases hx0 with ⟨h, h'⟩ | ⟨h, h'⟩
          · exact .inl ⟨by omega, h'⟩
          · exact .inr ⟨by omega, x, by simp, h'⟩
        | succ j =>
          rcases h2 j x' (by simpa using hx') with ⟨h, h'⟩ | ⟨h, y, hy, h'⟩
          · exact .inl ⟨by omega, h'⟩
          · exact .inr ⟨by omega, y, by simpa using hy, h'⟩
      split at h
      · rename_i hb; simp at h; exact key _ h.symm (.inl ⟨Nat.eq_of_beq_eq_true hb, rfl⟩)
      · rename_i hb
        have hne : i ≠ nm := fun he => by subst he; simp at hb
        split at h
        · rename_i cs
          split at h
          · rename_i cs' hcs
            simp at h
            obtain ⟨k1, k2⟩ := killC_get hcs
            exact key _ h.symm (.inr ⟨hne, .inr ⟨cs, cs', rfl, rfl, k1, k2⟩⟩)
          · simp at h
        · rename_i hx
          simp at h
          exact key _ h.symm (.inr ⟨hne, .inl ⟨rfl, fun cs hc => hx cs hc⟩⟩)
    · simp at h

end
end Go.Wk

/- append over abstract states; literals; stores into rows. -/
namespace Go.Wk
set_option maxRecDepth 10000
open Go.RowKit

section
variable {P : Program} {env : Env} {w0 : Base} {n : Nat} {l0 : List Oper} {K : Fr → List Blk → Prop} {l : List Oper} {F : Fr} {S : List Blk}

/-- What is known of the row that has been appended to. -/
structure Grew (S : List Blk) (ρ : Nat → Option Nat) (w w' : World) (nm g : Nat) (blk' : Blk) (cap : Nat) : Prop where
  os : w'.os = w.os
  tape : w'.tape = w.tape
  output : w'.output = w.output
  size : w.heap.size ≤ w'.heap.size
  keep : ∀ k, k < w.heap.size → ρ nm ≠ some k → w'.heap[k]? = w.heap[k]?
  at_ : ρ nm = some g ∨ w.heap.size ≤ g
  row : ∃ c e, w'.heap[g]? = some (.cells c e (0, 0)) ∧ c.size = cap * blk'.esz ∧ (∀ i, i < blk'.len → (blk'.get i).length = blk'.esz) ∧
    ∀ (i j : Nat) x, i < blk'.len → (blk'.get i)[j]? = some x → ∃ v, c[i * blk'.esz + j]? = some v ∧ RelD (Rr S ρ w) w v x
  len : blk'.len ≤ cap
  cap : cap ≤ maxLen

theorem pin_killed {S S' : List Blk} {nm : Nat} {blk : Blk} (hblk : S[nm]? = some blk) (hb0 : blk.isRow = true) (hlen : S'.length = S.length)
    (hother : ∀ (j : Nat) x', S'[j]? = some x' → j ≠ nm → ∃ x, S[j]? = some x ∧ Killed nm x x') {i : Nat} {cs : List V} (h : S[i]? = some (.cells cs)) : i ≠ nm ∧ ∃ cs', S'[i]? = some (.cells cs') := by
  have hne : i ≠ nm := fun he => by subst he; rw [hblk] at h; cases h; simp [Blk.isRow] at hb0
  have hlt : i < S'.length := by have := (List.getElem?_eq_some_iff.1 h).1; omega
  refine ⟨hne, ?_⟩
  obtain ⟨x, hx, hk⟩ := hother i _ (List.getElem?_eq_getElem hlt) hne
  rw [h] at hx; cases hx
  rcases hk with ⟨_, hnc⟩ | ⟨cs1, cs', h1, h2, _⟩
  · exact absurd rfl (hnc cs)
  · exact ⟨cs', by rw [List.getElem?_eq_getElem hlt, h2]⟩

theorem grew_rel {ρ : Nat → Option Nat} {a : Act} {w w' : World} (hr : Rel w0 n F S ρ a w) {nm g : Nat} {blk blk' : Blk} (hblk : S[nm]? = some blk) (hb0 : blk.isRow = true) (hrow : blk'.isRow = true) {cap : Nat} (hgr : Grew S ρ w w' nm g blk' cap)
    {F' : Fr} {S' : List Blk} (hF : killF nm F = some F') (hS : killS nm blk' 0 S = some S') {d : Nat} (hd : d < n) :
    Rel w0 n ((d, [], .own nm) :: F') S' (upd ρ nm (some g)) (a.put (some d) (.slice (some ⟨g, 0, none⟩) blk'.len cap)) w' := by
  have hn : nm < S.length := (List.getElem?_eq_some_iff.1 hblk).1
  obtain ⟨hlen, hget⟩ := killS_get hS
  have hnm : S'[nm]? = some blk' := by
    have hlt : nm < S'.length := by omega
    rcases hget nm _ (List.getElem?_eq_getElem hlt) with ⟨_, h⟩ | ⟨h, _⟩
    · rw [List.getElem?_eq_getElem hlt, h]
    · omega
  have hother : ∀ (j : Nat) x', S'[j]? = some x' → j ≠ nm → ∃ x, S[j]? = some x ∧ Killed nm x x' := by
    intro j x' hx hne
    rcases hget j x' hx with ⟨h, _⟩ | ⟨_, h⟩
    · omega
    · exact h
  have hshape : ∀ j, j < S.length → j ≠ nm → shape S' j = shape S j := by
    intro j hj hne
    obtain ⟨x, hx, hk⟩ := hother j _ (List.getElem?_eq_getElem (by omega)) hne
    unfold shape
    rw [List.getElem?_eq_getElem (by omega : j < S'.length), hx]
    rcases hk with ⟨h, _⟩ | ⟨cs, cs', h1, h2, _⟩
    · rw [h]
    · rw [h1, h2]; rfl
  have hR : ∀ k, Rr S ρ w k → Rr S' (upd ρ nm (some g)) w' k ∧ w'.heap[k]? = w.heap[k]? := by
    intro k hk
    refine ⟨⟨Nat.lt_of_lt_of_le hk.1 hgr.size, fun i hi => ?_⟩, hgr.keep k hk.1 (hk.2 nm)⟩
    by_cases h : i = nm
    · subst h; rw [upd_same] at hi; cases hi
      rcases hgr.at_ with h | h
      · exact hk.2 i h
      · have := hk.1; omega
    · rw [upd_ne _ _ h] at hi; exact hk.2 i hi
  have hbk : ∀ m b, m < S.length → m ≠ nm → ρ m = some b → w'.heap[b]? = w.heap[b]? := by
    intro m b hm hne hb
    exact hgr.keep b (hr.mem.lt m b hm hb).2 fun h => hne (hr.mem.inj m nm b hm hn hb h)
  have hv : ∀ {u : Value} {x : V}, x.uses nm = false → RelV S ρ (Rr S ρ w) w u x → RelV S' (upd ρ nm (some g)) (Rr S' (upd ρ nm (some g)) w') w' u x := by
    intro u x hx h
    refine h.mono hR fun m hu => ?_
    have hm := h.uses_lt m hu
    have hne : m ≠ nm := fun he => by subst he; rw [hx] at hu; cases hu
    refine ⟨upd_ne _ _ hne, hshape m hm hne, fun b e k hb h => ?_⟩
    obtain ⟨c, ty, h1, h2⟩ := h
    exact ⟨c, ty, by rw [hbk m b hm hne hb]; exact h1, h2⟩
  have hkill : ∀ {u : Value} {x : V}, RelV S ρ (Rr S ρ w) w u x → RelV S' (upd ρ nm (some g)) (Rr S' (upd ρ nm (some g)) w') w' u (x.kill nm) := by
    intro u x h
    unfold V.kill
    cases hu : x.uses nm with
    | true => exact .bot u
    | false => exact hv hu h
  obtain ⟨c, e, hh, hcs, hlens, hcont⟩ := hgr.row
  have hg0 : w0.own g := by
    rcases hgr.at_ with h | h
    · exact (hr.mem.lt nm g hn h).1
    · exact .inl (Nat.le_trans hr.mem.below.size h)
  refine ⟨⟨by simp [Act.put, hr.fr.size], hr.fr.defers, fun t gs v hl => ?_⟩, ⟨⟨hgr.os.trans hr.mem.below.os, hgr.tape.trans hr.mem.below.tape, hgr.output.trans hr.mem.below.output, Nat.le_trans hr.mem.below.size hgr.size, fun k hk hi => ?_⟩, by have := hr.mem.np; omega,
    fun i b hi hb => let ⟨h1, cs, h2⟩ := hr.mem.pin i b hi hb; let ⟨h3, h4⟩ := pin_killed hblk hb0 (by omega) hother h2; ⟨by rw [upd_ne _ _ h3]; exact h1, h4⟩, fun i b hi hb => ?_, fun i j b hi hj hbi hbj => ?_, upd_hid hr.mem.hid (by omega) hn hgr.size (fun b hb => by cases hb; exact lt_of_get hh), fun i blk'' hb => ?_⟩⟩
  · -- the frame
    have hfr : FrOK n F' S' (upd ρ nm (some g)) a w' := ⟨hr.fr.size, hr.fr.defers, fun t gs v hl => by
      obtain ⟨v', hl', rfl⟩ := killF_get hF hl
      exact ⟨fun hg => hkill ((hr.fr.get t gs v' hl').1 hg), (hr.fr.get t gs v' hl').2⟩⟩
    exact (hfr.put hd (g := []) (v := .own nm) ⟨fun _ => .own (esz := blk'.esz) (upd_same _ _ _) (by simp [shape, hnm]) hgr.len ⟨c, e, hh, hcs, hgr.cap⟩, fun h => absurd trivial h⟩).get t gs v hl
  · rw [← hr.mem.below.block k hk hi]
    refine hgr.keep k (Nat.lt_of_lt_of_le hk hr.mem.below.size) fun h => ?_
    rcases (hr.mem.lt nm k hn h).1 with h | h
    · omega
    · exact hi h
  · by_cases h : i = nm
    · subst h; rw [upd_same] at hb; cases hb; exact ⟨hg0, lt_of_get hh⟩
    · rw [upd_ne _ _ h] at hb; have := hr.mem.lt i b (by omega) hb; exact ⟨this.1, Nat.lt_of_lt_of_le this.2 hgr.size⟩
  · have fresh : ∀ m, m < S.length → m ≠ nm → ρ m ≠ some g := by
      intro m hm hne hmg
      rcases hgr.at_ with h | h
      · exact hne (hr.mem.inj m nm g hm hn hmg h)
      · have := (hr.mem.lt m g hm hmg).2; omega
    by_cases h1 : i = nm
    · by_cases h2 : j = nm
      · omega
      · subst h1; rw [upd_same] at hbi; cases hbi; rw [upd_ne _ _ h2] at hbj; exact absurd hbj (fresh j (by omega) h2)
    · by_cases h2 : j = nm
      · subst h2; rw [upd_same] at hbj; cases hbj; rw [upd_ne _ _ h1] at hbi; exact absurd hbi (fresh i (by omega) h1)
      · rw [upd_ne _ _ h1] at hbi; rw [upd_ne _ _ h2] at hbj; exact hr.mem.inj i j b (by omega) (by omega) hbi hbj
  · by_cases h : i = nm
    · subst h
      rw [hnm] at hb; cases hb
      have key : (upd ρ i (some g) i = none ∧ blk'.len = 0) ∨ ∃ b c ty, upd ρ i (some g) i = some b ∧ w'.heap[b]? = some (.cells c ty (0, 0)) ∧ blk'.len * blk'.esz ≤ c.size ∧ (∀ i, i < blk'.len → (blk'.get i).length = blk'.esz) ∧
          ∀ (k j : Nat) x, k < blk'.len → (blk'.get k)[j]? = some x → ∃ v, c[k * blk'.esz + j]? = some v ∧ RelD (Rr S' (upd ρ i (some g)) w') w' v x :=
        .inr ⟨g, c, e, upd_same _ _ _, hh, by rw [hcs]; exact Nat.mul_le_mul_right _ hgr.len, hlens, fun k j x hk hx => let ⟨v, hv, hr⟩ := hcont k j x hk hx; ⟨v, hv, hr.mono hR⟩⟩
      cases blk' <;> first | (simp [Blk.isRow] at hrow; done) | exact key
    · have hi : i < S.length := by have := (List.getElem?_eq_some_iff.1 hb).1; omega
      obtain ⟨x, hx, hk⟩ := hother i _ hb h
      have hold := hr.mem.blk i x hx
      have hρ : upd ρ nm (some g) i = ρ i := upd_ne _ _ h
      rcases hk with ⟨rfl, hnc⟩ | ⟨cs, cs', rfl, rfl, hcl, hcg⟩
      · have rowk : ((ρ i = none ∧ blk''.len = 0) ∨ ∃ b c ty, ρ i = some b ∧ w.heap[b]? = some (.cells c ty (0, 0)) ∧ blk''.len * blk''.esz ≤ c.size ∧ (∀ i, i < blk''.len → (blk''.get i).length = blk''.esz) ∧
            ∀ (i j : Nat) x, i < blk''.len → (blk''.get i)[j]? = some x → ∃ v, c[i * blk''.esz + j]? = some v ∧ RelD (Rr S ρ w) w v x) →
            ((upd ρ nm (some g) i = none ∧ blk''.len = 0) ∨ ∃ b c ty, upd ρ nm (some g) i = some b ∧ w'.heap[b]? = some (.cells c ty (0, 0)) ∧ blk''.len * blk''.esz ≤ c.size ∧ (∀ i, i < blk''.len → (blk''.get i).length = blk''.esz) ∧
            ∀ (i j : Nat) x, i < blk''.len → (blk''.get i)[j]? = some x → ∃ v, c[i * blk''.esz + j]? = some v ∧ RelD (Rr S' (upd ρ nm (some g)) w') w' v x) := by
          rw [hρ]
          rintro (h0 | ⟨b, c, ty, h1, h2, h3, h4, h5⟩)
          · exact .inl h0
          · exact .inr ⟨b, c, ty, h1, by rw [hbk i b hi h h1]; exact h2, h3, h4, fun i j x hi hx => let ⟨v, hv, hr⟩ := h5 i j x hi hx; ⟨v, hv, hr.mono hR⟩⟩
        cases blk'' with
        | gone => trivial
        | cells cs => exact absurd rfl (hnc cs)
        | ints k xs => exact rowk hold
        | bools xs => exact rowk hold
        | row esz m get => exact rowk hold
      · obtain ⟨b, vals, ty, h1, h2, h3, h4⟩ := hold
        refine ⟨b, vals, ty, by rw [hρ]; exact h1, by rw [hbk i b hi h h1]; exact h2, by rw [hcl]; exact h3, fun k v x hv hx => ?_⟩
        obtain ⟨y, hy, rfl⟩ := hcg k x hx
        exact hkill (h4 k v y hv hy)

/-- A slice of the call's own stands at the head of its row. -/
theorem head_of {ρ : Nat → Option Nat} {w : World} (hm : Mem w0 S ρ w) {nm : Nat} {blk b1 : Blk} (hblk : S[nm]? = some blk) (hrow : blk.isRow = true) {len : Nat} (hlen : len ≤ blk.len) (h1 : b1.esz = blk.esz) (h2 : b1.len = len) (h3 : ∀ i, i < len → b1.get i = blk.get i)
    {u : Value} (hu : (len = blk.len ∧ RelV S ρ (Rr S ρ w) w u (.own nm)) ∨ RelV S ρ (Rr S ρ w) w u (.sl nm 0 len)) :
    ∃ olds : List Value, Head w u len blk.esz olds ∧ (∀ g cap, u = .slice (some ⟨g, 0, none⟩) len cap → ρ nm = some g) ∧ olds.length = len * blk.esz ∧ (∀ i, i < len → (b1.get i).length = b1.esz) ∧
      ∀ (i j : Nat) x, i < len → (b1.get i)[j]? = some x → ∃ v, olds[i * blk.esz + j]? = some v ∧ RelD (Rr S ρ w) w v x := by
  have some_case : ∀ g cap, ρ nm = some g → rowAt w g blk.esz cap → len ≤ cap → u = .slice (some ⟨g, 0, none⟩) len cap → ∃ olds : List Value, Head w u len blk.esz olds ∧ (∀ g cap, u = .slice (some ⟨g, 0, none⟩) len cap → ρ nm = some g) ∧ olds.length = len * blk.esz ∧
      (∀ i, i < len → (b1.get i).length = b1.esz) ∧ ∀ (i j : Nat) x, i < len → (b1.get i)[j]? = some x → ∃ v, olds[i * blk.esz + j]? = some v ∧ RelD (Rr S ρ w) w v x := by
    rintro g cap hb ⟨c, ty, hc, hs, hcm⟩ hlc rfl
    rcases (hm.blk nm _ hblk).row hrow with ⟨hn, _⟩ | ⟨g', c', ty', k1, k2, k3, k4, k5⟩
    · rw [hb] at hn; cases hn
    · rw [hb] at k1; cases k1
      rw [hc] at k2
      simp only [Option.some.injEq, Obj.cells.injEq] at k2
      obtain ⟨rfl, rfl, _⟩ := k2
      have hl : (c.toList.take (len * blk.esz)).length = len * blk.esz := by
        rw [List.length_take, Array.length_toList, hs]; exact Nat.min_eq_left (Nat.mul_le_mul_right _ hlc)
      refine ⟨c.toList.take (len * blk.esz), .inr ⟨g, cap, c, ty, rfl, hc, hlc, hcm, hs, rfl⟩, fun g' cap' h => by cases h; exact hb, hl, fun i hi => by rw [h3 i hi, h1]; exact k4 i (by omega), fun i j x hi hx => ?_⟩
      rw [h3 i hi] at hx
      obtain ⟨v, hv, hr⟩ := k5 i j x (by omega) hx
      have hj : j < blk.esz := by have h9 := (List.getElem?_eq_some_iff.1 hx).1; rw [k4 i (by omega)] at h9; exact h9
      have hlt : i * blk.esz + j < len * blk.esz := by
        have : (i + 1) * blk.esz ≤ len * blk.esz := Nat.mul_le_mul_right _ hi
        rw [Nat.add_mul] at this; omega
      exact ⟨v, by rw [List.getElem?_take, if_pos hlt]; simpa using hv, hr⟩
  have none_case : len = 0 → u = .slice none 0 0 → ∃ olds : List Value, Head w u len blk.esz olds ∧ (∀ g cap, u = .slice (some ⟨g, 0, none⟩) len cap → ρ nm = some g) ∧ olds.length = len * blk.esz ∧
      (∀ i, i < len → (b1.get i).length = b1.esz) ∧ ∀ (i j : Nat) x, i < len → (b1.get i)[j]? = some x → ∃ v, olds[i * blk.esz + j]? = some v ∧ RelD (Rr S ρ w) w v x := by
    rintro rfl rfl
    exact ⟨[], .inl ⟨rfl, rfl, rfl⟩, fun g cap h => by simp at h, by simp, fun i hi => by omega, fun i j x hi => by omega⟩
  rcases hu with ⟨rfl, hu⟩ | hu
  · cases hu with
    | ownNil hb hs => exact none_case (by simp [shape, hblk] at hs; exact hs.2) rfl
    | @own _ g esz len' cap hb hs hc hcap =>
      have hs' : blk.esz = esz ∧ blk.len = len' := by simp [shape, hblk] at hs; exact hs
      obtain ⟨rfl, rfl⟩ := hs'
      exact some_case g cap hb hcap hc rfl
  · cases hu with
    | slNil hb hs => exact none_case rfl rfl
    | @sl _ g esz m _ _ cap hb hs hl hc hcap =>
      have hs' : blk.esz = esz ∧ blk.len = m := by simp [shape, hblk] at hs; exact hs
      obtain ⟨rfl, rfl⟩ := hs'
      rw [Nat.zero_add] at hcap
      exact some_case g cap hb hcap hc (by simp)

theorem cat_content {b1 yb blk' : Blk} (hc : CatP b1 yb blk') {R : Nat → Prop} {w : World} {olds news : List Value} (hol : olds.length = b1.len * b1.esz) (hlo : ∀ i, i < b1.len → (b1.get i).length = b1.esz)
    (ho : ∀ (i j : Nat) x, i < b1.len → (b1.get i)[j]? = some x → ∃ v, olds[i * b1.esz + j]? = some v ∧ RelD R w v x) (hn : ∀ (i j : Nat) x, i < yb.len → (yb.get i)[j]? = some x → ∃ v, news[i * yb.esz + j]? = some v ∧ RelD R w v x)
    (hly : ∀ i, i < yb.len → (yb.get i).length = yb.esz) :
    (∀ i, i < blk'.len → (blk'.get i).length = blk'.esz) ∧ ∀ (i j : Nat) x, i < blk'.len → (blk'.get i)[j]? = some x → ∃ v, (olds ++ news)[i * blk'.esz + j]? = some v ∧ RelD R w v x := by
  obtain ⟨_, _, _, c1, c2, c3, c4⟩ := hc
  rw [c2, ← c1]
  refine ⟨fun i hi => ?_, fun i j x hi hx => ?_⟩
  · rw [c4 i hi]
    split
    · rename_i h; exact hlo i h
    · rename_i h; rw [hly _ (by omega), c1]
  · rw [c4 i hi] at hx
    split at hx
    · rename_i h
      obtain ⟨v, hv, hr⟩ := ho i j x h hx
      exact ⟨v, by rw [List.getElem?_append_left (List.getElem?_eq_some_iff.1 hv).1]; exact hv, hr⟩
    · rename_i h
      obtain ⟨v, hv, hr⟩ := hn (i - b1.len) j x (by omega) hx
      refine ⟨v, ?_, hr⟩
      have e : i * b1.esz + j = olds.length + ((i - b1.len) * yb.esz + j) := by
        rw [hol, c1, ← Nat.add_assoc, ← Nat.add_mul]
        congr 2; omega
      rw [e, List.getElem?_append_right (by omega), Nat.add_sub_cancel_left]
      exact hv

/-- The length facts of a row that lies somewhere. -/
theorem lies_len {R : Nat → Prop} {w : World} {u : Value} {b : Blk} (h : Lies R w u b) : ∀ i, i < b.len → (b.get i).length = b.esz := by
  rcases h with ⟨_, h0⟩ | ⟨_, _, _, _, h, _⟩
  · intro i hi; omega
  · exact h

/-- An append onto a slice of the call's own. -/
theorem steps_app_own {d : Nat} {s x : Operand} {t tx ty e e' : TypeId} {pos : String} {after : Array Edge} {g : Option (Nat × Bool)} {te : TI} {i1 i2 j1 j2 : Nat} {z1 z2 : Value} {nm len : Nat} {sv xv : V} {ps qs : List Prop} {blk b1 yb blk' : Blk} {F' : Fr} {S' : List Blk}
    (hT : TIok P t ⟨.slice e, i1, i2, z1⟩) (hTx : TIok P tx ⟨.slice e', j1, j2, z2⟩) (he : TIok P e te) (hz : Nat.beq te.zero.cells.size te.size = true) (hpos : Nat.blt 0 te.size = true) (hby : Nat.blt 0 te.bytes = true)
    (hs : rd F [] s = some (sv, ps)) (hps : allP ps) (hx : rd F [] x = some (xv, qs)) (hqs : allP qs) (hblk : nthF S nm = some blk)
    (hsv : (sv = .own nm ∧ b1 = blk ∧ len = blk.len) ∨ (sv = .sl nm 0 len ∧ takeB len blk = some b1)) (hy : srcB S xv = some yb) (h1 : yb.ones) (hc : CatP b1 yb blk') (hsz : Nat.beq yb.esz te.size = true) (hb : blk'.len * te.bytes ≤ 140737488355328)
    (hF : killF nm F = some F') (hS : killS nm blk' 0 S = some S') (hd : Nat.blt d n = true) :
    StepsTo P n ⟨some d, .call ⟨.builtin .append, #[s, x], #[t, tx]⟩, ty, pos, after, g⟩ F S ((d, [], .own nm) :: F') S' := by
  intro w0 ρ a w hr
  rw [nthF_eq] at hblk
  have hz' := Nat.eq_of_beq_eq_true hz
  have hsz' := Nat.eq_of_beq_eq_true hsz
  have hpos' : 0 < te.size := Nat.le_of_ble_eq_true hpos
  have hby' : 0 < te.bytes := Nat.le_of_ble_eq_true hby
  obtain ⟨c0a, c0b, c0, c1, c2, c3, c4⟩ := id hc
  have hus := rd_sound hr.fr hs hps trivial
  have hux := rd_sound hr.fr hx hqs trivial
  have hlies := srcB_lies hr.mem hy c0b hux
  obtain ⟨dx, hdx, hkx⟩ := hTx.desc
  have := desc_slice hkx; subst this
  obtain ⟨news, hsrc, hnews⟩ := lies_src (P := P) hlies h1 hdx hsz' hpos'
  have hfacts : len ≤ blk.len ∧ b1.esz = blk.esz ∧ b1.len = len ∧ (∀ i, i < len → b1.get i = blk.get i) ∧ blk.isRow = true ∧ ((len = blk.len ∧ RelV S ρ (Rr S ρ w) w (a.eval s) (.own nm)) ∨ RelV S ρ (Rr S ρ w) w (a.eval s) (.sl nm 0 len)) := by
    rcases hsv with ⟨rfl, rfl, rfl⟩ | ⟨rfl, ht⟩
    · exact ⟨Nat.le_refl _, rfl, rfl, fun _ _ => rfl, c0a, .inl ⟨rfl, hus⟩⟩
    · have hle : len ≤ blk.len := by
        generalize a.eval s = us at hus
        cases hus with
        | slNil => omega
        | sl hb hs hl hc hcap => simp [shape, hblk] at hs; omega
      obtain ⟨t1, t2, t3, t4, t5⟩ := takeB_ok ht hle
      exact ⟨hle, t3, t4, t5, t1, .inr hus⟩
  obtain ⟨f1, f2, f3, f4, f5, f6⟩ := hfacts
  obtain ⟨olds, hhead, hρ, hol, hlo, hold⟩ := head_of hr.mem hblk f5 f1 f2 f3 f4 f6
  have hesz : blk.esz = te.size := by rw [← f2, c1, hsz']
  rw [hesz] at hhead hol hold
  have hmax : len + yb.len ≤ maxLen := by
    have h2 : blk'.len ≤ blk'.len * te.bytes := Nat.le_mul_of_pos_right _ hby'
    rw [c3, f3] at h2 hb
    unfold maxLen; omega
  have hb' : (len + yb.len) * te.bytes ≤ 140737488355328 := by rw [c3, f3] at hb; exact hb
  have hlen' : len + yb.len = blk'.len := by rw [c3, f3]
  have hes' : blk'.esz = te.size := by rw [c2, hsz']
  obtain ⟨k1, k2⟩ := cat_content hc (R := Rr S ρ w) (w := w) (olds := olds) (news := news) (by rw [hol, f3, f2, hesz]) (by rw [f3]; exact hlo)
    (fun i j x hi hx => by rw [f2, hesz]; exact hold i j x (by omega) hx) hnews (lies_len hlies)
  have hrunop : ∀ {v : Value} {w' : World}, (Builtin.append_ #[t, tx] ty #[a.eval s, a.eval x]).run P w = .ok v w' → (execOp a.eval ⟨some d, .call ⟨.builtin .append, #[s, x], #[t, tx]⟩, ty, pos, after, g⟩).run P w = .ok (.value v) w' := by
    intro v w' h
    simp only [execOp, resolve, List.map_toArray, List.map_cons, List.map_nil, pure_bind, invoke, builtin]
    exact run_v h
  have hdn : d < n := Nat.le_of_ble_eq_true hd
  rcases run_app (P := P) (ty := ty) hT he hz' hhead hsrc hb' hmax with ⟨h0, hm0, hrun⟩ | ⟨g', cap, cur, et, hv, hg, hroom, hcm, hcs, htake, hrun⟩ | ⟨w', c, cap, hrun, hext, hh, hcs, hcap, hcm, htake⟩
  · -- nil stays nil
    have hn : nm < S.length := (List.getElem?_eq_some_iff.1 hblk).1
    have hlen0 : len = 0 ∧ ρ nm = none := by
      rcases f6 with ⟨hl, hu⟩ | hu
      · rw [h0] at hu
        cases hu with
        | ownNil hb hs => exact ⟨by simp [shape, hblk] at hs; omega, hb⟩
      · rw [h0] at hu
        cases hu with
        | slNil hb hs => exact ⟨rfl, hb⟩
    have hb0 : blk'.len = 0 := by omega
    obtain ⟨hlenS, hget⟩ := killS_get hS
    have hnm : S'[nm]? = some blk' := by
      have hlt : nm < S'.length := by omega
      rcases hget nm _ (List.getElem?_eq_getElem hlt) with ⟨_, h⟩ | ⟨h, _⟩
      · rw [List.getElem?_eq_getElem hlt, h]
      · omega
    have hother : ∀ (j : Nat) x', S'[j]? = some x' → j ≠ nm → ∃ x, S[j]? = some x ∧ Killed nm x x' := by
      intro j x' hx hne
      rcases hget j x' hx with ⟨h, _⟩ | ⟨_, h⟩
      · omega
      · exact h
    have hshape : ∀ j, j < S.length → j ≠ nm → shape S' j = shape S j := by
      intro j hj hne
      obtain ⟨x, hx, hk⟩ := hother j _ (List.getElem?_eq_getElem (by omega)) hne
      unfold shape
      rw [List.getElem?_eq_getElem (by omega : j < S'.length), hx]
      rcases hk with ⟨h, _⟩ | ⟨cs, cs', h1, h2, _⟩
      · rw [h]
      · rw [h1, h2]; rfl
    have hR : ∀ k, Rr S ρ w k → Rr S' ρ w k ∧ w.heap[k]? = w.heap[k]? := fun k hk => ⟨hk, rfl⟩
    have hkill : ∀ {u : Value} {x : V}, RelV S ρ (Rr S ρ w) w u x → RelV S' ρ (Rr S' ρ w) w u (x.kill nm) := by
      intro u x h
      unfold V.kill
      cases hu : x.uses nm with
      | true => exact .bot u
      | false => exact h.mono hR fun m hu' => ⟨rfl, hshape m (h.uses_lt m hu') (fun he => by subst he; rw [hu] at hu'; cases hu'), fun _ _ _ _ h => h⟩
    have hfr : FrOK n F' S' ρ a w := ⟨hr.fr.size, hr.fr.defers, fun t gs v hl => by
      obtain ⟨v', hl', rfl⟩ := killF_get hF hl
      exact ⟨fun hg => hkill ((hr.fr.get t gs v' hl').1 hg), (hr.fr.get t gs v' hl').2⟩⟩
    refine ⟨_, w, ρ, _, hrunop hrun, ⟨hfr.put hdn ⟨fun _ => by rw [h0]; exact .ownNil (esz := blk'.esz) hlen0.2 (by simp [shape, hnm, hb0]), fun h => absurd trivial h⟩, ⟨hr.mem.below, by have := hr.mem.np; omega, fun i b hi hb => let ⟨h1, cs, h2⟩ := hr.mem.pin i b hi hb; let ⟨_, h4⟩ := pin_killed hblk f5 (by omega) hother h2; ⟨h1, h4⟩, fun i b hi hb => hr.mem.lt i b (by omega) hb, fun i j b hi hj => hr.mem.inj i j b (by omega) (by omega), hr.mem.hid.mono (by omega) (Nat.le_refl _), fun i blk'' hbi => ?_⟩⟩, .inl ⟨_, rfl, rfl⟩⟩
    by_cases h : i = nm
    · subst h
      rw [hnm] at hbi; cases hbi
      have key : ρ i = none ∧ blk'.len = 0 := ⟨hlen0.2, hb0⟩
      cases blk' <;> first | (simp [Blk.isRow] at c0; done) | exact Or.inl key
    · obtain ⟨x, hx, hk⟩ := hother i _ hbi h
      have hold := hr.mem.blk i x hx
      rcases hk with ⟨rfl, hnc⟩ | ⟨cs, cs', rfl, rfl, hcl, hcg⟩
      · cases blk'' with
        | gone => trivial
        | cells cs => exact absurd rfl (hnc cs)
        | ints k xs => rcases hold with h | ⟨b, c, ty, h1, h2, h3, h4, h5⟩
                       · exact .inl h
                       · exact .inr ⟨b, c, ty, h1, h2, h3, h4, fun i j x hi hx => let ⟨v, hv, hr⟩ := h5 i j x hi hx; ⟨v, hv, hr.mono hR⟩⟩
        | bools xs => rcases hold with h | ⟨b, c, ty, h1, h2, h3, h4, h5⟩
                      · exact .inl h
                      · exact .inr ⟨b, c, ty, h1, h2, h3, h4, fun i j x hi hx => let ⟨v, hv, hr⟩ := h5 i j x hi hx; ⟨v, hv, hr.mono hR⟩⟩
        | row esz m get => rcases hold with h | ⟨b, c, ty, h1, h2, h3, h4, h5⟩
                           · exact .inl h
                           · exact .inr ⟨b, c, ty, h1, h2, h3, h4, fun i j x hi hx => let ⟨v, hv, hr⟩ := h5 i j x hi hx; ⟨v, hv, hr.mono hR⟩⟩
      · obtain ⟨b, vals, ty, h1, h2, h3, h4⟩ := hold
        refine ⟨b, vals, ty, h1, h2, by rw [hcl]; exact h3, fun k v x hv hx => ?_⟩
        obtain ⟨y, hy, rfl⟩ := hcg k x hx
        exact hkill (h4 k v y hv hy)
  · -- there is room
    have hρg := hρ g' cap hv
    have hcl : (olds ++ news ++ cur.toList.drop (len * te.size + news.length)).toArray.size = cur.size := by
      have : len * te.size + news.length ≤ cur.size := by rw [hsrc.newsLen, hcs, ← Nat.add_mul]; exact Nat.mul_le_mul_right _ hroom
      simp [hol]; omega
    have hgr : Grew S ρ w (w.setRow g' (olds ++ news ++ cur.toList.drop (len * te.size + news.length)).toArray) nm g' blk' cap := by
      refine ⟨rfl, rfl, rfl, by simp, fun k hk hne => setRow_other w g' k _ (fun he => hne (by rw [he]; exact hρg)), .inl hρg, ⟨_, et, setRow_heap w g' cur _ et _ hg, by rw [hcl, hcs, hes'], k1, fun i j x hi hx => ?_⟩, by omega, hcm⟩
      obtain ⟨v, hv, hrv⟩ := k2 i j x hi hx
      refine ⟨v, ?_, hrv⟩
      have hlt := (List.getElem?_eq_some_iff.1 hv).1
      simp only [List.getElem?_toArray]
      rw [List.getElem?_append_left hlt]; exact hv
    have := grew_rel hr hblk f5 c0 hgr hF hS hdn
    rw [← hlen'] at this
    exact ⟨_, _, _, _, hrunop hrun, this, .inl ⟨_, rfl, rfl⟩⟩
  · -- a new row
    have hgr : Grew S ρ w w' nm w.heap.size blk' cap := by
      refine ⟨hext.os, hext.tape, hext.output, hext.size, fun k hk _ => hext.block k hk, .inr (Nat.le_refl _), ⟨c, e, hh, by rw [hcs, hes'], k1, fun i j x hi hx => ?_⟩, by omega, hcm⟩
      obtain ⟨v, hv, hrv⟩ := k2 i j x hi hx
      refine ⟨v, ?_, hrv⟩
      rw [← htake, List.getElem?_take] at hv
      split at hv
      · simpa using hv
      · cases hv
    have := grew_rel hr hblk f5 c0 hgr hF hS hdn
    rw [← hlen'] at this
    exact ⟨_, _, _, _, hrunop hrun, this, .inl ⟨_, rfl, rfl⟩⟩

end
end Go.Wk

/- append onto nil, slice literals, stores into rows; the steps as they are used. -/
namespace Go.Wk
set_option maxRecDepth 10000
open Go.RowKit

section
variable {P : Program} {env : Env} {w0 : Base} {n : Nat} {l0 : List Oper} {K : Fr → List Blk → Prop} {l : List Oper} {F : Fr} {S : List Blk}

/-- A row of the call's own that is nil. -/
theorem grow_none {ρ : Nat → Option Nat} {a : Act} {w : World} (hr : Rel w0 n F S ρ a w) {d : Nat} (hd : d < n) {blk : Blk} (hrow : blk.isRow = true) (h0 : blk.len = 0) :
    Rel w0 n ((d, [], .own S.length) :: F) (S ++ [blk]) (grw ρ S.length none) (a.put (some d) (.slice none 0 0)) w := by
  have hmv : Moves S ρ w (S ++ [blk]) (grw ρ S.length none) w := by
    exact ⟨fun k hk => ⟨grw_rr (fun b hb => by cases hb) (Nat.le_refl _) hk, rfl⟩, fun nm hn => ⟨grw_lt _ _ hn, shape_app _ hn, fun b e m _ h => h⟩⟩
  refine put_new hr hmv ⟨hr.mem.below, by have := hr.mem.np; simp; omega, fun i b hi hb => let ⟨h1, cs, h2⟩ := hr.mem.pin i b hi hb; have := hr.mem.np; ⟨by rw [grw_lt _ _ (by omega)]; exact h1, cs, by rw [List.getElem?_append_left (by omega)]; exact h2⟩, fun i b hi hb => ?_, fun i j b hi hj hbi hbj => ?_, grw_hid hr.mem.hid (by simp) (Nat.le_refl _) (fun b hb => by cases hb), fun i blk' hb => ?_⟩ hd (.ownNil (esz := blk.esz) (grw_same _ _ _) (by simp [shape, h0]))
  · by_cases hlt : i = S.length
    · subst hlt; rw [grw_same] at hb; cases hb
    · rw [grw_lt _ _ (by simp at hi; omega)] at hb; exact hr.mem.lt i b (by simp at hi; omega) hb
  · by_cases h1 : i = S.length
    · subst h1; rw [grw_same] at hbi; cases hbi
    · by_cases h2 : j = S.length
      · subst h2; rw [grw_same] at hbj; cases hbj
      · rw [grw_lt _ _ (by simp at hi; omega)] at hbi; rw [grw_lt _ _ (by simp at hj; omega)] at hbj; exact hr.mem.inj i j b (by simp at hi; omega) (by simp at hj; omega) hbi hbj
  · by_cases hlt : i < S.length
    · rw [List.getElem?_append_left hlt] at hb
      exact hmv.blk hlt (hr.mem.blk i blk' hb) fun b _ _ => rfl
    · have : i = S.length := by have := (List.getElem?_eq_some_iff.1 hb).1; simp at this; omega
      subst this
      simp at hb; subst hb
      have key : grw ρ S.length none S.length = none ∧ blk.len = 0 := ⟨grw_same _ _ _, h0⟩
      cases blk <;> first | (simp [Blk.isRow] at hrow; done) | exact Or.inl key

theorem steps_app_nil {d : Nat} {s x : Operand} {t tx ty e e' : TypeId} {pos : String} {after : Array Edge} {g : Option (Nat × Bool)} {te : TI} {i1 i2 j1 j2 : Nat} {z1 z2 : Value} {nm : Nat} {xv : V} {ps qs : List Prop} {yb : Blk} {S' : List Blk}
    (hT : TIok P t ⟨.slice e, i1, i2, z1⟩) (hTx : TIok P tx ⟨.slice e', j1, j2, z2⟩) (he : TIok P e te) (hz : Nat.beq te.zero.cells.size te.size = true) (hpos : Nat.blt 0 te.size = true) (hby : Nat.blt 0 te.bytes = true)
    (hs : rd F [] s = some (.nil, ps)) (hps : allP ps) (hx : rd F [] x = some (xv, qs)) (hqs : allP qs) (hy : srcB S xv = some yb) (hrow : yb.isRow = true) (h1 : yb.ones) (hsz : Nat.beq yb.esz te.size = true) (hb : yb.len * te.bytes ≤ 140737488355328)
    (hS : snocO S yb = some (S', nm)) (hd : Nat.blt d n = true) :
    StepsTo P n ⟨some d, .call ⟨.builtin .append, #[s, x], #[t, tx]⟩, ty, pos, after, g⟩ F S ((d, [], .own nm) :: F) S' := by
  rw [snocO_eq] at hS; cases hS
  intro w0 ρ a w hr
  have hz' := Nat.eq_of_beq_eq_true hz
  have hsz' := Nat.eq_of_beq_eq_true hsz
  have hpos' : 0 < te.size := Nat.le_of_ble_eq_true hpos
  have hby' : 0 < te.bytes := Nat.le_of_ble_eq_true hby
  have hus := rd_sound hr.fr hs hps trivial
  have hux := rd_sound hr.fr hx hqs trivial
  have hsn : a.eval s = .slice none 0 0 := by
    generalize a.eval s = u at hus
    cases hus; rfl
  have hlies := srcB_lies hr.mem hy hrow hux
  obtain ⟨dx, hdx, hkx⟩ := hTx.desc
  have := desc_slice hkx; subst this
  obtain ⟨news, hsrc, hnews⟩ := lies_src (P := P) hlies h1 hdx hsz' hpos'
  have hmax : 0 + yb.len ≤ maxLen := by
    have h2 : yb.len ≤ yb.len * te.bytes := Nat.le_mul_of_pos_right _ hby'
    unfold maxLen; omega
  have hrunop : ∀ {v : Value} {w' : World}, (Builtin.append_ #[t, tx] ty #[a.eval s, a.eval x]).run P w = .ok v w' → (execOp a.eval ⟨some d, .call ⟨.builtin .append, #[s, x], #[t, tx]⟩, ty, pos, after, g⟩).run P w = .ok (.value v) w' := by
    intro v w' h
    simp only [execOp, resolve, List.map_toArray, List.map_cons, List.map_nil, pure_bind, invoke, builtin]
    exact run_v h
  have hdn : d < n := Nat.le_of_ble_eq_true hd
  rcases run_app (P := P) (ty := ty) hT he hz' (v := a.eval s) (len := 0) (olds := []) (.inl ⟨hsn, rfl, rfl⟩) hsrc (by rw [Nat.zero_add]; exact hb) hmax with ⟨_, hm0, hrun⟩ | ⟨g', cap, cur, et, hv, _⟩ | ⟨w', c, cap, hrun, hext, hh, hcs, hcap, hcm, htake⟩
  · have := grow_none hr hdn hrow hm0
    exact ⟨_, w, _, _, hrunop hrun, by rw [hsn]; exact this, .inl ⟨_, rfl, rfl⟩⟩
  · rw [hsn] at hv; cases hv
  · have := new_row hr hext hdn hrow hh (by rw [hcs, hsz']) (by omega) hcm (lies_len hlies) fun i j x hi hx => by
      obtain ⟨v, hv, hrv⟩ := hnews i j x hi hx
      refine ⟨v, ?_, hrv⟩
      rw [List.nil_append] at htake
      rw [← htake, List.getElem?_take] at hv
      split at hv
      · simpa using hv
      · cases hv
    rw [Nat.zero_add] at hrun
    exact ⟨_, _, _, _, hrunop hrun, this, .inl ⟨_, rfl, rfl⟩⟩

/-! ### Slice literals -/

def aggD : List V → Option (List D)
  | [] => some []
  | .d x :: r => match aggD r with
    | some ds => some (x :: ds)
    | none => none
  | .nil :: r => match aggD r with
    | some ds => some (nilD :: ds)
    | none => none
  | _ => none
theorem aggD_get {cs : List V} {ds : List D} (h : aggD cs = some ds) : ds.length = cs.length ∧ ∀ (i : Nat) (x : D), ds[i]? = some x → cs[i]? = some (.d x) ∨ (cs[i]? = some .nil ∧ x = nilD) := by
  induction cs generalizing ds with
  | nil => simp [aggD] at h; subst h; simp
  | cons c r ih =>
    cases c <;> simp only [aggD, reduceCtorEq] at h
    all_goals
      cases hr : aggD r with
      | none => rw [hr] at h; simp at h
      | some ds' =>
        rw [hr] at h; simp at h; subst h
        obtain ⟨h1, h2⟩ := ih hr
        refine ⟨by simp [h1], fun i x hx => ?_⟩
        cases i with
        | zero => simp at hx; subst hx; simp
        | succ i => simpa using h2 i x (by simpa using hx)

def dcells : V → Option (List D)
  | .d (.agg ds) => some ds
  | .d x => some [x]
  | .nil => some [nilD]
  | .agg cs => aggD cs
  | _ => none

theorem dcells_rel {S : List Blk} {ρ : Nat → Option Nat} {R : Nat → Prop} {w : World} {v : V} {ds : List D} (h : dcells v = some ds) {u : Value} (hu : RelV S ρ R w u v) : u.cells.size = ds.length ∧ ∀ (i : Nat) c x, u.cells[i]? = some c → ds[i]? = some x → RelD R w c x := by
  have one : ∀ {x : D}, RelD R w u x → u.cells = #[u] → u.cells.size = [x].length ∧ ∀ (i : Nat) c y, u.cells[i]? = some c → [x][i]? = some y → RelD R w c y := by
    intro x h he
    rw [he]
    refine ⟨rfl, fun i c y hc hy => ?_⟩
    cases i with
    | zero => simp at hc hy; subst hc hy; exact h
    | succ i => simp at hy
  cases v <;> simp only [dcells, reduceCtorEq] at h
  case d x =>
    cases x <;> simp at h <;> subst h
    case agg cs =>
      cases hu with | d hu => cases hu with
        | agg vals _ hl hr => exact ⟨by simpa [Value.cells] using hl, fun i c y hc hy => hr i c y (by simpa [Value.cells] using hc) hy⟩
    all_goals
      cases hu with
      | d hu => exact one hu (by cases hu <;> rfl)
  case nil => simp at h; subst h; cases hu; exact one (.nil 0 _) rfl
  case agg cs =>
    obtain ⟨h1, h2⟩ := aggD_get h
    cases hu with
    | agg vals _ hl hr =>
      refine ⟨by simp [Value.cells, h1, hl], fun i c y hc hy => ?_⟩
      have hc' : vals[i]? = some c := by simpa [Value.cells] using hc
      rcases h2 i y hy with hv | ⟨hv, rfl⟩
      · have := hr i c _ hc' hv
        cases this with | d h => exact h
      · have := hr i c _ hc' hv
        cases this; exact .nil 0 _

def litD (F : Fr) (size : Nat) : Nat → List (Nat × Operand) → Option (List (List D) × List Prop)
  | _, [] => some ([], [])
  | k, (i, x) :: r => bif Nat.beq i k then (match rd F [] x with
    | some (v, p) => match dcells v with
      | some ds => bif Nat.beq ds.length size then (match litD F size (k + 1) r with
        | some (css, q) => some (ds :: css, p ++ q)
        | none => none) else none
      | none => none
    | none => none) else none

theorem litD_rel {ρ : Nat → Option Nat} {a : Act} {w : World} (hf : FrOK n F S ρ a w) {size k : Nat} {parts : List (Nat × Operand)} {css : List (List D)} {ps : List Prop} (h : litD F size k parts = some (css, ps)) (hp : allP ps) :
    css.length = parts.length ∧ ∀ (i : Nat) (p : Nat × Operand), parts[i]? = some p → p.1 = k + i ∧ (a.eval p.2).cells.size = size ∧ ∃ ds, css[i]? = some ds ∧ ds.length = size ∧ ∀ (j : Nat) c x, (a.eval p.2).cells[j]? = some c → ds[j]? = some x → RelD (Rr S ρ w) w c x := by
  induction parts generalizing k css ps with
  | nil => simp [litD] at h; obtain ⟨rfl, rfl⟩ := h; simp
  | cons q r ih =>
    obtain ⟨i, x⟩ := q
    simp only [litD] at h
    cases hb : Nat.beq i k with
    | false => simp [hb] at h
    | true =>
      simp only [hb, cond_true] at h
      have hik := Nat.eq_of_beq_eq_true hb
      split at h
      · rename_i v p hv
        split at h
        · rename_i ds hds
          cases hl : Nat.beq ds.length size with
          | false => simp [hl] at h
          | true =>
            simp only [hl, cond_true] at h
            have hlen := Nat.eq_of_beq_eq_true hl
            split at h
            · rename_i css' q' hr
              simp at h; obtain ⟨rfl, rfl⟩ := h
              obtain ⟨hp1, hp2⟩ := allP_append hp
              obtain ⟨h1, h2⟩ := ih hr hp2
              obtain ⟨d1, d2⟩ := dcells_rel hds (rd_sound hf hv hp1 trivial)
              refine ⟨by simp [h1], fun m p' hp' => ?_⟩
              cases m with
              | zero => simp at hp'; subst hp'; exact ⟨by simpa using hik, by rw [d1, hlen], ds, by simp, hlen, d2⟩
              | succ m =>
                obtain ⟨e1, e2, ds', e3, e4⟩ := h2 m p' (by simpa using hp')
                exact ⟨by omega, e2, ds', by simpa using e3, e4⟩
            · simp at h
        · simp at h
      · simp at h

def allI : List (List D) → Option (List Int)
  | [] => some []
  | [.int .i64 n] :: r => match allI r with
    | some ns => some (n :: ns)
    | none => none
  | _ => none
def allB : List (List D) → Option (List Bool)
  | [] => some []
  | [.bool n] :: r => match allB r with
    | some ns => some (n :: ns)
    | none => none
  | _ => none
theorem allI_eq {css : List (List D)} {ns : List Int} (h : allI css = some ns) : css = ns.map fun n => [.int .i64 n] := by
  induction css generalizing ns with
  | nil => simp [allI] at h; subst h; rfl
  | cons c r ih =>
    unfold allI at h
    split at h
    · rename_i hc; simp at hc
    · rename_i n r' hc
      obtain ⟨rfl, rfl⟩ := List.cons.inj hc
      split at h
      · rename_i ns' hr; simp at h; subst h; rw [ih hr]; rfl
      · simp at h
    · simp at h
theorem allB_eq {css : List (List D)} {ns : List Bool} (h : allB css = some ns) : css = ns.map fun n => [.bool n] := by
  induction css generalizing ns with
  | nil => simp [allB] at h; subst h; rfl
  | cons c r ih =>
    unfold allB at h
    split at h
    · rename_i hc; simp at hc
    · rename_i n r' hc
      obtain ⟨rfl, rfl⟩ := List.cons.inj hc
      split at h
      · rename_i ns' hr; simp at h; subst h; rw [ih hr]; rfl
      · simp at h
    · simp at h
def litB (size : Nat) (css : List (List D)) : Blk :=
  match allI css with
  | some ns => bif Nat.beq size 1 then .ints .i64 ns else .row size css.length fun i => css.getD i []
  | none => match allB css with
    | some ns => bif Nat.beq size 1 then .bools ns else .row size css.length fun i => css.getD i []
    | none => .row size css.length fun i => css.getD i []
theorem litB_ok (size : Nat) (css : List (List D)) : (litB size css).isRow = true ∧ (litB size css).esz = size ∧ (litB size css).len = css.length ∧ ∀ i, i < css.length → (litB size css).get i = css.getD i [] := by
  have row : (Blk.row size css.length fun i => css.getD i []).isRow = true ∧ (Blk.row size css.length fun i => css.getD i []).esz = size ∧ (Blk.row size css.length fun i => css.getD i []).len = css.length ∧
      ∀ i, i < css.length → (Blk.row size css.length fun i => css.getD i []).get i = css.getD i [] := ⟨rfl, rfl, rfl, fun _ _ => rfl⟩
  unfold litB
  split
  · rename_i ns hns
    have he := allI_eq hns
    cases hb : Nat.beq size 1 with
    | false => exact row
    | true =>
      have := Nat.eq_of_beq_eq_true hb
      subst this
      subst he
      refine ⟨rfl, rfl, by simp [Blk.len], fun i hi => ?_⟩
      simp at hi
      simp [Blk.get, hi]
  · split
    · rename_i ns hns
      have he := allB_eq hns
      cases hb : Nat.beq size 1 with
      | false => exact row
      | true =>
        have := Nat.eq_of_beq_eq_true hb
        subst this
        subst he
        refine ⟨rfl, rfl, by simp [Blk.len], fun i hi => ?_⟩
        simp at hi
        simp [Blk.get, hi]
    · exact row

theorem fill_run (size : Nat) : ∀ (parts : List (Nat × Value)) (k : Nat) (cells : Array Value), (∀ (i : Nat) p, parts[i]? = some p → p.1 = k + i ∧ p.2.cells.size = size) → (k + parts.length) * size ≤ cells.size →
    ∃ cells', Instr.fill (fun i => some (i * size, size)) cells parts = some cells' ∧ cells'.size = cells.size ∧ (∀ m, m < k * size → cells'[m]? = cells[m]?) ∧ ∀ (i j : Nat) p, parts[i]? = some p → j < size → cells'[(k + i) * size + j]? = p.2.cells[j]?
  | [], k, cells, _, _ => ⟨cells, rfl, rfl, fun _ _ => rfl, fun i j p h => by simp at h⟩
  | (i0, v) :: r, k, cells, h, hfit => by
    obtain ⟨hk0, hsz⟩ := h 0 (i0, v) (by simp)
    have hk1 : k = i0 := by simpa using hk0.symm
    subst hk1
    have hmul : (k + 1) * size ≤ cells.size := Nat.le_trans (Nat.mul_le_mul_right _ (by simp)) hfit
    have hA : (k + 1) * size = k * size + size := by rw [Nat.add_mul, Nat.one_mul]
    rw [hA] at hmul
    have hfold := fold_set (k * size) v.cells.toList 0 cells
    have hzip : v.cells.zipIdx.foldl (fun cs (p : Value × Nat) => cs.setIfInBounds (k * size + p.2) p.1) cells = (v.cells.toList.zipIdx 0).foldl (fun cs (p : Value × Nat) => cs.setIfInBounds (k * size + p.2) p.1) cells := by
      rw [← Array.foldl_toList, Array.toList_zipIdx]
    obtain ⟨_, f1, f2⟩ := hfold
    rw [← hzip] at f1 f2
    obtain ⟨cells', g1, g2, g3, g4⟩ := fill_run size r (k + 1) (v.cells.zipIdx.foldl (fun cs (p : Value × Nat) => cs.setIfInBounds (k * size + p.2) p.1) cells)
      (fun i p hp => by have := h (i + 1) p (by simpa using hp); exact ⟨by omega, this.2⟩) (by rw [f1]; refine Nat.le_trans (Nat.mul_le_mul_right _ ?_) hfit; simp; omega)
    have hsz' : v.cells.size = size := hsz
    refine ⟨cells', ?_, by rw [g2, f1], fun m hm => ?_, fun i j p hp hj => ?_⟩
    · have hn : (v.cells.size ≠ size || k * size + v.cells.size > cells.size) = false := by simp [hsz']; omega
      simp only [Instr.fill, hn]
      exact g1
    · rw [g3 m (by omega), f2 m (by simp [hsz']; omega), if_neg (by omega)]
    · cases i with
      | zero =>
        simp at hp; subst hp
        rw [Nat.add_zero, g3 _ (by omega), f2 _ (by simp [hsz']; omega), if_pos (by simp [hsz']; omega)]
        simp
      | succ i =>
        rw [show k + (i + 1) = k + 1 + i by omega]
        exact g4 i j p (by simpa using hp) hj

theorem steps_lit {d len : Nat} {T ty e : TypeId} {s by_ : Nat} {z : Value} {parts : Array (Nat × Operand)} {pos : String} {after : Array Edge} {g : Option (Nat × Bool)} {te : TI} {ps : List Prop} {css : List (List D)} {S' : List Blk} {nm : Nat}
    (hT : TIok P T ⟨.slice e, s, by_, z⟩) (he : TIok P e te) (hz : Nat.beq te.zero.cells.size te.size = true) (hx : litD F te.size 0 parts.toList = some (css, ps)) (hp : allP ps) (hlen : Nat.beq parts.toList.length len = true) (hsm : Nat.ble (len * te.size) 16777216 = true) (hpos : Nat.blt 0 te.size = true)
    (hS : snocO S (litB te.size css) = some (S', nm)) (hd : Nat.blt d n = true) : StepsTo P n ⟨some d, .buildSlice T len parts, ty, pos, after, g⟩ F S ((d, [], .own nm) :: F) S' := by
  rw [snocO_eq] at hS; cases hS
  intro w0 ρ a w hr
  have hz' := Nat.eq_of_beq_eq_true hz
  have hlen' := Nat.eq_of_beq_eq_true hlen
  have hsm' : len * te.size ≤ 16777216 := Nat.le_of_ble_eq_true hsm
  have hpos' : 0 < te.size := Nat.le_of_ble_eq_true hpos
  obtain ⟨l1, l2⟩ := litD_rel hr.fr hx hp
  obtain ⟨b1, b2, b3, b4⟩ := litB_ok te.size css
  obtain ⟨dd, hdd, hk⟩ := hT.desc
  have := desc_slice hk; subst this
  obtain ⟨i, hi, hsz, hby, hzero⟩ := he.info
  let zero : Array Value := if len * te.size = 0 then #[] else te.zero.cells
  let base : Array Value := (Array.range (len * te.size)).map (zero[· % zero.size]!)
  let vparts := parts.toList.map fun (p : Nat × Operand) => (p.1, a.eval p.2)
  obtain ⟨cells', f1, f2, _, f4⟩ := fill_run te.size vparts 0 base (fun i p hp' => by
    rw [List.getElem?_map] at hp'
    cases hq : parts.toList[i]? with
    | none => rw [hq] at hp'; simp at hp'
    | some q => rw [hq] at hp'; simp at hp'; subst hp'; obtain ⟨e1, e2, _⟩ := l2 i q hq; exact ⟨e1, e2⟩) (by simp [base, vparts, hlen'])
  have hbase : base.size = len * te.size := by simp [base]
  have hrun : (Instr.buildSlice T len (parts.map fun (p : Nat × Operand) => (p.1, a.eval p.2))).run P w = .ok (.slice (some ⟨w.heap.size, 0, none⟩) len len) (w.alloc (.cells cells' e)) := by
    have hpl : (parts.map fun (p : Nat × Operand) => (p.1, a.eval p.2)).toList = vparts := by simp [vparts]
    have hng : ¬ (len * te.size > 2 ^ 24) := by omega
    by_cases h0 : len * te.size = 0
    · have f1' := f1
      simp only [base, zero, if_pos h0] at f1'
      simp only [Instr.buildSlice, Sem.run_bind, run_underlying hdd, Result.andThen, run_sizeOf he, if_neg hng, if_pos h0, Sem.run_pure, hpl, f1']
      simp [newRow]
    · have f1' := f1
      simp only [base, zero, if_neg h0] at f1'
      simp only [Instr.buildSlice, Sem.run_bind, run_underlying hdd, Result.andThen, run_sizeOf he, if_neg hng, if_neg h0, Sem.run_pure, hpl, zeroValue, typeInfo, run_program, hi, hzero, f1']
      simp [newRow]
  have hcl : len = (litB te.size css).len := by rw [b3, l1, hlen']
  have hrow := new_row (w' := w.alloc (.cells cells' e)) hr (alloc_ext w _) (Nat.le_of_ble_eq_true hd) (blk := litB te.size css) (cap := len) (c := cells') (e := e) b1 (heap_alloc_new w _)
    (by rw [f2, hbase, b2]) (by omega) (by
      have : len ≤ len * te.size := Nat.le_mul_of_pos_right _ hpos'
      unfold maxLen; omega) (fun i hi => by
      have hlt : i < parts.toList.length := by omega
      obtain ⟨_, _, ds, e3, e4, _⟩ := l2 i _ (List.getElem?_eq_getElem hlt)
      rw [b4 i (by omega), b2, List.getD_eq_getElem?_getD, e3]; exact e4) fun i j x hi hx => by
      have hlt : i < parts.toList.length := by omega
      obtain ⟨_, h2, ds, e3, e4, e5⟩ := l2 i _ (List.getElem?_eq_getElem hlt)
      rw [b4 i (by omega), List.getD_eq_getElem?_getD, e3] at hx
      simp at hx
      have hj : j < te.size := by rw [← e4]; exact (List.getElem?_eq_some_iff.1 hx).1
      have hj' : j < (a.eval (parts.toList[i]).2).cells.size := by rw [h2]; exact hj
      refine ⟨(a.eval (parts.toList[i]).2).cells[j], ?_, e5 j _ x (Array.getElem?_eq_getElem hj') hx⟩
      have := f4 i j ((parts.toList[i]).1, a.eval (parts.toList[i]).2) (by simp [vparts, List.getElem?_map, List.getElem?_eq_getElem hlt]) hj
      rw [Nat.zero_add] at this
      rw [b2, this]
      exact Array.getElem?_eq_getElem hj'
  rw [← hcl] at hrow
  exact ⟨_, _, _, _, by simp only [execOp]; exact run_v hrun, hrow, .inl ⟨_, rfl, rfl⟩⟩

end
end Go.Wk

/- Stores into rows; the steps as they are used. -/
namespace Go.Wk
set_option maxRecDepth 10000
open Go.RowKit

/-- A row behind a store at element i, from cell off on. -/
def rowSet (blk : Blk) (i off : Nat) (ds : List D) : Option Blk :=
  match blk with
  | .ints k xs => match off, ds with
    | 0, [.int k' m] => if k = k' then some (.ints k (xs.set i m)) else none
    | _, _ => none
  | .bools xs => match off, ds with
    | 0, [.bool b] => some (.bools (xs.set i b))
    | _, _ => none
  | .row esz n get => bif Nat.ble (off + ds.length) esz then
      match off with
      | 0 => bif Nat.beq ds.length esz then some (.row esz n fun j => if j = i then ds else get j) else some (.row esz n fun j => if j = i then (get i).take off ++ ds ++ (get i).drop (off + ds.length) else get j)
      | _ => some (.row esz n fun j => if j = i then (get i).take off ++ ds ++ (get i).drop (off + ds.length) else get j)
    else none
  | _ => none

theorem rowSet_ok {blk blk' : Blk} {i off : Nat} {ds : List D} (h : rowSet blk i off ds = some blk') (hi : i < blk.len) (hlen : (blk.get i).length = blk.esz) : blk.isRow = true ∧ blk'.isRow = true ∧ blk'.esz = blk.esz ∧ blk'.len = blk.len ∧ off + ds.length ≤ blk.esz ∧
    (∀ j, j ≠ i → blk'.get j = blk.get j) ∧ (blk'.get i).length = blk.esz ∧ ∀ c : Nat, (blk'.get i)[c]? = if off ≤ c ∧ c < off + ds.length then ds[c - off]? else (blk.get i)[c]? := by
  unfold rowSet at h
  split at h
  · rename_i k xs
    split at h
    · rename_i k' m
      split at h
      · subst_vars
        simp at h; subst h
        simp only [Blk.len] at hi
        refine ⟨rfl, rfl, rfl, by simp [Blk.len], by simp [Blk.esz], fun j hj => ?_, rfl, fun c => ?_⟩
        · simp only [Blk.get, List.getD_eq_getElem?_getD, List.getElem?_set_ne (Ne.symm hj)]
        · cases c with
          | zero => simp [Blk.get, hi]
          | succ c => simp [Blk.get]
      · simp at h
    · simp at h
  · rename_i xs
    split at h
    · simp at h; subst h
      simp only [Blk.len] at hi
      refine ⟨rfl, rfl, rfl, by simp [Blk.len], by simp [Blk.esz], fun j hj => ?_, rfl, fun c => ?_⟩
      · simp only [Blk.get, List.getD_eq_getElem?_getD, List.getElem?_set_ne (Ne.symm hj)]
      · cases c with
        | zero => simp [Blk.get, hi]
        | succ c => simp [Blk.get]
    · simp at h
  · rename_i esz n get
    cases hb : Nat.ble (off + ds.length) esz with
    | false => simp [hb] at h
    | true =>
      have hfit : off + ds.length ≤ esz := Nat.le_of_ble_eq_true hb
      have gen : ∀ blk'', blk'' = Blk.row esz n (fun j => if j = i then (get i).take off ++ ds ++ (get i).drop (off + ds.length) else get j) → (Blk.row esz n get).isRow = true ∧ blk''.isRow = true ∧ blk''.esz = (Blk.row esz n get).esz ∧ blk''.len = (Blk.row esz n get).len ∧ off + ds.length ≤ (Blk.row esz n get).esz ∧
          (∀ j, j ≠ i → blk''.get j = (Blk.row esz n get).get j) ∧ (blk''.get i).length = (Blk.row esz n get).esz ∧ ∀ c : Nat, (blk''.get i)[c]? = if off ≤ c ∧ c < off + ds.length then ds[c - off]? else ((Blk.row esz n get).get i)[c]? := by
        rintro _ rfl
        have hl : (get i).length = esz := hlen
        refine ⟨rfl, rfl, rfl, rfl, hfit, fun j hj => by simp [Blk.get, hj], by simp [Blk.get, Blk.esz, hl]; omega, fun c => ?_⟩
        simp only [Blk.get, if_true]
        have hto : ((get i).take off).length = off := by simp; omega
        by_cases h1 : c < off
        · rw [if_neg (by omega), List.append_assoc, List.getElem?_append_left (by omega), List.getElem?_take, if_pos h1]
        · by_cases h2 : c < off + ds.length
          · rw [if_pos ⟨by omega, h2⟩, List.append_assoc, List.getElem?_append_right (by omega), hto, List.getElem?_append_left (by omega)]
          · rw [if_neg (by omega), List.getElem?_append_right (by simp; omega), List.getElem?_drop]
            congr 1
            simp [hto]; omega
      simp only [hb, cond_true] at h
      split at h
      · cases hb2 : Nat.beq ds.length esz with
        | false => simp [hb2] at h; exact gen _ (by rw [← h]; simp)
        | true =>
          simp [hb2] at h; subst h
          have he := Nat.eq_of_beq_eq_true hb2
          refine ⟨rfl, rfl, rfl, rfl, by simp [Blk.esz, he], fun j hj => by simp [Blk.get, hj], by simp [Blk.get, Blk.esz, he], fun c => ?_⟩
          simp only [Blk.get, if_true]
          by_cases hc : c < ds.length
          · rw [if_pos ⟨by omega, by omega⟩]; rfl
          · rw [if_neg (by omega), List.getElem?_eq_none (by omega)]
            have hl : (get i).length = esz := hlen
            rw [List.getElem?_eq_none (by omega)]
      · simp at h; exact gen _ (by rw [← h]; simp)
  · simp at h

section
variable {P : Program} {env : Env} {w0 : Base} {n : Nat} {l0 : List Oper} {K : Fr → List Blk → Prop} {l : List Oper} {F : Fr} {S : List Blk}

/-- A write into one block of a name. -/
def StepsIn (P : Program) (n : Nat) (o : Oper) (F : Fr) (S : List Blk) (F' : Fr) (S' : List Blk) (nm : Nat) : Prop :=
  ∀ w0 ρ a w, Rel w0 n F S ρ a w → ∃ w', (execOp a.eval o).run P w = .ok .skip w' ∧ Rel w0 n F' S' ρ (a.put o.dst undef) w' ∧ w'.heap.size = w.heap.size ∧ ∀ k, ρ nm ≠ some k → w'.heap[k]? = w.heap[k]?
theorem StepsIn.to {o : Oper} {F' : Fr} {S' : List Blk} {nm : Nat} (h : StepsIn P n o F S F' S' nm) : StepsTo P n o F S F' S' := fun w0 ρ a w hr =>
  let ⟨w', h1, h2, _, _⟩ := h w0 ρ a w hr
  ⟨.skip, w', ρ, _, h1, h2, .inr ⟨rfl, rfl⟩⟩

theorem steps_store_ep {T ty : TypeId} {p x : Operand} {pos : String} {after : Array Edge} {g : Option (Nat × Bool)} {ti : TI} {v : V} {qs ps : List Prop} {nm i off : Nat} {ds : List D} {blk blk' : Blk} {S' : List Blk} (hT : TIok P T ti)
    (hp : rd F [] p = some (.ep nm i off, qs)) (hq : allP qs) (hx : rd F [] x = some (v, ps)) (hps : allP ps) (hc : dcells v = some ds) (hl : Nat.beq ds.length ti.size = true) (h1 : ds.all D.one = true) (hb : nthF S nm = some blk)
    (hs : rowSet blk i off ds = some blk') (hS : setO S nm blk' = some S') : StepsIn P n ⟨none, .store T p x, ty, pos, after, g⟩ F S F S' nm := by
  intro w0 ρ a w hr
  rw [nthF_eq] at hb
  obtain ⟨rfl, hn⟩ := setO_eq hS
  have hl' := Nat.eq_of_beq_eq_true hl
  have hpv := rd_sound hr.fr hp hq trivial
  have hu := rd_sound hr.fr hx hps trivial
  obtain ⟨c1, c2⟩ := dcells_rel hc hu
  generalize hpe : a.eval p = pv at hpv
  cases hpv with
  | @ep _ b _ _ esz len hbρ hsh hi =>
  have hs' : blk.esz = esz ∧ blk.len = len := by simp [shape, hb] at hsh; exact hsh
  obtain ⟨rfl, rfl⟩ := hs'
  have hrow : blk.isRow = true := by
    unfold rowSet at hs
    split at hs <;> first | rfl | (simp at hs; done)
  rcases (hr.mem.blk nm _ hb).row hrow with ⟨hn0, _⟩ | ⟨b', cur, t, k1, k2, k3, k4, k5⟩
  · rw [hbρ] at hn0; cases hn0
  rw [hbρ] at k1; cases k1
  obtain ⟨_, r2, r3, r4, r5, r6, r7, r8⟩ := rowSet_ok hs hi (k4 i hi)
  let uv := (a.eval x).cells.toList
  have huv : uv.length = ds.length := by simpa [uv] using c1
  have h1' : ∀ z ∈ uv, z.oneCell' = true := by
    intro z hz
    obtain ⟨j, hj, rfl⟩ := List.mem_iff_getElem.1 hz
    have hjc : j < ds.length := by omega
    exact D.one_cell (by rw [List.all_eq_true] at h1; exact h1 _ (List.getElem_mem hjc)) (c2 j _ _ (by simp [uv]) (List.getElem?_eq_getElem hjc))
  have hmul : (i + 1) * blk.esz ≤ cur.size := Nat.le_trans (Nat.mul_le_mul_right _ hi) k3
  rw [Nat.add_mul, Nat.one_mul] at hmul
  have hfit : i * blk.esz + off + uv.length ≤ cur.size := by omega
  have hrun := run_storeAt hT (u := a.eval x) rfl (by rw [huv, hl']) h1' k2 hfit
  have hsz : (cur.toList.take (i * blk.esz + off) ++ uv ++ cur.toList.drop (i * blk.esz + off + uv.length)).toArray.size = cur.size := by simp; omega
  have hmv := moves_write (ρ := ρ) hn hbρ k2 hsz (blk' := blk') hb r3 r4
  have hcell : ∀ m : Nat, (cur.toList.take (i * blk.esz + off) ++ uv ++ cur.toList.drop (i * blk.esz + off + uv.length)).toArray[m]? = if i * blk.esz + off ≤ m ∧ m < i * blk.esz + off + uv.length then uv[m - (i * blk.esz + off)]? else cur[m]? := by
    intro m
    rw [List.getElem?_toArray, splice_get (by simpa using hfit)]
    simp
  refine ⟨_, by simp only [execOp, hpe, Sem.run_bind, hrun, Result.andThen, Sem.run_pure]; rfl, ⟨hmv.fr hr.fr, mem_write hr.mem hn hbρ k2 hsz hb (fun cs he => by subst he; simp [Blk.isRow] at hrow) r3 r4 ?_⟩, size_setRow _ _ _, fun k hk => setRow_other w b k _ (fun he => by subst he; exact hk hbρ)⟩
  have key : (ρ nm = none ∧ blk'.len = 0) ∨ ∃ b0 c ty, ρ nm = some b0 ∧ (w.setRow b (cur.toList.take (i * blk.esz + off) ++ uv ++ cur.toList.drop (i * blk.esz + off + uv.length)).toArray).heap[b0]? = some (.cells c ty (0, 0)) ∧ blk'.len * blk'.esz ≤ c.size ∧ (∀ i, i < blk'.len → (blk'.get i).length = blk'.esz) ∧
      ∀ (k j : Nat) y, k < blk'.len → (blk'.get k)[j]? = some y → ∃ v, c[k * blk'.esz + j]? = some v ∧ RelD (Rr (S.set nm blk') ρ (w.setRow b (cur.toList.take (i * blk.esz + off) ++ uv ++ cur.toList.drop (i * blk.esz + off + uv.length)).toArray)) (w.setRow b (cur.toList.take (i * blk.esz + off) ++ uv ++ cur.toList.drop (i * blk.esz + off + uv.length)).toArray) v y := by
    refine .inr ⟨b, _, t, hbρ, setRow_heap w b cur _ t _ k2, by rw [hsz, r3, r4]; exact k3, fun k hk => ?_, fun k j y hk hy => ?_⟩
    · by_cases h : k = i
      · subst h; rw [r7, r3]
      · rw [r6 k h, r3]; exact k4 k (by omega)
    · rw [r3, hcell]
      have hkl : k < blk.len := by omega
      by_cases h : k = i
      · subst h
        rw [r8 j] at hy
        split at hy
        · rename_i hj
          obtain ⟨cj, hcj⟩ : ∃ cj, uv[j - off]? = some cj := by
            have : j - off < uv.length := by omega
            exact ⟨_, List.getElem?_eq_getElem this⟩
          refine ⟨cj, ?_, hmv.d (c2 (j - off) cj y (by simpa [uv] using hcj) hy)⟩
          rw [if_pos ⟨by omega, by omega⟩, show k * blk.esz + j - (k * blk.esz + off) = j - off by omega]
          exact hcj
        · rename_i hj
          obtain ⟨v, hv, hrv⟩ := k5 k j y hkl hy
          exact ⟨v, by rw [if_neg (by omega)]; exact hv, hmv.d hrv⟩
      · rw [r6 k h] at hy
        obtain ⟨v, hv, hrv⟩ := k5 k j y hkl hy
        have hj : j < blk.esz := by have h9 := (List.getElem?_eq_some_iff.1 hy).1; rw [k4 k hkl] at h9; exact h9
        refine ⟨v, ?_, hmv.d hrv⟩
        rw [if_neg ?_]
        · exact hv
        · rintro ⟨ha, hb'⟩
          rcases Nat.lt_or_ge k i with hlt | hge
          · have h2 : (k + 1) * blk.esz ≤ i * blk.esz := Nat.mul_le_mul_right _ hlt
            rw [Nat.add_mul, Nat.one_mul] at h2; omega
          · have h2 : (i + 1) * blk.esz ≤ k * blk.esz := Nat.mul_le_mul_right _ (by omega)
            rw [Nat.add_mul, Nat.one_mul] at h2; omega
  cases blk' <;> first | (simp [Blk.isRow] at r2; done) | exact key

/-! ### As they are used -/

variable {d : Nat} {ty : TypeId} {pos : String} {after : Array Edge} {S' : List Blk} {F' : Fr} {nm : Nat}

theorem ao_box {T : TypeId} {x : Operand} {v : V} {ps : List Prop} {cs : List V} (hx : rd F [] x = some (v, ps)) (hp : allP ps) (hc : cellsOf v = some cs) (hS : snocO S (.cells cs) = some (S', nm)) (hd : Nat.blt d n = true)
    (k : AO P env w0 n l0 K l ((d, [], .ptr nm 0) :: F) S') : AO P env w0 n l0 K (⟨some d, .box T x, ty, pos, after, none⟩ :: l) F S :=
  ao_steps rfl (fun _ => steps_box hx hp hc hS hd) k
theorem ao_alloc {T : TypeId} {ti : TI} {cs : List V} (hT : ti? env T = some ti) (hz : zeroV ti.zero = some cs) (hS : snocO S (.cells cs) = some (S', nm)) (hd : Nat.blt d n = true)
    (k : AO P env w0 n l0 K l ((d, [], .ptr nm 0) :: F) S') : AO P env w0 n l0 K (⟨some d, .alloc T, ty, pos, after, none⟩ :: l) F S :=
  ao_steps rfl (fun hE => steps_alloc (hE.get hT) hz hS hd) k
theorem ao_store {T : TypeId} {p x : Operand} {ti : TI} {v : V} {qs ps : List Prop} {off : Nat} {cs m : List V} {blk' : Blk} (hT : ti? env T = some ti) (hp : rd F [] p = some (.ptr nm off, qs)) (hq : allP qs) (hx : rd F [] x = some (v, ps)) (hps : allP ps)
    (hc : cellsOf v = some cs) (hl : Nat.beq cs.length ti.size = true) (hb : nthF S nm = some (.cells m)) (hs : storeBlk (.cells m) 0 off cs = some blk') (hS : setO S nm blk' = some S') (k : AO P env w0 n l0 K l F S') :
    AO P env w0 n l0 K (⟨none, .store T p x, ty, pos, after, none⟩ :: l) F S :=
  ao_steps rfl (fun hE => steps_store_ptr (hE.get hT) hp hq hx hps hc (Nat.eq_of_beq_eq_true hl) (by rw [← nthF_eq]; exact hb) rfl hs hS) k
theorem ao_store_ep {T : TypeId} {p x : Operand} {ti : TI} {v : V} {qs ps : List Prop} {i off : Nat} {ds : List D} {blk blk' : Blk} (hT : ti? env T = some ti) (hp : rd F [] p = some (.ep nm i off, qs)) (hq : allP qs) (hx : rd F [] x = some (v, ps)) (hps : allP ps)
    (hc : dcells v = some ds) (hl : Nat.beq ds.length ti.size = true) (h1 : ds.all D.one = true) (hb : nthF S nm = some blk) (hs : rowSet blk i off ds = some blk') (hS : setO S nm blk' = some S') (k : AO P env w0 n l0 K l F S') :
    AO P env w0 n l0 K (⟨none, .store T p x, ty, pos, after, none⟩ :: l) F S :=
  ao_steps rfl (fun hE => (steps_store_ep (hE.get hT) hp hq hx hps hc hl h1 hb hs hS).to) k
theorem ao_make {T e : TypeId} {s by_ : Nat} {z : Value} {x y : Operand} {te : TI} {kx ky : IntKind} {m : Int} {ps qs : List Prop} {blk : Blk} (hT : ti? env T = some ⟨.slice e, s, by_, z⟩) (he : ti? env e = some te) (hz : Nat.beq te.zero.cells.size te.size = true)
    (hx : rd F [] x = some (.d (.int kx m), ps)) (hp : allP ps) (hy : rd F [] y = some (.d (.int ky m), qs)) (hq : allP qs) (h0 : 0 ≤ m) (h1 : te.bytes * m.toNat ≤ 140737488355328) (h2 : m ≤ 9223372036854775807) (hb : mkRow te m.toNat = some blk) (hS : snocO S blk = some (S', nm)) (hd : Nat.blt d n = true)
    (k : AO P env w0 n l0 K l ((d, [], .own nm) :: F) S') : AO P env w0 n l0 K (⟨some d, .makeSlice T x y, ty, pos, after, none⟩ :: l) F S :=
  ao_steps rfl (fun hE => steps_make (hE.get hT) (hE.get he) (Nat.eq_of_beq_eq_true hz) hx hp hy hq h0 h1 h2 hb hS hd) k
theorem ao_lit {T e : TypeId} {len s by_ : Nat} {z : Value} {parts : Array (Nat × Operand)} {te : TI} {ps : List Prop} {css : List (List D)} (hT : ti? env T = some ⟨.slice e, s, by_, z⟩) (he : ti? env e = some te) (hz : Nat.beq te.zero.cells.size te.size = true)
    (hx : litD F te.size 0 parts.toList = some (css, ps)) (hp : allP ps) (hlen : Nat.beq parts.toList.length len = true) (hsm : Nat.ble (len * te.size) 16777216 = true) (hpos : Nat.blt 0 te.size = true) {b : Blk} (hb : litB te.size css = b) (hS : snocO S b = some (S', nm)) (hd : Nat.blt d n = true)
    (k : AO P env w0 n l0 K l ((d, [], .own nm) :: F) S') : AO P env w0 n l0 K (⟨some d, .buildSlice T len parts, ty, pos, after, none⟩ :: l) F S := by
  subst hb
  exact ao_steps rfl (fun hE => steps_lit (hE.get hT) (hE.get he) hz hx hp hlen hsm hpos hS hd) k
theorem ao_app_nil {s x : Operand} {t tx e e' : TypeId} {te : TI} {i1 i2 j1 j2 : Nat} {z1 z2 : Value} {xv : V} {ps qs : List Prop} {yb : Blk} (hT : ti? env t = some ⟨.slice e, i1, i2, z1⟩) (hTx : ti? env tx = some ⟨.slice e', j1, j2, z2⟩) (he : ti? env e = some te)
    (hs : rd F [] s = some (.nil, ps)) (hps : allP ps) (hx : rd F [] x = some (xv, qs)) (hqs : allP qs) (hy : srcB S xv = some yb) (hrow : yb.isRow = true) (h1 : yb.ones) (hsz : Nat.beq yb.esz te.size = true) (hz : Nat.beq te.zero.cells.size te.size = true) (hpos : Nat.blt 0 te.size = true) (hby : Nat.blt 0 te.bytes = true)
    (hb : yb.len * te.bytes ≤ 140737488355328) (hS : snocO S yb = some (S', nm)) (hd : Nat.blt d n = true) (k : AO P env w0 n l0 K l ((d, [], .own nm) :: F) S') :
    AO P env w0 n l0 K (⟨some d, .call ⟨.builtin .append, #[s, x], #[t, tx]⟩, ty, pos, after, none⟩ :: l) F S :=
  ao_steps rfl (fun hE => steps_app_nil (hE.get hT) (hE.get hTx) (hE.get he) hz hpos hby hs hps hx hqs hy hrow h1 hsz hb hS hd) k
theorem ao_app {s x : Operand} {t tx e e' : TypeId} {te : TI} {i1 i2 j1 j2 : Nat} {z1 z2 : Value} {xv : V} {ps qs : List Prop} {blk yb blk' : Blk} (hT : ti? env t = some ⟨.slice e, i1, i2, z1⟩) (hTx : ti? env tx = some ⟨.slice e', j1, j2, z2⟩) (he : ti? env e = some te)
    (hs : rd F [] s = some (.own nm, ps)) (hps : allP ps) (hx : rd F [] x = some (xv, qs)) (hqs : allP qs) (hblk : nthF S nm = some blk) (hy : srcB S xv = some yb) (h1 : yb.ones) (hc : catB blk yb = some blk') (hsz : Nat.beq yb.esz te.size = true)
    (hz : Nat.beq te.zero.cells.size te.size = true) (hpos : Nat.blt 0 te.size = true) (hby : Nat.blt 0 te.bytes = true) (hb : blk'.len * te.bytes ≤ 140737488355328)
    (hF : killF nm F = some F') (hS : killS nm blk' 0 S = some S') (hd : Nat.blt d n = true) (k : AO P env w0 n l0 K l ((d, [], .own nm) :: F') S') :
    AO P env w0 n l0 K (⟨some d, .call ⟨.builtin .append, #[s, x], #[t, tx]⟩, ty, pos, after, none⟩ :: l) F S :=
  ao_steps rfl (fun hE => steps_app_own (hE.get hT) (hE.get hTx) (hE.get he) hz hpos hby hs hps hx hqs hblk (.inl ⟨rfl, rfl, rfl⟩) hy h1 (catB_ok hc) hsz hb hF hS hd) k
/-- An append onto a slice without elements; what comes of it is told. -/
theorem ao_app0 (blk' : Blk) {s x : Operand} {t tx e e' : TypeId} {te : TI} {i1 i2 j1 j2 : Nat} {z1 z2 : Value} {xv : V} {ps qs : List Prop} {blk yb : Blk} (hT : ti? env t = some ⟨.slice e, i1, i2, z1⟩) (hTx : ti? env tx = some ⟨.slice e', j1, j2, z2⟩) (he : ti? env e = some te)
    (hs : rd F [] s = some (.own nm, ps)) (hps : allP ps) (hx : rd F [] x = some (xv, qs)) (hqs : allP qs) (hblk : nthF S nm = some blk) (hy : srcB S xv = some yb) (h1 : yb.ones) (c1 : blk.isRow = true) (c2 : Nat.beq blk.len 0 = true) (c3 : Nat.beq blk.esz yb.esz = true) (c4 : yb.isRow = true) (c5 : blk'.isRow = true) (c6 : Nat.beq blk'.esz yb.esz = true) (c7 : blk'.len = yb.len)
    (c8 : ∀ i, i < blk'.len → blk'.get i = yb.get i) (hsz : Nat.beq yb.esz te.size = true)
    (hz : Nat.beq te.zero.cells.size te.size = true) (hpos : Nat.blt 0 te.size = true) (hby : Nat.blt 0 te.bytes = true) (hb : blk'.len * te.bytes ≤ 140737488355328)
    (hF : killF nm F = some F') (hS : killS nm blk' 0 S = some S') (hd : Nat.blt d n = true) (k : AO P env w0 n l0 K l ((d, [], .own nm) :: F') S') :
    AO P env w0 n l0 K (⟨some d, .call ⟨.builtin .append, #[s, x], #[t, tx]⟩, ty, pos, after, none⟩ :: l) F S :=
  ao_steps rfl (fun hE => steps_app_own (hE.get hT) (hE.get hTx) (hE.get he) hz hpos hby hs hps hx hqs hblk (.inl ⟨rfl, rfl, rfl⟩) hy h1
    (cat_none c1 (Nat.eq_of_beq_eq_true c2) (Nat.eq_of_beq_eq_true c3) c4 c5 (Nat.eq_of_beq_eq_true c6) c7 c8) hsz hb hF hS hd) k
theorem ao_app_sl {s x : Operand} {t tx e e' : TypeId} {te : TI} {i1 i2 j1 j2 len : Nat} {z1 z2 : Value} {xv : V} {ps qs : List Prop} {blk b1 yb blk' : Blk} (hT : ti? env t = some ⟨.slice e, i1, i2, z1⟩) (hTx : ti? env tx = some ⟨.slice e', j1, j2, z2⟩) (he : ti? env e = some te)
    (hs : rd F [] s = some (.sl nm 0 len, ps)) (hps : allP ps) (hx : rd F [] x = some (xv, qs)) (hqs : allP qs) (hblk : nthF S nm = some blk) (ht : takeB len blk = some b1) (hy : srcB S xv = some yb) (h1 : yb.ones) (hc : catB b1 yb = some blk') (hsz : Nat.beq yb.esz te.size = true)
    (hz : Nat.beq te.zero.cells.size te.size = true) (hpos : Nat.blt 0 te.size = true) (hby : Nat.blt 0 te.bytes = true) (hb : blk'.len * te.bytes ≤ 140737488355328)
    (hF : killF nm F = some F') (hS : killS nm blk' 0 S = some S') (hd : Nat.blt d n = true) (k : AO P env w0 n l0 K l ((d, [], .own nm) :: F') S') :
    AO P env w0 n l0 K (⟨some d, .call ⟨.builtin .append, #[s, x], #[t, tx]⟩, ty, pos, after, none⟩ :: l) F S :=
  ao_steps rfl (fun hE => steps_app_own (hE.get hT) (hE.get hTx) (hE.get he) hz hpos hby hs hps hx hqs hblk (.inr ⟨rfl, ht⟩) hy h1 (catB_ok hc) hsz hb hF hS hd) k

end

/-! ### Branches; forgetting -/

section
variable {P : Program} {env : Env} {w0 : Base} {n : Nat} {Q : Exit → Fr → List Blk → Prop} {F : Fr} {S : List Blk}

theorem aw_condT {c : Operand} {x y : Code} {ps : List Prop} (h : rd F [] c = some (.d (.bool true), ps)) (hp : allP ps) (hx : AW P env w0 n x Q F S) : AW P env w0 n (.cond c x y) Q F S := aw_cond h hp (fun _ => hx) fun h => by cases h
theorem aw_condF {c : Operand} {x y : Code} {ps : List Prop} (h : rd F [] c = some (.d (.bool false), ps)) (hp : allP ps) (hy : AW P env w0 n y Q F S) : AW P env w0 n (.cond c x y) Q F S := aw_cond h hp (fun h => by cases h) fun _ => hy
theorem aw_condD {c : Operand} {x y : Code} {p : Prop} [Decidable p] {ps : List Prop} (h : rd F [] c = some (.d (.bool (decide p)), ps)) (hp : allP ps) (hx : p → AW P env w0 n x Q F S) (hy : ¬ p → AW P env w0 n y Q F S) : AW P env w0 n (.cond c x y) Q F S :=
  aw_cond h hp (fun h => hx (of_decide_eq_true h)) fun h => hy (of_decide_eq_false h)
theorem aw_condN {c : Operand} {x y : Code} {p : Prop} [Decidable p] {ps : List Prop} (h : rd F [] c = some (.d (.bool (!decide p)), ps)) (hp : allP ps) (hx : ¬ p → AW P env w0 n x Q F S) (hy : p → AW P env w0 n y Q F S) : AW P env w0 n (.cond c x y) Q F S :=
  aw_cond h hp (fun h => hx (by simpa using h)) fun h => hy (by simpa using h)
theorem aw_condNB {c : Operand} {x y : Code} {b : Bool} {ps : List Prop} (h : rd F [] c = some (.d (.bool (!b)), ps)) (hp : allP ps) (hx : b = false → AW P env w0 n x Q F S) (hy : b = true → AW P env w0 n y Q F S) : AW P env w0 n (.cond c x y) Q F S :=
  aw_cond h hp (fun h => hx (by simpa using h)) fun h => hy (by simpa using h)

end

theorem subF_nil {F : Fr} : subF F [] := trivial
theorem subF_cons {F r : Fr} {t : Nat} {g : List Bool} {v : V} (h : look F t = some (g, v)) (k : subF F r) : subF F ((t, g, v) :: r) := ⟨h, k⟩
def subS : List Blk → List Blk → Prop
  | _, [] => True
  | [], _ :: _ => False
  | a :: r, b :: s => a = b ∧ subS r s
theorem subS_nil {S : List Blk} : subS S [] := by cases S <;> trivial
theorem subS_cons {a b : Blk} {r s : List Blk} (h : a = b) (k : subS r s) : subS (a :: r) (b :: s) := ⟨h, k⟩
theorem subS_eq {S S' : List Blk} (h : subS S S') : ∃ G, S = S' ++ G := by
  induction S' generalizing S with
  | nil => exact ⟨S, rfl⟩
  | cons b s ih => cases S with
    | nil => exact h.elim
    | cons a r =>
      obtain ⟨rfl, k⟩ := h
      obtain ⟨G, rfl⟩ := ih k
      exact ⟨G, rfl⟩
theorem weak_to {F F' : Fr} {S S' : List Blk} (hF : subF F F') (hS : subS S S') (h1 : lowF S'.length F' = true) (h2 : lowS S'.length S' = true) : Weak F S F' S' := by
  obtain ⟨G, rfl⟩ := subS_eq hS
  exact fun w0 n ρ a w hnp hr => let ⟨ρ', hr'⟩ := weak_frame hF w0 n ρ a w hr.mem.np hr; weak_store h1 h2 w0 n ρ' a w hnp hr'

/-! ### Ends -/

section
variable {env : Env} {rs : List ResultVar} {F : Fr} {S : List Blk}

theorem ret2 {x1 x2 y1 y2 : D} (h : resL env F S rs = some [.d x1, .d x2]) (h1 : x1 = y1) (h2 : x2 = y2) (f1 : y1.flat = true) (f2 : y2.flat = true) : retOK env rs [] (.tup [.d y1, .d y2]) F S :=
  ⟨_, [], h, trivial, _, rfl, ⟨h1, h1 ▸ f1⟩, ⟨h2, h2 ▸ f2⟩, trivial⟩
theorem ret3 {x1 x2 x3 y1 y2 y3 : D} (h : resL env F S rs = some [.d x1, .d x2, .d x3]) (h1 : x1 = y1) (h2 : x2 = y2) (h3 : x3 = y3) (f1 : y1.flat = true) (f2 : y2.flat = true) (f3 : y3.flat = true) : retOK env rs [] (.tup [.d y1, .d y2, .d y3]) F S :=
  ⟨_, [], h, trivial, _, rfl, ⟨h1, h1 ▸ f1⟩, ⟨h2, h2 ▸ f2⟩, ⟨h3, h3 ▸ f3⟩, trivial⟩
theorem retOwn {nm : Nat} {b b' : Blk} (h : resL env F S rs = some [.own nm]) (hb : nthF S nm = some b) (he : b = b') (hf : b'.flat) : retOK env rs [b'] (.own 0) F S :=
  ⟨_, [some nm], h, ⟨he ▸ hb, hf, rfl, trivial⟩, rfl⟩
theorem retNil {b' : Blk} (h : resL env F S rs = some [.nil]) (h0 : b'.len = 0) (hf : b'.flat) : retOK env rs [b'] (.own 0) F S :=
  ⟨_, [none], h, ⟨h0, hf, trivial⟩, rfl⟩
theorem retOwn2 {nm : Nat} {b b' : Blk} {x y : D} (h : resL env F S rs = some [.own nm, .d x]) (hb : nthF S nm = some b) (he : b = b') (hx : x = y) (hf : b'.flat) (hg : y.flat = true) : retOK env rs [b'] (.tup [.own 0, .d y]) F S :=
  ⟨_, [some nm], h, ⟨he ▸ hb, hf, rfl, trivial⟩, _, rfl, rfl, ⟨hx, hx ▸ hg⟩, trivial⟩
theorem retNil2 {b' : Blk} {x y : D} (h : resL env F S rs = some [.nil, .d x]) (h0 : b'.len = 0) (hx : x = y) (hf : b'.flat) (hg : y.flat = true) : retOK env rs [b'] (.tup [.own 0, .d y]) F S :=
  ⟨_, [none], h, ⟨h0, hf, trivial⟩, _, rfl, rfl, ⟨hx, hx ▸ hg⟩, trivial⟩
end

end Go.Wk

/- Calls that write into blocks of the caller's. -/
namespace Go.Wk
set_option maxRecDepth 10000
open Go.RowKit

/-! ### Names -/

def renS (σ : List Nat) : V → Option V
  | .d x => some (.d x)
  | .nil => some .nil
  | .bot => some .bot
  | .ptr nm off => match nthF σ nm with | some m => some (.ptr m off) | none => none
  | .ep nm i off => match nthF σ nm with | some m => some (.ep m i off) | none => none
  | .own nm => match nthF σ nm with | some m => some (.own m) | none => none
  | .sl nm off len => match nthF σ nm with | some m => some (.sl m off len) | none => none
  | _ => none
def renL (σ : List Nat) : List V → Option (List V)
  | [] => some []
  | v :: r => match renS σ v with
    | some v' => match renL σ r with
      | some r' => some (v' :: r')
      | none => none
    | none => none
def renV (σ : List Nat) : V → Option V
  | .tup vs => match renL σ vs with | some us => some (.tup us) | none => none
  | .d x => some (.d x)
  | .nil => some .nil
  | v => renS σ v
def renB (σ : List Nat) : Blk → Option Blk
  | .cells cs => match renL σ cs with | some cs' => some (.cells cs') | none => none
  | .ints k xs => some (.ints k xs)
  | .bools xs => some (.bools xs)
  | .row e n g => some (.row e n g)
  | .gone => some .gone
def renBs (σ : List Nat) : List Blk → Option (List Blk)
  | [] => some []
  | b :: r => match renB σ b with
    | some b' => match renBs σ r with
      | some r' => some (b' :: r')
      | none => none
    | none => none
def selS (S : List Blk) : List Nat → Option (List Blk)
  | [] => some []
  | m :: r => match nthF S m with
    | some b => match selS S r with
      | some bs => some (b :: bs)
      | none => none
    | none => none
def putO : List Blk → Nat → Blk → Option (List Blk)
  | [], _, _ => none
  | _ :: r, 0, b => some (b :: r)
  | x :: r, m + 1, b => match putO r m b with | some r' => some (x :: r') | none => none
def setsO : List Nat → List Blk → List Blk → Option (List Blk)
  | [], [], S => some S
  | m :: r, b :: bs, S => match putO S m b with | some S' => setsO r bs S' | none => none
  | _, _, _ => none
def nodupN : List Nat → Bool
  | [] => true
  | x :: r => !(memN r x) && nodupN r
def killFs : List Nat → Fr → Option Fr
  | [], F => some F
  | m :: r, F => match killF m F with | some F1 => killFs r F1 | none => none
def rowNames : List Nat → List Blk → List Nat
  | _ :: r, .cells _ :: bs => rowNames r bs
  | m :: r, _ :: bs => m :: rowNames r bs
  | _, _ => []
def noneUse : List Nat → List V → Bool
  | [], _ => true
  | m :: r, cs => !(V.usesL cs m) && noneUse r cs
def quietS (kn σ : List Nat) : Nat → List Blk → Bool
  | _, [] => true
  | i, .cells cs :: r => (memN σ i || noneUse kn cs) && quietS kn σ (i + 1) r
  | i, _ :: r => quietS kn σ (i + 1) r
def vflat : V → Bool
  | .d x => x.flat
  | .agg _ | .tup _ | .rp _ | .clo .. => false
  | _ => true
def vflats : List V → Bool
  | [] => true
  | v :: r => vflat v && vflats r
def rflat : V → Bool
  | .tup vs => vflats vs
  | v => vflat v
def bflat : Blk → Prop
  | .cells cs => vflats cs = true
  | .gone => True
  | b => b.flat
def bflats : List Blk → Prop
  | [] => True
  | b :: r => bflat b ∧ bflats r
def kinds : List Blk → List Blk → Prop
  | .cells a :: r, .cells b :: s => a.length = b.length ∧ kinds r s
  | .cells _ :: _, _ :: _ => False
  | _ :: r, b :: s => b.isRow = true ∧ kinds r s
  | [], [] => True
  | _, _ => False

theorem nodupN_inj {σ : List Nat} (h : nodupN σ = true) {i j m : Nat} (hi : σ[i]? = some m) (hj : σ[j]? = some m) : i = j := by
  induction σ generalizing i j with
  | nil => simp at hi
  | cons x r ih =>
    simp only [nodupN, Bool.and_eq_true, Bool.not_eq_true'] at h
    have hx : ∀ k : Nat, r[k]? ≠ some x := fun k hk => by
      have := memN_iff.2 (List.mem_of_getElem? hk); rw [h.1] at this; cases this
    cases i with
    | zero => cases j with
      | zero => rfl
      | succ j => simp at hi hj; subst hi; exact absurd hj (hx j)
    | succ i => cases j with
      | zero => simp at hi hj; subst hj; exact absurd hi (hx i)
      | succ j => exact congrArg (· + 1) (ih h.2 (by simpa using hi) (by simpa using hj))

theorem renL_get {σ : List Nat} {cs cs' : List V} (h : renL σ cs = some cs') : cs'.length = cs.length ∧ ∀ (i : Nat) v v', cs[i]? = some v → cs'[i]? = some v' → renS σ v = some v' := by
  induction cs generalizing cs' with
  | nil => simp [renL] at h; subst h; simp
  | cons c r ih =>
    simp only [renL] at h
    split at h
    · rename_i v' hv
      split at h
      · rename_i r' hr
        simp at h; subst h
        obtain ⟨h1, h2⟩ := ih hr
        refine ⟨by simp [h1], fun i v v' hi hi' => ?_⟩
        cases i with
        | zero => simp at hi hi'; subst hi hi'; exact hv
        | succ i => exact h2 i v v' (by simpa using hi) (by simpa using hi')
      · simp at h
    · simp at h
theorem renBs_get {σ : List Nat} {S X : List Blk} (h : renBs σ S = some X) : X.length = S.length ∧ ∀ (i : Nat) b b', S[i]? = some b → X[i]? = some b' → renB σ b = some b' := by
  induction S generalizing X with
  | nil => simp [renBs] at h; subst h; simp
  | cons c r ih =>
    simp only [renBs] at h
    split at h
    · rename_i v' hv
      split at h
      · rename_i r' hr
        simp at h; subst h
        obtain ⟨h1, h2⟩ := ih hr
        refine ⟨by simp [h1], fun i v v' hi hi' => ?_⟩
        cases i with
        | zero => simp at hi hi'; subst hi hi'; exact hv
        | succ i => exact h2 i v v' (by simpa using hi) (by simpa using hi')
      · simp at h
    · simp at h
theorem selS_get {S X : List Blk} {σ : List Nat} (h : selS S σ = some X) : X.length = σ.length ∧ ∀ (i m : Nat), σ[i]? = some m → m < S.length ∧ S[m]? = X[i]? := by
  induction σ generalizing X with
  | nil => simp [selS] at h; subst h; simp
  | cons c r ih =>
    simp only [selS] at h
    split at h
    · rename_i v' hv
      split at h
      · rename_i r' hr
        simp at h; subst h
        obtain ⟨h1, h2⟩ := ih hr
        refine ⟨by simp [h1], fun i m hi => ?_⟩
        cases i with
        | zero => simp at hi; subst hi; rw [nthF_eq] at hv; exact ⟨(List.getElem?_eq_some_iff.1 hv).1, by rw [hv]; rfl⟩
        | succ i => have := h2 i m (by simpa using hi); simpa using this
      · simp at h
    · simp at h
theorem putO_get {S S' : List Blk} {m : Nat} {b : Blk} (h : putO S m b = some S') : S'.length = S.length ∧ S'[m]? = some b ∧ ∀ i, i ≠ m → S'[i]? = S[i]? := by
  induction S generalizing m S' with
  | nil => simp [putO] at h
  | cons x r ih => cases m with
    | zero =>
      simp [putO] at h; subst h
      exact ⟨by simp, by simp, fun i hi => by cases i with | zero => omega | succ i => simp⟩
    | succ m =>
      simp only [putO] at h
      split at h
      · rename_i r' hr
        simp at h; subst h
        obtain ⟨h1, h2, h3⟩ := ih hr
        refine ⟨by simp [h1], by simpa using h2, fun i hi => ?_⟩
        cases i with
        | zero => simp
        | succ i => simpa using h3 i (by omega)
      · simp at h
theorem setsO_get {σ : List Nat} {X S S' : List Blk} (hn : nodupN σ = true) (h : setsO σ X S = some S') : S'.length = S.length ∧ X.length = σ.length ∧ (∀ i m : Nat, σ[i]? = some m → S'[m]? = X[i]?) ∧ ∀ m, m ∉ σ → S'[m]? = S[m]? := by
  induction σ generalizing X S with
  | nil => cases X with
    | nil => simp [setsO] at h; subst h; simp
    | cons => simp [setsO] at h
  | cons c r ih => cases X with
    | nil => simp [setsO] at h
    | cons b bs =>
      simp only [setsO] at h
      split at h
      · rename_i S1 hS
        simp only [nodupN, Bool.and_eq_true, Bool.not_eq_true'] at hn
        obtain ⟨k1, k2, k3⟩ := putO_get hS
        obtain ⟨h1, h2, h3, h4⟩ := ih hn.2 h
        have hc : c ∉ r := fun hm => by have := memN_iff.2 hm; rw [hn.1] at this; cases this
        refine ⟨by omega, by simp [h2], fun i m hi => ?_, fun m hm => ?_⟩
        · cases i with
          | zero => simp at hi; subst hi; rw [h4 c hc, k2]; rfl
          | succ i => have := h3 i m (by simpa using hi); simpa using this
        · simp at hm; rw [h4 m hm.2, k3 m hm.1]
      · simp at h
theorem killFs_get {kn : List Nat} {F F' : Fr} (h : killFs kn F = some F') {t : Nat} {g : List Bool} {v : V} (hl : look F' t = some (g, v)) : ∃ v', look F t = some (g, v') ∧ (v = .bot ∨ v = v' ∧ ∀ m ∈ kn, v'.uses m = false) := by
  induction kn generalizing F with
  | nil => simp [killFs] at h; subst h; exact ⟨v, hl, .inr ⟨rfl, by simp⟩⟩
  | cons c r ih =>
    simp only [killFs] at h
    split at h
    · rename_i F1 hF
      obtain ⟨v', h1, h2⟩ := ih h
      obtain ⟨v0, h3, h4⟩ := killF_get hF h1
      refine ⟨v0, h3, ?_⟩
      unfold V.kill at h4
      cases hu : v0.uses c with
      | true =>
        rw [hu] at h4; simp at h4; subst h4
        rcases h2 with h | ⟨h, _⟩ <;> exact .inl h
      | false =>
        rw [hu] at h4; simp at h4; subst h4
        rcases h2 with h | ⟨h, hr⟩
        · exact .inl h
        · exact .inr ⟨h, fun m hm => by simp at hm; rcases hm with rfl | hm <;> first | exact hu | exact hr m hm⟩
    · simp at h
theorem noneUse_get {kn : List Nat} {cs : List V} (h : noneUse kn cs = true) {m : Nat} (hm : m ∈ kn) {i : Nat} {v : V} (hv : cs[i]? = some v) : v.uses m = false := by
  induction kn with
  | nil => simp at hm
  | cons c r ih =>
    simp only [noneUse, Bool.and_eq_true, Bool.not_eq_true'] at h
    simp at hm
    rcases hm with rfl | hm
    · exact V.usesL_get hv h.1
    · exact ih h.2 hm
theorem quietS_get {kn σ : List Nat} {k : Nat} {S : List Blk} (h : quietS kn σ k S = true) {i : Nat} {cs : List V} (hb : S[i]? = some (.cells cs)) : k + i ∈ σ ∨ noneUse kn cs = true := by
  induction S generalizing k i with
  | nil => simp at hb
  | cons x r ih =>
    cases i with
    | zero =>
      simp at hb; subst hb
      simp only [quietS, Bool.and_eq_true, Bool.or_eq_true] at h
      exact h.1.imp (fun h => memN_iff.1 (by simpa using h)) id
    | succ i =>
      have hr : quietS kn σ (k + 1) r = true := by cases x <;> simp [quietS] at h <;> first | exact h.2 | exact h
      have := ih hr (by simpa using hb)
      rwa [show k + 1 + i = k + (i + 1) by omega] at this
theorem rowNames_get {σ : List Nat} {S : List Blk} {i m : Nat} (hi : σ[i]? = some m) (hl : i < S.length) : m ∈ rowNames σ S ∨ ∃ cs, S[i]? = some (.cells cs) := by
  induction σ generalizing S i with
  | nil => simp at hi
  | cons c r ih => cases S with
    | nil => simp at hl
    | cons b bs => cases i with
      | zero =>
        simp at hi; subst hi
        cases b <;> first | exact .inr ⟨_, rfl⟩ | exact .inl (by simp [rowNames])
      | succ i =>
        rcases ih (S := bs) (by simpa using hi) (by simpa using hl) with h | ⟨cs, h⟩
        · left; cases b <;> simp [rowNames, h]
        · exact .inr ⟨cs, by simpa using h⟩
theorem vflats_get {cs : List V} (h : vflats cs = true) {i : Nat} {v : V} (hv : cs[i]? = some v) : vflat v = true := by
  induction cs generalizing i with
  | nil => simp at hv
  | cons c r ih =>
    simp only [vflats, Bool.and_eq_true] at h
    cases i with
    | zero => simp at hv; subst hv; exact h.1
    | succ i => exact ih h.2 (by simpa using hv)
theorem bflats_get {S : List Blk} (h : bflats S) {i : Nat} {b : Blk} (hb : S[i]? = some b) : bflat b := by
  induction S generalizing i with
  | nil => simp at hb
  | cons c r ih => cases i with
    | zero => simp at hb; subst hb; exact h.1
    | succ i => exact ih h.2 (by simpa using hb)
theorem kinds_get {S0 S1 : List Blk} (h : kinds S0 S1) : S1.length = S0.length ∧ ∀ (i : Nat) cs, S0[i]? = some (.cells cs) → ∃ cs', S1[i]? = some (.cells cs') ∧ cs.length = cs'.length := by
  induction S0 generalizing S1 with
  | nil => cases S1 with
    | nil => simp
    | cons => exact h.elim
  | cons b r ih => cases S1 with
    | nil => cases b <;> exact h.elim
    | cons c s =>
      have hr : kinds r s := by cases b <;> cases c <;> first | exact h.2 | exact h.elim
      obtain ⟨h1, h2⟩ := ih hr
      refine ⟨by simp [h1], fun i cs hi => ?_⟩
      cases i with
      | zero =>
        simp at hi; subst hi
        cases c <;> first | exact ⟨_, rfl, h.1⟩ | exact h.elim
      | succ i => simpa using h2 i cs (by simpa using hi)

/-- Where a name stands among some. -/
def idxN : List Nat → Nat → Option Nat
  | [], _ => none
  | x :: r, m => if x = m then some 0 else (idxN r m).map (· + 1)
theorem idxN_some {σ : List Nat} {m i : Nat} (h : idxN σ m = some i) : σ[i]? = some m := by
  induction σ generalizing i with
  | nil => simp [idxN] at h
  | cons x r ih =>
    simp only [idxN] at h
    split at h
    · simp at h; subst h; simp [*]
    · cases hr : idxN r m with
      | none => rw [hr] at h; simp at h
      | some j => rw [hr] at h; simp at h; subst h; simpa using ih hr
theorem idxN_none {σ : List Nat} {m : Nat} (h : idxN σ m = none) : m ∉ σ := by
  induction σ with
  | nil => simp
  | cons x r ih =>
    simp only [idxN] at h
    split at h
    · simp at h
    · rename_i hne
      cases hr : idxN r m with
      | none => simp [ih hr]; exact fun he => hne he.symm
      | some j => rw [hr] at h; simp at h

theorem ren_bwd {S S0 : List Blk} {σ : List Nat} {ρ ρ0 : Nat → Option Nat} {R R' : Nat → Prop} {w : World} (hσ : ∀ i m : Nat, σ[i]? = some m → ρ0 i = ρ m ∧ shape S0 i = shape S m) (hR : ∀ k, R k → R' k)
    {u : Value} {v v' : V} (h : renS σ v = some v') (hu : RelV S ρ R w u v') : RelV S0 ρ0 R' w u v := by
  cases v with
  | d x => simp [renS] at h; subst h; cases hu with | d h => exact .d (h.mono fun k hk => ⟨hR k hk, rfl⟩)
  | nil => simp [renS] at h; subst h; cases hu; exact .nil
  | bot => exact .bot u
  | agg => simp [renS] at h
  | tup => simp [renS] at h
  | rp => simp [renS] at h
  | clo => simp [renS] at h
  | ptr nm off =>
    simp only [renS, nthF_eq] at h
    split at h
    · rename_i m hm
      simp at h; subst h
      obtain ⟨h1, h2⟩ := hσ _ _ hm
      cases hu with | ptr hb hs => exact .ptr (by rw [h1]; exact hb) (by rw [h2]; exact hs)
    · simp at h
  | ep nm i off =>
    simp only [renS, nthF_eq] at h
    split at h
    · rename_i m hm
      simp at h; subst h
      obtain ⟨h1, h2⟩ := hσ _ _ hm
      cases hu with | ep hb hs hi => exact .ep (by rw [h1]; exact hb) (by rw [h2]; exact hs) hi
    · simp at h
  | own nm =>
    simp only [renS, nthF_eq] at h
    split at h
    · rename_i m hm
      simp at h; subst h
      obtain ⟨h1, h2⟩ := hσ _ _ hm
      cases hu with
      | ownNil hb hs => exact .ownNil (by rw [h1]; exact hb) (by rw [h2]; exact hs)
      | own hb hs hc hcap => exact .own (by rw [h1]; exact hb) (by rw [h2]; exact hs) hc hcap
    · simp at h
  | sl nm off len =>
    simp only [renS, nthF_eq] at h
    split at h
    · rename_i m hm
      simp at h; subst h
      obtain ⟨h1, h2⟩ := hσ _ _ hm
      cases hu with
      | slNil hb hs => exact .slNil (by rw [h1]; exact hb) (by rw [h2]; exact hs)
      | sl hb hs hl hc hcap => exact .sl (by rw [h1]; exact hb) (by rw [h2]; exact hs) hl hc hcap
    · simp at h

theorem ren_fwd {S' S1 : List Blk} {σ : List Nat} {ρ' ρ1 : Nat → Option Nat} {R R' : Nat → Prop} {w : World} (hσ : ∀ i m : Nat, σ[i]? = some m → ρ' m = ρ1 i ∧ shape S' m = shape S1 i)
    {u : Value} {v v' : V} (hf : vflat v = true) (h : renS σ v = some v') (hu : RelV S1 ρ1 R w u v) : RelV S' ρ' R' w u v' := by
  cases v with
  | d x => simp [renS] at h; subst h; cases hu with | d h => exact .d (h.flat hf)
  | nil => simp [renS] at h; subst h; cases hu; exact .nil
  | bot => simp [renS] at h; subst h; exact .bot u
  | agg => simp [renS] at h
  | tup => simp [renS] at h
  | rp => simp [renS] at h
  | clo => simp [renS] at h
  | ptr nm off =>
    simp only [renS, nthF_eq] at h
    split at h
    · rename_i m hm
      simp at h; subst h
      obtain ⟨h1, h2⟩ := hσ _ _ hm
      cases hu with | ptr hb hs => exact .ptr (by rw [h1]; exact hb) (by rw [h2]; exact hs)
    · simp at h
  | ep nm i off =>
    simp only [renS, nthF_eq] at h
    split at h
    · rename_i m hm
      simp at h; subst h
      obtain ⟨h1, h2⟩ := hσ _ _ hm
      cases hu with | ep hb hs hi => exact .ep (by rw [h1]; exact hb) (by rw [h2]; exact hs) hi
    · simp at h
  | own nm =>
    simp only [renS, nthF_eq] at h
    split at h
    · rename_i m hm
      simp at h; subst h
      obtain ⟨h1, h2⟩ := hσ _ _ hm
      cases hu with
      | ownNil hb hs => exact .ownNil (by rw [h1]; exact hb) (by rw [h2]; exact hs)
      | own hb hs hc hcap => exact .own (by rw [h1]; exact hb) (by rw [h2]; exact hs) hc hcap
    · simp at h
  | sl nm off len =>
    simp only [renS, nthF_eq] at h
    split at h
    · rename_i m hm
      simp at h; subst h
      obtain ⟨h1, h2⟩ := hσ _ _ hm
      cases hu with
      | slNil hb hs => exact .slNil (by rw [h1]; exact hb) (by rw [h2]; exact hs)
      | sl hb hs hl hc hcap => exact .sl (by rw [h1]; exact hb) (by rw [h2]; exact hs) hl hc hcap
    · simp at h

/-! ### Contracts over blocks of the caller's -/

def pinOf (S0 : List Blk) (ρ : Nat → Option Nat) (i : Nat) : Option Nat := match S0[i]? with
  | some (.cells _) => ρ i
  | _ => none
def Base.obj (w : World) (S0 : List Blk) (ρ : Nat → Option Nat) : Base := ⟨w, fun k => ∃ i, i < S0.length ∧ ρ i = some k, S0.length, pinOf S0 ρ, fun k => ∃ j, S0.length ≤ j ∧ ρ j = some k⟩

def RelVs (S : List Blk) (ρ : Nat → Option Nat) (w : World) (vs : List Value) (xs : List V) : Prop := vs.length = xs.length ∧ ∀ (i : Nat) v x, vs[i]? = some v → xs[i]? = some x → RelV S ρ (Rr S ρ w) w v x

def CtrO (P : Program) (f : FuncId) (as0 : List V) (S0 S1 : List Blk) (rv : V) : Prop :=
  Enters P f ∧ ∀ w vs ρ, Mem (Base.obj w S0 ρ) S0 ρ w → RelVs S0 ρ w vs as0 → Calls P f vs.toArray w fun e w' => ∃ v ρ', e = .returned v ∧ Mem (Base.obj w S0 ρ) S1 ρ' w' ∧ RelV S1 ρ' (Rr S1 ρ' w') w' v rv

def entryV : Nat → List V → Option Fr
  | _, [] => some []
  | i, x :: r => match entryV (i + 1) r with
    | some F => some ((i, [], x) :: F)
    | none => none
theorem entryV_get {xs : List V} {i t : Nat} {F : Fr} (hF : entryV i xs = some F) {g : List Bool} {v : V} (h : look F t = some (g, v)) : g = [] ∧ ∃ j, xs[j]? = some v ∧ t = i + j := by
  induction xs generalizing i F with
  | nil => simp [entryV] at hF; subst hF; simp [look] at h
  | cons x r ih =>
    simp only [entryV] at hF
    split at hF
    · rename_i F1 hF1
      simp at hF; subst hF
      simp only [look] at h
      cases hb : Nat.beq i t with
      | true =>
        have := Nat.eq_of_beq_eq_true hb
        subst this
        simp only [hb, cond_true, Option.some.injEq, Prod.mk.injEq] at h
        obtain ⟨rfl, rfl⟩ := h
        exact ⟨rfl, 0, by simp, rfl⟩
      | false =>
        simp only [hb, cond_false] at h
        obtain ⟨h1, j, h2, h3⟩ := ih hF1 h
        exact ⟨h1, j + 1, by simpa using h2, by omega⟩
    · simp at hF

def retO (env : Env) (rs : List ResultVar) (S1 : List Blk) (rv : V) (F : Fr) (S : List Blk) : Prop :=
  ∃ vs, resL env F S rs = some vs ∧ subS S S1 ∧ lowS S1.length S1 = true ∧ V.low.lowL S1.length vs = true ∧ match vs with
    | [v] => v = rv
    | vs => rv = .tup vs

theorem mono_store {S G : List Blk} {ρ : Nat → Option Nat} {w : World} {u : Value} {x : V} (hx : x.low S.length = true) (h : RelV (S ++ G) ρ (Rr (S ++ G) ρ w) w u x) : RelV S ρ (Rr S ρ w) w u x :=
  h.mono (fun k hk => ⟨hk, rfl⟩) fun nm hu => ⟨rfl, by simp [shape, List.getElem?_append_left (V.low_uses _ hx nm hu)], fun _ _ _ _ h => h⟩

/-- A contract out of a walk. -/
theorem spec_obj {P : Program} {env : Env} (hE : EnvOK P env) {f : FuncId} {fn : Func} {c : Code} {rs : List ResultVar} {as0 : List V} {S0 S1 : List Blk} {rv : V} (hen : Enters P f) (hf : P.funcs[f]? = some fn) (hb : fn.body = some c)
    (hrs : fn.results = rs.toArray) (n : Nat) (hn : fn.ntmps = n) (has : as0.length ≤ n) {F0 : Fr} (hF : entryV 0 as0 = some F0) (hk : kinds S0 S1)
    (k : ∀ w ρ, AW P env (Base.obj w S0 ρ) n c (fun e F S => (e = .normal ∨ e = .ret) ∧ retO env rs S1 rv F S) F0 S0) : CtrO P f as0 S0 S1 rv := by
  refine ⟨hen, fun w vs ρ hm hvs => ?_⟩
  obtain ⟨hl, hv⟩ := hvs
  refine calls_of_wp hf hb (Code.wp_mono (fun e a' w' hq => ?_) (k w ρ hE ρ _ w ⟨⟨?_, rfl, fun t g v h => ?_⟩, hm⟩))
  · obtain ⟨F', S', ρ', hr, hex, vs', hres, hS, hlow, hlv, hval⟩ := hq
    obtain ⟨vals, hall, hlen, hrel⟩ := resL_run (P := P) hE hr.fr hr.mem hres
    have hrun := run_results hrs hall
    obtain ⟨G, rfl⟩ := subS_eq hS
    have hm1 : Mem (Base.obj w S0 ρ) S1 ρ' w' := by
      obtain ⟨ρ2, h⟩ := (weak_store (F := []) (S := S1) (G := G) rfl hlow) (Base.obj w S0 ρ) n ρ' a' w' (by show S0.length ≤ _; rw [(kinds_get hk).1]; exact Nat.le_refl _) ⟨⟨hr.fr.size, hr.fr.defers, fun t g v h => by simp [look] at h⟩, hr.mem⟩
      refine ⟨hr.mem.below, by show S0.length ≤ _; rw [(kinds_get hk).1]; exact Nat.le_refl _, fun i b hi hb => ?_, fun i b hi hb => hr.mem.lt i b (by simp; omega) hb, fun i j b hi hj => hr.mem.inj i j b (by simp; omega) (by simp; omega), hr.mem.hid.mono (by simp) (Nat.le_refl _), fun i blk hb => ?_⟩
      · obtain ⟨h1, cs, h2⟩ := hr.mem.pin i b hi hb
        have hi' : i < S1.length := by rw [(kinds_get hk).1]; exact hi
        exact ⟨h1, cs, by rw [List.getElem?_append_left hi'] at h2; exact h2⟩
      · have hlt := (List.getElem?_eq_some_iff.1 hb).1
        have h := hr.mem.blk i blk (by rw [List.getElem?_append_left hlt]; exact hb)
        have hR : ∀ k, Rr (S1 ++ G) ρ' w' k → Rr S1 ρ' w' k ∧ w'.heap[k]? = w'.heap[k]? := fun k hk => ⟨hk, rfl⟩
        cases blk with
        | gone => trivial
        | cells cs =>
          obtain ⟨b, vals, ty, h1, h2, h3, h4⟩ := h
          exact ⟨b, vals, ty, h1, h2, h3, fun j v x hv hx => mono_store (V.lowL_get (by simpa [Blk.low] using lowS_get hlow hb) hx) (h4 j v x hv hx)⟩
        | ints k xs => rcases h with h | ⟨b, c, ty, h1, h2, h3, h4, h5⟩
                       · exact .inl h
                       · exact .inr ⟨b, c, ty, h1, h2, h3, h4, fun i j x hi hx => let ⟨v, hv, hr⟩ := h5 i j x hi hx; ⟨v, hv, hr.mono hR⟩⟩
        | bools xs => rcases h with h | ⟨b, c, ty, h1, h2, h3, h4, h5⟩
                      · exact .inl h
                      · exact .inr ⟨b, c, ty, h1, h2, h3, h4, fun i j x hi hx => let ⟨v, hv, hr⟩ := h5 i j x hi hx; ⟨v, hv, hr.mono hR⟩⟩
        | row esz m get => rcases h with h | ⟨b, c, ty, h1, h2, h3, h4, h5⟩
                           · exact .inl h
                           · exact .inr ⟨b, c, ty, h1, h2, h3, h4, fun i j x hi hx => let ⟨v, hv, hr⟩ := h5 i j x hi hx; ⟨v, hv, hr.mono hR⟩⟩
    have hrel' : ∀ (i : Nat) u x, vals[i]? = some u → vs'[i]? = some x → RelV S1 ρ' (Rr S1 ρ' w') w' u x := fun i u x hu hx => mono_store (V.lowL_get hlv hx) (hrel i u x hu hx)
    have done : ∃ v ρ'', Ending.returned (retVal vals) = .returned v ∧ Mem (Base.obj w S0 ρ) S1 ρ'' w' ∧ RelV S1 ρ'' (Rr S1 ρ'' w') w' v rv := by
      refine ⟨_, ρ', rfl, hm1, ?_⟩
      match vals, vs', hlen, hrel', hval with
      | [u], [v], _, hrel, hval => subst hval; exact hrel 0 u v (by simp) (by simp)
      | [], [], _, hrel, hval => simp only at hval; subst hval; exact .tup [] [] rfl fun i v x hv => by simp at hv
      | u :: u' :: ur, v :: v' :: vr, hlen, hrel, hval => simp only at hval; subst hval; exact .tup _ _ hlen fun i a b ha hb => hrel i a b ha hb
    rcases hex with rfl | rfl
    · exact ⟨hr.fr.defers, _, hrun, done⟩
    · exact ⟨hr.fr.defers, _, hrun, done⟩
  · simp [hl, hn]; omega
  · obtain ⟨rfl, j, hx, rfl⟩ := entryV_get hF h
    refine ⟨fun _ => ?_, fun h => absurd trivial h⟩
    have hj : j < vs.length := by rw [hl]; exact (List.getElem?_eq_some_iff.1 hx).1
    have hg : (vs.toArray ++ Array.replicate (fn.ntmps - vs.toArray.size) undef).getD (0 + j) undef = vs[j] := by
      rw [Nat.zero_add, Array.getD_eq_getD_getElem?, Array.getElem?_append_left (by simpa using hj)]
      simp [hj]
    rw [hg]
    exact hv j _ v (List.getElem?_eq_getElem hj) hx

section
variable {env : Env} {rs : List ResultVar} {S1 : List Blk} {F : Fr} {S : List Blk}
theorem retO1 {v rv : V} (h : resL env F S rs = some [v]) (hS : subS S S1) (h1 : lowS S1.length S1 = true) (h2 : V.low.lowL S1.length [v] = true) (hv : v = rv) : (Exit.ret = .normal ∨ Exit.ret = .ret) ∧ retO env rs S1 rv F S :=
  ⟨.inr rfl, [v], h, hS, h1, h2, hv⟩
theorem retON (h : resL env F S rs = some []) (hS : subS S S1) (h1 : lowS S1.length S1 = true) : (Exit.normal = .normal ∨ Exit.normal = .ret) ∧ retO env rs S1 (.tup []) F S :=
  ⟨.inl rfl, [], h, hS, h1, rfl, rfl⟩
theorem retON' (h : resL env F S rs = some []) (hS : subS S S1) (h1 : lowS S1.length S1 = true) : (Exit.ret = .normal ∨ Exit.ret = .ret) ∧ retO env rs S1 (.tup []) F S :=
  ⟨.inr rfl, [], h, hS, h1, rfl, rfl⟩
theorem retO2 {v1 v2 r1 r2 : V} (h : resL env F S rs = some [v1, v2]) (hS : subS S S1) (h1 : lowS S1.length S1 = true) (h2 : V.low.lowL S1.length [v1, v2] = true) (e1 : v1 = r1) (e2 : v2 = r2) : (Exit.ret = .normal ∨ Exit.ret = .ret) ∧ retO env rs S1 (.tup [r1, r2]) F S :=
  ⟨.inr rfl, [v1, v2], h, hS, h1, h2, by rw [e1, e2]⟩
theorem retO3 {v1 v2 v3 r1 r2 r3 : V} (h : resL env F S rs = some [v1, v2, v3]) (hS : subS S S1) (h1 : lowS S1.length S1 = true) (h2 : V.low.lowL S1.length [v1, v2, v3] = true) (e1 : v1 = r1) (e2 : v2 = r2) (e3 : v3 = r3) : (Exit.ret = .normal ∨ Exit.ret = .ret) ∧ retO env rs S1 (.tup [r1, r2, r3]) F S :=
  ⟨.inr rfl, [v1, v2, v3], h, hS, h1, h2, by rw [e1, e2, e3]⟩
end

end Go.Wk
