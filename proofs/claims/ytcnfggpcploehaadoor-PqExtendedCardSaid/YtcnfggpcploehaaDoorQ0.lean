/- Laid together: WkA, WkB, WkC, WkCa, WkD, WkDa, WkE, WkF, WkG. -/
import Derived.WalkKit
import Derived.Deep.Quiet
import Derived.KernelRfl
import Derived.Laws.Tables
import Derived.StillTail

set_option linter.all false

/- Abstract values, named local blocks, and how they stand to the machine's values and memory. -/
namespace Go.Wk
set_option maxRecDepth 10000
open Go.RowKit

/-- Data: a value without named blocks; a slice is its elements (each a list of cells). -/
inductive D where
  | bool (b : Bool)
  | int (k : IntKind) (n : Int)
  | str (s : ByteArray)
  | nilp
  | fn (f : FuncId)
  | agg (cs : List D)
  | arr (esz n : Nat) (get : Nat → List D)

/-- Values in slots and cells: data, and what leads to the call's own named blocks. -/
inductive V where
  | d (x : D)
  | agg (cs : List V)
  | tup (vs : List V)
  | ptr (name off : Nat)
  | ep (name i off : Nat)
  | nil
  | own (name : Nat)
  | sl (name off len : Nat)
  | rp (cells : List D)
  | clo (f : FuncId) (caps : List V)
  | bot

/-- The call's own blocks. -/
inductive Blk where
  | cells (cs : List V)
  | ints (k : IntKind) (xs : List Int)
  | bools (xs : List Bool)
  | row (esz n : Nat) (get : Nat → List D)
  | gone

def Blk.esz : Blk → Nat
  | .row esz _ _ => esz
  | _ => 1
def Blk.len : Blk → Nat
  | .ints _ xs => xs.length
  | .bools xs => xs.length
  | .row _ n _ => n
  | _ => 0
def Blk.get : Blk → Nat → List D
  | .ints k xs, i => [.int k (xs.getD i 0)]
  | .bools xs, i => [.bool (xs.getD i false)]
  | .row _ _ get, i => get i
  | _, _ => []
def Blk.isRow : Blk → Bool
  | .ints .. | .bools .. | .row .. => true
  | _ => false

def intsD (xs : List Int) : D := .arr 1 xs.length fun i => [.int .i64 (xs.getD i 0)]
def boolsD (xs : List Bool) : D := .arr 1 xs.length fun i => [.bool (xs.getD i false)]

mutual
def V.uses : V → Nat → Bool
  | .agg cs, m => V.usesL cs m
  | .tup cs, m => V.usesL cs m
  | .ptr n _, m => Nat.beq n m
  | .ep n _ _, m => Nat.beq n m
  | .own n, m => Nat.beq n m
  | .sl n _ _, m => Nat.beq n m
  | .clo _ cs, m => V.usesL cs m
  | .d _, _ => false
  | .nil, _ => false
  | .rp _, _ => false
  | .bot, _ => false
def V.usesL : List V → Nat → Bool
  | [], _ => false
  | x :: r, m => V.uses x m || V.usesL r m
end

theorem V.usesL_get {cs : List V} {m i : Nat} {x : V} (h : cs[i]? = some x) (hu : V.usesL cs m = false) : x.uses m = false := by
  induction cs generalizing i with
  | nil => simp at h
  | cons c r ih =>
    simp only [V.usesL, Bool.or_eq_false_iff] at hu
    cases i with
    | zero => simp at h; subst h; exact hu.1
    | succ i => simp at h; exact ih h hu.2

theorem V.usesL_of_get {cs : List V} {m i : Nat} {x : V} (h : cs[i]? = some x) (hu : x.uses m = true) : V.usesL cs m = true := by
  cases he : V.usesL cs m with
  | true => rfl
  | false => rw [V.usesL_get h he] at hu; exact hu

inductive RelD (R : Nat → Prop) (w : World) : Value → D → Prop
  | bool (b : Bool) : RelD R w (.bool b) (.bool b)
  | int (k : IntKind) (n : Int) : RelD R w (.int k n) (.int k n)
  | str (s : ByteArray) : RelD R w (.string s) (.str s)
  | nilp : RelD R w (.pointer none) .nilp
  | fn (f : FuncId) : RelD R w (.func (.func f) #[] #[]) (.fn f)
  | agg (vals : List Value) (cs : List D) (hl : vals.length = cs.length) (h : ∀ (i : Nat) v x, vals[i]? = some v → cs[i]? = some x → RelD R w v x) : RelD R w (.agg vals.toArray) (.agg cs)
  | nil (esz : Nat) (get : Nat → List D) : RelD R w (.slice none 0 0) (.arr esz 0 get)
  | arr (b off n cap esz : Nat) (get : Nat → List D) (val : Nat → Nat → Value) (hR : R b) (hnc : n ≤ cap) (hlen : ∀ i, i < n → (get i).length = esz)
      (hc : ∀ i j, i < n → j < esz → w.cell? ⟨b, off + (i * esz + j), none⟩ = some (val i j)) (h : ∀ i j x, i < n → (get i)[j]? = some x → RelD R w (val i j) x) :
      RelD R w (.slice (some ⟨b, off, none⟩) n cap) (.arr esz n get)

theorem RelD.mono {R R' : Nat → Prop} {w w' : World} (hR : ∀ k, R k → R' k ∧ w'.heap[k]? = w.heap[k]?) {v : Value} {x : D} (h : RelD R w v x) : RelD R' w' v x := by
  induction h with
  | bool b => exact .bool b
  | int k n => exact .int k n
  | str s => exact .str s
  | nilp => exact .nilp
  | fn f => exact .fn f
  | agg vals cs hl _ ih => exact .agg vals cs hl ih
  | nil esz get => exact .nil esz get
  | arr b off n cap esz get val hb hnc hlen hc _ ih =>
    exact .arr b off n cap esz get val (hR b hb).1 hnc hlen (fun i j hi hj => by rw [World.cell?_of_block (w := w) (hR b hb).2]; exact hc i j hi hj) ih

/-- A whole row: cap elements of esz cells. -/
def rowAt (w : World) (b esz cap : Nat) : Prop := ∃ c ty, w.heap[b]? = some (.cells c ty (0, 0)) ∧ c.size = cap * esz ∧ cap ≤ maxLen

def shape (S : List Blk) (nm : Nat) : Option (Nat × Nat) := (S[nm]?).map fun b => (b.esz, b.len)

inductive RelV (S : List Blk) (ρ : Nat → Option Nat) (R : Nat → Prop) (w : World) : Value → V → Prop
  | d {v : Value} {x : D} (h : RelD R w v x) : RelV S ρ R w v (.d x)
  | agg (vals : List Value) (cs : List V) (hl : vals.length = cs.length) (h : ∀ (i : Nat) v x, vals[i]? = some v → cs[i]? = some x → RelV S ρ R w v x) : RelV S ρ R w (.agg vals.toArray) (.agg cs)
  | tup (vals : List Value) (cs : List V) (hl : vals.length = cs.length) (h : ∀ (i : Nat) v x, vals[i]? = some v → cs[i]? = some x → RelV S ρ R w v x) : RelV S ρ R w (.tuple vals.toArray) (.tup cs)
  | nil : RelV S ρ R w (.slice none 0 0) .nil
  | ptr {nm b off : Nat} (hb : ρ nm = some b) (hs : (shape S nm).isSome = true) : RelV S ρ R w (.pointer (some ⟨b, off, none⟩)) (.ptr nm off)
  | ep {nm b i off esz len : Nat} (hb : ρ nm = some b) (hs : shape S nm = some (esz, len)) (hi : i < len) : RelV S ρ R w (.pointer (some ⟨b, i * esz + off, none⟩)) (.ep nm i off)
  | ownNil {nm esz : Nat} (hb : ρ nm = none) (hs : shape S nm = some (esz, 0)) : RelV S ρ R w (.slice none 0 0) (.own nm)
  | own {nm b esz len cap : Nat} (hb : ρ nm = some b) (hs : shape S nm = some (esz, len)) (hc : len ≤ cap) (hcap : rowAt w b esz cap) : RelV S ρ R w (.slice (some ⟨b, 0, none⟩) len cap) (.own nm)
  | slNil {nm : Nat} (hb : ρ nm = none) (hs : (shape S nm).isSome = true) : RelV S ρ R w (.slice none 0 0) (.sl nm 0 0)
  | sl {nm b esz n off len cap : Nat} (hb : ρ nm = some b) (hs : shape S nm = some (esz, n)) (hl : off + len ≤ n) (hc : len ≤ cap) (hcap : rowAt w b esz (off + cap)) : RelV S ρ R w (.slice (some ⟨b, off * esz, none⟩) len cap) (.sl nm off len)
  | rp {b off : Nat} {cells : List D} (val : Nat → Value) (hR : R b) (hc : ∀ j, j < cells.length → w.cell? ⟨b, off + j, none⟩ = some (val j)) (h : ∀ (j : Nat) x, cells[j]? = some x → RelD R w (val j) x) : RelV S ρ R w (.pointer (some ⟨b, off, none⟩)) (.rp cells)
  | clo (f : FuncId) (vals : List Value) (cs : List V) (hl : vals.length = cs.length) (h : ∀ (i : Nat) v x, vals[i]? = some v → cs[i]? = some x → RelV S ρ R w v x) : RelV S ρ R w (.func (.func f) #[] vals.toArray) (.clo f cs)
  | bot (v : Value) : RelV S ρ R w v .bot

theorem RelV.mono {S S' : List Blk} {ρ ρ' : Nat → Option Nat} {R R' : Nat → Prop} {w w' : World} (hR : ∀ k, R k → R' k ∧ w'.heap[k]? = w.heap[k]?) {v : Value} {x : V} (h : RelV S ρ R w v x)
    (hn : ∀ nm, x.uses nm = true → ρ' nm = ρ nm ∧ shape S' nm = shape S nm ∧ ∀ b e m, ρ nm = some b → rowAt w b e m → rowAt w' b e m) : RelV S' ρ' R' w' v x := by
  induction h with
  | d h => exact .d (h.mono hR)
  | nil => exact .nil
  | agg vals cs hl h ih => exact .agg vals cs hl fun i v x hv hx => ih i v x hv hx fun nm hu => hn nm (by simp only [V.uses]; exact V.usesL_of_get hx hu)
  | tup vals cs hl h ih => exact .tup vals cs hl fun i v x hv hx => ih i v x hv hx fun nm hu => hn nm (by simp only [V.uses]; exact V.usesL_of_get hx hu)
  | @ptr nm b off hb hs => have h := hn nm (by simp [V.uses]); exact .ptr (by rw [h.1]; exact hb) (by rw [h.2.1]; exact hs)
  | @ep nm b i off esz len hb hs hi => have h := hn nm (by simp [V.uses]); exact .ep (by rw [h.1]; exact hb) (by rw [h.2.1]; exact hs) hi
  | @ownNil nm esz hb hs => have h := hn nm (by simp [V.uses]); exact .ownNil (by rw [h.1]; exact hb) (by rw [h.2.1]; exact hs)
  | @own nm b esz len cap hb hs hc hcap => have h := hn nm (by simp [V.uses]); exact .own (by rw [h.1]; exact hb) (by rw [h.2.1]; exact hs) hc (h.2.2 _ _ _ hb hcap)
  | @slNil nm hb hs => have h := hn nm (by simp [V.uses]); exact .slNil (by rw [h.1]; exact hb) (by rw [h.2.1]; exact hs)
  | @sl nm b esz n off len cap hb hs hl hc hcap => have h := hn nm (by simp [V.uses]); exact .sl (by rw [h.1]; exact hb) (by rw [h.2.1]; exact hs) hl hc (h.2.2 _ _ _ hb hcap)
  | rp val hb hc h => exact .rp val (hR _ hb).1 (fun j hj => by rw [World.cell?_of_block (w := w) (hR _ hb).2]; exact hc j hj) (fun j x hx => (h j x hx).mono hR)
  | clo f vals cs hl h ih => exact .clo f vals cs hl fun i v x hv hx => ih i v x hv hx fun nm hu => hn nm (by simp only [V.uses]; exact V.usesL_of_get hx hu)
  | bot v => exact .bot v

theorem shape_lt {S : List Blk} {nm : Nat} (h : (shape S nm).isSome = true) : nm < S.length := by
  unfold shape at h
  cases hs : S[nm]? with
  | none => rw [hs] at h; simp at h
  | some b => exact (List.getElem?_eq_some_iff.1 hs).1

theorem V.usesL_ex {cs : List V} {m : Nat} (h : V.usesL cs m = true) : ∃ (i : Nat) (x : V), cs[i]? = some x ∧ x.uses m = true := by
  induction cs with
  | nil => simp [V.usesL] at h
  | cons c r ih =>
    simp only [V.usesL, Bool.or_eq_true] at h
    rcases h with h | h
    · exact ⟨0, c, by simp, h⟩
    · obtain ⟨i, x, h1, h2⟩ := ih h; exact ⟨i + 1, x, by simpa using h1, h2⟩

theorem RelV.uses_lt {S : List Blk} {ρ : Nat → Option Nat} {R : Nat → Prop} {w : World} {v : Value} {x : V} (h : RelV S ρ R w v x) : ∀ nm, x.uses nm = true → nm < S.length := by
  have beq : ∀ {a b : Nat}, Nat.beq a b = true → a = b := fun h => Nat.eq_of_beq_eq_true h
  induction h with
  | d h => intro nm hu; simp [V.uses] at hu
  | nil => intro nm hu; simp [V.uses] at hu
  | bot => intro nm hu; simp [V.uses] at hu
  | rp => intro nm hu; simp [V.uses] at hu
  | agg vals cs hl h ih =>
    intro nm hu
    obtain ⟨i, x, hx, hux⟩ := V.usesL_ex (by simpa [V.uses] using hu)
    have hlt : i < vals.length := by rw [hl]; exact (List.getElem?_eq_some_iff.1 hx).1
    exact ih i _ x (List.getElem?_eq_getElem hlt) hx nm hux
  | tup vals cs hl h ih =>
    intro nm hu
    obtain ⟨i, x, hx, hux⟩ := V.usesL_ex (by simpa [V.uses] using hu)
    have hlt : i < vals.length := by rw [hl]; exact (List.getElem?_eq_some_iff.1 hx).1
    exact ih i _ x (List.getElem?_eq_getElem hlt) hx nm hux
  | clo f vals cs hl h ih =>
    intro nm hu
    obtain ⟨i, x, hx, hux⟩ := V.usesL_ex (by simpa [V.uses] using hu)
    have hlt : i < vals.length := by rw [hl]; exact (List.getElem?_eq_some_iff.1 hx).1
    exact ih i _ x (List.getElem?_eq_getElem hlt) hx nm hux
  | ptr hb hs => intro nm hu; have := beq (by simpa [V.uses] using hu); subst this; exact shape_lt hs
  | ep hb hs hi => intro nm hu; have := beq (by simpa [V.uses] using hu); subst this; exact shape_lt (by rw [hs]; rfl)
  | ownNil hb hs => intro nm hu; have := beq (by simpa [V.uses] using hu); subst this; exact shape_lt (by rw [hs]; rfl)
  | own hb hs hc hcap => intro nm hu; have := beq (by simpa [V.uses] using hu); subst this; exact shape_lt (by rw [hs]; rfl)
  | slNil hb hs => intro nm hu; have := beq (by simpa [V.uses] using hu); subst this; exact shape_lt hs
  | sl hb hs hl hc hcap => intro nm hu; have := beq (by simpa [V.uses] using hu); subst this; exact shape_lt (by rw [hs]; rfl)

/-- What a block of the call's own holds. -/
def RelBlk (S : List Blk) (ρ : Nat → Option Nat) (R : Nat → Prop) (w : World) (nm : Nat) (blk : Blk) : Prop :=
  match blk with
  | .gone => True
  | .cells cs => ∃ b vals ty, ρ nm = some b ∧ w.heap[b]? = some (.cells (List.toArray vals) ty (0, 0)) ∧ vals.length = cs.length ∧ ∀ (i : Nat) v x, vals[i]? = some v → cs[i]? = some x → RelV S ρ R w v x
  | blk => (ρ nm = none ∧ blk.len = 0) ∨ ∃ b c ty, ρ nm = some b ∧ w.heap[b]? = some (.cells c ty (0, 0)) ∧ blk.len * blk.esz ≤ c.size ∧ (∀ i, i < blk.len → (blk.get i).length = blk.esz) ∧
      ∀ i j x, i < blk.len → (blk.get i)[j]? = some x → ∃ v, c[i * blk.esz + j]? = some v ∧ RelD R w v x

/-- What is not the call's own. -/
def Rr (_S : List Blk) (ρ : Nat → Option Nat) (w : World) (k : Nat) : Prop := k < w.heap.size ∧ ∀ i, ρ i ≠ some k

/-- Where a call began: its world, the blocks there that it may write, the names that must stay where they are. -/
structure Base where
  w : World
  imp : Nat → Prop
  np : Nat
  pin : Nat → Option Nat
  hid : Nat → Prop
def Base.of (w : World) : Base := ⟨w, fun _ => False, 0, fun _ => none, fun _ => False⟩
def Base.own (B : Base) (b : Nat) : Prop := B.w.heap.size ≤ b ∨ B.imp b

structure Kept (B : Base) (w : World) : Prop where
  os : w.os = B.w.os
  tape : w.tape = B.w.tape
  output : w.output = B.w.output
  size : B.w.heap.size ≤ w.heap.size
  block : ∀ k, k < B.w.heap.size → ¬ B.imp k → w.heap[k]? = B.w.heap[k]?

theorem Kept.of {w w' : World} (h : Kept (Base.of w) w') : Below w.heap.size w w' := ⟨h.os, h.tape, h.output, h.size, fun k hk => h.block k hk (fun h => h)⟩
theorem Kept.mk_of {w w' : World} (h : Below w.heap.size w w') : Kept (Base.of w) w' := ⟨h.os, h.tape, h.output, h.size, fun k hk _ => h.block k hk⟩
theorem Kept.refl (B : Base) : Kept B B.w := ⟨rfl, rfl, rfl, Nat.le_refl _, fun _ _ _ => rfl⟩
theorem Kept.ext {B : Base} {w w' : World} (h : Kept B w) (he : Below w.heap.size w w') : Kept B w' :=
  ⟨he.os.trans h.os, he.tape.trans h.tape, he.output.trans h.output, Nat.le_trans h.size he.size, fun k hk hi => (he.block k (Nat.lt_of_lt_of_le hk h.size)).trans (h.block k hk hi)⟩

/-- Blocks that are not to be spoken of stand behind the names. -/
structure Hid (w0 : Base) (n : Nat) (ρ : Nat → Option Nat) (w : World) : Prop where
  at_ : ∀ k, w0.hid k → ∃ i, n ≤ i ∧ ρ i = some k
  low : ∀ i b, ρ i = some b → b < w.heap.size
  no : ∀ k, w0.hid k → ¬ w0.own k
/-- A block that stays hidden, or none. -/
noncomputable def keepIf (h : Nat → Prop) (o : Option Nat) : Option Nat := match o with
  | some k => @ite _ (h k) (Classical.propDecidable _) (some k) none
  | none => none
theorem keepIf_some {h : Nat → Prop} {o : Option Nat} {k : Nat} (e : keepIf h o = some k) : o = some k ∧ h k := by
  unfold keepIf at e
  split at e
  · split at e
    · cases e; exact ⟨rfl, ‹_›⟩
    · cases e
  · cases e
theorem keepIf_of {h : Nat → Prop} {k : Nat} (hk : h k) : keepIf h (some k) = some k := by unfold keepIf; simp only; rw [if_pos hk]
theorem Hid.mono {w0 : Base} {n m : Nat} {ρ : Nat → Option Nat} {w w' : World} (h : Hid w0 n ρ w) (hn : m ≤ n) (hs : w.heap.size ≤ w'.heap.size) : Hid w0 m ρ w' :=
  ⟨fun k hk => let ⟨i, h1, h2⟩ := h.1 k hk; ⟨i, Nat.le_trans hn h1, h2⟩, fun i b hb => Nat.lt_of_lt_of_le (h.2 i b hb) hs, h.no⟩

structure Mem (w0 : Base) (S : List Blk) (ρ : Nat → Option Nat) (w : World) : Prop where
  below : Kept w0 w
  np : w0.np ≤ S.length
  pin : ∀ i b, i < w0.np → w0.pin i = some b → ρ i = some b ∧ ∃ cs, S[i]? = some (.cells cs)
  lt : ∀ i b, i < S.length → ρ i = some b → w0.own b ∧ b < w.heap.size
  inj : ∀ i j b, i < S.length → j < S.length → ρ i = some b → ρ j = some b → i = j
  hid : Hid w0 S.length ρ w
  blk : ∀ i blk, S[i]? = some blk → RelBlk S ρ (Rr S ρ w) w i blk

abbrev Fr := List (Nat × List Bool × V)
def look : Fr → Nat → Option (List Bool × V)
  | [], _ => none
  | (k, x) :: r, t => bif Nat.beq k t then some x else look r t

def allT : List Bool → Prop
  | [] => True
  | b :: r => b = true ∧ allT r
structure FrOK (n : Nat) (F : Fr) (S : List Blk) (ρ : Nat → Option Nat) (a : Act) (w : World) : Prop where
  size : a.tmps.size = n
  defers : a.defers = []
  get : ∀ t g v, look F t = some (g, v) → (allT g → RelV S ρ (Rr S ρ w) w (a.tmps.getD t undef) v) ∧ (¬ allT g → a.tmps.getD t undef = undef)

structure Rel (w0 : Base) (n : Nat) (F : Fr) (S : List Blk) (ρ : Nat → Option Nat) (a : Act) (w : World) : Prop where
  fr : FrOK n F S ρ a w
  mem : Mem w0 S ρ w

/-- A later world in which nothing that is there has turned. -/
abbrev Ext (w w' : World) : Prop := Below w.heap.size w w'

theorem lt_of_get {w : World} {b : Nat} {o : Obj} (h : w.heap[b]? = some o) : b < w.heap.size := (Array.getElem?_eq_some_iff.1 h).1

theorem Ext.get {w w' : World} (h : Ext w w') {b : Nat} {o : Obj} (hb : w.heap[b]? = some o) : w'.heap[b]? = some o := by rw [h.block b (lt_of_get hb)]; exact hb
theorem Ext.cap {w w' : World} (h : Ext w w') {b e m : Nat} (hc : rowAt w b e m) : rowAt w' b e m := let ⟨c, ty, hb, hm⟩ := hc; ⟨c, ty, h.get hb, hm⟩

theorem Rr.ext {S : List Blk} {ρ : Nat → Option Nat} {w w' : World} (h : Ext w w') : ∀ k, Rr S ρ w k → Rr S ρ w' k ∧ w'.heap[k]? = w.heap[k]? :=
  fun k hk => ⟨⟨Nat.lt_of_lt_of_le hk.1 h.size, hk.2⟩, h.block k hk.1⟩

theorem RelV.ext {S : List Blk} {ρ : Nat → Option Nat} {w w' : World} (he : Ext w w') {v : Value} {x : V} (h : RelV S ρ (Rr S ρ w) w v x) : RelV S ρ (Rr S ρ w') w' v x :=
  h.mono (Rr.ext he) fun _ _ => ⟨rfl, rfl, fun _ _ _ _ hc => Ext.cap he hc⟩

theorem RelBlk.ext {S : List Blk} {ρ : Nat → Option Nat} {w w' : World} (he : Ext w w') {nm : Nat} {blk : Blk} (h : RelBlk S ρ (Rr S ρ w) w nm blk) : RelBlk S ρ (Rr S ρ w') w' nm blk := by
  have row : ((ρ nm = none ∧ blk.len = 0) ∨ ∃ b c ty, ρ nm = some b ∧ w.heap[b]? = some (.cells c ty (0, 0)) ∧ blk.len * blk.esz ≤ c.size ∧ (∀ i, i < blk.len → (blk.get i).length = blk.esz) ∧
      ∀ i j x, i < blk.len → (blk.get i)[j]? = some x → ∃ v, c[i * blk.esz + j]? = some v ∧ RelD (Rr S ρ w) w v x) →
      ((ρ nm = none ∧ blk.len = 0) ∨ ∃ b c ty, ρ nm = some b ∧ w'.heap[b]? = some (.cells c ty (0, 0)) ∧ blk.len * blk.esz ≤ c.size ∧ (∀ i, i < blk.len → (blk.get i).length = blk.esz) ∧
      ∀ i j x, i < blk.len → (blk.get i)[j]? = some x → ∃ v, c[i * blk.esz + j]? = some v ∧ RelD (Rr S ρ w') w' v x) := by
    rintro (h | ⟨b, c, ty, h1, h2, h3, h4, h5⟩)
    · exact .inl h
    · exact .inr ⟨b, c, ty, h1, he.get h2, h3, h4, fun i j x hi hx => let ⟨v, hv, hr⟩ := h5 i j x hi hx; ⟨v, hv, hr.mono (Rr.ext he)⟩⟩
  cases blk with
  | gone => trivial
  | cells cs =>
    obtain ⟨b, vals, ty, h1, h2, h3, h4⟩ := h
    exact ⟨b, vals, ty, h1, he.get h2, h3, fun i v x hv hx => (h4 i v x hv hx).ext he⟩
  | ints k xs => exact row h
  | bools xs => exact row h
  | row esz n get => exact row h

theorem Mem.ext {w0 : Base} {S : List Blk} {ρ : Nat → Option Nat} {w w' : World} (h : Mem w0 S ρ w) (he : Ext w w') : Mem w0 S ρ w' :=
  ⟨h.below.ext he, h.np, h.pin, fun i b hi hb => let ⟨h1, h2⟩ := h.lt i b hi hb; ⟨h1, Nat.lt_of_lt_of_le h2 he.size⟩, h.inj, h.hid.mono (Nat.le_refl _) he.size, fun i blk hb => (h.blk i blk hb).ext he⟩

theorem FrOK.ext {n : Nat} {F : Fr} {S : List Blk} {ρ : Nat → Option Nat} {a : Act} {w w' : World} (h : FrOK n F S ρ a w) (he : Ext w w') : FrOK n F S ρ a w' :=
  ⟨h.size, h.defers, fun t g v hl => ⟨fun hg => ((h.get t g v hl).1 hg).ext he, (h.get t g v hl).2⟩⟩

theorem Rel.ext {w0 : Base} {n : Nat} {F : Fr} {S : List Blk} {ρ : Nat → Option Nat} {a : Act} {w w' : World} (h : Rel w0 n F S ρ a w) (he : Ext w w') : Rel w0 n F S ρ a w' :=
  ⟨h.fr.ext he, h.mem.ext he⟩

theorem getD_put {a : Act} {d : Nat} {v : Value} {n : Nat} (hs : a.tmps.size = n) (hd : d < n) (t : Nat) : (a.put (some d) v).tmps.getD t undef = if d = t then v else a.tmps.getD t undef := by
  subst hs
  simp only [Act.put]
  by_cases h : d = t
  · subst h; simp [hd]
  · rw [if_neg h]
    simp only [Array.getD_eq_getD_getElem?, Array.getElem?_setIfInBounds, if_neg h]

theorem FrOK.put {n : Nat} {F : Fr} {S : List Blk} {ρ : Nat → Option Nat} {a : Act} {w : World} (h : FrOK n F S ρ a w) {d : Nat} (hd : d < n) {g : List Bool} {v : V} {val : Value}
    (hv : (allT g → RelV S ρ (Rr S ρ w) w val v) ∧ (¬ allT g → val = undef)) : FrOK n ((d, g, v) :: F) S ρ (a.put (some d) val) w := by
  refine ⟨by simp [Act.put, h.size], h.defers, fun t g' v' hl => ?_⟩
  rw [getD_put h.size hd]
  simp only [look] at hl
  cases hb : Nat.beq d t with
  | true =>
    have := Nat.eq_of_beq_eq_true hb
    subst this
    simp only [hb, cond_true, Option.some.injEq, Prod.mk.injEq] at hl
    obtain ⟨rfl, rfl⟩ := hl
    simpa using hv
  | false =>
    have hne : d ≠ t := fun he => by subst he; simp at hb
    simp only [hb, cond_false] at hl
    rw [if_neg hne]
    exact h.get t g' v' hl

/-- A new name behind the others; the hidden ones move up. -/
def grw (ρ : Nat → Option Nat) (n : Nat) (g : Option Nat) : Nat → Option Nat := fun i => if i < n then ρ i else if i = n then g else ρ (i - 1)
theorem grw_lt (ρ : Nat → Option Nat) {n i : Nat} (g : Option Nat) (h : i < n) : grw ρ n g i = ρ i := if_pos h
theorem grw_same (ρ : Nat → Option Nat) (n : Nat) (g : Option Nat) : grw ρ n g n = g := by simp [grw]
theorem grw_gt (ρ : Nat → Option Nat) {n i : Nat} (g : Option Nat) (h : n < i) : grw ρ n g i = ρ (i - 1) := by
  unfold grw; rw [if_neg (by omega), if_neg (by omega)]
theorem grw_rr {S S' : List Blk} {ρ : Nat → Option Nat} {w w' : World} {n : Nat} {g : Option Nat} (hg : ∀ b, g = some b → w.heap.size ≤ b) (hs : w.heap.size ≤ w'.heap.size) {k : Nat} (hk : Rr S ρ w k) : Rr S' (grw ρ n g) w' k :=
  ⟨Nat.lt_of_lt_of_le hk.1 hs, fun i hi => by
    unfold grw at hi
    split at hi
    · exact hk.2 i hi
    · split at hi
      · have := hg k hi; have := hk.1; omega
      · exact hk.2 _ hi⟩
theorem grw_hid {w0 : Base} {ρ : Nat → Option Nat} {n m : Nat} {g : Option Nat} {w w' : World} (h : Hid w0 n ρ w) (hm : m = n + 1) (hs : w.heap.size ≤ w'.heap.size) (hg : ∀ b, g = some b → b < w'.heap.size) : Hid w0 m (grw ρ n g) w' := by
  subst hm
  refine ⟨fun k hk => ?_, fun i b hb => ?_, h.no⟩
  · obtain ⟨i, h1, h2⟩ := h.1 k hk
    exact ⟨i + 1, by omega, by rw [grw_gt _ _ (by omega)]; exact h2⟩
  · unfold grw at hb
    split at hb
    · exact Nat.lt_of_lt_of_le (h.2 i b hb) hs
    · split at hb
      · exact hg b hb
      · exact Nat.lt_of_lt_of_le (h.2 _ b hb) hs

end Go.Wk

/- The quiet operations over abstract values, and that the machine's own operations do what they say. -/
namespace Go.Wk
set_option maxRecDepth 10000
open Go.RowKit

inductive Kd where
  | bool | str
  | int (k : IntKind)
  | slice (e : TypeId)
  | array (n : Nat) (e : TypeId)
  | struct (fs : List (Nat × TypeId))
  | map (k e : TypeId)
  | ptr (e : TypeId)
  | other

def summ : TypeDesc → Kd
  | .bool => .bool
  | .int k => .int k
  | .string => .str
  | .slice e => .slice e
  | .array n e => .array n e
  | .struct fs => .struct (fs.toList.map fun f => (f.offset, f.type))
  | .map k e => .map k e
  | .pointer e => .ptr e
  | _ => .other

structure TI where
  k : Kd
  size : Nat
  bytes : Nat
  zero : Value

abbrev Env := List (TypeId × TI)

def ti? : Env → TypeId → Option TI
  | [], _ => none
  | (k, x) :: r, t => bif Nat.beq k t then some x else ti? r t

def TIok (P : Program) (t : TypeId) (ti : TI) : Prop :=
  (P.underlying t).map summ = some ti.k ∧ (P.info? t).map (fun i => (i.size, i.bytes, i.zero)) = some (ti.size, ti.bytes, some ti.zero)

def EnvOK (P : Program) : Env → Prop
  | [] => True
  | (t, ti) :: r => TIok P t ti ∧ EnvOK P r

theorem EnvOK.get {P : Program} {env : Env} (h : EnvOK P env) {t : TypeId} {ti : TI} (ht : ti? env t = some ti) : TIok P t ti := by
  induction env with
  | nil => simp [ti?] at ht
  | cons x r ih =>
    obtain ⟨k, y⟩ := x
    simp only [ti?] at ht
    cases hb : Nat.beq k t with
    | true =>
      have := Nat.eq_of_beq_eq_true hb
      subst this
      simp only [hb, cond_true, Option.some.injEq] at ht
      subst ht
      exact h.1
    | false => simp only [hb, cond_false] at ht; exact ih h.2 ht

theorem TIok.desc {P : Program} {t : TypeId} {ti : TI} (h : TIok P t ti) : ∃ d, P.underlying t = some d ∧ summ d = ti.k := by
  have h1 := h.1
  cases hd : P.underlying t with
  | none => rw [hd] at h1; simp at h1
  | some d => rw [hd] at h1; simp at h1; exact ⟨d, rfl, h1⟩
theorem TIok.info {P : Program} {t : TypeId} {ti : TI} (h : TIok P t ti) : ∃ i, P.info? t = some i ∧ i.size = ti.size ∧ i.bytes = ti.bytes ∧ i.zero = some ti.zero := by
  have h1 := h.2
  cases hd : P.info? t with
  | none => rw [hd] at h1; simp at h1
  | some i => rw [hd] at h1; simp at h1; exact ⟨i, rfl, h1.1, h1.2.1, h1.2.2⟩

def Kd.agg : Kd → Bool
  | .struct _ | .array .. => true
  | _ => false

theorem run_isAgg {P : Program} {t : TypeId} {ti : TI} (h : TIok P t ti) (w : World) : (isAgg t).run P w = .ok ti.k.agg w := by
  obtain ⟨d, hd, hk⟩ := h.desc
  rw [← hk]
  unfold isAgg
  simp only [Sem.run_bind, run_underlying hd, Result.andThen]
  cases d <;> rfl

theorem run_sizeOf {P : Program} {t : TypeId} {ti : TI} (h : TIok P t ti) (w : World) : (sizeOf t).run P w = .ok ti.size w := by
  obtain ⟨i, hi, hs, _⟩ := h.info
  simp [sizeOf, typeInfo, hi, hs]

/-- What is asked beside. -/
def allP : List Prop → Prop
  | [] => True
  | p :: r => p ∧ allP r
theorem allP_append {a b : List Prop} (h : allP (a ++ b)) : allP a ∧ allP b := by
  induction a with
  | nil => exact ⟨trivial, h⟩
  | cons x r ih => exact ⟨⟨h.1, (ih h.2).1⟩, (ih h.2).2⟩

def obg (g g' : List Bool) : List Prop :=
  match g' with
  | [] => []
  | _ :: _ => [allT g → allT g']
def grd (g : List Bool) (os : List Prop) : List Prop :=
  match os with
  | [] => []
  | _ :: _ => match g with
    | [] => os
    | _ :: _ => [allT g → allP os]
theorem obg_out {g g' : List Bool} (h : allP (obg g g')) (hg : allT g) : allT g' := by
  cases g' with
  | nil => trivial
  | cons b r => exact h.1 hg
theorem grd_out {g : List Bool} {os : List Prop} (h : allP (grd g os)) (hg : allT g) : allP os := by
  cases os with
  | nil => trivial
  | cons p q => cases g with
    | nil => exact h
    | cons b r => exact h.1 hg

def nilD : D := .arr 0 0 fun _ => []

def ofVal : Value → Option V
  | .bool b => some (.d (.bool b))
  | .int k n => some (.d (.int k n))
  | .string s => some (.d (.str s))
  | .pointer none => some (.d .nilp)
  | .slice none 0 0 => some .nil
  | _ => none

theorem ofVal_rel {v : Value} {x : V} (h : ofVal v = some x) (S : List Blk) (ρ : Nat → Option Nat) (R : Nat → Prop) (w : World) : RelV S ρ R w v x := by
  unfold ofVal at h
  split at h <;> simp at h <;> subst h
  · exact .d (.bool _)
  · exact .d (.int _ _)
  · exact .d (.str _)
  · exact .d .nilp
  · exact .nil

def rd (F : Fr) (g : List Bool) : Operand → Option (V × List Prop)
  | .tmp t => match look F t with
    | some (g', v) => some (v, obg g g')
    | none => none
  | .const c => match ofVal c with
    | some v => some (v, [])
    | none => none
  | .func f => some (.d (.fn f), [])
  | .global _ => none

theorem rd_sound {n : Nat} {F : Fr} {S : List Blk} {ρ : Nat → Option Nat} {a : Act} {w : World} (hf : FrOK n F S ρ a w) {g : List Bool} {x : Operand} {v : V} {ps : List Prop}
    (h : rd F g x = some (v, ps)) (hp : allP ps) (hg : allT g) : RelV S ρ (Rr S ρ w) w (a.eval x) v := by
  cases x with
  | tmp t =>
    simp only [rd] at h
    cases hl : look F t with
    | none => rw [hl] at h; simp at h
    | some gv =>
      obtain ⟨g', v'⟩ := gv
      rw [hl] at h; simp at h
      obtain ⟨rfl, rfl⟩ := h
      exact (hf.get t g' v' hl).1 (obg_out hp hg)
  | const c =>
    simp only [rd] at h
    cases hl : ofVal c with
    | none => rw [hl] at h; simp at h
    | some v' =>
      rw [hl] at h; simp at h
      obtain ⟨rfl, _⟩ := h
      exact ofVal_rel hl _ _ _ _
  | global _ => simp [rd] at h
  | func f =>
    simp only [rd] at h; simp at h
    obtain ⟨rfl, _⟩ := h
    exact .d (.fn f)

def InR : IntKind → Int → Prop
  | .i64, n => -9223372036854775808 ≤ n ∧ n ≤ 9223372036854775807
  | k, n => k.wrap n = n
theorem InR.wrap {k : IntKind} {n : Int} (h : InR k n) : k.wrap n = n := by
  cases k <;> first | exact h | exact IntWalk.i64_in n h

/-- Bits of whole numbers, and shifts. -/
def bitI (op : BinOp) (k : IntKind) (x y : Int) : Int :=
  match op with
  | .and => k.wrap (BitVec.ofInt k.bits x &&& BitVec.ofInt k.bits y).toNat
  | .or => k.wrap (BitVec.ofInt k.bits x ||| BitVec.ofInt k.bits y).toNat
  | _ => k.wrap (BitVec.ofInt k.bits x ^^^ BitVec.ofInt k.bits y).toNat
def shlI (k : IntKind) (x y : Int) : Int := k.wrap (x * 2 ^ (min y.toNat k.bits))
def shrI (k : IntKind) (x y : Int) : Int := x.fdiv (2 ^ (min y.toNat k.bits))
def shB (op : BinOp) (k : IntKind) (x y : Int) : Option (D × List Prop) :=
  match op with
  | .shl => some (.int k (shlI k x y), [0 ≤ y])
  | .shr => some (.int k (shrI k x y), [0 ≤ y])
  | _ => none
def isSh : BinOp → Bool
  | .shl | .shr => true
  | _ => false
theorem shB_sound {P : Program} {op : BinOp} {t : TypeId} {k k' : IntKind} {x y : Int} {r : D} {os : List Prop} (h : shB op k x y = some (r, os)) (ho : allP os) (R : Nat → Prop) (w : World) :
    ∃ val, (∀ w', (binOp op t (.int k x) (.int k' y)).run P w' = .ok val w') ∧ RelD R w val r := by
  cases op <;> simp only [shB, Option.some.injEq, Prod.mk.injEq, reduceCtorEq] at h
  case shl => obtain ⟨rfl, rfl⟩ := h; exact ⟨_, fun w' => by simp only [binOp, Op.shift]; rw [if_neg (by have := ho.1; omega)]; rfl, .int k _⟩
  case shr => obtain ⟨rfl, rfl⟩ := h; exact ⟨_, fun w' => by simp only [binOp, Op.shift]; rw [if_neg (by have := ho.1; omega)]; rfl, .int k _⟩

def kbin (op : BinOp) (k : IntKind) (x y : Int) : Option (D × List Prop) :=
  match op with
  | .lss => some (.bool (decide (x < y)), [])
  | .leq => some (.bool (decide (x ≤ y)), [])
  | .gtr => some (.bool (decide (y < x)), [])
  | .geq => some (.bool (decide (y ≤ x)), [])
  | .eql => some (.bool (decide (x = y)), [])
  | .neq => some (.bool (!decide (x = y)), [])
  | .add => some (.int k (x + y), [InR k (x + y)])
  | .sub => some (.int k (x - y), [InR k (x - y)])
  | .mul => some (.int k (x * y), [InR k (x * y)])
  | .quo => some (.int k (x / y), [0 ≤ x, 1 ≤ y, InR k (x / y)])
  | .rem => some (.int k (x % y), [0 ≤ x, 1 ≤ y])
  | .and => some (.int k (bitI .and k x y), [])
  | .or => some (.int k (bitI .or k x y), [])
  | .xor => some (.int k (bitI .xor k x y), [])
  | _ => none

theorem kbin_sound {P : Program} {op : BinOp} {t : TypeId} {k : IntKind} {x y : Int} {r : D} {os : List Prop} (h : kbin op k x y = some (r, os)) (ho : allP os) (R : Nat → Prop) (w : World) :
    ∃ val, (∀ w', (binOp op t (.int k x) (.int k y)).run P w' = .ok val w') ∧ RelD R w val r := by
  cases op <;> simp only [kbin, Option.some.injEq, Prod.mk.injEq, reduceCtorEq] at h
  case add => obtain ⟨rfl, rfl⟩ := h; exact ⟨_, fun w' => by simp [binOp_add, Op.intArith, InR.wrap ho.1], .int k _⟩
  case sub => obtain ⟨rfl, rfl⟩ := h; exact ⟨_, fun w' => by simp [binOp_sub, Op.intArith, InR.wrap ho.1], .int k _⟩
  case mul => obtain ⟨rfl, rfl⟩ := h; exact ⟨_, fun w' => by simp [binOp_mul, Op.intArith, InR.wrap ho.1], .int k _⟩
  case quo =>
    obtain ⟨rfl, rfl⟩ := h
    obtain ⟨h0, h1, h2, _⟩ := ho
    refine ⟨.int k (x / y), fun w' => ?_, .int k _⟩
    rw [binOp_quo]
    have hy : y ≠ 0 := by omega
    simp only [Op.intDiv, if_neg hy, Int.tdiv_eq_ediv_of_nonneg h0, InR.wrap h2]
    rfl
  case rem =>
    obtain ⟨rfl, rfl⟩ := h
    obtain ⟨h0, h1, _⟩ := ho
    refine ⟨.int k (x % y), fun w' => ?_, .int k _⟩
    rw [binOp_rem]
    have hy : y ≠ 0 := by omega
    simp only [Op.intDiv, if_neg hy, Int.tmod_eq_emod_of_nonneg h0]
    rfl
  case and => obtain ⟨rfl, rfl⟩ := h; exact ⟨_, fun w' => by simp only [binOp, Op.intBits]; rw [if_neg (by simp)]; rfl, .int k _⟩
  case or => obtain ⟨rfl, rfl⟩ := h; exact ⟨_, fun w' => by simp only [binOp, Op.intBits]; rw [if_neg (by simp)]; rfl, .int k _⟩
  case xor => obtain ⟨rfl, rfl⟩ := h; exact ⟨_, fun w' => by simp only [binOp, Op.intBits]; rw [if_neg (by simp)]; rfl, .int k _⟩
  case lss => obtain ⟨rfl, rfl⟩ := h; exact ⟨_, fun w' => by rw [binOp_lss]; rfl, .bool _⟩
  case leq => obtain ⟨rfl, rfl⟩ := h; exact ⟨_, fun w' => by rw [binOp_leq]; rfl, .bool _⟩
  case gtr => obtain ⟨rfl, rfl⟩ := h; exact ⟨_, fun w' => by rw [binOp_gtr]; rfl, .bool _⟩
  case geq => obtain ⟨rfl, rfl⟩ := h; exact ⟨_, fun w' => by rw [binOp_geq]; rfl, .bool _⟩
  case eql => obtain ⟨rfl, rfl⟩ := h; exact ⟨.bool (decide (x = y)), fun w' => by rw [binOp_eql]; rfl, .bool _⟩
  case neq => obtain ⟨rfl, rfl⟩ := h; exact ⟨.bool (!decide (x = y)), fun w' => by rw [binOp_neq]; rfl, .bool _⟩

def binD (env : Env) (op : BinOp) (t : TypeId) (x y : V) : Option (D × List Prop) :=
  match x, y with
  | .d (.int k a), .d (.int k' b) => bif isSh op then shB op k a b else if k = k' then kbin op k a b else none
  | .d (.bool a), .d (.bool b) =>
    match op, ti? env t with
    | .eql, some ⟨.bool, _, _, _⟩ => some (.bool (a == b), [])
    | .neq, some ⟨.bool, _, _, _⟩ => some (.bool (a != b), [])
    | _, _ => none
  | .d (.str a), .d (.str b) =>
    match op with
    | .eql => some (.bool (a.toList == b.toList), [])
    | .neq => some (.bool (!(a.toList == b.toList)), [])
    | _ => none
  | .ptr _ _, .d .nilp =>
    match op, ti? env t with
    | .eql, some ⟨.ptr _, _, _, _⟩ => some (.bool false, [])
    | .neq, some ⟨.ptr _, _, _, _⟩ => some (.bool true, [])
    | _, _ => none
  | .d .nilp, .d .nilp =>
    match op, ti? env t with
    | .eql, some ⟨.ptr _, _, _, _⟩ => some (.bool true, [])
    | .neq, some ⟨.ptr _, _, _, _⟩ => some (.bool false, [])
    | _, _ => none
  | _, _ => none

theorem desc_ptr {d : TypeDesc} {e : TypeId} (h : summ d = .ptr e) : d = .pointer e := by cases d <;> simp [summ] at h; exact congrArg _ h
theorem desc_bool {d : TypeDesc} (h : summ d = .bool) : d = .bool := by cases d <;> simp [summ] at h; rfl
theorem desc_slice {d : TypeDesc} {e : TypeId} (h : summ d = .slice e) : d = .slice e := by cases d <;> simp [summ] at h; exact congrArg _ h
theorem desc_array {d : TypeDesc} {n : Nat} {e : TypeId} (h : summ d = .array n e) : d = .array n e := by cases d <;> simp [summ] at h; obtain ⟨rfl, rfl⟩ := h; rfl
theorem desc_str {d : TypeDesc} (h : summ d = .str) : d = .string := by cases d <;> simp [summ] at h; rfl
theorem desc_struct {d : TypeDesc} {fs : List (Nat × TypeId)} (h : summ d = .struct fs) : ∃ f, d = .struct f ∧ f.toList.map (fun f => (f.offset, f.type)) = fs := by
  cases d <;> simp [summ] at h; exact ⟨_, rfl, h⟩

theorem eqGuard_quiet (op : BinOp) (t : TypeId) (x y : Operand) (u v : Value) (hu : match u with | .bool _ | .int .. | .string _ | .pointer _ | .slice .. => True | _ => False) : eqGuard op t x y u v = pure () := by
  cases u <;> first | exact hu.elim | (cases op <;> rfl)

theorem run_eql_ptr_nil {P : Program} {t e : TypeId} (hd : P.underlying t = some (.pointer e)) (a : Addr) (w : World) : (Op.equal t (.pointer (some a)) (.pointer none)).run P w = .ok false w := by
  have h : ∀ n, (Op.equalIn (n + 1) t (.pointer (some a)) (.pointer none)).run P w = .ok false w := fun n => by simp [Op.equalIn, run_underlying hd]
  exact h 9999
theorem run_eql_nil_nil' {P : Program} {t e : TypeId} (hd : P.underlying t = some (.pointer e)) (w : World) : (Op.equal t (.pointer none) (.pointer none)).run P w = .ok true w := by
  have h : ∀ n, (Op.equalIn (n + 1) t (.pointer none) (.pointer none)).run P w = .ok true w := fun n => by simp [Op.equalIn, run_underlying hd]
  exact h 9999

theorem binD_sound {P : Program} {env : Env} (hE : EnvOK P env) {op : BinOp} {t : TypeId} {x y : V} {r : D} {os : List Prop} (h : binD env op t x y = some (r, os)) (ho : allP os)
    {S : List Blk} {ρ : Nat → Option Nat} {R : Nat → Prop} {w : World} {u v : Value} (hu : RelV S ρ R w u x) (hv : RelV S ρ R w v y) (ox oy : Operand) :
    ∃ val, (∀ w', (do eqGuard op t ox oy u v; binOp op t u v : Sem Value).run P w' = .ok val w') ∧ RelD R w val r := by
  unfold binD at h
  split at h
  · cases hu with | d hu => cases hv with | d hv => cases hu; cases hv
                                                    rename_i k a k' b
                                                    cases hsh : isSh op with
                                                    | true =>
                                                      rw [hsh] at h
                                                      obtain ⟨val, h1, h2⟩ := shB_sound (P := P) (t := t) (k' := k') h ho R w
                                                      exact ⟨val, fun w' => by rw [eqGuard_quiet _ _ _ _ _ _ trivial]; simpa using h1 w', h2⟩
                                                    | false =>
                                                    rw [hsh] at h
                                                    simp only [cond_false] at h
                                                    split at h
                                                    · subst_vars
                                                      obtain ⟨val, h1, h2⟩ := kbin_sound (P := P) (t := t) h ho R w
                                                      exact ⟨val, fun w' => by rw [eqGuard_quiet _ _ _ _ _ _ trivial]; simpa using h1 w', h2⟩
                                                    · simp at h
  · cases hu with | d hu => cases hv with | d hv => cases hu; cases hv
                                                    rename_i a b
                                                    split at h
                                                    · rename_i ht
                                                      obtain ⟨d, hd, hk⟩ := (hE.get ht).desc
                                                      have := desc_bool hk; subst this
                                                      simp at h; obtain ⟨rfl, rfl⟩ := h
                                                      exact ⟨.bool (a == b), fun w' => by rw [eqGuard_quiet _ _ _ _ _ _ trivial]; simpa using run_eql_bool w' t a b hd, .bool _⟩
                                                    · rename_i ht
                                                      obtain ⟨d, hd, hk⟩ := (hE.get ht).desc
                                                      have := desc_bool hk; subst this
                                                      simp at h; obtain ⟨rfl, rfl⟩ := h
                                                      refine ⟨.bool (a != b), fun w' => ?_, .bool _⟩
                                                      rw [eqGuard_quiet _ _ _ _ _ _ trivial]
                                                      simp [binOp, run_equal_bool w' t a b hd, bne]
                                                    · simp at h
  · cases hu with | d hu => cases hv with | d hv => cases hu; cases hv
                                                    rename_i a b
                                                    split at h
                                                    · simp at h; obtain ⟨rfl, rfl⟩ := h
                                                      refine ⟨.bool (a.toList == b.toList), fun w' => ?_, .bool _⟩
                                                      rw [eqGuard_quiet _ _ _ _ _ _ trivial]
                                                      simp [binOp, Op.stringOp]
                                                    · simp at h; obtain ⟨rfl, rfl⟩ := h
                                                      refine ⟨.bool (!(a.toList == b.toList)), fun w' => ?_, .bool _⟩
                                                      rw [eqGuard_quiet _ _ _ _ _ _ trivial]
                                                      simp [binOp, Op.stringOp]
                                                    · simp at h
  · cases hv with | d hv => cases hv; cases hu
                            split at h
                            · rename_i ht
                              obtain ⟨d, hd, hk⟩ := (hE.get ht).desc
                              have := desc_ptr hk; subst this
                              simp at h; obtain ⟨rfl, rfl⟩ := h
                              refine ⟨.bool false, fun w' => ?_, .bool _⟩
                              rw [eqGuard_quiet _ _ _ _ _ _ trivial]
                              simp [binOp, run_eql_ptr_nil hd]
                            · rename_i ht
                              obtain ⟨d, hd, hk⟩ := (hE.get ht).desc
                              have := desc_ptr hk; subst this
                              simp at h; obtain ⟨rfl, rfl⟩ := h
                              refine ⟨.bool true, fun w' => ?_, .bool _⟩
                              rw [eqGuard_quiet _ _ _ _ _ _ trivial]
                              simp [binOp, run_eql_ptr_nil hd]
                            · simp at h
  · cases hu with | d hu => cases hv with | d hv => cases hu; cases hv
                                                    split at h
                                                    · rename_i ht
                                                      obtain ⟨d, hd, hk⟩ := (hE.get ht).desc
                                                      have := desc_ptr hk; subst this
                                                      simp at h; obtain ⟨rfl, rfl⟩ := h
                                                      refine ⟨.bool true, fun w' => ?_, .bool _⟩
                                                      rw [eqGuard_quiet _ _ _ _ _ _ trivial]
                                                      simp [binOp, run_eql_nil_nil' hd]
                                                    · rename_i ht
                                                      obtain ⟨d, hd, hk⟩ := (hE.get ht).desc
                                                      have := desc_ptr hk; subst this
                                                      simp at h; obtain ⟨rfl, rfl⟩ := h
                                                      refine ⟨.bool false, fun w' => ?_, .bool _⟩
                                                      rw [eqGuard_quiet _ _ _ _ _ _ trivial]
                                                      simp [binOp, run_eql_nil_nil' hd]
                                                    · simp at h
  · simp at h

end Go.Wk

/- One quiet operation: what it yields over abstract values, and that the machine yields the like. -/
namespace Go.Wk
set_option maxRecDepth 10000
open Go.RowKit

def nthF {α : Type} : List α → Nat → Option α
  | [], _ => none
  | x :: _, 0 => some x
  | _ :: r, n + 1 => nthF r n
theorem nthF_eq {α : Type} (l : List α) (n : Nat) : nthF l n = l[n]? := by
  induction l generalizing n with
  | nil => simp [nthF]
  | cons x r ih => cases n with
    | zero => simp [nthF]
    | succ n => simp [nthF, ih]
def memN : List Nat → Nat → Bool
  | [], _ => false
  | x :: r, m => Nat.beq x m || memN r m
theorem memN_iff {σ : List Nat} {m : Nat} : memN σ m = true ↔ m ∈ σ := by
  induction σ with
  | nil => simp [memN]
  | cons x r ih =>
    simp only [memN, Bool.or_eq_true, ih, List.mem_cons]
    constructor
    · rintro (h | h)
      · exact .inl (Nat.eq_of_beq_eq_true h).symm
      · exact .inr h
    · rintro (h | h)
      · subst h; exact .inl (by simp)
      · exact .inr h
def dropF {α : Type} : Nat → List α → Option (List α)
  | 0, l => some l
  | _ + 1, [] => none
  | n + 1, _ :: r => dropF n r
theorem dropF_get {α : Type} {n : Nat} {l m : List α} (h : dropF n l = some m) : n + m.length = l.length ∧ ∀ i : Nat, m[i]? = l[n + i]? := by
  induction n generalizing l with
  | zero => simp [dropF] at h; subst h; simp
  | succ n ih => cases l with
    | nil => simp [dropF] at h
    | cons x r =>
      simp only [dropF] at h
      obtain ⟨h1, h2⟩ := ih h
      exact ⟨by simp; omega, fun i => by rw [h2, show n + 1 + i = (n + i) + 1 by omega]; simp⟩
def takeF {α : Type} : Nat → List α → Option (List α)
  | 0, _ => some []
  | _ + 1, [] => none
  | n + 1, x :: r => match takeF n r with
    | some r' => some (x :: r')
    | none => none
theorem takeF_get {α : Type} {n : Nat} {l m : List α} (h : takeF n l = some m) : m.length = n ∧ n ≤ l.length ∧ ∀ i : Nat, i < n → m[i]? = l[i]? := by
  induction n generalizing l m with
  | zero => simp [takeF] at h; subst h; simp
  | succ n ih => cases l with
    | nil => simp [takeF] at h
    | cons x r =>
      simp only [takeF] at h
      cases ht : takeF n r with
      | none => rw [ht] at h; simp at h
      | some r' =>
        rw [ht] at h; simp at h; subst h
        obtain ⟨h1, h2, h3⟩ := ih ht
        refine ⟨by simp [h1], by simp; omega, fun i hi => ?_⟩
        cases i with
        | zero => simp
        | succ i => simp; exact h3 i (by omega)
def mapF {α β : Type} (f : α → β) : List α → List β
  | [] => []
  | x :: r => f x :: mapF f r
theorem mapF_eq {α β : Type} (f : α → β) (l : List α) : mapF f l = l.map f := by
  induction l with
  | nil => rfl
  | cons x r ih => simp [mapF, ih]
def takeD : Nat → List D → Option (List V)
  | 0, _ => some []
  | _ + 1, [] => none
  | n + 1, x :: r => match takeD n r with
    | some r' => some (.d x :: r')
    | none => none
theorem takeD_get {n : Nat} {l : List D} {m : List V} (h : takeD n l = some m) : m.length = n ∧ n ≤ l.length ∧ ∀ (i : Nat) (x : V), m[i]? = some x → ∃ y, l[i]? = some y ∧ x = V.d y := by
  induction n generalizing l m with
  | zero => simp [takeD] at h; subst h; simp
  | succ n ih => cases l with
    | nil => simp [takeD] at h
    | cons x r =>
      simp only [takeD] at h
      cases ht : takeD n r with
      | none => rw [ht] at h; simp at h
      | some r' =>
        rw [ht] at h; simp at h; subst h
        obtain ⟨h1, h2, h3⟩ := ih ht
        refine ⟨by simp [h1], by simp; omega, fun i y hy => ?_⟩
        cases i with
        | zero => simp at hy; exact ⟨x, by simp, hy.symm⟩
        | succ i => simp at hy; simpa using h3 i y hy

def pickB (c x y : Bool) : Operand → Operand → Option Bool
  | _, .const (.bool false) => some (c && x)
  | .const (.bool true), _ => some (c || y)
  | _, _ => some (bif c then x else y)

def execLoad (env : Env) (S : List Blk) (T : TypeId) (p : V) : Option V :=
  match ti? env T with
  | none => none
  | some ti =>
    match p with
    | .ptr nm off => match nthF S nm with
      | some (.cells cs) =>
        bif ti.k.agg then (match dropF off cs with
          | some r => (match takeF ti.size r with
            | some m => some (.agg m)
            | none => none)
          | none => none)
        else nthF cs off
      | _ => none
    | .ep nm i off => match nthF S nm with
      | some blk => bif blk.isRow then (match dropF off (blk.get i) with
          | some r => bif ti.k.agg then (match takeD ti.size r with
              | some m => some (.agg m)
              | none => none)
            else (match r with
              | x :: _ => some (.d x)
              | [] => none)
          | none => none) else none
      | none => none
    | .rp cells => bif ti.k.agg then (match takeD ti.size cells with
        | some m => some (.agg m)
        | none => none)
      else (match cells with
        | x :: _ => some (.d x)
        | [] => none)
    | _ => none

def execField (env : Env) (T : TypeId) (p : V) (f : Nat) : Option V :=
  match ti? env T with
  | some ⟨.struct fs, _, _, _⟩ =>
    match nthF fs f with
    | some (off, ft) =>
      match ti? env ft with
      | some tf => bif Nat.beq tf.size 0 then none else
        (match p with
        | .ptr nm o => some (.ptr nm (o + off))
        | .ep nm i o => some (.ep nm i (o + off))
        | .rp cells => (match dropF off cells with
          | some r => some (.rp r)
          | none => none)
        | _ => none)
      | none => none
    | none => none
  | _ => none

def execIndex (env : Env) (S : List Blk) (T : TypeId) (x : V) (i : Int) : Option (V × List Prop) :=
  match ti? env T with
  | some ⟨.slice e, _, _, _⟩ =>
    match ti? env e with
    | none => none
    | some te =>
      match x with
      | .d (.arr esz n get) => bif Nat.beq te.size esz then some (.rp (get i.toNat), [0 ≤ i, i < n]) else none
      | .own nm => match nthF S nm with
        | some blk => bif Nat.beq te.size blk.esz then some (.ep nm i.toNat 0, [0 ≤ i, i < blk.len]) else none
        | none => none
      | .sl nm off len => match nthF S nm with
        | some blk => bif Nat.beq te.size blk.esz then some (.ep nm (off + i.toNat) 0, [0 ≤ i, i < len]) else none
        | none => none
      | _ => none
  | some ⟨.array n e, _, _, _⟩ =>
    match ti? env e with
    | none => none
    | some te =>
      match x with
      | .ptr nm o => some (.ptr nm (o + i.toNat * te.size), [0 ≤ i, i < n])
      | .ep nm j o => some (.ep nm j (o + i.toNat * te.size), [0 ≤ i, i < n])
      | .rp cells => match dropF (i.toNat * te.size) cells with
        | some r => some (.rp r, [0 ≤ i, i < n])
        | none => none
      | _ => none
  | _ => none

def execLen (env : Env) (S : List Blk) (T : TypeId) (x : V) : Option V :=
  match ti? env T with
  | some ⟨.slice _, _, _, _⟩ =>
    match x with
    | .d (.arr _ n _) => some (.d (.int .i64 n))
    | .nil => some (.d (.int .i64 0))
    | .own nm => match nthF S nm with
      | some blk => some (.d (.int .i64 blk.len))
      | none => none
    | .sl _ _ len => some (.d (.int .i64 len))
    | _ => none
  | some ⟨.str, _, _, _⟩ =>
    match x with
    | .d (.str s) => some (.d (.int .i64 s.size))
    | _ => none
  | _ => none

/-- A slice of the call's own, cut at its end. -/
def execCut (env : Env) (S : List Blk) (T : TypeId) (x : V) (h : Int) : Option (V × List Prop) :=
  match ti? env T with
  | some ⟨.slice e, _, _, _⟩ => match ti? env e with
    | some _ => match x with
      | .own nm => match nthF S nm with
        | some blk => some (.sl nm 0 h.toNat, [0 ≤ h ∧ h ≤ blk.len])
        | none => none
      | .d (.arr esz n get) => some (.d (.arr esz h.toNat get), [0 ≤ h ∧ h ≤ n])
      | _ => none
    | none => none
  | _ => none

/-- x[lo:] -/
def execLo (env : Env) (S : List Blk) (T : TypeId) (x : V) (m : Int) : Option (V × List Prop) :=
  match ti? env T with
  | some ⟨.slice e, _, _, _⟩ => match ti? env e with
    | some te => match x with
      | .own nm => match nthF S nm with
        | some blk => bif Nat.beq blk.esz te.size then some (.sl nm m.toNat (blk.len - m.toNat), [0 ≤ m ∧ m < blk.len]) else none
        | none => none
      | .d (.arr esz n get) => bif Nat.beq esz te.size then some (.d (.arr esz (n - m.toNat) fun i => get (m.toNat + i)), [0 ≤ m ∧ m ≤ n]) else none
      | _ => none
    | none => none
  | _ => none

end Go.Wk

/- Values as cells; what a quiet operation yields. -/
namespace Go.Wk
set_option maxRecDepth 10000
open Go.RowKit

/-- A value that says all by itself. -/
def D.scal : D → Bool
  | .bool _ | .int .. | .str _ | .nilp | .fn _ => true
  | _ => false
theorem RelD.scal_eq {R R' : Nat → Prop} {w w' : World} {v v' : Value} {x : D} (hs : x.scal = true) (h : RelD R w v x) (h' : RelD R' w' v' x) : v = v' := by
  cases x <;> simp [D.scal] at hs <;> cases h <;> cases h' <;> rfl
def D.valOf : D → Value
  | .bool b => .bool b
  | .int k n => .int k n
  | .str s => .string s
  | .nilp => .pointer none
  | .fn f => .func (.func f) #[] #[]
  | _ => undef
theorem RelD.valOf_eq {R : Nat → Prop} {w : World} {v : Value} {x : D} (hs : x.scal = true) (h : RelD R w v x) : v = x.valOf := by
  cases x <;> simp [D.scal] at hs <;> cases h <;> rfl
theorem RelD.of_scal {x : D} (hs : x.scal = true) (R : Nat → Prop) (w : World) : RelD R w x.valOf x := by
  cases x <;> simp [D.scal] at hs <;> constructor

def vcells : List D → Option (List V)
  | [] => some []
  | x :: r => match vcells r with
    | some s => some (.d x :: s)
    | none => none
theorem vcells_eq (l : List D) : vcells l = some (mapF V.d l) := by
  induction l with
  | nil => rfl
  | cons x r ih => simp [vcells, mapF, ih]
def V.one : V → Bool
  | .d (.agg _) => false
  | .agg _ | .tup _ | .bot => false
  | _ => true
theorem V.one_cell {S : List Blk} {ρ : Nat → Option Nat} {R : Nat → Prop} {w : World} {u : Value} {x : V} (h1 : x.one = true) (h : RelV S ρ R w u x) : u.cells = #[u] ∧ u.oneCell' = true := by
  cases h with
  | d h => cases h <;> first | (simp [V.one] at h1; done) | exact ⟨rfl, rfl⟩
  | agg => simp [V.one] at h1
  | tup => simp [V.one] at h1
  | bot => simp [V.one] at h1
  | _ => exact ⟨rfl, rfl⟩

/-- The cells of a value that is laid into memory. -/
def cellsOf : V → Option (List V)
  | .agg cs => bif cs.all V.one then some cs else none
  | .d (.agg ds) => bif ds.all (fun y => V.one (.d y)) then vcells ds else none
  | .tup _ => none
  | .bot => none
  | x => some [x]
theorem scal_one {x : D} (h : x.scal = true) : (V.d x).one = true := by cases x <;> simp_all [D.scal, V.one]
theorem cellsOf_rel {S : List Blk} {ρ : Nat → Option Nat} {R : Nat → Prop} {w : World} {u : Value} {x : V} {cs : List V} (hc : cellsOf x = some cs) (h : RelV S ρ R w u x) :
    u.cells.size = cs.length ∧ ∀ (i : Nat) v y, u.cells[i]? = some v → cs[i]? = some y → RelV S ρ R w v y ∧ v.oneCell' = true := by
  have single : ∀ {x : V}, x.one = true → RelV S ρ R w u x → u.cells.size = [x].length ∧ ∀ (i : Nat) v y, u.cells[i]? = some v → [x][i]? = some y → RelV S ρ R w v y ∧ v.oneCell' = true := by
    intro x h1 h
    obtain ⟨e1, e2⟩ := V.one_cell h1 h
    rw [e1]
    refine ⟨rfl, fun i v y hv hy => ?_⟩
    cases i with
    | zero => simp at hv hy; subst hv hy; exact ⟨h, e2⟩
    | succ i => simp at hy
  cases x with
  | agg l =>
    simp only [cellsOf] at hc
    cases hall : l.all V.one with
    | false => simp [hall] at hc
    | true =>
      simp [hall] at hc; subst hc
      cases h with
      | agg vals _ hl hr =>
        refine ⟨by simpa [Value.cells] using hl, fun i v y hv hy => ?_⟩
        have hv' : vals[i]? = some v := by simpa [Value.cells] using hv
        have hrel := hr i v y hv' hy
        exact ⟨hrel, (V.one_cell (by rw [List.all_eq_true] at hall; exact hall y (List.mem_of_getElem? hy)) hrel).2⟩
  | d y =>
    cases y with
    | agg ds =>
      simp only [cellsOf] at hc
      cases hall : ds.all (fun y => V.one (.d y)) with
      | false => simp [hall] at hc
      | true =>
        simp [hall, vcells_eq, mapF_eq] at hc; subst hc
        cases h with
        | d h => cases h with
          | agg vals _ hl hr =>
            refine ⟨by simpa [Value.cells] using hl, fun i v y hv hy => ?_⟩
            have hv' : vals[i]? = some v := by simpa [Value.cells] using hv
            rw [List.getElem?_map] at hy
            cases hd : ds[i]? with
            | none => rw [hd] at hy; simp at hy
            | some z =>
              rw [hd] at hy; simp at hy; subst hy
              have hs : (V.d z).one = true := by rw [List.all_eq_true] at hall; exact hall z (List.mem_of_getElem? hd)
              exact ⟨.d (hr i v z hv' hd), (V.one_cell hs (.d (hr i v z hv' hd) : RelV S ρ R w v (.d z))).2⟩
    | _ => simp [cellsOf] at hc; subst hc; exact single rfl h
  | tup => simp [cellsOf] at hc
  | bot => simp [cellsOf] at hc
  | _ => simp [cellsOf] at hc; subst hc; exact single rfl h

def setC : List V → Nat → List V → Option (List V)   -- cells laid over others, from a place on
  | l, _, [] => some l
  | [], _, _ :: _ => none
  | _ :: r, 0, v :: vs => match setC r 0 vs with
    | some r' => some (v :: r')
    | none => none
  | x :: r, n + 1, vs => match setC r n vs with
    | some r' => some (x :: r')
    | none => none
theorem setC_get {l l' vs : List V} {n : Nat} (h : setC l n vs = some l') : l'.length = l.length ∧ (vs = [] ∨ n + vs.length ≤ l.length) ∧ ∀ i : Nat, l'[i]? = if n ≤ i ∧ i < n + vs.length then vs[i - n]? else l[i]? := by
  induction l generalizing n vs l' with
  | nil => cases vs with
    | nil => cases n <;> (simp [setC] at h; subst h; simp)
    | cons => cases n <;> simp [setC] at h
  | cons x r ih =>
    cases vs with
    | nil => cases n <;> (simp [setC] at h; subst h; simp <;> (try (intro i h1 h2; omega)))
    | cons v vs =>
      cases n with
      | zero =>
        simp only [setC] at h
        cases hr : setC r 0 vs with
        | none => rw [hr] at h; simp at h
        | some r' =>
          rw [hr] at h; simp at h; subst h
          obtain ⟨h1, h2, h3⟩ := ih hr
          refine ⟨by simp [h1], .inr (by rcases h2 with rfl | h2 <;> simp <;> omega), fun i => ?_⟩
          cases i with
          | zero => simp
          | succ i => simp [h3 i]
      | succ n =>
        simp only [setC] at h
        cases hr : setC r n (v :: vs) with
        | none => rw [hr] at h; simp at h
        | some r' =>
          rw [hr] at h; simp at h; subst h
          obtain ⟨h1, h2, h3⟩ := ih hr
          refine ⟨by simp [h1], .inr (by rcases h2 with h2 | h2 <;> simp at h2 ⊢ <;> omega), fun i => ?_⟩
          cases i with
          | zero => simp
          | succ i =>
            simp [h3 i]
            by_cases hc : n ≤ i ∧ i < n + (vs.length + 1)
            · rw [if_pos hc, if_pos ⟨hc.1, by omega⟩]
            · rw [if_neg hc, if_neg (by omega)]

/-- A zero value; what is no data yet is left open. -/
def ofValZ : Value → Option V
  | .nilFunc => some .bot
  | .nilIface => some .bot
  | x => ofVal x
theorem ofValZ_rel {v : Value} {x : V} (h : ofValZ v = some x) (S : List Blk) (ρ : Nat → Option Nat) (R : Nat → Prop) (w : World) : RelV S ρ R w v x := by
  unfold ofValZ at h
  split at h
  · simp at h; subst h; exact .bot _
  · simp at h; subst h; exact .bot _
  · exact ofVal_rel h _ _ _ _

def zeroV : Value → Option (List V)
  | .agg cs => zeroL cs.toList
  | x => match ofValZ x with
    | some v => some [v]
    | none => none
where zeroL : List Value → Option (List V)
  | [] => some []
  | .agg _ :: _ => none
  | x :: r => match ofValZ x, zeroL r with
    | some v, some vs => some (v :: vs)
    | _, _ => none
theorem zeroL_rel {xs : List Value} {cs : List V} (h : zeroV.zeroL xs = some cs) (S : List Blk) (ρ : Nat → Option Nat) (R : Nat → Prop) (w : World) :
    xs.length = cs.length ∧ ∀ (i : Nat) v y, xs[i]? = some v → cs[i]? = some y → RelV S ρ R w v y := by
  induction xs generalizing cs with
  | nil => simp [zeroV.zeroL] at h; subst h; simp
  | cons x r ih =>
    have key : ∀ v vs, ofValZ x = some v → zeroV.zeroL r = some vs → cs = v :: vs → (x :: r).length = cs.length ∧ ∀ (i : Nat) v y, (x :: r)[i]? = some v → cs[i]? = some y → RelV S ρ R w v y := by
      rintro v vs hv hvs rfl
      obtain ⟨h1, h2⟩ := ih hvs
      refine ⟨by simp [h1], fun i u y hu hy => ?_⟩
      cases i with
      | zero => simp at hu hy; subst hu hy; exact ofValZ_rel hv _ _ _ _
      | succ i => exact h2 i u y (by simpa using hu) (by simpa using hy)
    cases x <;> simp only [zeroV.zeroL, reduceCtorEq] at h
    all_goals
      split at h
      · rename_i v vs hv hvs; simp at h; exact key v vs hv hvs h.symm
      · simp at h
theorem zeroV_rel {z : Value} {cs : List V} (h : zeroV z = some cs) (S : List Blk) (ρ : Nat → Option Nat) (R : Nat → Prop) (w : World) :
    z.cells.size = cs.length ∧ ∀ (i : Nat) v y, z.cells[i]? = some v → cs[i]? = some y → RelV S ρ R w v y := by
  have single : ∀ v, ofValZ z = some v → z.cells = #[z] → cs = [v] → z.cells.size = cs.length ∧ ∀ (i : Nat) v y, z.cells[i]? = some v → cs[i]? = some y → RelV S ρ R w v y := by
    rintro v hv hz rfl
    rw [hz]
    refine ⟨rfl, fun i u y hu hy => ?_⟩
    cases i with
    | zero => simp at hu hy; subst hu hy; exact ofValZ_rel hv _ _ _ _
    | succ i => simp at hy
  cases z with
  | agg xs =>
    simp only [zeroV] at h
    obtain ⟨h1, h2⟩ := zeroL_rel h S ρ R w
    exact ⟨by simpa [Value.cells] using h1, fun i v y hv hy => h2 i v y (by simpa [Value.cells] using hv) hy⟩
  | _ =>
    simp only [zeroV] at h
    split at h
    · rename_i v hv; simp at h; exact single v hv rfl h.symm
    · simp at h

theorem fold_set (off : Nat) : ∀ (vs : List Value) (s : Nat) (cells : Array Value), (vs.zipIdx s).foldl (fun cs (p : Value × Nat) => cs.setIfInBounds (off + p.2) p.1) cells = (vs.zipIdx s).foldl (fun cs (p : Value × Nat) => cs.setIfInBounds (off + p.2) p.1) cells ∧
    ((vs.zipIdx s).foldl (fun cs (p : Value × Nat) => cs.setIfInBounds (off + p.2) p.1) cells).size = cells.size ∧
    ∀ m, off + s + vs.length ≤ cells.size → ((vs.zipIdx s).foldl (fun cs (p : Value × Nat) => cs.setIfInBounds (off + p.2) p.1) cells)[m]? = if off + s ≤ m ∧ m < off + s + vs.length then vs[m - (off + s)]? else cells[m]?
  | [], s, cells => ⟨rfl, rfl, fun m _ => by simp; intro h1 h2; omega⟩
  | v :: vs, s, cells => by
    obtain ⟨_, h1, h2⟩ := fold_set off vs (s + 1) (cells.setIfInBounds (off + s) v)
    refine ⟨rfl, by simpa [List.zipIdx_cons] using h1, fun m hm => ?_⟩
    have hm' : off + (s + 1) + vs.length ≤ (cells.setIfInBounds (off + s) v).size := by simp at hm ⊢; omega
    simp only [List.zipIdx_cons, List.foldl_cons]
    rw [h2 m hm']
    by_cases ha : m = off + s
    · subst ha
      rw [if_neg (by omega), if_pos (by simp)]
      simp at hm
      simp [Array.getElem?_setIfInBounds]; omega
    · by_cases hb : off + (s + 1) ≤ m ∧ m < off + (s + 1) + vs.length
      · rw [if_pos hb, if_pos (by simp; omega), show m - (off + s) = (m - (off + (s + 1))) + 1 by omega]; simp
      · rw [if_neg hb, if_neg (by simp; omega), Array.getElem?_setIfInBounds, if_neg (by omega)]


/-- Parts laid over a value's cells, at their places. -/
def layP (pl : Nat → Option (Nat × Nat)) : List V → List (Nat × V) → Option (List V)
  | cs, [] => some cs
  | cs, (i, v) :: r => match pl i with
    | some (off, size) => match cellsOf v with
      | some vs => bif Nat.beq vs.length size && Nat.blt 0 size then (match setC cs off vs with
          | some cs' => layP pl cs' r
          | none => none) else none
      | none => none
    | none => none
def placesO (env : Env) : List (Nat × TypeId) → Option (List (Nat × Nat))
  | [] => some []
  | (off, t) :: r => match ti? env t with
    | some ti => match placesO env r with
      | some q => some ((off, ti.size) :: q)
      | none => none
    | none => none
def rdParts (F : Fr) (g : List Bool) : List (Nat × Operand) → Option (List (Nat × V) × List Prop)
  | [] => some ([], [])
  | (i, x) :: r => match rd F g x with
    | some (v, p) => match rdParts F g r with
      | some (q, p') => some ((i, v) :: q, p ++ p')
      | none => none
    | none => none
def execBuild (env : Env) (T : TypeId) (parts : List (Nat × V)) : Option V :=
  match ti? env T with
  | some ⟨.struct fs, _, _, z⟩ => match zeroV z with
    | some cs => match placesO env fs with
      | some pls => match layP (fun i => nthF pls i) cs parts with
        | some r => some (.agg r)
        | none => none
      | none => none
    | none => none
  | some ⟨.array _ e, _, _, z⟩ => match zeroV z with
    | some cs => match ti? env e with
      | some te => match layP (fun i => some (i * te.size, te.size)) cs parts with
        | some r => some (.agg r)
        | none => none
      | none => none
    | none => none
  | _ => none
def execPart (env : Env) (t : TypeId) (cs : List V) (off : Nat) : Option V :=
  match ti? env t with
  | some ti => bif ti.k.agg then (match dropF off cs with
      | some r => (match takeF ti.size r with
        | some m => some (.agg m)
        | none => none)
      | none => none)
    else nthF cs off
  | none => none
def aggV : V → Option (List V)
  | .agg cs => some cs
  | .d (.agg ds) => vcells ds
  | _ => none
def execSel (env : Env) (T : TypeId) (v : V) (f : Nat) : Option V :=
  match ti? env T with
  | some ⟨.struct fs, _, _, _⟩ => match nthF fs f with
    | some (off, t) => match aggV v with
      | some cs => execPart env t cs off
      | none => none
    | none => none
  | _ => none
def execIdx (env : Env) (T : TypeId) (v : V) (i : Int) : Option V :=
  match ti? env T with
  | some ⟨.array n e, _, _, _⟩ => match i with
    | .ofNat k => bif Nat.blt k n then (match ti? env e with
      | some te => (match aggV v with
        | some cs => execPart env e cs (k * te.size)
        | none => none)
      | none => none) else none
    | _ => none
  | _ => none

def rdAll (F : Fr) (g : List Bool) : List Operand → Option (List V × List Prop)
  | [] => some ([], [])
  | x :: r => match rd F g x with
    | some (v, p) => match rdAll F g r with
      | some (vs, q) => some (v :: vs, p ++ q)
      | none => none
    | none => none

def exec1 (env : Env) (F : Fr) (S : List Blk) (g : List Bool) : Op → Option (V × List Prop)
  | .move x | .assign x => rd F g x
  | .pick c a b =>
    match rd F g c with
    | some (.d (.bool bc), p) =>
      match rd F (g ++ [bc]) a, rd F (g ++ [!bc]) b with
      | some (.d (.bool x), q), some (.d (.bool y), r) => match pickB bc x y a b with
        | some z => some (.d (.bool z), p ++ q ++ r)
        | none => none
      | _, _ => none
    | _ => none
  | .binOp op t x y _ =>
    match rd F g x, rd F g y with
    | some (u, p), some (v, q) => match binD env op t u v with
      | some (r, o) => some (.d r, p ++ q ++ grd g o)
      | none => none
    | _, _ => none
  | .unOp op _ x =>
    match op, rd F g x with
    | .not, some (.d (.bool b), p) => some (.d (.bool (!b)), p)
    | .neg, some (.d (.int k n), p) => some (.d (.int k (-n)), p ++ grd g [InR k (-n)])
    | _, _ => none
  | .extract x i =>
    match rd F g x with
    | some (.tup vs, p) => match nthF vs i with
      | some v => some (v, p)
      | none => none
    | _ => none
  | .nilCheck x =>
    match rd F g x with
    | some (.ptr nm o, p) => some (.ptr nm o, p)
    | some (.ep nm i o, p) => some (.ep nm i o, p)
    | some (.rp cs, p) => some (.rp cs, p)
    | _ => none
  | .fieldAddr T x f =>
    match rd F g x with
    | some (v, p) => match execField env T v f with
      | some r => some (r, p)
      | none => none
    | none => none
  | .indexAddr T x i =>
    match rd F g x, rd F g i with
    | some (v, p), some (.d (.int _ n), q) => match execIndex env S T v n with
      | some (r, o) => some (r, p ++ q ++ grd g o)
      | none => none
    | _, _ => none
  | .load T x =>
    match rd F g x with
    | some (v, p) => match execLoad env S T v with
      | some r => some (r, p)
      | none => none
    | none => none
  | .slice T x none (some hi) none =>
    match rd F g x, rd F g hi with
    | some (v, p), some (.d (.int _ n), q) => match execCut env S T v n with
      | some (r, o) => some (r, p ++ q ++ grd g o)
      | none => none
    | _, _ => none
  | .slice T x (some lo) none none =>
    match rd F g x, rd F g lo with
    | some (v, p), some (.d (.int _ n), q) => match execLo env S T v n with
      | some (r, o) => some (r, p ++ q ++ grd g o)
      | none => none
    | _, _ => none
  | .call c =>
    match c.callee with
    | .builtin .len => match c.args.toList, c.argTypes.toList with
      | [x], [t] => match rd F g x with
        | some (v, p) => match execLen env S t v with
          | some r => some (r, p)
          | none => none
        | none => none
      | _, _ => none
    | _ => none
  | .build T parts =>
    match rdParts F g parts.toList with
    | some (vs, p) => match execBuild env T vs with
      | some r => some (r, p)
      | none => none
    | none => none
  | .field T x f =>
    match rd F g x with
    | some (v, p) => match execSel env T v f with
      | some r => some (r, p)
      | none => none
    | none => none
  | .index T x i =>
    match rd F g x, rd F g i with
    | some (v, p), some (.d (.int _ m), q) => match execIdx env T v m with
      | some r => some (r, p ++ q)
      | none => none
    | _, _ => none
  | .convert src dst x =>
    match ti? env src, ti? env dst, rd F g x with
    | some _, some ⟨.int k, _, _, _⟩, some (.d (.int _ n), p) => some (.d (.int k n), p ++ grd g [InR k n])
    | _, _, _ => none
  | .makeFunc fn first caps =>
    match fn, first.toList with
    | .func f, [] => match rdAll F g caps.toList with
      | some (vs, p) => some (.clo f vs, p)
      | none => none
    | _, _ => none
  | _ => none

end Go.Wk

/- The machine's quiet operations do what 'exec1' says. -/
namespace Go.Wk
set_option maxRecDepth 10000
open Go.RowKit

theorem cell_of {w : World} {b : Nat} {c : Array Value} {ty : TypeId} {fr : Nat × Nat} (h : w.heap[b]? = some (.cells c ty fr)) (o : Nat) : w.cell? ⟨b, o, none⟩ = c[o]? := by
  simp [World.cell?, h]
theorem cell_ext {w w' : World} (he : Ext w w') {a : Addr} {v : Value} (h : w.cell? a = some v) : w'.cell? a = some v := by
  have hb : a.block < w.heap.size := by
    unfold World.cell? at h
    split at h
    · rename_i h2; exact lt_of_get h2
    · simp at h
  rw [World.cell?_of_block (w := w) (he.block _ hb)]; exact h

/-- The blocks of the old world are as they were, but for those of some names. -/
def Sm (N : List Nat) (ρ : Nat → Option Nat) (w w' : World) : Prop := ∀ k, k < w.heap.size → (∀ m ∈ N, ρ m ≠ some k) → w'.heap[k]? = w.heap[k]?
theorem Sm.of_ext {ρ : Nat → Option Nat} {w w' : World} (h : Ext w w') : Sm [] ρ w w' := fun k hk _ => h.block k hk
theorem Sm.to_ext {ρ : Nat → Option Nat} {w w' : World} (h : Ext w w') (N : List Nat) : Sm N ρ w w' := fun k hk _ => h.block k hk
theorem cell_sm {N : List Nat} {ρ : Nat → Option Nat} {w w' : World} (he : Sm N ρ w w') {a : Addr} (hb : ∀ m ∈ N, ρ m ≠ some a.block) {v : Value} (h : w.cell? a = some v) : w'.cell? a = some v := by
  have hlt : a.block < w.heap.size := by
    unfold World.cell? at h
    split at h
    · rename_i h2; exact lt_of_get h2
    · simp at h
  rw [World.cell?_of_block (w := w) (he _ hlt hb)]; exact h

theorem run_load_cell {P : Program} {w : World} {a : Addr} {v : Value} (h : w.cell? a = some v) : (load a).run P w = .ok v w := by
  simp [load, Sem.run, h]

theorem add_off (b o n : Nat) : (⟨b, o, none⟩ : Addr).add n = ⟨b, o + n, none⟩ := Addr.add_lit b o n

theorem run_loadCellsFrom {P : Program} {w : World} {b o : Nat} (vals : List Value) : ∀ (n i : Nat) (acc : Array Value), (∀ j v, vals[j]? = some v → w.cell? ⟨b, o + (i + j), none⟩ = some v) → vals.length = n →
    (loadCellsFrom ⟨b, o, none⟩ i n acc).run P w = .ok (acc ++ vals.toArray) w := by
  induction vals with
  | nil => intro n i acc _ hn; simp at hn; subst hn; simp [loadCellsFrom]
  | cons v r ih =>
    intro n i acc h hn
    cases n with
    | zero => simp at hn
    | succ n =>
      have h0 := h 0 v (by simp)
      simp only [loadCellsFrom, Sem.run_bind, add_off]
      rw [run_load_cell (by simpa using h0)]
      simp only [Result.andThen]
      rw [ih n (i + 1) (acc.push v) (fun j u hu => by rw [show i + 1 + j = i + (j + 1) by omega]; exact h (j + 1) u (by simpa using hu)) (by simpa using hn)]
      congr 1
      apply Array.ext'
      simp

theorem run_loadVar_scal {P : Program} {t : TypeId} {ti : TI} (h : TIok P t ti) (ha : ti.k.agg = false) {w : World} {a : Addr} {v : Value} (hv : w.cell? a = some v) : (loadVar t a).run P w = .ok v w := by
  simp only [loadVar, Sem.run_bind, run_isAgg h, ha, Result.andThen]
  exact run_load_cell hv

theorem run_loadVar_agg {P : Program} {t : TypeId} {ti : TI} (h : TIok P t ti) (ha : ti.k.agg = true) {w : World} {b o : Nat} (vals : List Value) (hl : vals.length = ti.size)
    (hv : ∀ j v, vals[j]? = some v → w.cell? ⟨b, o + j, none⟩ = some v) : (loadVar t ⟨b, o, none⟩).run P w = .ok (.agg vals.toArray) w := by
  simp only [loadVar, Sem.run_bind, run_isAgg h, ha, Result.andThen, loadCells]
  simp only [if_true, Sem.run_bind, run_sizeOf h, Result.andThen]
  rw [run_loadCellsFrom vals ti.size 0 #[] (fun j v hj => by simpa using hv j v hj) hl]
  simp

theorem execLoad_sound {P : Program} {env : Env} (hE : EnvOK P env) {w0 : Base} {S : List Blk} {ρ : Nat → Option Nat} {w : World} (hm : Mem w0 S ρ w) {T : TypeId} {p r : V} (h : execLoad env S T p = some r)
    {u : Value} (hu : RelV S ρ (Rr S ρ w) w u p) {N : List Nat} (hoff : ∀ b o, u = .pointer (some ⟨b, o, none⟩) → ∀ m ∈ N, ρ m ≠ some b) : ∃ val, (∀ w', Sm N ρ w w' → (Instr.loadAt T u).run P w' = .ok val w') ∧ RelV S ρ (Rr S ρ w) w val r := by
  unfold execLoad at h
  split at h
  · simp at h
  rename_i ti hti
  have hT := hE.get hti
  have agg : ∀ (b o : Nat) (m : List V) (val : Nat → Value), u = .pointer (some ⟨b, o, none⟩) → m.length = ti.size → ti.k.agg = true → (∀ j, j < ti.size → w.cell? ⟨b, o + j, none⟩ = some (val j)) →
      (∀ j x, m[j]? = some x → RelV S ρ (Rr S ρ w) w (val j) x) → ∃ val, (∀ w', Sm N ρ w w' → (Instr.loadAt T u).run P w' = .ok val w') ∧ RelV S ρ (Rr S ρ w) w val (.agg m) := by
    intro b o m val hu' hl ha hc hr
    subst hu'
    refine ⟨.agg ((List.range ti.size).map val).toArray, fun w' he => ?_, .agg _ _ (by simp [hl]) fun i v x hv hx => ?_⟩
    · simp only [Instr.loadAt, Instr.sureAddr, pure_bind]
      exact run_loadVar_agg hT ha _ (by simp) fun j v hj => by
        rw [List.getElem?_map] at hj
        by_cases hlt : j < ti.size
        · rw [List.getElem?_range hlt] at hj; simp at hj; subst hj; exact cell_sm he (hoff b o rfl) (hc j hlt)
        · rw [List.getElem?_eq_none (by simp; omega)] at hj; simp at hj
    · rw [List.getElem?_map] at hv
      have hlt : i < ti.size := by rw [← hl]; exact (List.getElem?_eq_some_iff.1 hx).1
      rw [List.getElem?_range hlt] at hv; simp at hv; subst hv; exact hr i x hx
  have scal : ∀ (b o : Nat) (v : Value) (x : V), u = .pointer (some ⟨b, o, none⟩) → ti.k.agg = false → w.cell? ⟨b, o, none⟩ = some v → RelV S ρ (Rr S ρ w) w v x →
      ∃ val, (∀ w', Sm N ρ w w' → (Instr.loadAt T u).run P w' = .ok val w') ∧ RelV S ρ (Rr S ρ w) w val x := by
    intro b o v x hu' ha hc hr
    subst hu'
    exact ⟨v, fun w' he => by simp only [Instr.loadAt, Instr.sureAddr, pure_bind]; exact run_loadVar_scal hT ha (cell_sm he (hoff b o rfl) hc), hr⟩
  cases ha : ti.k.agg with
  | true =>
    simp only [ha, cond_true] at h
    split at h
    · -- own cells
      rename_i nm off
      rw [nthF_eq] at h
      split at h
      · rename_i cs hcs
        split at h
        · rename_i l hl
          split at h
          · rename_i m hm'
            simp at h; subst h
            cases hu with
            | @ptr _ b _ hb _ =>
            obtain ⟨b', vals, ty, h1, h2, h3, h4⟩ := hm.blk nm _ hcs
            rw [hb] at h1; cases h1
            obtain ⟨d1, d2⟩ := dropF_get hl
            obtain ⟨t1, t2, t3⟩ := takeF_get hm'
            refine agg b off m (fun j => vals.getD (off + j) undef) rfl t1 ha (fun j hj => ?_) fun j x hx => ?_
            · rw [cell_of h2]
              have : off + j < vals.length := by omega
              simp [List.getD_eq_getElem?_getD, this]
            · have hj : j < ti.size := by rw [← t1]; exact (List.getElem?_eq_some_iff.1 hx).1
              have hlt : off + j < vals.length := by omega
              rw [t3 j hj, d2] at hx
              exact h4 (off + j) _ x (by simp [hlt]) hx
          · simp at h
        · simp at h
      · simp at h
    · rename_i nm i off
      rw [nthF_eq] at h
      split at h
      · rename_i blk hblk
        cases hrow : blk.isRow with
        | false => simp [hrow] at h
        | true =>
          simp only [hrow, cond_true] at h
          split at h
          · rename_i l hl
            split at h
            · rename_i m hm'
              simp at h; subst h
              cases hu with
              | @ep _ b _ _ esz len hb hs hi =>
              have hs' : blk.esz = esz ∧ blk.len = len := by simp [shape, hblk] at hs; exact hs
              obtain ⟨rfl, rfl⟩ := hs'
              have hrel := hm.blk nm _ hblk
              have hrel' : (ρ nm = none ∧ blk.len = 0) ∨ ∃ b c ty, ρ nm = some b ∧ w.heap[b]? = some (.cells c ty (0, 0)) ∧ blk.len * blk.esz ≤ c.size ∧ (∀ i, i < blk.len → (blk.get i).length = blk.esz) ∧
                  ∀ i j x, i < blk.len → (blk.get i)[j]? = some x → ∃ v, c[i * blk.esz + j]? = some v ∧ RelD (Rr S ρ w) w v x := by
                cases blk <;> first | (simp [Blk.isRow] at hrow; done) | exact hrel
              rcases hrel' with ⟨_, h0⟩ | ⟨b', c, ty, h1, h2, h3, h4, h5⟩
              · omega
              · rw [hb] at h1; cases h1
                obtain ⟨d1, d2⟩ := dropF_get hl
                obtain ⟨t1, t2, t3⟩ := takeD_get hm'
                refine agg b _ m (fun j => c.getD (i * blk.esz + (off + j)) undef) rfl t1 ha (fun j hj => ?_) fun j x hx => ?_
                · rw [cell_of h2]
                  have hlt : off + j < (blk.get i).length := by omega
                  obtain ⟨v, hv, _⟩ := h5 i (off + j) _ hi (List.getElem?_eq_getElem hlt)
                  rw [show i * blk.esz + off + j = i * blk.esz + (off + j) by omega, hv, Array.getD_eq_getD_getElem?, hv]; rfl
                · obtain ⟨y, hy, rfl⟩ := t3 j x hx
                  rw [d2] at hy
                  obtain ⟨v, hv, hr⟩ := h5 i (off + j) y hi hy
                  rw [Array.getD_eq_getD_getElem?, hv]; exact .d hr
            · simp at h
          · simp at h
      · simp at h
    · rename_i cells
      split at h
      · rename_i m hm'
        simp at h; subst h
        cases hu with
        | @rp b off _ val hR hc hr =>
        obtain ⟨t1, t2, t3⟩ := takeD_get hm'
        refine agg b off m val rfl t1 ha (fun j hj => hc j (by omega)) fun j x hx => ?_
        obtain ⟨y, hy, rfl⟩ := t3 j x hx
        exact .d (hr j y hy)
      · simp at h
    · simp at h
  | false =>
    simp only [ha, cond_false] at h
    split at h
    · rename_i nm off
      rw [nthF_eq] at h
      split at h
      · rename_i cs hcs
        rw [nthF_eq] at h
        cases hu with
        | @ptr _ b _ hb _ =>
        obtain ⟨b', vals, ty, h1, h2, h3, h4⟩ := hm.blk nm _ hcs
        rw [hb] at h1; cases h1
        have hlt : off < vals.length := by rw [h3]; exact (List.getElem?_eq_some_iff.1 h).1
        exact scal b off vals[off] r rfl ha (by rw [cell_of h2]; simp [hlt]) (h4 off _ r (by simp [hlt]) h)
      · simp at h
    · rename_i nm i off
      rw [nthF_eq] at h
      split at h
      · rename_i blk hblk
        cases hrow : blk.isRow with
        | false => simp [hrow] at h
        | true =>
          simp only [hrow, cond_true] at h
          split at h
          · rename_i l hl
            split at h
            · rename_i x l' 
              simp at h; subst h
              cases hu with
              | @ep _ b _ _ esz len hb hs hi =>
              have hs' : blk.esz = esz ∧ blk.len = len := by simp [shape, hblk] at hs; exact hs
              obtain ⟨rfl, rfl⟩ := hs'
              have hrel := hm.blk nm _ hblk
              have hrel' : (ρ nm = none ∧ blk.len = 0) ∨ ∃ b c ty, ρ nm = some b ∧ w.heap[b]? = some (.cells c ty (0, 0)) ∧ blk.len * blk.esz ≤ c.size ∧ (∀ i, i < blk.len → (blk.get i).length = blk.esz) ∧
                  ∀ i j x, i < blk.len → (blk.get i)[j]? = some x → ∃ v, c[i * blk.esz + j]? = some v ∧ RelD (Rr S ρ w) w v x := by
                cases blk <;> first | (simp [Blk.isRow] at hrow; done) | exact hrel
              rcases hrel' with ⟨_, h0⟩ | ⟨b', c, ty, h1, h2, h3, h4, h5⟩
              · omega
              · rw [hb] at h1; cases h1
                obtain ⟨d1, d2⟩ := dropF_get hl
                have hx := d2 0
                simp at hx
                obtain ⟨v, hv, hr⟩ := h5 i off x hi hx.symm
                exact scal b _ v _ rfl ha (by rw [cell_of h2]; exact hv) (.d hr)
            · simp at h
          · simp at h
      · simp at h
    · rename_i cells
      split at h
      · rename_i x l
        simp at h; subst h
        cases hu with
        | @rp b off _ val hR hc hr =>
        exact scal b off (val 0) _ rfl ha (by simpa using hc 0 (by simp)) (.d (hr 0 x (by simp)))
      · simp at h
    · simp at h

theorem run_fieldAt {P : Program} {T ft : TypeId} {fs : List (Nat × TypeId)} {s by_ : Nat} {z : Value} {tf : TI} (hT : TIok P T ⟨.struct fs, s, by_, z⟩) {f off : Nat} (hf : fs[f]? = some (off, ft)) (htf : TIok P ft tf) (h0 : tf.size ≠ 0)
    (b o : Nat) (w : World) : (Instr.fieldAt T (.pointer (some ⟨b, o, none⟩)) f).run P w = .ok (.pointer (some ⟨b, o + off, none⟩)) w := by
  obtain ⟨d, hd, hk⟩ := hT.desc
  obtain ⟨fl, rfl, hfl⟩ := desc_struct hk
  have : ∃ fd : Field, fl[f]? = some fd ∧ fd.offset = off ∧ fd.type = ft := by
    rw [← hfl, List.getElem?_map] at hf
    cases hg : fl.toList[f]? with
    | none => rw [hg] at hf; simp at hf
    | some fd => rw [hg] at hf; simp at hf; exact ⟨fd, by simpa using hg, hf.1, hf.2⟩
  obtain ⟨fd, hfd, rfl, rfl⟩ := this
  simp [Instr.fieldAt, run_underlying hd, hfd, Instr.sureAddr, fieldPlace, run_sizeOf htf, h0, add_off]

theorem execField_sound {P : Program} {env : Env} (hE : EnvOK P env) {S : List Blk} {ρ : Nat → Option Nat} {w : World} {T : TypeId} {p r : V} {f : Nat} (h : execField env T p f = some r)
    {u : Value} (hu : RelV S ρ (Rr S ρ w) w u p) : ∃ val, (∀ w', (Instr.fieldAt T u f).run P w' = .ok val w') ∧ RelV S ρ (Rr S ρ w) w val r := by
  unfold execField at h
  split at h
  · rename_i fs s by_ z hti
    rw [nthF_eq] at h
    split at h
    · rename_i off ft hf
      split at h
      · rename_i tf htf
        cases h0 : Nat.beq tf.size 0 with
        | true => simp [h0] at h
        | false =>
          have h0' : tf.size ≠ 0 := fun he => by rw [he] at h0; simp at h0
          simp only [h0, cond_false] at h
          have run := run_fieldAt (hE.get hti) hf (hE.get htf) h0'
          split at h
          · simp at h; subst h
            cases hu with | ptr hb hs => exact ⟨_, fun w' => run _ _ w', .ptr hb hs⟩
          · simp at h; subst h
            cases hu with | ep hb hs hi => exact ⟨_, fun w' => run _ _ w', by rw [Nat.add_assoc]; exact .ep hb hs hi⟩
          · split at h
            · rename_i cells l hl
              simp at h; subst h
              cases hu with
              | @rp b o _ val hR hc hr =>
              obtain ⟨d1, d2⟩ := dropF_get hl
              refine ⟨_, fun w' => run b o w', .rp (fun j => val (off + j)) hR (fun j hj => ?_) fun j x hx => ?_⟩
              · rw [Nat.add_assoc]; exact hc (off + j) (by omega)
              · rw [d2] at hx; exact hr (off + j) x hx
            · simp at h
          · simp at h
      · simp at h
    · simp at h
  · simp at h

theorem run_indexAt_sl {P : Program} {T e : TypeId} {s by_ : Nat} {z : Value} {te : TI} (hT : TIok P T ⟨.slice e, s, by_, z⟩) (he : TIok P e te) {i : Int} {len : Nat} (h0 : 0 ≤ i) (h1 : i < len) (k : IntKind) (b o cap : Nat) (w : World) :
    (Instr.indexAt T (.slice (some ⟨b, o, none⟩) len cap) (.int k i)).run P w = .ok (.pointer (some ⟨b, o + i.toNat * te.size, none⟩)) w := by
  obtain ⟨d, hd, hk⟩ := hT.desc
  have := desc_slice hk; subst this
  simp [Instr.indexAt, run_underlying hd, asIntOf, h0, h1, run_sizeOf he, add_off]
theorem run_indexAt_arr {P : Program} {T e : TypeId} {n s by_ : Nat} {z : Value} {te : TI} (hT : TIok P T ⟨.array n e, s, by_, z⟩) (he : TIok P e te) {i : Int} (h0 : 0 ≤ i) (h1 : i < n) (k : IntKind) (b o : Nat) (w : World) :
    (Instr.indexAt T (.pointer (some ⟨b, o, none⟩)) (.int k i)).run P w = .ok (.pointer (some ⟨b, o + i.toNat * te.size, none⟩)) w := by
  obtain ⟨d, hd, hk⟩ := hT.desc
  have := desc_array hk; subst this
  simp [Instr.indexAt, run_underlying hd, asIntOf, Instr.sureAddr, h0, h1, run_sizeOf he, add_off]

theorem execIndex_sound {P : Program} {env : Env} (hE : EnvOK P env) {S : List Blk} {ρ : Nat → Option Nat} {w : World} {T : TypeId} {p r : V} {i : Int} {os : List Prop} (h : execIndex env S T p i = some (r, os)) (ho : allP os)
    {u : Value} (hu : RelV S ρ (Rr S ρ w) w u p) (k : IntKind) : ∃ val, (∀ w', (Instr.indexAt T u (.int k i)).run P w' = .ok val w') ∧ RelV S ρ (Rr S ρ w) w val r := by
  unfold execIndex at h
  split at h
  · rename_i e s by_ z hti
    split at h
    · simp at h
    rename_i te hte
    split at h
    · rename_i esz n get
      cases hb : Nat.beq te.size esz with
      | false => simp [hb] at h
      | true =>
        simp only [hb, cond_true, Option.some.injEq, Prod.mk.injEq] at h
        obtain ⟨rfl, rfl⟩ := h
        obtain ⟨h0, h1, _⟩ := ho
        have hsz := Nat.eq_of_beq_eq_true hb
        cases hu with | d hu => ?_
        cases hu with
        | nil => simp at h1; omega
        | arr b off n cap esz get val hR hnc hlen hc hr =>
          have hi : i.toNat < n := by omega
          refine ⟨_, fun w' => run_indexAt_sl (hE.get hti) (hE.get hte) h0 h1 k b off cap w', .rp (fun j => val i.toNat j) hR (fun j hj => ?_) fun j x hx => hr _ j x hi hx⟩
          rw [hlen _ hi] at hj
          rw [hsz, Nat.add_assoc]
          exact hc i.toNat j hi hj
    · rename_i nm
      rw [nthF_eq] at h
      split at h
      · rename_i blk hblk
        cases hb : Nat.beq te.size blk.esz with
        | false => simp [hb] at h
        | true =>
          simp only [hb, cond_true, Option.some.injEq, Prod.mk.injEq] at h
          obtain ⟨rfl, rfl⟩ := h
          obtain ⟨h0, h1, _⟩ := ho
          have hsz := Nat.eq_of_beq_eq_true hb
          cases hu with
          | ownNil hb' hs => simp [shape, hblk] at hs; omega
          | @own _ b esz len cap hb' hs hc hcap =>
            have hs' : blk.esz = esz ∧ blk.len = len := by simp [shape, hblk] at hs; exact hs
            obtain ⟨rfl, rfl⟩ := hs'
            refine ⟨_, fun w' => run_indexAt_sl (hE.get hti) (hE.get hte) h0 h1 k b 0 cap w', ?_⟩
            have := RelV.ep (S := S) (ρ := ρ) (R := Rr S ρ w) (w := w) (off := 0) hb' hs (i := i.toNat) (by omega)
            simpa [hsz] using this
      · simp at h
    · rename_i nm off len
      rw [nthF_eq] at h
      split at h
      · rename_i blk hblk
        cases hb : Nat.beq te.size blk.esz with
        | false => simp [hb] at h
        | true =>
          simp only [hb, cond_true, Option.some.injEq, Prod.mk.injEq] at h
          obtain ⟨rfl, rfl⟩ := h
          obtain ⟨h0, h1, _⟩ := ho
          have hsz := Nat.eq_of_beq_eq_true hb
          cases hu with
          | slNil hb' => simp at h1; omega
          | @sl _ b esz n _ _ cap hb' hs hl hc hcap =>
            have hs' : blk.esz = esz ∧ blk.len = n := by simp [shape, hblk] at hs; exact hs
            obtain ⟨rfl, rfl⟩ := hs'
            refine ⟨_, fun w' => run_indexAt_sl (hE.get hti) (hE.get hte) h0 h1 k b _ cap w', ?_⟩
            have := RelV.ep (S := S) (ρ := ρ) (R := Rr S ρ w) (w := w) (off := 0) hb' hs (i := off + i.toNat) (by omega)
            simpa [hsz, Nat.add_mul] using this
      · simp at h
    · simp at h
  · rename_i n e s by_ z hti
    split at h
    · simp at h
    rename_i te hte
    split at h
    · simp at h
      obtain ⟨rfl, rfl⟩ := h
      obtain ⟨h0, h1, _⟩ := ho
      cases hu with | ptr hb hs => exact ⟨_, fun w' => run_indexAt_arr (hE.get hti) (hE.get hte) h0 h1 k _ _ w', .ptr hb hs⟩
    · simp at h
      obtain ⟨rfl, rfl⟩ := h
      obtain ⟨h0, h1, _⟩ := ho
      cases hu with | ep hb hs hi => exact ⟨_, fun w' => run_indexAt_arr (hE.get hti) (hE.get hte) h0 h1 k _ _ w', by rw [Nat.add_assoc]; exact .ep hb hs hi⟩
    · split at h
      · rename_i cells l hl
        simp at h
        obtain ⟨rfl, rfl⟩ := h
        obtain ⟨h0, h1, _⟩ := ho
        cases hu with
        | @rp b o _ val hR hc hr =>
        obtain ⟨d1, d2⟩ := dropF_get hl
        refine ⟨_, fun w' => run_indexAt_arr (hE.get hti) (hE.get hte) h0 h1 k b o w', .rp (fun j => val (i.toNat * te.size + j)) hR (fun j hj => ?_) fun j x hx => ?_⟩
        · rw [Nat.add_assoc]; exact hc _ (by omega)
        · rw [d2] at hx; exact hr _ x hx
      · simp at h
    · simp at h
  · simp at h

theorem execCut_sound {P : Program} {env : Env} (hE : EnvOK P env) {S : List Blk} {ρ : Nat → Option Nat} {w : World} {T : TypeId} {p r : V} {n : Int} {os : List Prop} (h : execCut env S T p n = some (r, os)) (ho : allP os)
    {u : Value} (hu : RelV S ρ (Rr S ρ w) w u p) (k : IntKind) : ∃ val, (∀ w', (Instr.sliceAt T u none (some (.int k n)) none).run P w' = .ok val w') ∧ RelV S ρ (Rr S ρ w) w val r := by
  unfold execCut at h
  split at h
  · rename_i e s by_ z hti
    split at h
    · rename_i te hte
      split at h
      · rename_i nm
        rw [nthF_eq] at h
        split at h
        · rename_i blk hblk
          simp at h; obtain ⟨rfl, rfl⟩ := h
          obtain ⟨⟨h0, h1⟩, _⟩ := ho
          obtain ⟨d, hd, hk⟩ := (hE.get hti).desc
          have := desc_slice hk; subst this
          have run : ∀ (a : Option Addr) (len cap : Nat), n ≤ cap → ∀ w', (Instr.sliceAt T (.slice a len cap) none (some (.int k n)) none).run P w' = .ok (.slice (if cap = 0 then a else a.map (·.add 0)) n.toNat cap) w' := by
            intro a len cap hc w'
            have hs := run_sizeOf (hE.get hte) w'
            simp [Instr.sliceAt, Instr.slice, run_underlying hd, Instr.sliceBounds, run_sliceBound, hs, h0, hc]
          have hn : ((n.toNat : Nat) : Int) = n := Int.toNat_of_nonneg h0
          cases hu with
          | ownNil hb hs =>
            have hz : blk.len = 0 := by simp [shape, hblk] at hs; exact hs.2
            have hz' : n.toNat = 0 := by omega
            refine ⟨_, fun w' => run none 0 0 (by omega) w', ?_⟩
            rw [hz']
            exact .slNil hb (by simp [shape, hblk])
          | @own _ b esz len cap hb hs hc hcap =>
            have hz : blk.len = len ∧ blk.esz = esz := by simp [shape, hblk] at hs; exact ⟨hs.2, hs.1⟩
            refine ⟨_, fun w' => run (some ⟨b, 0, none⟩) len cap (by omega) w', ?_⟩
            have e0 : (if cap = 0 then (some ⟨b, 0, none⟩ : Option Addr) else (some ⟨b, 0, none⟩ : Option Addr).map (·.add 0)) = some ⟨b, 0 * esz, none⟩ := by
              split <;> simp [add_off]
            rw [e0]
            exact .sl hb hs (by omega) (by omega) (by simpa using hcap)
        · simp at h
      · rename_i esz m get
        simp at h; obtain ⟨rfl, rfl⟩ := h
        obtain ⟨⟨h0, h1⟩, _⟩ := ho
        obtain ⟨d, hd, hk⟩ := (hE.get hti).desc
        have := desc_slice hk; subst this
        have run : ∀ (a : Option Addr) (len cap : Nat), n ≤ cap → ∀ w', (Instr.sliceAt T (.slice a len cap) none (some (.int k n)) none).run P w' = .ok (.slice (if cap = 0 then a else a.map (·.add 0)) n.toNat cap) w' := by
          intro a len cap hc w'
          have hs := run_sizeOf (hE.get hte) w'
          simp [Instr.sliceAt, Instr.slice, run_underlying hd, Instr.sliceBounds, run_sliceBound, hs, h0, hc]
        have hn : ((n.toNat : Nat) : Int) = n := Int.toNat_of_nonneg h0
        cases hu with
        | d hu =>
          cases hu with
          | nil _ _ =>
            have hz' : n.toNat = 0 := by omega
            refine ⟨_, fun w' => run none 0 0 (by omega) w', ?_⟩
            rw [hz']
            exact .d (.nil _ _)
          | arr b off _ cap _ _ val hR hnc hlen hc hr =>
            have hcm : n ≤ cap := by omega
            refine ⟨_, fun w' => run _ _ cap hcm w', ?_⟩
            have e0 : (if cap = 0 then (some ⟨b, off, none⟩ : Option Addr) else (some ⟨b, off, none⟩ : Option Addr).map (·.add 0)) = some ⟨b, off, none⟩ := by
              split <;> simp [add_off]
            rw [e0]
            exact .d (.arr b off _ cap _ _ val hR (by omega) (fun i hi => hlen i (by omega)) (fun i j hi hj => hc i j (by omega) hj) fun i j x hi hx => hr i j x (by omega) hx)
      · simp at h
    · simp at h
  · simp at h

theorem execLo_sound {P : Program} {env : Env} (hE : EnvOK P env) {S : List Blk} {ρ : Nat → Option Nat} {w : World} {T : TypeId} {p r : V} {m : Int} {os : List Prop} (h : execLo env S T p m = some (r, os)) (ho : allP os)
    {u : Value} (hu : RelV S ρ (Rr S ρ w) w u p) (k : IntKind) : ∃ val, (∀ w', (Instr.sliceAt T u (some (.int k m)) none none).run P w' = .ok val w') ∧ RelV S ρ (Rr S ρ w) w val r := by
  unfold execLo at h
  split at h
  · rename_i e s by_ z hti
    split at h
    · rename_i te hte
      obtain ⟨dd, hdd, hk⟩ := (hE.get hti).desc
      have := desc_slice hk; subst this
      have run : ∀ (b o len cap : Nat), 0 ≤ m → m ≤ len → len ≤ cap → ∀ w', (Instr.sliceAt T (.slice (some ⟨b, o, none⟩) len cap) (some (.int k m)) none none).run P w' = .ok (.slice (if cap - m.toNat = 0 then some ⟨b, o, none⟩ else some ⟨b, o + m.toNat * te.size, none⟩) (len - m.toNat) (cap - m.toNat)) w' := by
        intro b o len cap m0 m1 hcl w'
        have hs2 := run_sizeOf (hE.get hte) w'
        by_cases hz : cap - m.toNat = 0
        · simp [Instr.sliceAt, Instr.slice, run_underlying hdd, Instr.sliceBounds, run_sliceBound, hs2, m0, m1, add_off, hz]
          try omega
        · simp [Instr.sliceAt, Instr.slice, run_underlying hdd, Instr.sliceBounds, run_sliceBound, hs2, m0, m1, add_off, hz]
          try omega
      split at h
      · rename_i nm
        rw [nthF_eq] at h
        split at h
        · rename_i blk hblk
          cases hq : Nat.beq blk.esz te.size with
          | false => simp [hq] at h
          | true =>
            simp [hq] at h; obtain ⟨rfl, rfl⟩ := h
            obtain ⟨⟨h0, h1⟩, _⟩ := ho
            have hsz := Nat.eq_of_beq_eq_true hq
            have hm : ((m.toNat : Nat) : Int) = m := Int.toNat_of_nonneg h0
            cases hu with
            | ownNil hb hs => simp [shape, hblk] at hs; omega
            | @own _ b esz len cap hb hs hc hcap =>
              have hz : blk.esz = esz ∧ blk.len = len := by simp [shape, hblk] at hs; exact hs
              obtain ⟨rfl, rfl⟩ := hz
              refine ⟨_, fun w' => run b 0 blk.len cap h0 (by omega) hc w', ?_⟩
              rw [if_neg (by omega), Nat.zero_add, ← hsz]
              refine .sl (esz := blk.esz) (n := blk.len) hb (by simp [shape, hblk]) (by omega) (by omega) ?_
              rw [show m.toNat + (cap - m.toNat) = cap by omega]
              exact hcap
        · simp at h
      · rename_i esz n get
        cases hq : Nat.beq esz te.size with
        | false => simp [hq] at h
        | true =>
          simp [hq] at h; obtain ⟨rfl, rfl⟩ := h
          obtain ⟨⟨h0, h1⟩, _⟩ := ho
          have hsz := Nat.eq_of_beq_eq_true hq
          have hm : ((m.toNat : Nat) : Int) = m := Int.toNat_of_nonneg h0
          cases hu with
          | d hu =>
            cases hu with
            | nil _ _ =>
              have hz' : m = 0 := by omega
              subst hz'
              refine ⟨.slice none 0 0, fun w' => ?_, .d (.nil _ _)⟩
              have hs2 := run_sizeOf (hE.get hte) w'
              simp [Instr.sliceAt, Instr.slice, run_underlying hdd, Instr.sliceBounds, run_sliceBound, hs2]
            | arr b off _ cap _ _ val hR hnc hlen hc hr =>
              refine ⟨_, fun w' => run b off n cap h0 (by omega) hnc w', ?_⟩
              have fin : ∀ o, (o = off + m.toNat * esz ∨ n - m.toNat = 0) → RelD (Rr S ρ w) w (.slice (some ⟨b, o, none⟩) (n - m.toNat) (cap - m.toNat)) (.arr esz (n - m.toNat) fun i => get (m.toNat + i)) := by
                intro o ho
                refine .arr b o _ _ _ _ (fun i j => val (m.toNat + i) j) hR (by omega) (fun i hi => hlen _ (by omega)) (fun i j hi hj => ?_) fun i j x hi hx => hr _ j x (by omega) hx
                rcases ho with rfl | ho
                · have := hc (m.toNat + i) j (by omega) hj
                  rw [Nat.add_mul] at this
                  rw [show off + m.toNat * esz + (i * esz + j) = off + (m.toNat * esz + i * esz + j) by omega]; exact this
                · omega
              split
              · exact .d (fin off (.inr (by omega)))
              · rw [← hsz]; exact .d (fin _ (.inl rfl))
      · simp at h
    · simp at h
  · simp at h

theorem execLen_sound {P : Program} {env : Env} (hE : EnvOK P env) {S : List Blk} {ρ : Nat → Option Nat} {w : World} {T : TypeId} {p r : V} (h : execLen env S T p = some r) (ty : TypeId)
    {u : Value} (hu : RelV S ρ (Rr S ρ w) w u p) : ∃ val, (∀ w', (Builtin.len_ #[T] ty #[u]).run P w' = .ok val w') ∧ RelV S ρ (Rr S ρ w) w val r := by
  unfold execLen at h
  have sl : ∀ {e s by_ z}, ti? env T = some ⟨.slice e, s, by_, z⟩ → ∀ (a : Option Addr) (n c : Nat) (w' : World), (Builtin.len_ #[T] ty #[.slice a n c]).run P w' = .ok (.int .i64 n) w' := by
    intro e s by_ z hti a n c w'
    obtain ⟨d, hd, hk⟩ := (hE.get hti).desc
    have := desc_slice hk; subst this
    simp [Builtin.len_, run_underlying hd, goInt]
  split at h
  · rename_i e s by_ z hti
    split at h
    · simp at h; subst h
      cases hu with | d hu => ?_
      cases hu with
      | nil => exact ⟨_, fun w' => sl hti _ _ _ w', .d (.int _ _)⟩
      | arr => exact ⟨_, fun w' => sl hti _ _ _ w', .d (.int _ _)⟩
    · simp at h; subst h
      cases hu with | nil => exact ⟨_, fun w' => sl hti _ _ _ w', .d (.int _ _)⟩
    · rw [nthF_eq] at h
      split at h
      · rename_i blk hblk
        simp at h; subst h
        cases hu with
        | ownNil hb' hs =>
          have : blk.len = 0 := by simp [shape, hblk] at hs; exact hs.2
          rw [this]
          exact ⟨_, fun w' => sl hti _ _ _ w', .d (.int _ _)⟩
        | @own _ b esz len cap hb' hs hc hcap =>
          have : blk.len = len := by simp [shape, hblk] at hs; exact hs.2
          rw [this]
          exact ⟨_, fun w' => sl hti _ _ _ w', .d (.int _ _)⟩
      · simp at h
    · simp at h; subst h
      cases hu with
      | slNil => exact ⟨_, fun w' => sl hti _ _ _ w', .d (.int _ _)⟩
      | sl => exact ⟨_, fun w' => sl hti _ _ _ w', .d (.int _ _)⟩
    · simp at h
  · rename_i s by_ z hti
    split at h
    · simp at h; subst h
      cases hu with | d hu => ?_
      cases hu with
      | str x =>
        obtain ⟨d, hd, hk⟩ := (hE.get hti).desc
        have := desc_str hk; subst this
        exact ⟨_, fun w' => by simp [Builtin.len_, run_underlying hd, goInt], .d (.int _ _)⟩
    · simp at h
  · simp at h

end Go.Wk

/- Aggregates: building them, and their parts. -/
namespace Go.Wk
set_option maxRecDepth 10000
open Go.RowKit

section
variable {P : Program} {env : Env}

theorem fill_sound {pl : Nat → Option (Nat × Nat)} {S : List Blk} {ρ : Nat → Option Nat} {R : Nat → Prop} {w : World} :
    ∀ (parts : List (Nat × V)) (vparts : List (Nat × Value)) (cs cs' : List V) (cells : Array Value), layP pl cs parts = some cs' →
      vparts.length = parts.length → (∀ (i : Nat) (p : Nat × Value) (q : Nat × V), vparts[i]? = some p → parts[i]? = some q → p.1 = q.1 ∧ RelV S ρ R w p.2 q.2) →
      cells.size = cs.length → (∀ (i : Nat) v x, cells[i]? = some v → cs[i]? = some x → RelV S ρ R w v x) →
      ∃ cells', Instr.fill pl cells vparts = some cells' ∧ cells'.size = cs'.length ∧ ∀ (i : Nat) v x, cells'[i]? = some v → cs'[i]? = some x → RelV S ρ R w v x
  | [], [], cs, cs', cells, h, _, _, hs, hr => by
    simp [layP] at h; subst h
    exact ⟨cells, rfl, hs, hr⟩
  | [], _ :: _, _, _, _, _, hl, _, _, _ => by simp at hl
  | _ :: _, [], _, _, _, _, hl, _, _, _ => by simp at hl
  | (i, v) :: r, (j, u) :: vr, cs, cs', cells, h, hl, hp, hs, hr => by
    obtain ⟨e1, e2⟩ := hp 0 (j, u) (i, v) (by simp) (by simp)
    simp only at e1 e2; subst e1
    simp only [layP] at h
    cases hpl : pl j with
    | none => rw [hpl] at h; simp at h
    | some os =>
      obtain ⟨off, size⟩ := os
      rw [hpl] at h
      cases hc : cellsOf v with
      | none => rw [hc] at h; simp at h
      | some vs =>
        rw [hc] at h
        simp only at h
        cases hb : Nat.beq vs.length size && Nat.blt 0 size with
        | false => rw [hb] at h; simp at h
        | true =>
          rw [hb] at h
          simp only [cond_true] at h
          rw [Bool.and_eq_true] at hb
          have hsz := Nat.eq_of_beq_eq_true hb.1
          have hpos : 0 < size := Nat.le_of_ble_eq_true hb.2
          cases hset : setC cs off vs with
          | none => rw [hset] at h; simp at h
          | some cs1 =>
            rw [hset] at h
            simp only at h
            obtain ⟨c1, c2⟩ := cellsOf_rel hc e2
            obtain ⟨s1, s2, s3⟩ := setC_get hset
            have hfit : off + vs.length ≤ cs.length := by
              rcases s2 with rfl | s2
              · simp at hsz; omega
              · exact s2
            have hfold := fold_set off u.cells.toList 0 cells
            have hzip : u.cells.zipIdx.foldl (fun cs (p : Value × Nat) => cs.setIfInBounds (off + p.2) p.1) cells = (u.cells.toList.zipIdx 0).foldl (fun cs (p : Value × Nat) => cs.setIfInBounds (off + p.2) p.1) cells := by
              rw [← Array.foldl_toList, Array.toList_zipIdx]
            obtain ⟨_, f1, f2⟩ := hfold
            rw [← hzip] at f1 f2
            obtain ⟨cells', g1, g2, g3⟩ := fill_sound r vr cs1 cs' (u.cells.zipIdx.foldl (fun cs (p : Value × Nat) => cs.setIfInBounds (off + p.2) p.1) cells) h (by simpa using hl)
              (fun i p q hp' hq => hp (i + 1) p q (by simpa using hp') (by simpa using hq)) (by rw [f1, s1]; exact hs) (fun k y x hy hx => by
                rw [f2 k (by simp; omega)] at hy
                rw [s3 k] at hx
                by_cases hk : off ≤ k ∧ k < off + vs.length
                · rw [if_pos hk] at hx
                  rw [if_pos (by simp; omega)] at hy
                  simp at hy
                  exact (c2 _ _ _ hy hx).1
                · rw [if_neg hk] at hx
                  rw [if_neg (by simp; omega)] at hy
                  exact hr k y x hy hx)
            refine ⟨cells', ?_, g2, g3⟩
            have hn : (u.cells.size ≠ size || off + u.cells.size > cells.size) = false := by simp [c1, hsz]; omega
            simp only [Instr.fill, hpl, hn]
            exact g1

theorem placesO_run (hE : EnvOK P env) : ∀ (fs : List Field) (pls : List (Nat × Nat)), placesO env (fs.map fun f => (f.offset, f.type)) = some pls →
    fs.mapM (fun f => (P.info? f.type).map fun i => (f.offset, i.size)) = some pls
  | [], pls, h => by simp [placesO] at h; subst h; rfl
  | f :: r, pls, h => by
    simp only [List.map_cons, placesO] at h
    cases ht : ti? env f.type with
    | none => rw [ht] at h; simp at h
    | some ti =>
      rw [ht] at h
      cases hr : placesO env (r.map fun f => (f.offset, f.type)) with
      | none => rw [hr] at h; simp at h
      | some q =>
        rw [hr] at h; simp at h; subst h
        obtain ⟨i, hi, hs, _⟩ := (hE.get ht).info
        have := placesO_run hE r q hr
        simp [List.mapM_cons, hi, hs, this]

theorem rdParts_sound {n : Nat} {F : Fr} {S : List Blk} {ρ : Nat → Option Nat} {a : Act} {w : World} (hf : FrOK n F S ρ a w) {g : List Bool} (hg : allT g) :
    ∀ (parts : List (Nat × Operand)) (vs : List (Nat × V)) (p : List Prop), rdParts F g parts = some (vs, p) → allP p →
      (parts.map fun (q : Nat × Operand) => (q.1, a.eval q.2)).length = vs.length ∧
      ∀ (i : Nat) (p : Nat × Value) (q : Nat × V), (parts.map fun (q : Nat × Operand) => (q.1, a.eval q.2))[i]? = some p → vs[i]? = some q → p.1 = q.1 ∧ RelV S ρ (Rr S ρ w) w p.2 q.2
  | [], vs, p, h, _ => by simp [rdParts] at h; obtain ⟨rfl, rfl⟩ := h; simp
  | (i, x) :: r, vs, p, h, hp => by
    simp only [rdParts] at h
    cases hx : rd F g x with
    | none => rw [hx] at h; simp at h
    | some vp =>
      obtain ⟨v, p1⟩ := vp
      rw [hx] at h
      cases hr : rdParts F g r with
      | none => rw [hr] at h; simp at h
      | some qp =>
        obtain ⟨q, p2⟩ := qp
        rw [hr] at h; simp at h
        obtain ⟨rfl, rfl⟩ := h
        obtain ⟨hp1, hp2⟩ := allP_append hp
        obtain ⟨h1, h2⟩ := rdParts_sound hf hg r q p2 hr hp2
        refine ⟨by simpa using h1, fun k y z hy hz => ?_⟩
        cases k with
        | zero => simp at hy hz; subst hy hz; exact ⟨rfl, rd_sound hf hx hp1 hg⟩
        | succ k => exact h2 k y z (by simpa using hy) (by simpa using hz)

theorem execBuild_sound (hE : EnvOK P env) {S : List Blk} {ρ : Nat → Option Nat} {R : Nat → Prop} {w : World} {T : TypeId} {parts : List (Nat × V)} {r : V} (h : execBuild env T parts = some r)
    {vparts : Array (Nat × Value)} (hl : vparts.toList.length = parts.length) (hp : ∀ (i : Nat) (p : Nat × Value) (q : Nat × V), vparts.toList[i]? = some p → parts[i]? = some q → p.1 = q.1 ∧ RelV S ρ R w p.2 q.2) :
    ∃ val, (∀ w', (Instr.build T vparts).run P w' = .ok val w') ∧ RelV S ρ R w val r := by
  unfold execBuild at h
  split at h
  · rename_i fs sz by_ z ht
    split at h
    · rename_i cs hz
      split at h
      · rename_i pls hpl
        split at h
        · rename_i cs' hlay
          simp at h; subst h
          obtain ⟨i, hi, hs, _, hzero⟩ := (hE.get ht).info
          obtain ⟨dd, hd, hk⟩ := (hE.get ht).desc
          obtain ⟨f, rfl, hf⟩ := desc_struct hk
          obtain ⟨z1, z2⟩ := zeroV_rel hz S ρ R w
          obtain ⟨cells', g1, g2, g3⟩ := fill_sound parts vparts.toList cs cs' z.cells hlay hl hp z1 z2
          have hb : P.built T vparts.toList = some cells' := by
            unfold Program.built
            have hm := placesO_run hE f.toList pls (by rw [← hpl, ← hf])
            simp only [hi, hd, hzero, hm]
            have : (fun i => nthF pls i) = fun i => pls.toArray[i]? := by funext i; rw [nthF_eq]; simp
            rw [this] at g1
            exact g1
          refine ⟨.agg cells', fun w' => run_build w' T vparts cells' hb, ?_⟩
          have := RelV.agg (S := S) (ρ := ρ) (R := R) (w := w) cells'.toList cs' (by simpa using g2) (fun i v x hv hx => g3 i v x (by simpa using hv) hx)
          simpa using this
        · simp at h
      · simp at h
    · simp at h
  · rename_i m e sz by_ z ht
    split at h
    · rename_i cs hz
      split at h
      · rename_i te hte
        split at h
        · rename_i cs' hlay
          simp at h; subst h
          obtain ⟨i, hi, hs, _, hzero⟩ := (hE.get ht).info
          obtain ⟨dd, hd, hk⟩ := (hE.get ht).desc
          have := desc_array hk; subst this
          obtain ⟨ie, hie, hse, _⟩ := (hE.get hte).info
          obtain ⟨z1, z2⟩ := zeroV_rel hz S ρ R w
          obtain ⟨cells', g1, g2, g3⟩ := fill_sound parts vparts.toList cs cs' z.cells hlay hl hp z1 z2
          have hb : P.built T vparts.toList = some cells' := by
            unfold Program.built
            simp only [hi, hd, hzero, hie, hse]
            exact g1
          refine ⟨.agg cells', fun w' => run_build w' T vparts cells' hb, ?_⟩
          have := RelV.agg (S := S) (ρ := ρ) (R := R) (w := w) cells'.toList cs' (by simpa using g2) (fun i v x hv hx => g3 i v x (by simpa using hv) hx)
          simpa using this
        · simp at h
      · simp at h
    · simp at h
  · simp at h

theorem aggV_rel {S : List Blk} {ρ : Nat → Option Nat} {R : Nat → Prop} {w : World} {v : V} {cs : List V} (h : aggV v = some cs) {u : Value} (hu : RelV S ρ R w u v) :
    ∃ vals : List Value, u = .agg vals.toArray ∧ vals.length = cs.length ∧ ∀ (i : Nat) y x, vals[i]? = some y → cs[i]? = some x → RelV S ρ R w y x := by
  unfold aggV at h
  split at h
  · simp at h; subst h
    cases hu with | agg vals _ hl hr => exact ⟨vals, rfl, hl, hr⟩
  · rename_i ds
    rw [vcells_eq] at h; simp at h; subst h
    cases hu with | d hd => cases hd with | agg vals _ hl hr =>
      refine ⟨vals, rfl, by simpa [mapF_eq] using hl, fun i y x hy hx => ?_⟩
      rw [mapF_eq, List.getElem?_map] at hx
      cases hc : ds[i]? with
      | none => rw [hc] at hx; simp at hx
      | some z => rw [hc] at hx; simp at hx; subst hx; exact .d (hr i y z hy hc)
  · simp at h

theorem execPart_sound (hE : EnvOK P env) {S : List Blk} {ρ : Nat → Option Nat} {R : Nat → Prop} {w : World} {t : TypeId} {cs : List V} {off : Nat} {r : V} (h : execPart env t cs off = some r)
    {vals : List Value} (hl : vals.length = cs.length) (hr : ∀ (i : Nat) y x, vals[i]? = some y → cs[i]? = some x → RelV S ρ R w y x) :
    ∃ val, (∀ w', (part t vals.toArray off).run P w' = .ok val w') ∧ RelV S ρ R w val r := by
  unfold execPart at h
  split at h
  · rename_i ti ht
    have hagg := run_isAgg (hE.get ht)
    have hsz := run_sizeOf (hE.get ht)
    cases ha : ti.k.agg with
    | true =>
      rw [ha] at h hagg
      simp only [cond_true] at h
      split at h
      · rename_i r' hdr
        split at h
        · rename_i m hm
          simp at h; subst h
          obtain ⟨d1, d2⟩ := dropF_get hdr
          obtain ⟨t1, t2, t3⟩ := takeF_get hm
          refine ⟨.agg (vals.toArray.extract off (off + ti.size)), fun w' => ?_, ?_⟩
          · unfold part
            simp [hagg, hsz]
          · have he : vals.toArray.extract off (off + ti.size) = ((vals.drop off).take ti.size).toArray := by
              apply Array.ext'
              simp [List.extract_eq_take_drop]
            rw [he]
            refine .agg _ _ (by simp [t1]; omega) fun i y x hy hx => ?_
            have hi : i < ti.size := by rw [← t1]; exact (List.getElem?_eq_some_iff.1 hx).1
            rw [t3 i hi, d2] at hx
            rw [List.getElem?_take, if_pos hi, List.getElem?_drop] at hy
            exact hr _ _ _ hy hx
        · simp at h
      · simp at h
    | false =>
      rw [ha] at h hagg
      simp only [cond_false] at h
      rw [nthF_eq] at h
      have hlt : off < vals.length := by rw [hl]; exact (List.getElem?_eq_some_iff.1 h).1
      refine ⟨vals[off], fun w' => ?_, hr off _ _ (List.getElem?_eq_getElem hlt) h⟩
      unfold part
      simp [hagg, hlt]
  · simp at h

theorem execSel_sound (hE : EnvOK P env) {S : List Blk} {ρ : Nat → Option Nat} {R : Nat → Prop} {w : World} {T : TypeId} {v r : V} {f : Nat} (h : execSel env T v f = some r) {u : Value} (hu : RelV S ρ R w u v) :
    ∃ val, (∀ w', (Instr.field T u f).run P w' = .ok val w') ∧ RelV S ρ R w val r := by
  unfold execSel at h
  split at h
  · rename_i fs sz by_ z ht
    split at h
    · rename_i off t hf
      split at h
      · rename_i cs hc
        obtain ⟨dd, hd, hk⟩ := (hE.get ht).desc
        obtain ⟨fl, rfl, hfl⟩ := desc_struct hk
        obtain ⟨vals, rfl, hl, hr⟩ := aggV_rel hc hu
        obtain ⟨val, h1, h2⟩ := execPart_sound (P := P) hE h hl hr
        refine ⟨val, fun w' => ?_, h2⟩
        rw [nthF_eq, ← hfl, List.getElem?_map] at hf
        cases hg : fl.toList[f]? with
        | none => rw [hg] at hf; simp at hf
        | some fd =>
          rw [hg] at hf; simp at hf
          obtain ⟨rfl, rfl⟩ := hf
          have hg' : fl[f]? = some fd := by simpa using hg
          simp [Instr.field, run_underlying hd, hg', asAgg, h1]
      · simp at h
    · simp at h
  · simp at h

theorem execIdx_sound (hE : EnvOK P env) {S : List Blk} {ρ : Nat → Option Nat} {R : Nat → Prop} {w : World} {T : TypeId} {v r : V} {i : Int} (h : execIdx env T v i = some r) {u : Value} (hu : RelV S ρ R w u v) (k : IntKind) :
    ∃ val, (∀ w', (Instr.index T u (.int k i)).run P w' = .ok val w') ∧ RelV S ρ R w val r := by
  unfold execIdx at h
  split at h
  · rename_i m e sz by_ z ht
    split at h
    · rename_i j
      cases hb : Nat.blt j m with
      | false => rw [hb] at h; simp at h
      | true =>
        rw [hb] at h
        simp only [cond_true] at h
        have hjm : j < m := Nat.le_of_ble_eq_true hb
        split at h
        · rename_i te hte
          split at h
          · rename_i cs hc
            obtain ⟨dd, hd, hk⟩ := (hE.get ht).desc
            have := desc_array hk; subst this
            obtain ⟨vals, rfl, hl, hr⟩ := aggV_rel hc hu
            obtain ⟨val, h1, h2⟩ := execPart_sound (P := P) hE h hl hr
            refine ⟨val, fun w' => ?_, h2⟩
            have hsz := run_sizeOf (hE.get hte) w'
            simp [Instr.index, asIntOf, run_underlying hd, hsz, h1, hjm]
          · simp at h
        · simp at h
    · simp at h
  · simp at h

end
end Go.Wk

/- One quiet operation of the machine, whole; regions. -/
namespace Go.Wk
set_option maxRecDepth 10000
open Go.RowKit

/-- Operation 'o' (its guard met) yields a value that reads as v, in every later world. -/
def offV (N : List Nat) : V → Bool
  | .ptr nm _ => !memN N nm
  | .ep nm _ _ => !memN N nm
  | .rp _ => true
  | .d _ => true
  | _ => match N with | [] => true | _ => false
/-- No load of the operation reads a block of these names. -/
def offO (N : List Nat) (F : Fr) (g : List Bool) : Op → Bool
  | .load _ x => match rd F g x with
    | some (v, _) => offV N v
    | none => false
  | _ => true
theorem offV_nil (v : V) : offV [] v = true := by cases v <;> rfl
theorem off_ptr {w0 : Base} {S : List Blk} {ρ : Nat → Option Nat} {w : World} (hm : Mem w0 S ρ w) {N : List Nat} (hN : ∀ m ∈ N, m < S.length) {p : V} (hp : offV N p = true) {u : Value} (hu : RelV S ρ (Rr S ρ w) w u p) :
    ∀ b o, u = .pointer (some ⟨b, o, none⟩) → ∀ m ∈ N, ρ m ≠ some b := by
  rintro b o rfl m hmN hb
  have own : ∀ nm, ρ nm = some b → nm < S.length → (!memN N nm) = true → False := fun nm h hlt hno => by
    have := hm.inj m nm b (hN m hmN) hlt hb h
    subst this
    rw [memN_iff.2 hmN] at hno; cases hno
  cases hu with
  | d h => cases h
  | ptr h hs => exact own _ h (shape_lt hs) hp
  | ep h hs hi => exact own _ h (shape_lt (by rw [hs]; rfl)) hp
  | rp val hR hc h => exact hR.2 m hb
  | bot => cases N with
    | nil => simp at hmN
    | cons => simp [offV] at hp

def loadO : Op → Bool
  | .load .. => true
  | _ => false
def Yields (P : Program) (C : World → Prop) (o : Oper) (S : List Blk) (ρ : Nat → Option Nat) (a : Act) (w : World) (v : V) : Prop :=
  ∃ val, (∀ w', C w' → (execOp a.eval o).run P w' = .ok (.value val) w') ∧ RelV S ρ (Rr S ρ w) w val v

theorem Yields.of_run {P : Program} {C : World → Prop} {o : Oper} {S : List Blk} {ρ : Nat → Option Nat} {a : Act} {w : World} {v : V} {val : Value}
    (h : ∀ w', C w' → (execOp a.eval o).run P w' = .ok (.value val) w') (hr : RelV S ρ (Rr S ρ w) w val v) : Yields P C o S ρ a w v :=
  ⟨val, h, hr⟩

theorem quiet_run {P : Program} {o : Oper} {a : Act} {C : World → Prop} {w : World} {val : Value} (h : (execOp a.eval o).run P w = .ok (.value val) w) : o.quietAt P a C w val := by
  simp [Oper.quietAt, h, Oper.quietUpon]

theorem run_v {P : Program} {s : Sem Value} {val : Value} {w w' : World} (h : s.run P w = .ok val w') : (do pure (Next.value (← s)) : Sem Next).run P w = .ok (.value val) w' := by
  rw [Sem.run_bind, h]; rfl

theorem pickB_eq {c x y z : Bool} {a b : Operand} (h : pickB c x y a b = some z) (ha : ∀ z, a = .const (.bool z) → x = z) (hb : ∀ z, b = .const (.bool z) → y = z) : z = bif c then x else y := by
  unfold pickB at h
  split at h <;> simp at h <;> subst h
  · rw [hb false rfl]; cases c <;> rfl
  · rw [ha true rfl]; cases c <;> rfl
  · rfl

theorem allT_append {g h : List Bool} : allT (g ++ h) ↔ allT g ∧ allT h := by
  induction g with
  | nil => simp [allT]
  | cons b r ih => simp [allT, ih, and_assoc]

theorem rd_const {F : Fr} {g : List Bool} {z : Bool} {v : V} {p : List Prop} (h : rd F g (.const (.bool z)) = some (v, p)) : v = .d (.bool z) := by
  simp [rd, ofVal] at h; exact h.1.symm

theorem rdAll_sound {n : Nat} {F : Fr} {S : List Blk} {ρ : Nat → Option Nat} {a : Act} {w : World} (hf : FrOK n F S ρ a w) {g : List Bool} (hg : allT g) {xs : List Operand} {vs : List V} {os : List Prop} (h : rdAll F g xs = some (vs, os)) (ho : allP os) :
    (xs.map a.eval).length = vs.length ∧ ∀ (i : Nat) u x, (xs.map a.eval)[i]? = some u → vs[i]? = some x → RelV S ρ (Rr S ρ w) w u x := by
  induction xs generalizing vs os with
  | nil => simp [rdAll] at h; obtain ⟨rfl, rfl⟩ := h; simp
  | cons x r ih =>
    simp only [rdAll] at h
    split at h
    · rename_i v p hv
      split at h
      · rename_i vs' q hq
        simp at h; obtain ⟨rfl, rfl⟩ := h
        obtain ⟨hp, hq'⟩ := allP_append ho
        obtain ⟨h1, h2⟩ := ih hq hq'
        refine ⟨by simpa using h1, fun i u y hu hy => ?_⟩
        cases i with
        | zero => simp at hu hy; subst hu hy; exact rd_sound hf hv hp hg
        | succ i => exact h2 i u y (by simpa using hu) (by simpa using hy)
      · simp at h
    · simp at h

theorem exec1_sound {P : Program} {env : Env} (hE : EnvOK P env) {w0 : Base} {n : Nat} {F : Fr} {S : List Blk} {ρ : Nat → Option Nat} {a : Act} {w : World} (hf : FrOK n F S ρ a w) (hm : Mem w0 S ρ w)
    {g : List Bool} (hg : allT g) {o : Oper} {v : V} {os : List Prop} (h : exec1 env F S g o.op = some (v, os)) (ho : allP os) {N : List Nat} {C : World → Prop} (hC : loadO o.op = true → (∀ w', C w' → Sm N ρ w w') ∧ (∀ m ∈ N, m < S.length) ∧ offO N F g o.op = true) : Yields P C o S ρ a w v := by
  obtain ⟨dst, op, type, pos, after, guard⟩ := o
  simp only at h
  cases op <;> simp only [exec1, reduceCtorEq] at h
  case move x => exact Yields.of_run (fun w' _ => rfl) (rd_sound hf h ho hg)
  case assign x => exact Yields.of_run (fun w' _ => rfl) (rd_sound hf h ho hg)
  case pick c x y =>
    split at h
    · rename_i bc p hc
      split at h
      · rename_i bx q by_ r hx hy
        split at h
        case h_2 => simp at h
        rename_i pz hpz
        simp at h; obtain ⟨rfl, rfl⟩ := h
        obtain ⟨hp, hqr⟩ := allP_append (a := p) (b := q ++ r) (by simpa using ho)
        obtain ⟨hq, hr⟩ := allP_append hqr
        have rc := rd_sound hf hc hp hg
        have hc' : a.eval c = .bool bc := by cases hcv : a.eval c <;> rw [hcv] at rc <;> cases rc with | d rc => cases rc <;> rfl
        refine Yields.of_run (val := .bool pz) (fun w' _ => ?_) (.d (.bool _))
        have ha : ∀ z, x = .const (.bool z) → bx = z := fun z hz => by subst hz; have := rd_const hx; injection this with h2; injection h2
        have hb : ∀ z, y = .const (.bool z) → by_ = z := fun z hz => by subst hz; have := rd_const hy; injection this with h2; injection h2
        rw [pickB_eq hpz ha hb]
        cases bc with
        | true =>
          have rx := rd_sound hf hx hq (allT_append.2 ⟨hg, rfl, trivial⟩)
          have hx' : a.eval x = .bool bx := by cases hcv : a.eval x <;> rw [hcv] at rx <;> cases rx with | d rc => cases rc <;> rfl
          simp [execOp, hc', asBool, hx']
        | false =>
          have rx := rd_sound hf hy hr (allT_append.2 ⟨hg, rfl, trivial⟩)
          have hx' : a.eval y = .bool by_ := by cases hcv : a.eval y <;> rw [hcv] at rx <;> cases rx with | d rc => cases rc <;> rfl
          simp [execOp, hc', asBool, hx']
      · simp at h
    · simp at h
  case binOp op t x y yt =>
    split at h
    · rename_i u p u' q hx hy
      split at h
      · rename_i r os' hb
        simp at h; obtain ⟨rfl, rfl⟩ := h
        obtain ⟨hp, hqr⟩ := allP_append (a := p) (b := q ++ grd g os') (by simpa using ho)
        obtain ⟨hq, hr⟩ := allP_append hqr
        obtain ⟨val, hrun, hrel⟩ := binD_sound (P := P) hE hb (grd_out hr hg) (rd_sound hf hx hp hg) (rd_sound hf hy hq hg) x y
        exact Yields.of_run (fun w' _ => run_v (hrun w')) (.d hrel)
      · simp at h
    · simp at h
  case unOp op t x =>
    split at h
    · rename_i b p hx
      simp at h; obtain ⟨rfl, rfl⟩ := h
      have rx := rd_sound hf hx ho hg
      have hx' : a.eval x = .bool b := by cases hcv : a.eval x <;> rw [hcv] at rx <;> cases rx with | d rc => cases rc <;> rfl
      exact Yields.of_run (fun w' _ => by simp [execOp, hx', Op.unary]) (.d (.bool _))
    · rename_i k m p hx
      simp at h; obtain ⟨rfl, rfl⟩ := h
      obtain ⟨hp, hr⟩ := allP_append ho
      have rx := rd_sound hf hx hp hg
      have hx' : a.eval x = .int k m := by cases hcv : a.eval x <;> rw [hcv] at rx <;> cases rx with | d rc => cases rc <;> rfl
      have hw : k.wrap (-m) = -m := InR.wrap (grd_out hr hg).1
      exact Yields.of_run (val := .int k (-m)) (fun w' _ => by simp only [execOp, hx', Op.unary, Op.intArith, Int.zero_sub, hw]; rfl) (.d (.int _ _))
    · simp at h
  case extract x i =>
    split at h
    · rename_i vs p hx
      rw [nthF_eq] at h
      split at h
      · rename_i v' hv
        simp at h; obtain ⟨rfl, rfl⟩ := h
        have rx := rd_sound hf hx ho hg
        generalize hu : a.eval x = u at rx
        cases rx with
        | tup vals _ hl hr =>
          have hlt : i < vals.length := by rw [hl]; exact (List.getElem?_eq_some_iff.1 hv).1
          exact Yields.of_run (val := vals[i]) (fun w' _ => by simp [execOp, hu, Instr.extract, hlt]) (hr i _ _ (by simp [hlt]) hv)
      · simp at h
    · simp at h
  case nilCheck x =>
    split at h
    · rename_i nm o p hx
      simp at h; obtain ⟨rfl, rfl⟩ := h
      have rx := rd_sound hf hx ho hg
      generalize hu : a.eval x = u at rx
      cases rx with | ptr hb hs => exact Yields.of_run (fun w' _ => by simp [execOp, hu]) (.ptr hb hs)
    · rename_i nm i o p hx
      simp at h; obtain ⟨rfl, rfl⟩ := h
      have rx := rd_sound hf hx ho hg
      generalize hu : a.eval x = u at rx
      cases rx with | ep hb hs hi => exact Yields.of_run (fun w' _ => by simp [execOp, hu]) (.ep hb hs hi)
    · rename_i cs p hx
      simp at h; obtain ⟨rfl, rfl⟩ := h
      have rx := rd_sound hf hx ho hg
      generalize hu : a.eval x = u at rx
      cases rx with | rp val hR hc hr => exact Yields.of_run (fun w' _ => by simp [execOp, hu]) (.rp val hR hc hr)
    · simp at h
  case fieldAddr T x f =>
    split at h
    · rename_i u p hx
      split at h
      · rename_i r hr
        simp at h; obtain ⟨rfl, rfl⟩ := h
        obtain ⟨val, hrun, hrel⟩ := execField_sound (P := P) hE hr (rd_sound hf hx ho hg)
        exact Yields.of_run (fun w' _ => run_v (hrun w')) hrel
      · simp at h
    · simp at h
  case indexAddr T x i =>
    split at h
    · rename_i u p k m q hx hi
      split at h
      · rename_i r os' hr
        simp at h; obtain ⟨rfl, rfl⟩ := h
        obtain ⟨hp, hqr⟩ := allP_append (a := p) (b := q ++ grd g os') (by simpa using ho)
        obtain ⟨hq, hr'⟩ := allP_append hqr
        have ri := rd_sound hf hi hq hg
        have hi' : a.eval i = .int k m := by cases hcv : a.eval i <;> rw [hcv] at ri <;> cases ri with | d rc => cases rc <;> rfl
        obtain ⟨val, hrun, hrel⟩ := execIndex_sound (P := P) hE hr (grd_out hr' hg) (rd_sound hf hx hp hg) k
        exact Yields.of_run (fun w' _ => run_v (by rw [hi']; exact hrun w')) hrel
      · simp at h
    · simp at h
  case load T x =>
    split at h
    · rename_i u p hx
      split at h
      · rename_i r hr
        simp at h; obtain ⟨rfl, rfl⟩ := h
        obtain ⟨val, hrun, hrel⟩ := execLoad_sound (P := P) hE hm hr (rd_sound hf hx ho hg) (N := N) (off_ptr hm (hC rfl).2.1 (by simpa [offO, hx] using (hC rfl).2.2) (rd_sound hf hx ho hg))
        exact Yields.of_run (fun w' he => run_v (hrun w' ((hC rfl).1 w' he))) hrel
      · simp at h
    · simp at h
  case slice T x lo hi mx =>
    cases lo with
    | some lo => cases hi with
      | some => simp at h
      | none => cases mx with
        | some => simp at h
        | none =>
          simp only at h
          split at h
          · rename_i u p k m q hx hi'
            split at h
            · rename_i r os' hr
              simp at h; obtain ⟨rfl, rfl⟩ := h
              obtain ⟨hp, hqr⟩ := allP_append (a := p) (b := q ++ grd g os') (by simpa using ho)
              obtain ⟨hq, hr'⟩ := allP_append hqr
              have ri := rd_sound hf hi' hq hg
              have hie : a.eval lo = .int k m := by cases hcv : a.eval lo <;> rw [hcv] at ri <;> cases ri with | d rc => cases rc <;> rfl
              obtain ⟨val, hrun, hrel⟩ := execLo_sound (P := P) hE hr (grd_out hr' hg) (rd_sound hf hx hp hg) k
              exact Yields.of_run (fun w' _ => run_v (by simp only [Option.map, hie]; exact hrun w')) hrel
            · simp at h
          · simp at h
    | none => cases hi with
      | none => simp at h
      | some hi => cases mx with
        | some => simp at h
        | none =>
          simp only at h
          split at h
          · rename_i u p k m q hx hi'
            split at h
            · rename_i r os' hr
              simp at h; obtain ⟨rfl, rfl⟩ := h
              obtain ⟨hp, hqr⟩ := allP_append (a := p) (b := q ++ grd g os') (by simpa using ho)
              obtain ⟨hq, hr'⟩ := allP_append hqr
              have ri := rd_sound hf hi' hq hg
              have hie : a.eval hi = .int k m := by cases hcv : a.eval hi <;> rw [hcv] at ri <;> cases ri with | d rc => cases rc <;> rfl
              obtain ⟨val, hrun, hrel⟩ := execCut_sound (P := P) hE hr (grd_out hr' hg) (rd_sound hf hx hp hg) k
              exact Yields.of_run (fun w' _ => run_v (by simp only [Option.map, hie]; exact hrun w')) hrel
            · simp at h
          · simp at h
  case call c =>
    obtain ⟨callee, args, argTypes⟩ := c
    simp only at h
    split at h
    · split at h
      · rename_i hc x t hx ht
        split at h
        · rename_i u p hu
          split at h
          · rename_i r hr
            simp at h; obtain ⟨rfl, rfl⟩ := h
            have hx' : args = #[x] := Array.ext' (by simpa using hx)
            have ht' : argTypes = #[t] := Array.ext' (by simpa using ht)
            subst hx' ht'
            obtain ⟨val, hrun, hrel⟩ := execLen_sound (P := P) hE hr type (rd_sound hf hu ho hg)
            refine Yields.of_run (fun w' _ => ?_) hrel
            simp only [execOp, resolve, List.map_toArray, List.map_cons, List.map_nil, pure_bind, invoke, builtin]
            exact run_v (hrun w')
          · simp at h
        · simp at h
      · simp at h
    · simp at h
  case build T parts =>
    split at h
    · rename_i vs p hx
      split at h
      · rename_i r hr
        simp at h; obtain ⟨rfl, rfl⟩ := h
        obtain ⟨h1, h2⟩ := rdParts_sound hf hg parts.toList vs p hx ho
        obtain ⟨val, hrun, hrel⟩ := execBuild_sound (P := P) hE hr (vparts := parts.map fun (q : Nat × Operand) => (q.1, a.eval q.2)) (by simpa using h1) (fun i p q hp hq => h2 i p q (by simpa using hp) hq)
        exact Yields.of_run (fun w' _ => run_v (hrun w')) hrel
      · simp at h
    · simp at h
  case field T x f =>
    split at h
    · rename_i u p hx
      split at h
      · rename_i r hr
        simp at h; obtain ⟨rfl, rfl⟩ := h
        obtain ⟨val, hrun, hrel⟩ := execSel_sound (P := P) hE hr (rd_sound hf hx ho hg)
        exact Yields.of_run (fun w' _ => run_v (hrun w')) hrel
      · simp at h
    · simp at h
  case index T x i =>
    split at h
    · rename_i u p k m q hx hi
      split at h
      · rename_i r hr
        simp at h; obtain ⟨rfl, rfl⟩ := h
        obtain ⟨hp, hq⟩ := allP_append ho
        have ri := rd_sound hf hi hq hg
        have hi' : a.eval i = .int k m := by cases hcv : a.eval i <;> rw [hcv] at ri <;> cases ri with | d rc => cases rc <;> rfl
        obtain ⟨val, hrun, hrel⟩ := execIdx_sound (P := P) hE hr (rd_sound hf hx hp hg) k
        exact Yields.of_run (fun w' _ => run_v (by rw [hi']; exact hrun w')) hrel
      · simp at h
    · simp at h
  case convert src dst x =>
    split at h
    · rename_i t1 k1 s1 b1 z1 k0 m p hs hd hx
      simp at h; obtain ⟨rfl, rfl⟩ := h
      obtain ⟨hp, hr⟩ := allP_append ho
      obtain ⟨d1, hd1, _⟩ := (hE.get hs).desc
      obtain ⟨d2, hd2, hk2⟩ := (hE.get hd).desc
      have hi : d2 = .int k1 := by cases d2 <;> simp [summ] at hk2; rw [hk2]
      subst hi
      have rx := rd_sound hf hx hp hg
      have hx' : a.eval x = .int k0 m := by cases hcv : a.eval x <;> rw [hcv] at rx <;> cases rx with | d rc => cases rc <;> rfl
      have hw : k1.wrap m = m := InR.wrap (grd_out hr hg).1
      refine Yields.of_run (val := .int k1 m) (fun w' _ => ?_) (.d (.int _ _))
      simp only [execOp, hx']
      refine run_v ?_
      simp [Go.convert, run_underlying hd1, run_underlying hd2, Conv.intToInt, hw]
    · simp at h
  case makeFunc fn first caps =>
    split at h
    · rename_i f hfirst
      split at h
      · rename_i vs p hx
        simp at h; obtain ⟨rfl, rfl⟩ := h
        obtain ⟨h1, h2⟩ := rdAll_sound hf hg hx ho
        have hfe : first = #[] := Array.ext' (by simpa using hfirst)
        subst hfe
        refine Yields.of_run (val := .func (.func f) #[] (caps.toList.map a.eval).toArray) (fun w' _ => ?_) (.clo f _ _ h1 h2)
        have : (caps.toList.map a.eval).toArray = caps.map a.eval := by apply Array.ext'; simp
        rw [this]; simp [execOp, Instr.makeFunc]
      · simp at h
    · simp at h

end Go.Wk

/- Steps through a region over abstract states; control; contracts; calls of quiet contracts. -/
namespace Go.Wk
set_option maxRecDepth 10000
open Go.RowKit

/-! ### Guards -/

def gadd : List Bool → Bool → Bool → Option (List Bool)
  | [], true, b => some [b]
  | [], false, b => some [!b]
  | [x], true, b => some [x, b]
  | [x], false, b => some [x, !b]
  | [x, y], true, b => some [x, y, b]
  | [x, y], false, b => some [x, y, !b]
  | x :: y :: z :: r, true, b => some (x :: y :: z :: (r ++ [b]))
  | x :: y :: z :: r, false, b => some (x :: y :: z :: (r ++ [!b]))
theorem gadd_eq {gs g : List Bool} {want b : Bool} (h : gadd gs want b = some g) : g = gs ++ [bif want then b else !b] := by
  unfold gadd at h
  split at h <;> simp at h <;> subst h <;> rfl

def gof (F : Fr) (l0 : List Oper) : Option (Nat × Bool) → Option (List Bool)
  | none => some []
  | some (j, want) => match nthF l0 j with
    | some oj => match oj.dst with
      | some s => match look F s with
        | some (gs, .d (.bool b)) => gadd gs want b
        | _ => none
      | none => none
    | none => none

theorem yielded_of {l0 : List Oper} {j s : Nat} {oj : Oper} (hj : l0[j]? = some oj) (hs : oj.dst = some s) (tmps : Array Value) :
    yielded l0.toArray tmps j = match tmps[s]? with | some (.bool b) => some b | _ => none := by
  unfold yielded
  simp only [List.getElem?_toArray, hj, Option.bind_some, hs]
  rfl

theorem gof_wanted {n : Nat} {F : Fr} {S : List Blk} {ρ : Nat → Option Nat} {a : Act} {w : World} (hf : FrOK n F S ρ a w) {l0 : List Oper} {o : Oper} {g : List Bool} (h : gof F l0 o.guard = some g) :
    (allT g → Region.wanted o (yielded l0.toArray a.tmps) = true) ∧ (¬ allT g → Region.wanted o (yielded l0.toArray a.tmps) = false) := by
  unfold Region.wanted
  cases hgd : o.guard with
  | none => rw [hgd] at h; simp [gof] at h; subst h; simp [allT]
  | some jw =>
    obtain ⟨j, want⟩ := jw
    rw [hgd] at h
    simp only [gof, nthF_eq] at h
    split at h
    · rename_i oj hj
      split at h
      · rename_i s hs
        split at h
        · rename_i gs b hl
          have hga := gadd_eq h; subst hga
          simp only [yielded_of hj hs]
          have hget := hf.get s gs (.d (.bool b)) hl
          have some_of : ∀ v : Value, a.tmps.getD s undef = v → v ≠ undef → a.tmps[s]? = some v := by
            intro v hv hne
            cases hx : a.tmps[s]? with
            | none => rw [Array.getD_eq_getD_getElem?, hx] at hv; exact absurd hv.symm hne
            | some u => rw [Array.getD_eq_getD_getElem?, hx] at hv; simp at hv; rw [hv]
          by_cases hgs : allT gs
          · have hr := hget.1 hgs
            have hv : a.tmps.getD s undef = .bool b := by
              generalize a.tmps.getD s undef = u at hr
              cases hr with | d hr => cases hr; rfl
            rw [some_of _ hv (by simp [undef])]
            constructor
            · intro hall
              have := (allT_append.1 hall).2.1
              cases want <;> cases b <;> simp_all
            · intro hall
              have : ¬ (bif want then b else !b) = true := fun hb => hall (allT_append.2 ⟨hgs, hb, trivial⟩)
              cases want <;> cases b <;> simp_all
          · have hv := hget.2 hgs
            refine ⟨fun hall => absurd (allT_append.1 hall).1 hgs, fun _ => ?_⟩
            cases hx : a.tmps[s]? with
            | none => simp
            | some u =>
              rw [Array.getD_eq_getD_getElem?, hx] at hv; simp at hv; subst hv
              simp [undef]
        · simp at h
      · simp at h
    · simp at h

/-! ### Regions -/

def AO (P : Program) (env : Env) (w0 : Base) (n : Nat) (l0 : List Oper) (K : Fr → List Blk → Prop) (l : List Oper) (F : Fr) (S : List Blk) : Prop :=
  EnvOK P env → ∀ ρ a w, Rel w0 n F S ρ a w → wpList P l0.toArray (fun e a' w' => e = .normal ∧ ∃ F' S' ρ', Rel w0 n F' S' ρ' a' w' ∧ K F' S') l a w

def AQ (P : Program) (env : Env) (w0 : Base) (n : Nat) (l0 : List Oper) (K : Fr → List Blk → Prop) (l : List Oper) (F : Fr) (S : List Blk) : Prop :=
  EnvOK P env → ∀ ρ a w, Rel w0 n F S ρ a w → wpQuiet P l0.toArray (Ext w) (fun a' => ∃ F', Rel w0 n F' S ρ a' w ∧ K F' S) l a

section
variable {P : Program} {env : Env} {w0 : Base} {n : Nat} {l0 : List Oper} {K : Fr → List Blk → Prop} {l : List Oper} {F : Fr} {S : List Blk}

theorem ao_nil (h : K F S) : AO P env w0 n l0 K [] F S := fun _ ρ _ _ hr => ⟨rfl, F, S, ρ, hr, h⟩
theorem aq_nil (h : K F S) : AQ P env w0 n l0 K [] F S := fun _ _ _ _ hr => ⟨F, hr, h⟩

def stepQ (env : Env) (n : Nat) (l0 : List Oper) (F : Fr) (S : List Blk) (o : Oper) : Option (Fr × List Prop) :=
  match o.dst with
  | none => none
  | some d => match gof F l0 o.guard with
    | none => none
    | some g => match exec1 env F S g o.op with
      | none => none
      | some (v, os) => bif Nat.blt d n then some ((d, g, v) :: F, os) else none

def offS (l0 : List Oper) (N : List Nat) (F : Fr) (o : Oper) : Bool :=
  match gof F l0 o.guard with
  | some g => offO N F g o.op
  | none => true
theorem stepG_sound (hE : EnvOK P env) {o : Oper} {F' : Fr} {os : List Prop} (h : stepQ env n l0 F S o = some (F', os)) (ho : allP os) {N : List Nat} {ρ : Nat → Option Nat} {a : Act} {w : World} {C : World → Prop}
    (hC : loadO o.op = true → (∀ w', C w' → Sm N ρ w w') ∧ (∀ m ∈ N, m < S.length) ∧ offS l0 N F o = true) (hr : Rel w0 n F S ρ a w) :
    ((Region.wanted o (yielded l0.toArray a.tmps) = true ∧ ∃ val, (∀ w', C w' → (execOp a.eval o).run P w' = .ok (.value val) w') ∧ Rel w0 n F' S ρ (a.put o.dst val) w) ∨
      (Region.wanted o (yielded l0.toArray a.tmps) = false ∧ Rel w0 n F' S ρ (a.put o.dst undef) w)) := by
  unfold stepQ at h
  split at h
  · simp at h
  rename_i d hd
  split at h
  · simp at h
  rename_i g hg
  split at h
  · simp at h
  rename_i v os' he
  cases hn : Nat.blt d n with
  | false => simp [hn] at h
  | true =>
    simp [hn] at h
    obtain ⟨rfl, rfl⟩ := h
    have hdn : d < n := Nat.le_of_ble_eq_true hn
    obtain ⟨hw1, hw2⟩ := gof_wanted hr.fr hg
    by_cases hall : allT g
    · obtain ⟨val, hq, hv⟩ := exec1_sound (P := P) hE hr.fr hr.mem hall he ho (N := N) (C := C) (fun hl => ⟨(hC hl).1, (hC hl).2.1, by simpa [offS, hg] using (hC hl).2.2⟩)
      refine .inl ⟨hw1 hall, val, hq, ?_, hr.mem⟩
      rw [hd]
      exact hr.fr.put hdn ⟨fun _ => hv, fun h => absurd hall h⟩
    · refine .inr ⟨hw2 hall, ?_, hr.mem⟩
      rw [hd]
      exact hr.fr.put hdn ⟨fun h => absurd h hall, fun _ => rfl⟩

theorem stepN_sound (hE : EnvOK P env) {o : Oper} {F' : Fr} {os : List Prop} (h : stepQ env n l0 F S o = some (F', os)) (ho : allP os) {N : List Nat} (hN : ∀ m ∈ N, m < S.length) (hoff : offS l0 N F o = true) {ρ : Nat → Option Nat} {a : Act} {w : World} (hr : Rel w0 n F S ρ a w) :
    ((Region.wanted o (yielded l0.toArray a.tmps) = true ∧ ∃ val, (∀ w', Sm N ρ w w' → (execOp a.eval o).run P w' = .ok (.value val) w') ∧ Rel w0 n F' S ρ (a.put o.dst val) w) ∨
      (Region.wanted o (yielded l0.toArray a.tmps) = false ∧ Rel w0 n F' S ρ (a.put o.dst undef) w)) :=
  stepG_sound hE h ho (fun _ => ⟨fun _ h => h, hN, hoff⟩) hr

theorem offO_nil {env : Env} {F : Fr} {S : List Blk} {g : List Bool} {op : Op} {r : V × List Prop} (h : exec1 env F S g op = some r) : offO [] F g op = true := by
  cases op <;> try rfl
  rename_i T x
  simp only [exec1] at h
  simp only [offO]
  cases hx : rd F g x with
  | none => rw [hx] at h; simp at h
  | some vp => exact offV_nil _
theorem offS_nil {o : Oper} {F' : Fr} {os : List Prop} (h : stepQ env n l0 F S o = some (F', os)) : offS l0 [] F o = true := by
  unfold stepQ at h
  split at h
  · simp at h
  split at h
  · simp at h
  rename_i g hg
  split at h
  · simp at h
  rename_i he
  simp only [offS, hg]
  exact offO_nil he
theorem stepR_sound (hE : EnvOK P env) {o : Oper} {F' : Fr} {os : List Prop} (h : stepQ env n l0 F S o = some (F', os)) (ho : allP os) {ρ : Nat → Option Nat} {a : Act} {w : World} (hr : Rel w0 n F S ρ a w) :
    ((Region.wanted o (yielded l0.toArray a.tmps) = true ∧ ∃ val, (∀ w', Ext w w' → (execOp a.eval o).run P w' = .ok (.value val) w') ∧ Rel w0 n F' S ρ (a.put o.dst val) w) ∨
      (Region.wanted o (yielded l0.toArray a.tmps) = false ∧ Rel w0 n F' S ρ (a.put o.dst undef) w)) := by
  obtain (⟨hw, val, hq, hr'⟩ | ⟨hw, hr'⟩) := stepN_sound (P := P) hE h ho (N := []) (by simp) (offS_nil h) hr
  · exact .inl ⟨hw, val, fun w' he => hq w' (Sm.of_ext he), hr'⟩
  · exact .inr ⟨hw, hr'⟩
theorem stepQ_sound (hE : EnvOK P env) {o : Oper} {F' : Fr} {os : List Prop} (h : stepQ env n l0 F S o = some (F', os)) (ho : allP os) {ρ : Nat → Option Nat} {a : Act} {w : World} (hr : Rel w0 n F S ρ a w) :
    ((Region.wanted o (yielded l0.toArray a.tmps) = true ∧ ∃ val, (∀ w', Ext w w' → o.quietAt P a (Ext w) w' val) ∧ Rel w0 n F' S ρ (a.put o.dst val) w) ∨
      (Region.wanted o (yielded l0.toArray a.tmps) = false ∧ Rel w0 n F' S ρ (a.put o.dst undef) w)) := by
  obtain (⟨hw, val, hq, hr'⟩ | ⟨hw, hr'⟩) := stepR_sound (P := P) hE h ho hr
  · exact .inl ⟨hw, val, fun w' he => quiet_run (hq w' he), hr'⟩
  · exact .inr ⟨hw, hr'⟩

/-- A quiet operation at the head of a list. -/
theorem wpList_quiet {o : Oper} {Q : Exit → Act → World → Prop} {a : Act} {w : World} {val : Value} (hw : Region.wanted o (yielded l0.toArray a.tmps) = true)
    (hq : ∀ w', Ext w w' → o.quietAt P a (Ext w) w' val) (h : ∀ w', Ext w w' → wpList P l0.toArray Q l (a.put o.dst val) w') : wpList P l0.toArray Q (o :: l) a w := by
  unfold wpList
  rw [if_pos hw]
  refine .inl (Oper.wp_of_quiet (C := Ext w) (K := fun a' => a' = a.put o.dst val) (Below.refl _ _) (fun a' w' he ha => ?_) ⟨val, hq, rfl⟩)
  subst ha
  exact h w' he

theorem ao_op {o : Oper} {F' : Fr} {os : List Prop} (h : stepQ env n l0 F S o = some (F', os)) (ho : allP os) (k : AO P env w0 n l0 K l F' S) : AO P env w0 n l0 K (o :: l) F S := by
  intro hE ρ a w hr
  obtain (⟨hw, val, hq, hr'⟩ | ⟨hw, hr'⟩) := stepQ_sound (P := P) hE h ho hr
  · exact wpList_quiet hw hq fun w' he => k hE ρ _ w' (hr'.ext he)
  · exact wpList_skip hw (k hE ρ _ w hr')

theorem wpQuiet_mono {ops : Array Oper} {C C' : World → Prop} {Q Q' : Act → Prop} (hC : ∀ w, C' w → C w) (hC' : ∀ w, C w → C' w) (hQ : ∀ a, Q a → Q' a) : ∀ (l : List Oper) (a : Act), wpQuiet P ops C Q l a → wpQuiet P ops C' Q' l a := by
  have : C = C' := funext fun w => propext ⟨hC' w, hC w⟩
  subst this
  intro l
  induction l with
  | nil => intro a h; exact hQ a h
  | cons o r ih =>
    intro a h
    unfold wpQuiet at h ⊢
    split
    · rename_i hw; rw [if_pos hw] at h; exact Oper.quiet_mono (fun a' h' => ih a' h') h
    · rename_i hw; rw [if_neg hw] at h; exact ih _ h

theorem aq_op {o : Oper} {F' : Fr} {os : List Prop} (h : stepQ env n l0 F S o = some (F', os)) (ho : allP os) (k : AQ P env w0 n l0 K l F' S) : AQ P env w0 n l0 K (o :: l) F S := by
  intro hE ρ a w hr
  unfold wpQuiet
  obtain (⟨hw, val, hq, hr'⟩ | ⟨hw, hr'⟩) := stepQ_sound (P := P) hE h ho hr
  · rw [if_pos hw]
    exact ⟨val, fun w' he => hq w' he, k hE ρ _ w hr'⟩
  · rw [if_neg (by simp [hw])]
    exact k hE ρ _ w hr'

/-! ### Contracts -/

/-- What the caller gets: new blocks of its own, and a value over them; all else in new memory. -/
def Rf (w : World) (rS : List Blk) (ρ : Nat → Option Nat) (w' : World) (k : Nat) : Prop := w.heap.size ≤ k ∧ Rr rS ρ w' k

structure Out (w : World) (rS : List Blk) (ρ : Nat → Option Nat) (w' : World) (v : Value) (rv : V) : Prop where
  ext : Ext w w'
  lt : ∀ i b, i < rS.length → ρ i = some b → w.heap.size ≤ b ∧ b < w'.heap.size
  inj : ∀ i j b, i < rS.length → j < rS.length → ρ i = some b → ρ j = some b → i = j
  blk : ∀ i blk, rS[i]? = some blk → RelBlk rS ρ (Rf w rS ρ w') w' i blk
  val : RelV rS ρ (Rf w rS ρ w') w' v rv

def RelDs (R : Nat → Prop) (w : World) (vs : List Value) (ds : List D) : Prop := vs.length = ds.length ∧ ∀ (i : Nat) v x, vs[i]? = some v → ds[i]? = some x → RelD R w v x

def Enters (P : Program) (f : FuncId) : Prop := ∀ args w, (callFunc f args).run P w = .ok (.enter f args) w

def Ctr (P : Program) (f : FuncId) (ds : List D) (rS : List Blk) (rv : V) : Prop :=
  Enters P f ∧ ∀ w vs, RelDs (fun k => k < w.heap.size) w vs ds → Calls P f vs.toArray w fun e w' => ∃ v ρ, e = .returned v ∧ Out w rS ρ w' v rv

def toD (S : List Blk) : V → Option D
  | .d x => some x
  | .nil => some nilD
  | .own nm => match nthF S nm with
    | some (.ints .i64 xs) => some (intsD xs)
    | some (.bools xs) => some (boolsD xs)
    | some (.row esz n get) => some (.arr esz n get)
    | _ => none
  | .sl nm off len => match nthF S nm with
    | some (.ints .i64 xs) => some (.arr 1 len fun i => [.int .i64 (xs.getD (off + i) 0)])
    | some (.row esz _ get) => some (.arr esz len fun i => get (off + i))
    | _ => none
  | .agg cs => match toDs S cs with
    | some ds => some (.agg ds)
    | none => none
  | .clo f [] => some (.fn f)
  | _ => none
where toDs (S : List Blk) : List V → Option (List D)
  | [] => some []
  | .d x :: r => match toDs S r with
    | some ds => some (x :: ds)
    | none => none
  | .nil :: r => match toDs S r with
    | some ds => some (nilD :: ds)
    | none => none
  | .own nm :: r => match nthF S nm with
    | some (.ints .i64 xs) => match toDs S r with
      | some ds => some (intsD xs :: ds)
      | none => none
    | some (.bools xs) => match toDs S r with
      | some ds => some (boolsD xs :: ds)
      | none => none
    | some (.row esz n get) => match toDs S r with
      | some ds => some (.arr esz n get :: ds)
      | none => none
    | _ => none
  | .clo f [] :: r => match toDs S r with
    | some ds => some (.fn f :: ds)
    | none => none
  | _ => none

theorem rowD {w : World} {b : Nat} {c : Array Value} {ty : TypeId} {fr : Nat × Nat} (hb : w.heap[b]? = some (.cells c ty fr)) {blk : Blk} {R : Nat → Prop} (hR : ∀ k, R k → k < w.heap.size)
    (h4 : ∀ i, i < blk.len → (blk.get i).length = blk.esz) (h5 : ∀ (i j : Nat) x, i < blk.len → (blk.get i)[j]? = some x → ∃ v, c[i * blk.esz + j]? = some v ∧ RelD R w v x) {off len cap : Nat} (hnc : len ≤ cap) (hl : off + len ≤ blk.len) :
    RelD (fun k => k < w.heap.size) w (.slice (some ⟨b, off * blk.esz, none⟩) len cap) (.arr blk.esz len fun i => blk.get (off + i)) := by
  refine .arr b (off * blk.esz) len cap blk.esz _ (fun i j => c.getD ((off + i) * blk.esz + j) undef) (lt_of_get hb) hnc (fun i hi => h4 _ (by omega)) (fun i j hi hj => ?_) fun i j x hi hx => ?_
  · rw [cell_of hb]
    have hlt : j < (blk.get (off + i)).length := by rw [h4 _ (by omega)]; exact hj
    obtain ⟨v, hv, _⟩ := h5 (off + i) j _ (by omega) (List.getElem?_eq_getElem hlt)
    rw [show off * blk.esz + (i * blk.esz + j) = (off + i) * blk.esz + j by rw [Nat.add_mul]; omega, Array.getD_eq_getD_getElem?, hv]; rfl
  · obtain ⟨v, hv, hr⟩ := h5 (off + i) j x (by omega) hx
    rw [Array.getD_eq_getD_getElem?, hv]
    exact hr.mono fun k hk => ⟨hR k hk, rfl⟩

theorem RelBlk.row {S : List Blk} {ρ : Nat → Option Nat} {R : Nat → Prop} {w : World} {nm : Nat} {blk : Blk} (h : RelBlk S ρ R w nm blk) (hr : blk.isRow = true) :
    (ρ nm = none ∧ blk.len = 0) ∨ ∃ b c ty, ρ nm = some b ∧ w.heap[b]? = some (.cells c ty (0, 0)) ∧ blk.len * blk.esz ≤ c.size ∧ (∀ i, i < blk.len → (blk.get i).length = blk.esz) ∧
      ∀ (i j : Nat) x, i < blk.len → (blk.get i)[j]? = some x → ∃ v, c[i * blk.esz + j]? = some v ∧ RelD R w v x := by
  cases blk <;> first | (simp [Blk.isRow] at hr; done) | exact h

theorem toD_own {ρ : Nat → Option Nat} {w : World} (hm : Mem w0 S ρ w) {nm : Nat} {blk : Blk} (hblk : S[nm]? = some blk) (hrow : blk.isRow = true) {v : Value} (hv : RelV S ρ (Rr S ρ w) w v (.own nm)) :
    RelD (fun k => k < w.heap.size) w v (.arr blk.esz blk.len blk.get) := by
  cases hv with
  | ownNil hb hs =>
    have hl : blk.len = 0 := by simp [shape, hblk] at hs; exact hs.2
    rw [hl]; exact .nil _ _
  | @own _ b esz len cap hb hs hc hcap =>
    have hs' : blk.esz = esz ∧ blk.len = len := by simp [shape, hblk] at hs; exact hs
    obtain ⟨rfl, rfl⟩ := hs'
    rcases (hm.blk nm _ hblk).row hrow with ⟨hn, _⟩ | ⟨b', c, ty, h1, h2, h3, h4, h5⟩
    · rw [hb] at hn; cases hn
    · rw [hb] at h1; cases h1
      have := rowD (off := 0) (len := blk.len) (cap := cap) h2 (R := Rr S ρ w) (fun k hk => hk.1) h4 h5 hc (by omega)
      simpa using this

theorem toD_sl {ρ : Nat → Option Nat} {w : World} (hm : Mem w0 S ρ w) {nm off len : Nat} {blk : Blk} (hblk : S[nm]? = some blk) (hrow : blk.isRow = true) {v : Value} (hv : RelV S ρ (Rr S ρ w) w v (.sl nm off len)) :
    RelD (fun k => k < w.heap.size) w v (.arr blk.esz len fun i => blk.get (off + i)) := by
  cases hv with
  | slNil hb _ => exact .nil _ _
  | @sl _ b esz n _ _ cap hb hs hl hc hcap =>
    have hs' : blk.esz = esz ∧ blk.len = n := by simp [shape, hblk] at hs; exact hs
    obtain ⟨rfl, rfl⟩ := hs'
    rcases (hm.blk nm _ hblk).row hrow with ⟨hn, _⟩ | ⟨b', c, ty, h1, h2, h3, h4, h5⟩
    · rw [hb] at hn; cases hn
    · rw [hb] at h1; cases h1
      exact rowD h2 (R := Rr S ρ w) (fun k hk => hk.1) h4 h5 hc hl

theorem toDs_get {ρ : Nat → Option Nat} {w : World} (hm : Mem w0 S ρ w) {cs : List V} {ds : List D} (h : toD.toDs S cs = some ds) : ds.length = cs.length ∧ ∀ (i : Nat) (x : D) (u : Value) (y : V), ds[i]? = some x → cs[i]? = some y → RelV S ρ (Rr S ρ w) w u y → RelD (fun k => k < w.heap.size) w u x := by
  have mono : ∀ {u x}, RelD (Rr S ρ w) w u x → RelD (fun k => k < w.heap.size) w u x := fun h => h.mono fun k hk => ⟨hk.1, rfl⟩
  induction cs generalizing ds with
  | nil => simp [toD.toDs] at h; subst h; simp
  | cons c r ih =>
    have key : ∀ (x0 : D) (ds' : List D), toD.toDs S r = some ds' → ds = x0 :: ds' → (∀ u, RelV S ρ (Rr S ρ w) w u c → RelD (fun k => k < w.heap.size) w u x0) →
        ds.length = (c :: r).length ∧ ∀ (i : Nat) (x : D) (u : Value) (y : V), ds[i]? = some x → (c :: r)[i]? = some y → RelV S ρ (Rr S ρ w) w u y → RelD (fun k => k < w.heap.size) w u x := by
      rintro x0 ds' hr rfl hx0
      obtain ⟨h1, h2⟩ := ih hr
      refine ⟨by simp [h1], fun i x u y hx hy hu => ?_⟩
      cases i with
      | zero => simp at hx hy; subst hx hy; exact hx0 u hu
      | succ i => exact h2 i x u y (by simpa using hx) (by simpa using hy) hu
    cases c <;> (try simp only [toD.toDs, reduceCtorEq] at h)
    case d x =>
      split at h
      · rename_i ds' hr; simp at h; exact key x ds' hr h.symm fun u hu => by cases hu with | d hu => exact mono hu
      · simp at h
    case nil =>
      split at h
      · rename_i ds' hr; simp at h; exact key nilD ds' hr h.symm fun u hu => by cases hu; exact .nil _ _
      · simp at h
    case own nm =>
      rw [nthF_eq] at h
      split at h
      · rename_i xs hb
        split at h
        · rename_i ds' hr; simp at h; exact key _ ds' hr h.symm fun u hu => toD_own hm hb rfl hu
        · simp at h
      · rename_i xs hb
        split at h
        · rename_i ds' hr; simp at h; exact key _ ds' hr h.symm fun u hu => toD_own hm hb rfl hu
        · simp at h
      · rename_i esz n get hb
        split at h
        · rename_i ds' hr; simp at h; exact key _ ds' hr h.symm fun u hu => toD_own hm hb rfl hu
        · simp at h
      · simp at h
    case clo f caps =>
      cases caps with
      | cons => simp [toD.toDs] at h
      | nil =>
      simp only [toD.toDs] at h
      split at h
      · rename_i ds' hr
        simp at h
        refine key (.fn f) ds' hr h.symm fun u hu => ?_
        cases hu with
        | clo _ vals _ hl _ =>
          have : vals = [] := by simpa using hl
          subst this
          exact .fn f
      · simp at h

theorem toD_sound {ρ : Nat → Option Nat} {w : World} (hm : Mem w0 S ρ w) {v : V} {x : D} (h : toD S v = some x) {u : Value} (hu : RelV S ρ (Rr S ρ w) w u v) : RelD (fun k => k < w.heap.size) w u x := by
  have mono : ∀ {u x}, RelD (Rr S ρ w) w u x → RelD (fun k => k < w.heap.size) w u x := fun h => h.mono fun k hk => ⟨hk.1, rfl⟩
  cases v <;> simp only [toD, reduceCtorEq] at h
  case d y => simp at h; subst h; cases hu with | d hu => exact mono hu
  case nil => simp at h; subst h; cases hu; exact .nil _ _
  case agg cs =>
    split at h
    · rename_i ds hds
      simp at h; subst h
      obtain ⟨h1, h2⟩ := toDs_get hm hds
      cases hu with
      | agg vals _ hl hr =>
        refine .agg vals ds (by rw [hl, h1]) fun i v x hv hx => ?_
        have hi : i < cs.length := by rw [← h1]; exact (List.getElem?_eq_some_iff.1 hx).1
        exact h2 i x v _ hx (List.getElem?_eq_getElem hi) (hr i v _ hv (List.getElem?_eq_getElem hi))
    · simp at h
  case own nm =>
    rw [nthF_eq] at h
    split at h
    · rename_i xs hb; simp at h; subst h; exact toD_own hm hb rfl hu
    · rename_i xs hb; simp at h; subst h; exact toD_own hm hb rfl hu
    · rename_i esz n get hb; simp at h; subst h; exact toD_own hm hb rfl hu
    · simp at h
  case sl nm off len =>
    rw [nthF_eq] at h
    split at h
    · rename_i xs hb; simp at h; subst h; exact toD_sl hm hb rfl hu
    · rename_i esz n get hb; simp at h; subst h; exact toD_sl hm hb rfl hu
    · simp at h
  case clo f caps =>
    cases caps <;> simp at h
    subst h
    cases hu with
    | clo _ vals _ hl _ =>
      have : vals = [] := by simpa using hl
      subst this
      exact .fn f

def dargs (F : Fr) (S : List Blk) (g : List Bool) : List Operand → Option (List D × List Prop)
  | [] => some ([], [])
  | x :: r => match rd F g x with
    | some (v, p) => match toD S v with
      | some d => match dargs F S g r with
        | some (ds, q) => some (d :: ds, p ++ q)
        | none => none
      | none => none
    | none => none

theorem dargs_sound {ρ : Nat → Option Nat} {w : World} {a : Act} (hf : FrOK n F S ρ a w) (hm : Mem w0 S ρ w) {g : List Bool} (hg : allT g) {xs : List Operand} {ds : List D} {os : List Prop}
    (h : dargs F S g xs = some (ds, os)) (ho : allP os) : RelDs (fun k => k < w.heap.size) w (xs.map a.eval) ds := by
  induction xs generalizing ds os with
  | nil => simp [dargs] at h; obtain ⟨rfl, rfl⟩ := h; exact ⟨rfl, fun i v x hv => by simp at hv⟩
  | cons x r ih =>
    simp only [dargs] at h
    split at h
    · rename_i v p hv
      split at h
      · rename_i d hd
        split at h
        · rename_i ds' q hr
          simp at h; obtain ⟨rfl, rfl⟩ := h
          obtain ⟨hp, hq⟩ := allP_append ho
          obtain ⟨i1, i2⟩ := ih hr hq
          refine ⟨by simp [← i1], fun i u y hu hy => ?_⟩
          cases i with
          | zero => simp at hu hy; subst hu hy; exact toD_sound hm hd (rd_sound hf hv hp hg)
          | succ i => exact i2 i u y (by simpa using hu) (by simpa using hy)
        · simp at h
      · simp at h
    · simp at h

/-- Which function a call leads to. -/
def calleeF (F : Fr) (g : List Bool) : Callee → Option (FuncId × List Prop)
  | .value x => match rd F g x with
    | some (.d (.fn f), p) => some (f, p)
    | some (.clo f [], p) => some (f, p)
    | _ => none
  | _ => none

theorem run_call {P : Program} {f : FuncId} (hf : Enters P f) {a : Act} {o : Oper} {x : Operand} {args : Array Operand} {ts : Array TypeId} (ho : o.op = .call ⟨.value x, args, ts⟩) (hx : a.eval x = .func (.func f) #[] #[]) (w : World) :
    (execOp a.eval o).run P w = .ok (.enter f (args.map a.eval)) w := by
  simp only [execOp, ho, resolve, hx, Deferred.ofValue, pure_bind, invoke]
  simp only [Array.empty_append, Array.append_empty]
  exact hf _ _

theorem calleeF_sound {ρ : Nat → Option Nat} {w : World} {a : Act} (hf : FrOK n F S ρ a w) {g : List Bool} (hg : allT g) {c : Callee} {f : FuncId} {os : List Prop} (h : calleeF F g c = some (f, os)) (ho : allP os) :
    ∃ x, c = .value x ∧ a.eval x = .func (.func f) #[] #[] := by
  cases c <;> simp only [calleeF, reduceCtorEq] at h
  rename_i x
  refine ⟨x, rfl, ?_⟩
  split at h
  · rename_i f' p hx
    simp at h; obtain ⟨rfl, rfl⟩ := h
    have := rd_sound hf hx ho hg
    generalize a.eval x = u at this
    cases this with | d h => cases h; rfl
  · rename_i f' p hx
    simp at h; obtain ⟨rfl, rfl⟩ := h
    have := rd_sound hf hx ho hg
    generalize a.eval x = u at this
    cases this with
    | clo _ vals _ hl _ =>
      have : vals = [] := by simpa using hl
      subst this; rfl
  · simp at h

/-- What a call of a contract whose result says all by itself wants, and the state behind it. -/
def stepC (n : Nat) (l0 : List Oper) (F : Fr) (S : List Blk) (o : Oper) (r : D) : Option (FuncId × List D × Fr × List Prop) :=
  match o.dst, o.op with
  | some d, .call c => match gof F l0 o.guard with
    | some g => match calleeF F g c.callee with
      | some (f, p) => match dargs F S g c.args.toList with
        | some (ds, q) => bif Nat.blt d n then some (f, ds, (d, g, .d r) :: F, p ++ q) else none
        | none => none
      | none => none
    | none => none
  | _, _ => none

theorem stepC_sound {o : Oper} {F' : Fr} {os : List Prop} {r : D} {f : FuncId} {ds : List D} (h : stepC n l0 F S o r = some (f, ds, F', os)) (hs : r.scal = true) (sp : Ctr P f ds [] (.d r)) (ho : allP os) {ρ : Nat → Option Nat} {a : Act} {w : World} (hr : Rel w0 n F S ρ a w) :
    ((Region.wanted o (yielded l0.toArray a.tmps) = true ∧ ∃ val, (∀ w', Ext w w' → o.quietAt P a (Ext w) w' val) ∧ Rel w0 n F' S ρ (a.put o.dst val) w) ∨
      (Region.wanted o (yielded l0.toArray a.tmps) = false ∧ Rel w0 n F' S ρ (a.put o.dst undef) w)) := by
  unfold stepC at h
  split at h
  · rename_i d c hd hop
    split at h
    · rename_i g hg
      split at h
      · rename_i f' p hc
        split at h
        · rename_i ds' q hq
          cases hn : Nat.blt d n with
          | false => simp [hn] at h
          | true =>
            simp [hn] at h
            obtain ⟨rfl, rfl, rfl, rfl⟩ := h
            have hdn : d < n := Nat.le_of_ble_eq_true hn
            obtain ⟨hp, hq'⟩ := allP_append ho
            obtain ⟨hw1, hw2⟩ := gof_wanted hr.fr hg
            by_cases hall : allT g
            · refine .inl ⟨hw1 hall, r.valOf, fun w' he => ?_, ?_, hr.mem⟩
              · obtain ⟨x, hx, hxv⟩ := calleeF_sound hr.fr hall hc hp
                obtain ⟨cal, args, ts⟩ := c
                simp only at hx; subst hx
                unfold Oper.quietAt
                rw [run_call sp.1 hop hxv]
                refine ⟨rfl, ?_⟩
                have hda := dargs_sound (hr.fr.ext he) (hr.mem.ext he) hall hq hq'
                have := sp.2 w' _ hda
                have harr : (args.toList.map a.eval).toArray = args.map a.eval := by apply Array.ext'; simp
                rw [harr] at this
                refine this.mono ?_
                rintro e w'' ⟨v, ρ', rfl, hout⟩
                refine ⟨?_, he.trans (hout.ext.mono he.size)⟩
                have := hout.val
                cases this with | d h => rw [RelD.valOf_eq hs h]
              · rw [hd]
                exact hr.fr.put hdn ⟨fun _ => .d (RelD.of_scal hs _ _), fun h => absurd hall h⟩
            · refine .inr ⟨hw2 hall, ?_, hr.mem⟩
              rw [hd]
              exact hr.fr.put hdn ⟨fun h => absurd h hall, fun _ => rfl⟩
        · simp at h
      · simp at h
    · simp at h
  · simp at h

theorem ao_call {o : Oper} {F' : Fr} {os : List Prop} {r : D} {f : FuncId} {ds : List D} (h : stepC n l0 F S o r = some (f, ds, F', os)) (sp : Ctr P f ds [] (.d r)) (hs : r.scal = true) (ho : allP os) (k : AO P env w0 n l0 K l F' S) : AO P env w0 n l0 K (o :: l) F S := by
  intro hE ρ a w hr
  obtain (⟨hw, val, hq, hr'⟩ | ⟨hw, hr'⟩) := stepC_sound h hs sp ho hr
  · exact wpList_quiet hw hq fun w' he => k hE ρ _ w' (hr'.ext he)
  · exact wpList_skip hw (k hE ρ _ w hr')

theorem aq_call {o : Oper} {F' : Fr} {os : List Prop} {r : D} {f : FuncId} {ds : List D} (h : stepC n l0 F S o r = some (f, ds, F', os)) (sp : Ctr P f ds [] (.d r)) (hs : r.scal = true) (ho : allP os) (k : AQ P env w0 n l0 K l F' S) : AQ P env w0 n l0 K (o :: l) F S := by
  intro hE ρ a w hr
  unfold wpQuiet
  obtain (⟨hw, val, hq, hr'⟩ | ⟨hw, hr'⟩) := stepC_sound h hs sp ho hr
  · rw [if_pos hw]
    exact ⟨val, fun w' he => hq w' he, k hE ρ _ w hr'⟩
  · rw [if_neg (by simp [hw])]
    exact k hE ρ _ w hr'

end
end Go.Wk

/- Code over abstract states: control, loops, a function's entry and its end. -/
namespace Go.Wk
set_option maxRecDepth 10000
open Go.RowKit

def AW (P : Program) (env : Env) (w0 : Base) (n : Nat) (c : Code) (Q : Exit → Fr → List Blk → Prop) (F : Fr) (S : List Blk) : Prop :=
  EnvOK P env → ∀ ρ a w, Rel w0 n F S ρ a w → c.wp P (fun e a' w' => ∃ F' S' ρ', Rel w0 n F' S' ρ' a' w' ∧ Q e F' S') a w

def thenQ (K : Fr → List Blk → Prop) (Q : Exit → Fr → List Blk → Prop) : Exit → Fr → List Blk → Prop
  | .normal, F, S => K F S
  | e, F, S => Q e F S
def blockQ (id : Nat) (Q : Exit → Fr → List Blk → Prop) : Exit → Fr → List Blk → Prop
  | .exit id', F, S => bif Nat.beq id' id then Q .normal F S else Q (.exit id') F S
  | e, F, S => Q e F S

/-- Whatever stands in the one state's relation stands in the other's. -/
def Weak (F : Fr) (S : List Blk) (F' : Fr) (S' : List Blk) : Prop := ∀ (w0 : Base) n ρ a w, w0.np ≤ S'.length → Rel w0 n F S ρ a w → ∃ ρ', Rel w0 n F' S' ρ' a w
theorem Weak.refl (F : Fr) (S : List Blk) : Weak F S F S := fun _ _ ρ _ _ _ h => ⟨ρ, h⟩
theorem Weak.trans {F G H : Fr} {S T U : List Blk} (h : Weak F S G T) (k : Weak G T H U) (hl : U.length ≤ T.length) : Weak F S H U := fun w0 n ρ x w hn hr => let ⟨ρ', h'⟩ := h w0 n ρ x w (Nat.le_trans hn hl) hr; k w0 n ρ' x w hn h'

section
variable {P : Program} {env : Env} {w0 : Base} {n : Nat} {Q : Exit → Fr → List Blk → Prop} {F : Fr} {S : List Blk}

theorem aw_weak {c : Code} {F' : Fr} {S' : List Blk} (h : Weak F S F' S') (hn : w0.np ≤ S'.length) (k : AW P env w0 n c Q F' S') : AW P env w0 n c Q F S :=
  fun hE ρ a w hr => let ⟨ρ', hr'⟩ := h w0 n ρ a w hn hr; k hE ρ' a w hr'

theorem aw_seq {x y : Code} (h : AW P env w0 n x (thenQ (AW P env w0 n y Q) Q) F S) : AW P env w0 n (.seq x y) Q F S := by
  intro hE ρ a w hr
  refine wp_seq (Code.wp_mono (fun e a' w' hq => ?_) (h hE ρ a w hr))
  obtain ⟨F', S', ρ', hr', hQ⟩ := hq
  cases e with
  | normal => exact hQ hE ρ' a' w' hr'
  | exit id => exact ⟨F', S', ρ', hr', hQ⟩
  | goto l => exact ⟨F', S', ρ', hr', hQ⟩
  | ret => exact ⟨F', S', ρ', hr', hQ⟩
  | panic ch => exact ⟨F', S', ρ', hr', hQ⟩
  | outgrown => exact ⟨F', S', ρ', hr', hQ⟩

theorem aw_skip (h : Q .normal F S) : AW P env w0 n .skip Q F S := fun _ ρ _ _ hr => wp_skip ⟨F, S, ρ, hr, h⟩
theorem aw_ret (h : Q .ret F S) : AW P env w0 n .ret Q F S := fun _ ρ _ _ hr => wp_ret ⟨F, S, ρ, hr, h⟩
theorem aw_exit {id : Nat} (h : Q (.exit id) F S) : AW P env w0 n (.exit id) Q F S := fun _ ρ _ _ hr => wp_exit ⟨F, S, ρ, hr, h⟩

theorem aw_block {id : Nat} {c : Code} (h : AW P env w0 n c (blockQ id Q) F S) : AW P env w0 n (.block id c) Q F S := by
  intro hE ρ a w hr
  refine wp_block (Code.wp_mono (fun e a' w' hq => ?_) (h hE ρ a w hr))
  obtain ⟨F', S', ρ', hr', hQ⟩ := hq
  cases e with
  | exit id' =>
    simp only [Exit.inBlock, blockQ] at hQ ⊢
    split
    · rename_i he; subst he; simp at hQ; exact ⟨F', S', ρ', hr', hQ⟩
    · rename_i he
      have hb : Nat.beq id' id = false := by cases hx : Nat.beq id' id with | false => rfl | true => exact absurd (Nat.eq_of_beq_eq_true hx) he
      rw [hb] at hQ; exact ⟨F', S', ρ', hr', hQ⟩
  | normal => exact ⟨F', S', ρ', hr', hQ⟩
  | goto l => exact ⟨F', S', ρ', hr', hQ⟩
  | ret => exact ⟨F', S', ρ', hr', hQ⟩
  | panic ch => exact ⟨F', S', ρ', hr', hQ⟩
  | outgrown => exact ⟨F', S', ρ', hr', hQ⟩

theorem aw_cond {c : Operand} {x y : Code} {b : Bool} {ps : List Prop} (h : rd F [] c = some (.d (.bool b), ps)) (hp : allP ps) (hx : b = true → AW P env w0 n x Q F S) (hy : b = false → AW P env w0 n y Q F S) : AW P env w0 n (.cond c x y) Q F S := by
  intro hE ρ a w hr
  have := rd_sound hr.fr h hp trivial
  generalize hv : a.eval c = u at this
  cases this with
  | d this =>
    cases this
    exact wp_cond_split hv (fun hb => hx hb hE ρ a w hr) (fun hb => hy hb hE ρ a w hr)

theorem aw_region {id : Nat} {l0 : List Oper} (h : AO P env w0 n l0 (Q .normal) l0 F S) : AW P env w0 n (.region id l0.toArray false) Q F S := by
  intro hE ρ a w hr
  refine Code.wp_mono (fun e a' w' hq => ?_) (wp_region_lit (h hE ρ a w hr))
  obtain ⟨rfl, F', S', ρ', hr', hQ⟩ := hq
  exact ⟨F', S', ρ', hr', hQ⟩

theorem aw_region_q {id : Nat} {l0 : List Oper} (hm : P.follows .mixedOrders = true) (hB : Region.lexB .any l0.toArray = true) (h : AQ P env w0 n l0 (Q .normal) l0 F S) : AW P env w0 n (.region id l0.toArray true) Q F S := by
  intro hE ρ a w hr
  refine wp_region_quiet (C := Ext w) hm hB ⟨rfl, rfl, rfl, Nat.le_refl _, fun _ _ => rfl⟩ ?_
  refine wpQuiet_mono (fun _ h => h) (fun _ h => h) (fun a' ha => ?_) _ _ (by simpa using h hE ρ a w hr)
  intro w' he
  obtain ⟨F', hr', hQ⟩ := ha
  exact ⟨F', S, ρ, hr'.ext he, hQ⟩

/-- A head of operations that leave the world as it is. -/
def AT (P : Program) (env : Env) (w0 : Base) (n : Nat) (l0 : List Oper) (K : Fr → List Blk → Prop) (l : List Oper) (F : Fr) (S : List Blk) : Prop :=
  EnvOK P env → ∀ ρ a w, Rel w0 n F S ρ a w → wpStill P l0.toArray w (fun a' => ∃ F', Rel w0 n F' S ρ a' w ∧ K F' S) l a
theorem at_nil {l0 : List Oper} {K : Fr → List Blk → Prop} (h : K F S) : AT P env w0 n l0 K [] F S := fun _ _ _ _ hr => ⟨F, hr, h⟩
theorem at_op {l0 l : List Oper} {K : Fr → List Blk → Prop} {o : Oper} {F' : Fr} {os : List Prop} (h : stepQ env n l0 F S o = some (F', os)) (ho : allP os) (k : AT P env w0 n l0 K l F' S) : AT P env w0 n l0 K (o :: l) F S := by
  intro hE ρ a w hr
  unfold wpStill
  obtain (⟨hw, val, hq, hr'⟩ | ⟨hw, hr'⟩) := stepR_sound (P := P) hE h ho hr
  · rw [if_pos hw]
    unfold Oper.still
    rw [hq w (Below.refl _ _), Oper.stillUpon_value]
    exact k hE ρ _ w hr'
  · rw [if_neg (by simp [hw])]
    exact k hE ρ _ w hr'
def splitO : Nat → List Oper → Option (List Oper × List Oper)
  | 0, l => some ([], l)
  | _ + 1, [] => none
  | m + 1, o :: l => match splitO m l with
    | some (x, y) => some (o :: x, y)
    | none => none
theorem splitO_eq {m : Nat} {l x y : List Oper} (h : splitO m l = some (x, y)) : l.take m = x ∧ l.drop m = y := by
  induction m generalizing l x y with
  | zero => simp [splitO] at h; simp [h]
  | succ m ih => cases l with
    | nil => simp [splitO] at h
    | cons o l =>
      simp only [splitO] at h
      split at h
      · rename_i x' y' hx
        simp at h; obtain ⟨rfl, rfl⟩ := h
        obtain ⟨h1, h2⟩ := ih hx
        simp [h1, h2]
      · simp at h
theorem aw_region_t {id : Nat} {l0 l1 l2 : List Oper} (m : Nat) (hm : P.follows .mixedOrders = true) (hB : Region.lexTailB .any l0.toArray m = true) (hs : splitO m l0 = some (l1, l2))
    (h : AT P env w0 n l0 (fun F' S' => AO P env w0 n l0 (Q .normal) l2 F' S') l1 F S) : AW P env w0 n (.region id l0.toArray true) Q F S := by
  intro hE ρ a w hr
  obtain ⟨hs1, hs2⟩ := splitO_eq hs
  have hr' := hr.ext (w' := { w with drawn := w.drawn + 1 }) ⟨rfl, rfl, rfl, Nat.le_refl _, fun _ _ => rfl⟩
  refine Code.wp_mono (Q := fun e a' w' => e = .normal ∧ ∃ F' S' ρ', Rel w0 n F' S' ρ' a' w' ∧ Q .normal F' S') (fun e a' w' hq => ?_) (wp_region_still_tail m hm hB ?_)
  · obtain ⟨rfl, F', S', ρ', hr', hQ⟩ := hq
    exact ⟨F', S', ρ', hr', hQ⟩
  · rw [hs1, hs2]
    have mono : ∀ (Q Q' : Act → Prop), (∀ a, Q a → Q' a) → ∀ (l : List Oper) (a : Act) (w : World), wpStill P l0.toArray w Q l a → wpStill P l0.toArray w Q' l a := by
      intro Q Q' hQ l
      induction l with
      | nil => intro a w h; exact hQ a h
      | cons o r ih =>
        intro a w h
        unfold wpStill at h ⊢
        split
        · rename_i hw
          rw [if_pos hw] at h
          unfold Oper.still Oper.stillUpon at h ⊢
          split at h
          · exact ⟨h.1, ih _ _ h.2⟩
          · exact ⟨h.1, ih _ _ h.2⟩
          · obtain ⟨h1, v, h2, h3⟩ := h; exact ⟨h1, v, h2, ih _ _ h3⟩
          · exact h
        · rename_i hw; rw [if_neg hw] at h; exact ih _ _ h
    refine mono _ _ (fun a' ha => ?_) _ _ _ (h hE ρ a _ hr')
    obtain ⟨F', hrF, hk⟩ := ha
    exact hk hE ρ a' _ hrF

/-- A loop: a family of states, one for each round's head. -/
theorem aw_loop {ι : Type} (IF : ι → Fr) (IS : ι → List Blk) (J : ι → Prop) (μ : ι → Nat) (i0 : ι) {c : Code} (hJ : J i0) (hn : ∀ i, w0.np ≤ (IS i).length) (hw : Weak F S (IF i0) (IS i0))
    (round : ∀ i, J i → AW P env w0 n c (thenQ (fun F' S' => ∃ i', J i' ∧ μ i' < μ i ∧ Weak F' S' (IF i') (IS i')) Q) (IF i) (IS i)) : AW P env w0 n (.loop c) Q F S := by
  intro hE ρ a w hr b k cs
  obtain ⟨ρ0, hr0⟩ := hw w0 n ρ a w (hn _) hr
  have key : ∀ m i ρ a w, μ i = m → J i → Rel w0 n (IF i) (IS i) ρ a w →
      ∃ e a' w', (∃ F' S' ρ', Rel w0 n F' S' ρ' a' w' ∧ Q e F' S') ∧ Arrives P (lone (b.at a (.code c :: .inLoop c :: k)) cs w) b k cs e a' w' := by
    intro m
    induction m using Nat.strongRecOn with
    | _ m ih =>
      intro i ρ a w hm hj hri
      obtain ⟨e, a₁, w₁, ⟨F', S', ρ', hr', hQ⟩, harr⟩ := round i hj hE ρ a w hri b (.inLoop c :: k) cs
      cases e with
      | normal =>
        obtain ⟨i', hj', hlt, hwk⟩ := hQ
        obtain ⟨ρ'', hr''⟩ := hwk w0 n ρ' a₁ w₁ (hn _) hr'
        obtain ⟨e₂, a₂, w₂, hq₂, harr₂⟩ := ih (μ i') (hm ▸ hlt) i' ρ'' a₁ w₁ rfl hj' hr''
        exact ⟨e₂, a₂, w₂, hq₂, .of_steps (Steps.trans harr (.one step_inLoop)) harr₂⟩
      | exit id => exact ⟨_, a₁, w₁, ⟨F', S', ρ', hr', hQ⟩, .pass (x := .inLoop c) rfl (fun _ _ => .inl (by simp)) harr⟩
      | goto l => exact ⟨_, a₁, w₁, ⟨F', S', ρ', hr', hQ⟩, .pass (x := .inLoop c) rfl (fun _ _ => .inl (by simp)) harr⟩
      | ret => exact ⟨_, a₁, w₁, ⟨F', S', ρ', hr', hQ⟩, .pass (x := .inLoop c) rfl (fun _ _ => .inl (by simp)) harr⟩
      | panic ch => exact ⟨_, a₁, w₁, ⟨F', S', ρ', hr', hQ⟩, .pass (x := .inLoop c) rfl (fun _ _ => .inl (by simp)) harr⟩
      | outgrown => exact ⟨_, a₁, w₁, ⟨F', S', ρ', hr', hQ⟩, .pass (x := .inLoop c) rfl (fun _ _ => .inl (by simp)) harr⟩
  obtain ⟨e, a', w', hq, harr⟩ := key _ i0 ρ0 a w rfl hJ hr0
  exact ⟨e, a', w', hq, .of_steps (.one step_loop) harr⟩

end

/-! ### Forgetting -/

/-- Each entry of the one frame stands in the other. -/
def subF (F : Fr) : Fr → Prop
  | [] => True
  | (t, g, v) :: r => look F t = some (g, v) ∧ subF F r
theorem subF_get {F F' : Fr} (h : subF F F') {t : Nat} {g : List Bool} {v : V} (hl : look F' t = some (g, v)) : look F t = some (g, v) := by
  induction F' with
  | nil => simp [look] at hl
  | cons x r ih =>
    obtain ⟨k, g', v'⟩ := x
    simp only [look] at hl
    cases hb : Nat.beq k t with
    | true =>
      have := Nat.eq_of_beq_eq_true hb
      subst this
      simp only [hb, cond_true, Option.some.injEq, Prod.mk.injEq] at hl
      obtain ⟨rfl, rfl⟩ := hl
      exact h.1
    | false => simp only [hb, cond_false] at hl; exact ih h.2 hl

theorem weak_frame {F F' : Fr} {S : List Blk} (h : subF F F') : Weak F S F' S :=
  fun _ _ ρ _ _ _ hr => ⟨ρ, ⟨⟨hr.fr.size, hr.fr.defers, fun t g v hl => hr.fr.get t g v (subF_get h hl)⟩, hr.mem⟩⟩

/-- No value leads to a name from m on. -/
def V.low (m : Nat) : V → Bool
  | .agg cs => lowL m cs
  | .tup cs => lowL m cs
  | .ptr n _ | .ep n _ _ | .own n | .sl n _ _ => Nat.blt n m
  | .clo _ cs => lowL m cs
  | _ => true
where lowL (m : Nat) : List V → Bool
  | [] => true
  | x :: r => V.low m x && lowL m r

theorem V.lowL_get {m : Nat} {cs : List V} (h : V.low.lowL m cs = true) {i : Nat} {x : V} (hx : cs[i]? = some x) : x.low m = true := by
  induction cs generalizing i with
  | nil => simp at hx
  | cons c r ih =>
    simp only [V.low.lowL, Bool.and_eq_true] at h
    cases i with
    | zero => simp at hx; subst hx; exact h.1
    | succ i => exact ih h.2 (by simpa using hx)

mutual
theorem V.low_uses {m : Nat} : ∀ (x : V), x.low m = true → ∀ nm, x.uses nm = true → nm < m
  | .agg cs, h, nm, hu => V.lowL_uses cs (by simpa [V.low] using h) nm (by simpa [V.uses] using hu)
  | .tup cs, h, nm, hu => V.lowL_uses cs (by simpa [V.low] using h) nm (by simpa [V.uses] using hu)
  | .clo _ cs, h, nm, hu => V.lowL_uses cs (by simpa [V.low] using h) nm (by simpa [V.uses] using hu)
  | .ptr k _, h, nm, hu => by have := Nat.eq_of_beq_eq_true (by simpa [V.uses] using hu : Nat.beq k nm = true); subst this; exact (by simpa [V.low] using h : k < m)
  | .ep k _ _, h, nm, hu => by have := Nat.eq_of_beq_eq_true (by simpa [V.uses] using hu : Nat.beq k nm = true); subst this; exact (by simpa [V.low] using h : k < m)
  | .own k, h, nm, hu => by have := Nat.eq_of_beq_eq_true (by simpa [V.uses] using hu : Nat.beq k nm = true); subst this; exact (by simpa [V.low] using h : k < m)
  | .sl k _ _, h, nm, hu => by have := Nat.eq_of_beq_eq_true (by simpa [V.uses] using hu : Nat.beq k nm = true); subst this; exact (by simpa [V.low] using h : k < m)
  | .d _, _, _, hu => by simp [V.uses] at hu
  | .nil, _, _, hu => by simp [V.uses] at hu
  | .rp _, _, _, hu => by simp [V.uses] at hu
  | .bot, _, _, hu => by simp [V.uses] at hu
theorem V.lowL_uses {m : Nat} : ∀ (cs : List V), V.low.lowL m cs = true → ∀ nm, V.usesL cs nm = true → nm < m
  | [], _, _, hu => by simp [V.usesL] at hu
  | x :: r, h, nm, hu => by
    simp only [V.low.lowL, Bool.and_eq_true] at h
    simp only [V.usesL, Bool.or_eq_true] at hu
    rcases hu with hu | hu
    · exact V.low_uses x h.1 nm hu
    · exact V.lowL_uses r h.2 nm hu
end

def lowF (m : Nat) : Fr → Bool
  | [] => true
  | (_, _, v) :: r => v.low m && lowF m r
theorem lowF_get {m : Nat} {F : Fr} (h : lowF m F = true) {t : Nat} {g : List Bool} {v : V} (hl : look F t = some (g, v)) : v.low m = true := by
  induction F with
  | nil => simp [look] at hl
  | cons x r ih =>
    obtain ⟨k, g', v'⟩ := x
    simp only [lowF, Bool.and_eq_true] at h
    simp only [look] at hl
    cases hb : Nat.beq k t with
    | true => simp only [hb, cond_true, Option.some.injEq, Prod.mk.injEq] at hl; obtain ⟨_, rfl⟩ := hl; exact h.1
    | false => simp only [hb, cond_false] at hl; exact ih h.2 hl
def Blk.low (m : Nat) : Blk → Bool
  | .cells cs => V.low.lowL m cs
  | _ => true
def lowS (m : Nat) : List Blk → Bool
  | [] => true
  | b :: r => b.low m && lowS m r
theorem lowS_get {m : Nat} {S : List Blk} (h : lowS m S = true) {i : Nat} {b : Blk} (hb : S[i]? = some b) : b.low m = true := by
  induction S generalizing i with
  | nil => simp at hb
  | cons c r ih =>
    simp only [lowS, Bool.and_eq_true] at h
    cases i with
    | zero => simp at hb; subst hb; exact h.1
    | succ i => exact ih h.2 (by simpa using hb)

/-- The last blocks are forgotten. -/
theorem weak_store {F : Fr} {S G : List Blk} (hF : lowF S.length F = true) (hS : lowS S.length S = true) : Weak F (S ++ G) F S := by
  intro w0 n ρ a w hnp hr
  have hsh : ∀ nm, nm < S.length → shape S nm = shape (S ++ G) nm := fun nm h => by simp [shape, List.getElem?_append_left h]
  have hR : ∀ k, Rr (S ++ G) ρ w k → Rr S ρ w k ∧ w.heap[k]? = w.heap[k]? := fun k hk => ⟨hk, rfl⟩
  have mono : ∀ {u : Value} {x : V}, x.low S.length = true → RelV (S ++ G) ρ (Rr (S ++ G) ρ w) w u x → RelV S ρ (Rr S ρ w) w u x := fun hx h =>
    h.mono hR fun nm hu => ⟨rfl, hsh nm (V.low_uses _ hx nm hu), fun _ _ _ _ h => h⟩
  refine ⟨ρ, ⟨hr.fr.size, hr.fr.defers, fun t g v hl => ⟨fun hg => mono (lowF_get hF hl) ((hr.fr.get t g v hl).1 hg), (hr.fr.get t g v hl).2⟩⟩, hr.mem.below, hnp, fun i b hi hb => let ⟨h1, cs, h2⟩ := hr.mem.pin i b hi hb; ⟨h1, cs, by rw [List.getElem?_append_left (by omega)] at h2; exact h2⟩, fun i b hi hb => hr.mem.lt i b (Nat.lt_of_lt_of_le hi (by simp)) hb, fun i j b hi hj => hr.mem.inj i j b (Nat.lt_of_lt_of_le hi (by simp)) (Nat.lt_of_lt_of_le hj (by simp)), hr.mem.hid.mono (by simp) (Nat.le_refl _), fun i blk hb => ?_⟩
  have hlt := (List.getElem?_eq_some_iff.1 hb).1
  have h := hr.mem.blk i blk (by rw [List.getElem?_append_left hlt]; exact hb)
  cases blk with
  | gone => trivial
  | cells cs =>
    obtain ⟨b, vals, ty, h1, h2, h3, h4⟩ := h
    exact ⟨b, vals, ty, h1, h2, h3, fun j v x hv hx => mono (V.lowL_get (by simpa [Blk.low] using lowS_get hS hb) hx) (h4 j v x hv hx)⟩
  | ints k xs => rcases h with h | ⟨b, c, ty, h1, h2, h3, h4, h5⟩
                 · exact .inl h
                 · exact .inr ⟨b, c, ty, h1, h2, h3, h4, fun i j x hi hx => let ⟨v, hv, hr⟩ := h5 i j x hi hx; ⟨v, hv, hr.mono hR⟩⟩
  | bools xs => rcases h with h | ⟨b, c, ty, h1, h2, h3, h4, h5⟩
                · exact .inl h
                · exact .inr ⟨b, c, ty, h1, h2, h3, h4, fun i j x hi hx => let ⟨v, hv, hr⟩ := h5 i j x hi hx; ⟨v, hv, hr.mono hR⟩⟩
  | row esz m get => rcases h with h | ⟨b, c, ty, h1, h2, h3, h4, h5⟩
                     · exact .inl h
                     · exact .inr ⟨b, c, ty, h1, h2, h3, h4, fun i j x hi hx => let ⟨v, hv, hr⟩ := h5 i j x hi hx; ⟨v, hv, hr.mono hR⟩⟩

/-- A nil slice as an empty row of the call's own. -/
theorem weak_nil {F : Fr} {S : List Blk} {t : Nat} {g : List Bool} (blk : Blk) (hl : look F t = some (g, .nil)) (h0 : blk.len = 0) (hrow : blk.isRow = true) (hF : lowF S.length F = true) (hS : lowS S.length S = true) :
    Weak F S ((t, g, .own S.length) :: F) (S ++ [blk]) := by
  intro w0 n ρ a w _ hr
  have hnp := hr.mem.np
  refine ⟨grw ρ S.length none, ?_⟩
  have hsh : ∀ nm, nm < S.length → shape (S ++ [blk]) nm = shape S nm := fun nm h => by simp [shape, List.getElem?_append_left h]
  have hR : ∀ k, Rr S ρ w k → Rr (S ++ [blk]) (grw ρ S.length none) w k ∧ w.heap[k]? = w.heap[k]? := fun k hk => ⟨grw_rr (fun b hb => by cases hb) (Nat.le_refl _) hk, rfl⟩
  have mono : ∀ {u : Value} {x : V}, x.low S.length = true → RelV S ρ (Rr S ρ w) w u x → RelV (S ++ [blk]) (grw ρ S.length none) (Rr (S ++ [blk]) (grw ρ S.length none) w) w u x := fun hx h =>
    h.mono hR fun nm hu => ⟨grw_lt _ _ (V.low_uses _ hx nm hu), hsh nm (V.low_uses _ hx nm hu), fun _ _ _ _ h => h⟩
  have last : shape (S ++ [blk]) S.length = some (blk.esz, 0) := by simp [shape, h0]
  refine ⟨⟨hr.fr.size, hr.fr.defers, fun t' g' v' hl' => ?_⟩, hr.mem.below, by simp; omega, fun i b hi hb => let ⟨h1, cs, h2⟩ := hr.mem.pin i b hi hb; ⟨by rw [grw_lt _ _ (by omega)]; exact h1, cs, by rw [List.getElem?_append_left (by omega)]; exact h2⟩, fun i b hi hb => ?_, fun i j b hi hj hbi hbj => ?_, grw_hid hr.mem.hid (by simp) (Nat.le_refl _) (fun b hb => by cases hb), fun i blk' hb => ?_⟩
  · simp only [look] at hl'
    cases hb : Nat.beq t t' with
    | true =>
      have := Nat.eq_of_beq_eq_true hb
      subst this
      simp only [hb, cond_true, Option.some.injEq, Prod.mk.injEq] at hl'
      obtain ⟨rfl, rfl⟩ := hl'
      refine ⟨fun hg => ?_, (hr.fr.get t g _ hl).2⟩
      have := (hr.fr.get t g _ hl).1 hg
      generalize a.tmps.getD t undef = u at this
      cases this
      exact .ownNil (grw_same _ _ _) last
    | false =>
      simp only [hb, cond_false] at hl'
      exact ⟨fun hg => mono (lowF_get hF hl') ((hr.fr.get t' g' v' hl').1 hg), (hr.fr.get t' g' v' hl').2⟩
  · by_cases hlt : i < S.length
    · rw [grw_lt _ _ hlt] at hb; exact hr.mem.lt i b hlt hb
    · have : i = S.length := by simp at hi; omega
      subst this; rw [grw_same] at hb; cases hb
  · by_cases hi' : i < S.length
    · by_cases hj' : j < S.length
      · rw [grw_lt _ _ hi'] at hbi; rw [grw_lt _ _ hj'] at hbj; exact hr.mem.inj i j b hi' hj' hbi hbj
      · have : j = S.length := by simp at hj; omega
        subst this; rw [grw_same] at hbj; cases hbj
    · have : i = S.length := by simp at hi; omega
      subst this; rw [grw_same] at hbi; cases hbi
  · by_cases hlt : i < S.length
    · rw [List.getElem?_append_left hlt] at hb
      have h := hr.mem.blk i blk' hb
      cases blk' with
      | gone => trivial
      | cells cs =>
        obtain ⟨b, vals, ty, h1, h2, h3, h4⟩ := h
        exact ⟨b, vals, ty, by rw [grw_lt _ _ hlt]; exact h1, h2, h3, fun j v x hv hx => mono (V.lowL_get (by simpa [Blk.low] using lowS_get hS hb) hx) (h4 j v x hv hx)⟩
      | ints k xs => rcases h with h | ⟨b, c, ty, h1, h2, h3, h4, h5⟩
                     · exact .inl ⟨by rw [grw_lt _ _ hlt]; exact h.1, h.2⟩
                     · exact .inr ⟨b, c, ty, by rw [grw_lt _ _ hlt]; exact h1, h2, h3, h4, fun i j x hi hx => let ⟨v, hv, hr⟩ := h5 i j x hi hx; ⟨v, hv, hr.mono hR⟩⟩
      | bools xs => rcases h with h | ⟨b, c, ty, h1, h2, h3, h4, h5⟩
                    · exact .inl ⟨by rw [grw_lt _ _ hlt]; exact h.1, h.2⟩
                    · exact .inr ⟨b, c, ty, by rw [grw_lt _ _ hlt]; exact h1, h2, h3, h4, fun i j x hi hx => let ⟨v, hv, hr⟩ := h5 i j x hi hx; ⟨v, hv, hr.mono hR⟩⟩
      | row esz m get => rcases h with h | ⟨b, c, ty, h1, h2, h3, h4, h5⟩
                         · exact .inl ⟨by rw [grw_lt _ _ hlt]; exact h.1, h.2⟩
                         · exact .inr ⟨b, c, ty, by rw [grw_lt _ _ hlt]; exact h1, h2, h3, h4, fun i j x hi hx => let ⟨v, hv, hr⟩ := h5 i j x hi hx; ⟨v, hv, hr.mono hR⟩⟩
    · have : i = S.length := by have := (List.getElem?_eq_some_iff.1 hb).1; simp at this; omega
      subst this
      simp at hb; subst hb
      have hh : grw ρ S.length none S.length = none ∧ blk.len = 0 := ⟨grw_same _ _ _, h0⟩
      cases blk <;> first | (simp [Blk.isRow] at hrow; done) | exact Or.inl hh

end Go.Wk
