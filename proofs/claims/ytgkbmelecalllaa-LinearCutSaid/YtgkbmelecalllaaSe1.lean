/-
  Histories in plain words: events, calls, what the document says of them.
-/
import Derived.Test.YtgkbmelecalllaaSdL
set_option linter.unusedSectionVars false
set_option linter.unusedSimpArgs false
set_option linter.unusedVariables false
namespace Go.Sd
open Go Go.Proofs
variable [Str]

/-- An event: a thread asks an op, or is answered. -/
structure Ev where
  th : Int
  back : Bool
  d : Int
  h : Int
  off : Int
  n : Int
  code : Int
  num : Int
deriving DecidableEq
def encE (x : Ev) : List Value := [.int .i64 x.th, .bool x.back, .int .i64 x.d, .int .i64 x.h, .int .i64 x.off, .int .i64 x.n, .int .i64 x.code, .int .i64 x.num]
/-- How many events of the thread of the event at a place stand ahead of a place. -/
def turnI (l : List Ev) (t : Int) (i : Nat) : Nat := ((l.take i).filter fun e => decide (e.th = t)).length
theorem turnI_succ {l : List Ev} {t : Int} {i : Nat} {e : Ev} (h : l[i]? = some e) : turnI l t (i + 1) = turnI l t i + (if e.th = t then 1 else 0) := by
  unfold turnI
  rw [List.take_add_one, h]
  by_cases h1 : e.th = t <;> simp [h1]
theorem turnI_le (l : List Ev) (t : Int) (i : Nat) : turnI l t i ≤ i := by
  unfold turnI
  refine Nat.le_trans (List.length_filter_le _ _) ?_
  simp
  omega
/-- The place of the next event of a thread, from a place on; the length: there is none. -/
def nextI (l : List Ev) (t : Int) (i : Nat) : Nat := if h : i < l.length then (if l[i].th = t then i else nextI l t (i + 1)) else l.length
termination_by l.length - i
theorem nextI_here {l : List Ev} {t : Int} {i : Nat} {e : Ev} (h : l[i]? = some e) (ht : e.th = t) : nextI l t i = i := by
  obtain ⟨hl, rfl⟩ := List.getElem?_eq_some_iff.1 h
  rw [nextI, dif_pos hl, if_pos ht]
theorem nextI_on {l : List Ev} {t : Int} {i : Nat} {e : Ev} (h : l[i]? = some e) (ht : ¬ e.th = t) : nextI l t i = nextI l t (i + 1) := by
  obtain ⟨hl, rfl⟩ := List.getElem?_eq_some_iff.1 h
  rw [nextI, dif_pos hl, if_neg ht]
theorem nextI_end {l : List Ev} {t : Int} {i : Nat} (h : l.length ≤ i) : nextI l t i = l.length := by rw [nextI, dif_neg (by omega)]
/-- Is the event at a place as it should be? -/
def okE (l : List Ev) (i : Nat) (e : Ev) : Bool :=
  !(decide (e.th < 0) || decide (3 < e.th) || (e.back != decide ((turnI l e.th i : Int).tmod 2 = 1))) && !(e.back && !decide (e.d = 0 ∧ e.h = 0 ∧ e.off = 0 ∧ e.n = 0)) && !(!e.back && !decide (e.code = 0 ∧ e.num = 0))
/-- Are all? -/
def okL (l : List Ev) : Prop := ∀ i e, l[i]? = some e → okE l i e = true
noncomputable instance (l : List Ev) : Decidable (okL l) := Classical.propDecidable _
noncomputable def checkL (l : List Ev) : Int := if okL l then 0 else 2
theorem checkL_no {l : List Ev} {i : Nat} {e : Ev} (h : l[i]? = some e) (hb : okE l i e = false) : checkL l = 2 := by
  unfold checkL
  rw [if_neg]
  intro hk
  have := hk i e h
  rw [hb] at this
  cases this
theorem checkL_yes {l : List Ev} (h : ∀ j e, j < l.length → l[j]? = some e → okE l j e = true) : checkL l = 0 := by
  unfold checkL
  rw [if_pos]
  intro i e hi
  exact h i e (List.getElem?_eq_some_iff.1 hi).1 hi
theorem checkL_bad {l : List Ev} (h : ¬ checkL l = 0) : checkL l = 2 := by
  unfold checkL at h ⊢
  split
  · rename_i h1; exact absurd (by rw [if_pos h1]) h
  · rfl
/-- A call: an op of a thread, as the document's answer has it (the program's has the same cells). -/
structure Cal where
  th : Int
  d : Int
  h : Int
  off : Int
  n : Int
  code : Int
  num : Int
  done : Bool
  frm : Int
  to_ : Int
deriving DecidableEq
def encL (x : Cal) : List Value := [.int .i64 x.th, .int .i64 x.d, .int .i64 x.h, .int .i64 x.off, .int .i64 x.n, .int .i64 x.code, .int .i64 x.num, .bool x.done, .int .i64 x.frm, .int .i64 x.to_]
/-- The call that an event begins. -/
def callOf (l : List Ev) (i : Nat) (e : Ev) : Cal :=
  match l[nextI l e.th (i + 1)]? with
  | some r => ⟨e.th, e.d, e.h, e.off, e.n, r.code, r.num, true, i, nextI l e.th (i + 1)⟩
  | none => ⟨e.th, e.d, e.h, e.off, e.n, 0, 0, false, i, nextI l e.th (i + 1)⟩
def callsI (l : List Ev) : Nat → List Cal
  | 0 => []
  | i + 1 => callsI l i ++ (match l[i]? with | some e => if e.back = true then [] else [callOf l i e] | none => [])
theorem callsI_len (l : List Ev) : ∀ i, (callsI l i).length ≤ i
  | 0 => Nat.le_refl _
  | i + 1 => by
    have := callsI_len l i
    simp only [callsI, List.length_append]
    split
    · split <;> simp <;> omega
    · simp; omega
theorem callsI_back {l : List Ev} {i : Nat} {e : Ev} (h : l[i]? = some e) (hb : e.back = true) : callsI l (i + 1) = callsI l i := by simp [callsI, h, hb]
theorem callsI_call {l : List Ev} {i : Nat} {e : Ev} (h : l[i]? = some e) (hb : e.back = false) : callsI l (i + 1) = callsI l i ++ [callOf l i e] := by simp [callsI, h, hb]
theorem callOf_done {l : List Ev} {i k : Nat} {e r : Ev} (hk : nextI l e.th (i + 1) = k) (h : l[k]? = some r) : callOf l i e = ⟨e.th, e.d, e.h, e.off, e.n, r.code, r.num, true, i, k⟩ := by subst hk; simp [callOf, h]
theorem callOf_open {l : List Ev} {i k : Nat} {e : Ev} (hk : nextI l e.th (i + 1) = k) (h : l.length ≤ k) : callOf l i e = ⟨e.th, e.d, e.h, e.off, e.n, 0, 0, false, i, k⟩ := by subst hk; simp [callOf, h]
end Go.Sd
