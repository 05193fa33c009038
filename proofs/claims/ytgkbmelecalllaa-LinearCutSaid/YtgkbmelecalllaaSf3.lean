/-
  Is a list of events an order? In plain words.
-/
import Derived.Test.YtgkbmelecalllaaSf2
import Derived.Test.YtgkbmelecalllaaSeH
set_option linter.unusedSectionVars false
set_option linter.unusedSimpArgs false
set_option linter.unusedVariables false
namespace Go.Sd
open Go Go.Proofs
variable [Str]

/-- Does an event tell a call? -/
def isP (c : Cal) (o : Ev) : Bool := decide (c.th = o.th) && (decide (c.d = o.d ∧ c.h = o.h ∧ c.off = o.off ∧ c.n = o.n) && (!o.back && (!c.done || decide (c.code = o.code ∧ c.num = o.num))))
/-- The first call of a thread that is left, ahead of a place none; that place. -/
def firstAt (cs : List Cal) (left : List Bool) (t : Int) (i : Nat) : Option Nat :=
  if h : i < cs.length then (if left[i]? = some true ∧ cs[i].th = t then some i else firstAt cs left t (i + 1)) else none
termination_by cs.length - i
theorem firstAt_here {cs : List Cal} {left : List Bool} {t : Int} {i : Nat} {c : Cal} (hc : cs[i]? = some c) (hl : left[i]? = some true) (ht : c.th = t) : firstAt cs left t i = some i := by
  obtain ⟨h, rfl⟩ := List.getElem?_eq_some_iff.1 hc
  rw [firstAt, dif_pos h, if_pos ⟨hl, ht⟩]
theorem firstAt_on {cs : List Cal} {left : List Bool} {t : Int} {i : Nat} {c : Cal} (hc : cs[i]? = some c) (hl : left[i]? = some false ∨ ¬ c.th = t) : firstAt cs left t i = firstAt cs left t (i + 1) := by
  obtain ⟨h, rfl⟩ := List.getElem?_eq_some_iff.1 hc
  rw [firstAt, dif_pos h, if_neg]
  rintro ⟨h1, h2⟩
  rcases hl with hl | hl
  · rw [hl] at h1; cases h1
  · exact hl h2
theorem firstAt_end {cs : List Cal} {left : List Bool} {t : Int} {i : Nat} (h : cs.length ≤ i) : firstAt cs left t i = none := by rw [firstAt, dif_neg (by omega)]
theorem firstAt_some {cs : List Cal} {left : List Bool} {t : Int} : ∀ (m i k : Nat), cs.length - i ≤ m → firstAt cs left t i = some k → i ≤ k ∧ k < cs.length ∧ left[k]? = some true
  | 0, i, k, hm, h => by rw [firstAt_end (by omega)] at h; cases h
  | m + 1, i, k, hm, h => by
    rw [firstAt] at h
    split at h
    · rename_i hi
      split at h
      · rename_i h1; cases h; exact ⟨Nat.le_refl _, hi, h1.1⟩
      · have := firstAt_some m (i + 1) k (by omega) h
        exact ⟨by omega, this.2⟩
    · cases h
abbrev HSt := List Bool × List PT × List Int
/-- One event of an order. -/
noncomputable def hStep (cs : List Cal) (st : HSt) (o : Ev) : Option HSt :=
  match firstAt cs st.1 o.th 0 with
  | none => none
  | some k => match cs[k]? with
    | none => none
    | some c => if isP c o = true ∧ May cs st.1 k ∧ (tryP st.2 o.d o.h o.off o.n o.code o.num).1 = true then some (st.1.set k false, (tryP st.2 o.d o.h o.off o.n o.code o.num).2) else none
noncomputable def holdI (cs : List Cal) (order : List Ev) : Nat → Option HSt
  | 0 => some (List.replicate cs.length true, [], [])
  | i + 1 => match holdI cs order i, order[i]? with
    | some st, some o => hStep cs st o
    | _, _ => none
theorem holdI_succ {cs : List Cal} {order : List Ev} {i : Nat} {st : HSt} {o : Ev} (h : holdI cs order i = some st) (ho : order[i]? = some o) : holdI cs order (i + 1) = hStep cs st o := by simp [holdI, h, ho]
theorem holdI_none {cs : List Cal} {order : List Ev} {i : Nat} (h : holdI cs order i = none) : ∀ k, i ≤ k → holdI cs order k = none := by
  intro k hk
  induction k with
  | zero =>
    have : i = 0 := by omega
    subst this
    exact h
  | succ k ih =>
    by_cases hik : i = k + 1
    · subst hik; exact h
    · rw [holdI, ih (by omega)]
/-- The events are an order. -/
def HoldsL (cs : List Cal) (order : List Ev) : Prop := ∃ st, holdI cs order order.length = some st ∧ AllDone cs st.1
def HoldsP (l order : List Ev) : Prop := checkL l = 0 ∧ HoldsL (callsI l l.length) order
noncomputable instance (l order : List Ev) : Decidable (HoldsP l order) := Classical.propDecidable _
/-- A history that has an order. -/
def AccP (l : List Ev) : Prop := checkL l = 0 ∧ Ok (callsI l l.length) (handR l l.length) (List.replicate (callsI l l.length).length true) [] []
noncomputable instance (l : List Ev) : Decidable (AccP l) := Classical.propDecidable _
theorem hStep_len {cs : List Cal} {st st' : HSt} {o : Ev} (h : hStep cs st o = some st') : st'.1.length = st.1.length ∧ st'.2.1.length ≤ st.2.1.length + 1 ∧ st'.2.2.length ≤ st.2.2.length + 1 := by
  unfold hStep at h
  split at h
  · cases h
  · split at h
    · cases h
    · split at h
      · cases h
        refine ⟨by simp, ?_, ?_⟩
        · exact try_lenX (T := st.2.2) (b := (tryP st.2 o.d o.h o.off o.n o.code o.num).1) (T' := (tryP st.2 o.d o.h o.off o.n o.code o.num).2.2) rfl
        · exact try_len (X := st.2.1) (b := (tryP st.2 o.d o.h o.off o.n o.code o.num).1) (X' := (tryP st.2 o.d o.h o.off o.n o.code o.num).2.1) rfl
      · cases h
theorem holdI_len {cs : List Cal} {order : List Ev} : ∀ {i : Nat} {st : HSt}, holdI cs order i = some st → st.1.length = cs.length ∧ st.2.1.length ≤ i ∧ st.2.2.length ≤ i
  | 0, st, h => by simp only [holdI, Option.some.injEq] at h; subst h; simp
  | i + 1, st, h => by
    simp only [holdI] at h
    split at h
    · rename_i st0 o h0 h1
      have h2 := holdI_len h0
      have h3 := hStep_len h
      omega
    · cases h
section
variable {cs : List Cal} {left : List Bool} {X X' : List PT} {T T' : List Int} {o : Ev} {k : Nat} {c : Cal} {b : Bool}
theorem hStep_none (h : firstAt cs left o.th 0 = none) : hStep cs (left, X, T) o = none := by unfold hStep; rw [h]
theorem hStep_is (h : firstAt cs left o.th 0 = some k) (hc : cs[k]? = some c) (hi : isP c o = false) : hStep cs (left, X, T) o = none := by simp [hStep, h, hc, hi]
theorem hStep_may (h : firstAt cs left o.th 0 = some k) (hm : ¬ May cs left k) : hStep cs (left, X, T) o = none := by
  unfold hStep; rw [h]
  dsimp only
  split
  · rfl
  · rw [if_neg (fun h => hm h.2.1)]
theorem hStep_try (h : firstAt cs left o.th 0 = some k) (ht : tryP (X, T) o.d o.h o.off o.n o.code o.num = (false, X', T')) : hStep cs (left, X, T) o = none := by
  unfold hStep; rw [h]
  dsimp only
  split
  · rfl
  · rw [if_neg (fun h => by have := h.2.2; rw [ht] at this; cases this)]
theorem hStep_yes (h : firstAt cs left o.th 0 = some k) (hc : cs[k]? = some c) (hi : isP c o = true) (hm : May cs left k) (ht : tryP (X, T) o.d o.h o.off o.n o.code o.num = (true, X', T')) : hStep cs (left, X, T) o = some (left.set k false, X', T') := by
  unfold hStep; rw [h]
  dsimp only
  rw [hc]
  dsimp only
  rw [if_pos ⟨hi, hm, by rw [ht]⟩, ht]
end
theorem holds_no {l order : List Ev} {i : Nat} (hc : holdI (callsI l l.length) order i = none) (hi : i ≤ order.length) : ¬ HoldsP l order := fun h => by
  obtain ⟨_, st, h1, _⟩ := h
  rw [holdI_none hc _ hi] at h1
  cases h1
/-- A list of so many trues, filled in one by one. -/
def fillB (n i : Nat) : List Bool := List.replicate i true ++ List.replicate (n - i) false
theorem fillB_len {n i : Nat} (h : i ≤ n) : (fillB n i).length = n := by simp [fillB]; omega
theorem fillB_set {n i : Nat} (h : i < n) : (fillB n i).set i true = fillB n (i + 1) := by
  unfold fillB
  rw [List.set_append_right _ _ (by simp)]
  obtain ⟨m, hm⟩ : ∃ m, n - i = m + 1 := ⟨n - i - 1, by omega⟩
  rw [show n - (i + 1) = m by omega, hm]
  simp only [List.length_replicate, Nat.sub_self, List.replicate_succ, List.set_cons_zero]
  rw [← List.replicate_succ, List.replicate_succ' (n := i)]
  simp
theorem fillB_all {n : Nat} : fillB n n = List.replicate n true := by simp [fillB]
theorem fillB_0 {n : Nat} : fillB n 0 = List.replicate n false := by simp [fillB]
theorem doneTo_next {cs : List Cal} {left : List Bool} {i : Nat} {c : Cal} {e : Bool} (h : DoneTo cs left i) (hc : cs[i]? = some c) (hl : left[i]? = some e) (hk : e = true → c.done = false) : DoneTo cs left (i + 1) := fun k c' hk' hc' hl' => by
  rcases Nat.lt_succ_iff_lt_or_eq.1 hk' with hk' | rfl
  · exact h k c' hk' hc' hl'
  · rw [hc] at hc'; rw [hl] at hl'; cases hc'; cases hl'; exact hk rfl
theorem holds_not {l order : List Ev} {n : Nat} {st : HSt} (hst : holdI (callsI l l.length) order n = some st) (hn : n = order.length) (hd : ¬ AllDone (callsI l l.length) st.1) : ¬ HoldsP l order := fun h => by
  obtain ⟨_, st', h1, h2⟩ := h
  subst hn
  rw [hst] at h1
  cases h1
  exact hd h2
theorem holds_yes {l order : List Ev} {n : Nat} {st : HSt} (hc : checkL l = 0) (hst : holdI (callsI l l.length) order n = some st) (hn : n = order.length) (hd : AllDone (callsI l l.length) st.1) : HoldsP l order := ⟨hc, st, hn ▸ hst, hd⟩
theorem Grow.sl {α : Type} {E sz : Nat} {enc : α → List Value} {a : Option Addr} {n c : Nat} {s : Seg} {xs : List α} (h : Grow E sz enc (.slice a n c) s xs) (hz : ∀ x ∈ xs, (enc x).length = sz) : Sl s sz enc a n c xs := by
  obtain ⟨a', n', c', e, hs⟩ := h.shut hz
  injection e with e1 e2 e3
  subst e1 e2 e3
  exact hs
theorem firstAt_th {cs : List Cal} {left : List Bool} {t : Int} {c : Cal} : ∀ (m i k : Nat), cs.length - i ≤ m → firstAt cs left t i = some k → cs[k]? = some c → c.th = t
  | 0, i, k, hm, h, hc => by rw [firstAt_end (by omega)] at h; cases h
  | m + 1, i, k, hm, h, hc => by
    rw [firstAt] at h
    split at h
    · rename_i hi
      split at h
      · rename_i h1; cases h; rw [List.getElem?_eq_getElem hi] at hc; cases hc; exact h1.2
      · exact firstAt_th m (i + 1) k (by omega) h hc
    · cases h
theorem holds_iff {l order : List Ev} {n : Nat} {st : HSt} (hc : checkL l = 0) (hst : holdI (callsI l l.length) order n = some st) (hn : n = order.length) : AllDone (callsI l l.length) st.1 ↔ HoldsP l order :=
  ⟨fun h => holds_yes hc hst hn h, fun h => Classical.byContradiction fun h2 => holds_not hst hn h2 h⟩
theorem calls_nodup (l : List Ev) : (callsI l l.length).Nodup := by
  refine List.pairwise_iff_getElem.2 fun i j hi hj hij e => ?_
  have := callsI_inj (List.getElem?_eq_getElem hi) (List.getElem?_eq_getElem hj) (by rw [e])
  omega
/-- What is answered is an int. -/
def EvB (l : List Ev) : Prop := ∀ x ∈ l, (-9223372036854775808 ≤ x.num ∧ x.num ≤ 9223372036854775807) ∧ -9223372036854775808 ≤ x.h ∧ x.h ≤ 9223372036854775807
end Go.Sd
