/-
  Orders, reckoned; what the laws' examples come to.
-/
import Derived.Test.YtgkbmelecalllaaSf7
set_option linter.unusedSectionVars false
set_option linter.unusedSimpArgs false
set_option linter.unusedVariables false
namespace Go.Sd
open Go Go.Proofs
variable [Str]

def mayD (cs : List Cal) (left : List Bool) (i : Nat) : Bool := decide (left[i]? = some true) && (List.range cs.length).all fun k => match cs[k]?, cs[i]? with
  | some c, some x => !decide (left[k]? = some true) || decide (k = i) || !keeps c x k i
  | _, _ => true
theorem mayD_iff (cs : List Cal) (left : List Bool) (i : Nat) : mayD cs left i = true ↔ May cs left i := by
  unfold mayD May MayTo
  simp only [Bool.and_eq_true, decide_eq_true_eq, List.all_eq_true, List.mem_range]
  constructor
  · rintro ⟨h1, h2⟩
    refine ⟨h1, fun k c x hk hc hx hl hne => ?_⟩
    have := h2 k hk
    rw [hc, hx] at this
    simp only [Bool.or_eq_true, Bool.not_eq_true', decide_eq_false_iff_not, decide_eq_true_eq] at this
    rcases this with (h | h) | h
    · exact absurd hl h
    · exact absurd h hne
    · exact h
  · rintro ⟨h1, h2⟩
    refine ⟨h1, fun k hk => ?_⟩
    split
    · rename_i c x hc hx
      simp only [Bool.or_eq_true, Bool.not_eq_true', decide_eq_false_iff_not, decide_eq_true_eq]
      by_cases hl : left[k]? = some true
      · by_cases hki : k = i
        · exact .inl (.inr hki)
        · exact .inr (h2 k c x hk hc hx hl hki)
      · exact .inl (.inl hl)
    · rfl
def doneD (cs : List Cal) (left : List Bool) : Bool := (List.range cs.length).all fun k => match cs[k]? with
  | some c => !decide (left[k]? = some true) || !c.done
  | none => true
theorem doneD_iff (cs : List Cal) (left : List Bool) : doneD cs left = true ↔ AllDone cs left := by
  unfold doneD AllDone DoneTo
  simp only [List.all_eq_true, List.mem_range]
  constructor
  · intro h k c hk hc hl
    have := h k hk
    rw [hc] at this
    simpa [hl] using this
  · intro h k hk
    split
    · rename_i c hc
      by_cases hl : left[k]? = some true
      · simp [hl, h k c hk hc hl]
      · simp [hl]
    · rfl
def okD (cs : List Cal) (hs : List Int) : Nat → List Bool → List PT → List Int → Bool
  | 0, left, _, _ => doneD cs left
  | n + 1, left, X, T => doneD cs left || (List.range cs.length).any fun i => mayD cs left i && match cs[i]? with
    | some c => (resP X c hs).any fun r => (tryP (X, T) c.d c.h c.off c.n r.1 r.2).1 && okD cs hs n (left.set i false) (tryP (X, T) c.d c.h c.off c.n r.1 r.2).2.1 (tryP (X, T) c.d c.h c.off c.n r.1 r.2).2.2
    | none => false
theorem okD_iff (cs : List Cal) (hs : List Int) : ∀ (n : Nat) (left : List Bool) (X : List PT) (T : List Int), cntL left ≤ n → (okD cs hs n left X T = true ↔ Ok cs hs left X T)
  | 0, left, X, T, hn => by
    simp only [okD]
    rw [doneD_iff]
    refine ⟨.done, fun h => ?_⟩
    cases h with
    | done h => exact h
    | step h1 _ _ _ _ => have := cnt_set h1.1; omega
  | n + 1, left, X, T, hn => by
    simp only [okD, Bool.or_eq_true, doneD_iff, List.any_eq_true, List.mem_range, Bool.and_eq_true, mayD_iff]
    constructor
    · rintro (h | ⟨i, hi, hm, h⟩)
      · exact .done h
      · split at h
        · rename_i c hc
          simp only [List.any_eq_true, Bool.and_eq_true] at h
          obtain ⟨r, hr, h1, h2⟩ := h
          have := cnt_set hm.1
          exact .step hm hc hr (Prod.ext h1 rfl) ((okD_iff cs hs n _ _ _ (by omega)).1 h2)
        · cases h
    · intro h
      cases h with
      | done h => exact .inl h
      | @step _ _ X' _ T' i c r h1 h2 h3 h4 h5 =>
        refine .inr ⟨i, (List.getElem?_eq_some_iff.1 h2).1, h1, ?_⟩
        rw [h2]
        simp only [List.any_eq_true, Bool.and_eq_true]
        have := cnt_set h1.1
        refine ⟨r, h3, by rw [h4], ?_⟩
        rw [h4]
        exact (okD_iff cs hs n _ _ _ (by omega)).2 h5
theorem hStep_inv {cs : List Cal} {left left' : List Bool} {X X' : List PT} {T T' : List Int} {o : Ev} (h : hStep cs (left, X, T) o = some (left', X', T')) :
    ∃ k c, cs[k]? = some c ∧ May cs left k ∧ isP c o = true ∧ tryP (X, T) o.d o.h o.off o.n o.code o.num = (true, X', T') ∧ left' = left.set k false := by
  unfold hStep at h
  split at h
  · cases h
  · rename_i k hk
    split at h
    · cases h
    · rename_i c hc
      split at h
      · rename_i h1
        simp only [Option.some.injEq, Prod.mk.injEq] at h
        exact ⟨k, c, hc, h1.2.1, h1.1, Prod.ext h1.2.2 h.2, h.1.symm⟩
      · cases h

/-! ### the laws' examples -/
abbrev hh : Int := 1099511627776
def litL : List Ev := [⟨0, false, 0, 0, 0, 4, 0, 0⟩, ⟨0, true, 0, 0, 0, 0, 0, hh⟩, ⟨0, false, 3, hh, 0, 1, 0, 0⟩, ⟨1, false, 2, hh, 0, 0, 0, 0⟩, ⟨1, true, 0, 0, 0, 0, 0, 1⟩]
def litK : List Ev := [⟨0, false, 0, 0, 0, 4, 0, 0⟩, ⟨0, true, 0, 0, 0, 0, 0, hh⟩, ⟨0, false, 3, hh, 0, 1, 0, 0⟩, ⟨0, true, 0, 0, 0, 0, 0, 0⟩, ⟨1, false, 2, hh, 0, 0, 0, 0⟩, ⟨1, true, 0, 0, 0, 0, 0, 0⟩]
def litB : List Ev := [⟨0, true, 0, 0, 0, 0, 0, 0⟩]
def csL : List Cal := [⟨0, 0, 0, 0, 4, 0, hh, true, 0, 1⟩, ⟨0, 3, hh, 0, 1, 0, 0, false, 2, 5⟩, ⟨1, 2, hh, 0, 0, 0, 1, true, 3, 4⟩]
def csK : List Cal := [⟨0, 0, 0, 0, 4, 0, hh, true, 0, 1⟩, ⟨0, 3, hh, 0, 1, 0, 0, true, 2, 3⟩, ⟨1, 2, hh, 0, 0, 0, 0, true, 4, 5⟩]
theorem calls_L : callsI litL litL.length = csL := by simp [litL, csL, callsI, callOf, nextI]
theorem calls_K : callsI litK litK.length = csK := by simp [litK, csK, callsI, callOf, nextI]
theorem check_by {l : List Ev} (h : (List.range l.length).all (fun i => match l[i]? with | some e => okE l i e | none => true) = true) : checkL l = 0 := by
  refine checkL_yes fun j e hj he => ?_
  have := List.all_eq_true.1 h j (List.mem_range.2 hj)
  rwa [he] at this
theorem check_L : checkL litL = 0 := check_by (by decide)
theorem check_K : checkL litK = 0 := check_by (by decide)
theorem check_nil : checkL [] = 0 := check_by (by decide)
theorem check_B : checkL litB = 2 := checkL_no (i := 0) (e := ⟨0, true, 0, 0, 0, 0, 0, 0⟩) rfl (by decide)
theorem acc_L : AccP litL := by
  refine ⟨check_L, ?_⟩
  rw [calls_L]
  exact (okD_iff _ _ 3 _ _ _ (by decide)).1 (by decide)
theorem acc_K : ¬ AccP litK := by
  rintro ⟨_, h⟩
  rw [calls_K] at h
  have := (okD_iff _ _ 3 _ _ _ (by decide)).2 h
  revert this
  decide
theorem acc_nil : AccP [] := ⟨check_nil, .done fun k c hk => by simp [callsI] at hk⟩
theorem acc_B : ¬ AccP litB := fun h => by have := h.1; rw [check_B] at this; cases this
theorem evB_L : EvB litL := by unfold EvB litL; decide
theorem evB_K : EvB litK := by unfold EvB litK; decide
theorem evB_B : EvB litB := by unfold EvB litB; decide
theorem evB_nil : EvB [] := fun x h => by simp at h
def sL (i : Nat) : HSt := match i with
  | 0 => ([true, true, true], [], [])
  | 1 => ([false, true, true], [⟨hh, [0, 0, 0, 0], 0⟩], [hh])
  | 2 => ([false, false, true], [⟨hh, [1, 0, 0, 0], 0⟩], [hh])
  | _ => ([false, false, false], [⟨hh, [1, 0, 0, 0], 0⟩], [hh])
theorem tryW (code num : Int) {X' : List PT} {T' : List Int} (h : tryP ([⟨hh, [0, 0, 0, 0], 0⟩], [hh]) 3 hh 0 1 code num = (true, X', T')) : X' = [⟨hh, [1, 0, 0, 0], 0⟩] ∧ T' = [hh] := by
  by_cases hc : (0 : Int) = code ∧ (0 : Int) = num
  · obtain ⟨rfl, rfl⟩ := hc
    have h2 : tryP ([⟨hh, [0, 0, 0, 0], 0⟩], [hh]) 3 hh 0 1 0 0 = (true, [⟨hh, [1, 0, 0, 0], 0⟩], [hh]) := by decide
    rw [h2] at h
    simp only [Prod.mk.injEq, true_and] at h
    exact ⟨h.1.symm, h.2.symm⟩
  · have ha : ansP [⟨hh, [0, 0, 0, 0], 0⟩] 3 hh 0 1 = (0, 0, true) := by decide
    unfold tryP at h
    simp only [ha] at h
    simp only [Bool.true_eq_false, if_false, hc, Prod.mk.injEq] at h
    exact absurd h.1 (by decide)
theorem lt3 {k : Nat} {c : Cal} (h : csL[k]? = some c) : (k = 0 ∧ c = ⟨0, 0, 0, 0, 4, 0, hh, true, 0, 1⟩) ∨ (k = 1 ∧ c = ⟨0, 3, hh, 0, 1, 0, 0, false, 2, 5⟩) ∨ (k = 2 ∧ c = ⟨1, 2, hh, 0, 0, 0, 1, true, 3, 4⟩) := by
  match k, h with
  | 0, h => exact .inl ⟨rfl, by simpa [csL] using h.symm⟩
  | 1, h => exact .inr (.inl ⟨rfl, by simpa [csL] using h.symm⟩)
  | 2, h => exact .inr (.inr ⟨rfl, by simpa [csL] using h.symm⟩)
  | k + 3, h => simp [csL] at h
theorem isP_op {c : Cal} {o : Ev} (h : isP c o = true) : o.d = c.d ∧ o.h = c.h ∧ o.off = c.off ∧ o.n = c.n ∧ (c.done = true → o.code = c.code ∧ o.num = c.num) := by
  simp only [isP, Bool.and_eq_true, decide_eq_true_eq, Bool.or_eq_true, Bool.not_eq_true'] at h
  obtain ⟨_, ⟨h1, h2, h3, h4⟩, _, h5⟩ := h
  refine ⟨h1.symm, h2.symm, h3.symm, h4.symm, fun hd => ?_⟩
  rcases h5 with h5 | h5
  · rw [hd] at h5; cases h5
  · exact ⟨h5.1.symm, h5.2.symm⟩
theorem live_states {told : List Ev} : ∀ {i : Nat} {st : HSt}, holdI csL told i = some st → i ≤ 3 ∧ st = sL i
  | 0, st, h => by simp only [holdI, Option.some.injEq] at h; subst h; exact ⟨by omega, rfl⟩
  | i + 1, st, h => by
    simp only [holdI] at h
    split at h
    · rename_i st0 o h0 ho
      obtain ⟨hi, rfl⟩ := live_states h0
      obtain ⟨l', X', T'⟩ := st
      have hnot : ∀ {left : List Bool} {k : Nat}, mayD csL left k = false → ¬ May csL left k := fun hd hm => by rw [(mayD_iff _ _ _).2 hm] at hd; cases hd
      match i, hi, h with
      | 0, _, h =>
        obtain ⟨k, c, hc, hm, hp, ht, rfl⟩ := hStep_inv h
        obtain ⟨e1, e2, e3, e4, e5⟩ := isP_op hp
        rcases lt3 hc with ⟨rfl, rfl⟩ | ⟨rfl, rfl⟩ | ⟨rfl, rfl⟩
        · obtain ⟨e6, e7⟩ := e5 rfl
          rw [e1, e2, e3, e4, e6, e7] at ht
          have h2 : tryP (([] : List PT), ([] : List Int)) 0 0 0 4 0 hh = (true, [⟨hh, [0, 0, 0, 0], 0⟩], [hh]) := by decide
          rw [h2] at ht
          simp only [Prod.mk.injEq, true_and] at ht
          obtain ⟨rfl, rfl⟩ := ht
          exact ⟨by omega, rfl⟩
        · exact absurd hm (hnot (by decide))
        · exact absurd hm (hnot (by decide))
      | 1, _, h =>
        obtain ⟨k, c, hc, hm, hp, ht, rfl⟩ := hStep_inv h
        obtain ⟨e1, e2, e3, e4, e5⟩ := isP_op hp
        rcases lt3 hc with ⟨rfl, rfl⟩ | ⟨rfl, rfl⟩ | ⟨rfl, rfl⟩
        · exact absurd hm (hnot (by decide))
        · rw [e1, e2, e3, e4] at ht
          obtain ⟨rfl, rfl⟩ := tryW _ _ ht
          exact ⟨by omega, rfl⟩
        · obtain ⟨e6, e7⟩ := e5 rfl
          rw [e1, e2, e3, e4, e6, e7] at ht
          have h2 : (tryP ([⟨hh, [0, 0, 0, 0], 0⟩], [hh]) 2 hh 0 0 0 1).1 = false := by decide
          rw [ht] at h2; cases h2
      | 2, _, h =>
        obtain ⟨k, c, hc, hm, hp, ht, rfl⟩ := hStep_inv h
        obtain ⟨e1, e2, e3, e4, e5⟩ := isP_op hp
        rcases lt3 hc with ⟨rfl, rfl⟩ | ⟨rfl, rfl⟩ | ⟨rfl, rfl⟩
        · exact absurd hm (hnot (by decide))
        · exact absurd hm (hnot (by decide))
        · obtain ⟨e6, e7⟩ := e5 rfl
          rw [e1, e2, e3, e4, e6, e7] at ht
          have h2 : tryP ([⟨hh, [1, 0, 0, 0], 0⟩], [hh]) 2 hh 0 0 0 1 = (true, [⟨hh, [1, 0, 0, 0], 0⟩], [hh]) := by decide
          rw [h2] at ht
          simp only [Prod.mk.injEq, true_and] at ht
          obtain ⟨rfl, rfl⟩ := ht
          exact ⟨by omega, rfl⟩
      | 3, _, h =>
        obtain ⟨k, c, hc, hm, hp, ht, rfl⟩ := hStep_inv h
        rcases lt3 hc with ⟨rfl, rfl⟩ | ⟨rfl, rfl⟩ | ⟨rfl, rfl⟩ <;> exact absurd hm (hnot (by decide))
    · cases h
theorem live_done {i : Nat} (hi : i ≤ 3) (h : AllDone csL (sL i).1) : i = 3 := by
  have h2 := (doneD_iff _ _).2 h
  match i, hi with
  | 0, _ => revert h2; decide
  | 1, _ => revert h2; decide
  | 2, _ => revert h2; decide
  | 3, _ => rfl
theorem holds_len {told : List Ev} (h : HoldsP litL told) : told.length = 3 := by
  obtain ⟨_, st, h1, h2⟩ := h
  rw [calls_L] at h1 h2
  obtain ⟨h3, rfl⟩ := live_states h1
  exact live_done h3 h2
theorem holds_L_nil : ¬ HoldsP litL [] := fun h => by have := holds_len h; cases this
theorem holds_L_cut {told : List Ev} (h : HoldsP litL told) : ¬ HoldsP litL (told.take 2) := fun h2 => by
  have h1 := holds_len h
  have := holds_len h2
  rw [List.length_take] at this
  omega
end Go.Sd
