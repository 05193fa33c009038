/-
  Calls that come one after the other: there is an order just if the map accepts them so.
-/
import Derived.Test.YtgkbmelecalllaaSfA
set_option linter.unusedSectionVars false
set_option linter.unusedSimpArgs false
set_option linter.unusedVariables false
namespace Go.Sd
open Go Go.Proofs
variable [Str]

/-- Asked and answered. -/
def rowE (t : Int) (o : Op4) (r : Int × Int) : List Ev := [⟨t, false, o.d, o.h, o.off, o.n, 0, 0⟩, ⟨t, true, 0, 0, 0, 0, r.1, r.2⟩]
def rowI (th : Nat → Int) (ops : List Op4) (res : List (Int × Int)) : Nat → List Ev
  | 0 => []
  | i + 1 => rowI th ops res i ++ (match ops[i]?, res[i]? with | some o, some r => rowE (th i) o r | _, _ => [])
theorem rowI_succ {th : Nat → Int} {ops : List Op4} {res : List (Int × Int)} {i : Nat} {o : Op4} {r : Int × Int} (ho : ops[i]? = some o) (hr : res[i]? = some r) : rowI th ops res (i + 1) = rowI th ops res i ++ rowE (th i) o r := by simp [rowI, ho, hr]
/-- What the order tells. -/
def tellE (o : Op4) (r : Int × Int) : Ev := ⟨0, false, o.d, o.h, o.off, o.n, r.1, r.2⟩
def ordI (ops : List Op4) (res : List (Int × Int)) : Nat → List Ev
  | 0 => []
  | i + 1 => ordI ops res i ++ (match ops[i]?, res[i]? with | some o, some r => [tellE o r] | _, _ => [])
theorem ordI_succ {ops : List Op4} {res : List (Int × Int)} {i : Nat} {o : Op4} {r : Int × Int} (ho : ops[i]? = some o) (hr : res[i]? = some r) : ordI ops res (i + 1) = ordI ops res i ++ [tellE o r] := by simp [ordI, ho, hr]
/-- What the map says of the first ones. -/
def wantI (ops : List Op4) (res : List (Int × Int)) : Nat → Bool × List PT × List Int
  | 0 => (true, [], [])
  | i + 1 => if (wantI ops res i).1 = true then (match ops[i]?, res[i]? with | some o, some r => tryP (wantI ops res i).2 o.d o.h o.off o.n r.1 r.2 | _, _ => wantI ops res i) else wantI ops res i
theorem wantI_yes {ops : List Op4} {res : List (Int × Int)} {i : Nat} {o : Op4} {r : Int × Int} {X X' : List PT} {T T' : List Int} {b : Bool} (h : wantI ops res i = (true, X, T)) (ho : ops[i]? = some o) (hr : res[i]? = some r) (ht : tryP (X, T) o.d o.h o.off o.n r.1 r.2 = (b, X', T')) : wantI ops res (i + 1) = (b, X', T') := by simp [wantI, h, ho, hr, ht]
theorem wantI_no {ops : List Op4} {res : List (Int × Int)} {i : Nat} {X : List PT} {T : List Int} (h : wantI ops res i = (false, X, T)) : wantI ops res (i + 1) = (false, X, T) := by simp [wantI, h]
section
variable {th : Nat → Int} {ops : List Op4} {res : List (Int × Int)} {n : Nat}
theorem two_of (hn : n ≤ ops.length) (hr : n ≤ res.length) {i : Nat} (hi : i < n) : ∃ o r, ops[i]? = some o ∧ res[i]? = some r := ⟨_, _, List.getElem?_eq_getElem (by omega), List.getElem?_eq_getElem (by omega)⟩
theorem row_len (hn : n ≤ ops.length) (hr : n ≤ res.length) : ∀ {i : Nat}, i ≤ n → (rowI th ops res i).length = 2 * i
  | 0, _ => rfl
  | i + 1, hi => by
    obtain ⟨o, r, ho, hr'⟩ := two_of hn hr (i := i) (by omega)
    rw [rowI_succ ho hr', List.length_append, row_len hn hr (by omega)]
    simp [rowE]
    omega
theorem row_at (hn : n ≤ ops.length) (hr : n ≤ res.length) : ∀ {m : Nat}, m ≤ n → ∀ {i : Nat}, i < m → ∀ {o r}, ops[i]? = some o → res[i]? = some r →
    (rowI th ops res m)[2 * i]? = some ⟨th i, false, o.d, o.h, o.off, o.n, 0, 0⟩ ∧ (rowI th ops res m)[2 * i + 1]? = some ⟨th i, true, 0, 0, 0, 0, r.1, r.2⟩
  | 0, _, i, hi, _, _, _, _ => by omega
  | m + 1, hm, i, hi, o, r, ho, hr' => by
    obtain ⟨o2, r2, ho2, hr2⟩ := two_of hn hr (i := m) (by omega)
    have hl := row_len (th := th) hn hr (i := m) (by omega)
    rw [rowI_succ ho2 hr2]
    by_cases h : i < m
    · obtain ⟨h1, h2⟩ := row_at hn hr (m := m) (by omega) h ho hr'
      rw [List.getElem?_append_left (by omega), List.getElem?_append_left (by omega)]
      exact ⟨h1, h2⟩
    · have : i = m := by omega
      subst this
      rw [ho] at ho2; rw [hr'] at hr2; cases ho2; cases hr2
      rw [List.getElem?_append_right (by omega), List.getElem?_append_right (by omega), hl]
      simp [rowE]
theorem turn_even (hn : n ≤ ops.length) (hr : n ≤ res.length) (t : Int) : ∀ {i : Nat}, i ≤ n → turnI (rowI th ops res n) t (2 * i) % 2 = 0
  | 0, _ => rfl
  | i + 1, hi => by
    obtain ⟨o, r, ho, hr'⟩ := two_of hn hr (i := i) (by omega)
    obtain ⟨h1, h2⟩ := row_at (th := th) hn hr (Nat.le_refl n) (i := i) (by omega) ho hr'
    rw [show 2 * (i + 1) = 2 * i + 1 + 1 from by omega, turnI_succ h2, turnI_succ h1]
    have := turn_even hn hr t (i := i) (by omega)
    dsimp only
    split <;> omega
theorem row_check (hn : n ≤ ops.length) (hr : n ≤ res.length) (hth : ∀ i, 0 ≤ th i ∧ th i ≤ 3) : checkL (rowI th ops res n) = 0 := by
  refine checkL_yes fun j e hj he => ?_
  have hl := row_len (th := th) hn hr (Nat.le_refl n)
  rw [hl] at hj
  obtain ⟨o, r, ho, hr'⟩ := two_of hn hr (i := j / 2) (by omega)
  obtain ⟨h1, h2⟩ := row_at (th := th) hn hr (Nat.le_refl n) (i := j / 2) (by omega) ho hr'
  have h3 := hth (j / 2)
  have h4 := turn_even (th := th) hn hr (th (j / 2)) (i := j / 2) (by omega)
  rcases Nat.mod_two_eq_zero_or_one j with h | h
  · rw [show 2 * (j / 2) = j from by omega] at h1 h4
    rw [h1] at he
    cases he
    have h5 : ((turnI (rowI th ops res n) (th (j / 2)) j : Nat) : Int).tmod 2 = 0 := by
      rw [show ((turnI (rowI th ops res n) (th (j / 2)) j : Nat) : Int).tmod 2 = ((turnI (rowI th ops res n) (th (j / 2)) j % 2 : Nat) : Int) from rfl, h4]
      rfl
    simp [okE, h5]
    omega
  · rw [show 2 * (j / 2) + 1 = j from by omega] at h2
    rw [h2] at he
    cases he
    have h5 : ((turnI (rowI th ops res n) (th (j / 2)) j : Nat) : Int).tmod 2 = 1 := by
      have := turnI_succ (t := th (j / 2)) h1
      rw [show 2 * (j / 2) + 1 = j from by omega] at this
      simp only [if_true] at this
      rw [show ((turnI (rowI th ops res n) (th (j / 2)) j : Nat) : Int).tmod 2 = ((turnI (rowI th ops res n) (th (j / 2)) j % 2 : Nat) : Int) from rfl, show turnI (rowI th ops res n) (th (j / 2)) j % 2 = 1 from by omega]
      rfl
    simp [okE, h5]
    omega
/-- The calls. -/
def rowC (th : Nat → Int) (ops : List Op4) (res : List (Int × Int)) : Nat → List Cal
  | 0 => []
  | i + 1 => rowC th ops res i ++ (match ops[i]?, res[i]? with | some o, some r => [⟨th i, o.d, o.h, o.off, o.n, r.1, r.2, true, ((2 * i : Nat) : Int), ((2 * i + 1 : Nat) : Int)⟩] | _, _ => [])
theorem row_calls (hn : n ≤ ops.length) (hr : n ≤ res.length) : ∀ {i : Nat}, i ≤ n → callsI (rowI th ops res n) (2 * i) = rowC th ops res i
  | 0, _ => rfl
  | i + 1, hi => by
    obtain ⟨o, r, ho, hr'⟩ := two_of hn hr (i := i) (by omega)
    obtain ⟨h1, h2⟩ := row_at (th := th) hn hr (Nat.le_refl n) (i := i) (by omega) ho hr'
    rw [show 2 * (i + 1) = 2 * i + 1 + 1 from by omega]
    simp only [callsI, h1, h2, row_calls hn hr (i := i) (by omega), rowC, ho, hr']
    simp [callOf, nextI_here h2, h2]
theorem rowC_len (hn : n ≤ ops.length) (hr : n ≤ res.length) : ∀ {i : Nat}, i ≤ n → (rowC th ops res i).length = i
  | 0, _ => rfl
  | i + 1, hi => by
    obtain ⟨o, r, ho, hr'⟩ := two_of hn hr (i := i) (by omega)
    simp [rowC, ho, hr', rowC_len hn hr (i := i) (by omega)]
theorem rowC_at (hn : n ≤ ops.length) (hr : n ≤ res.length) : ∀ {m : Nat}, m ≤ n → ∀ {i : Nat}, i < m → ∀ {o r}, ops[i]? = some o → res[i]? = some r →
    (rowC th ops res m)[i]? = some ⟨th i, o.d, o.h, o.off, o.n, r.1, r.2, true, ((2 * i : Nat) : Int), ((2 * i + 1 : Nat) : Int)⟩
  | 0, _, i, hi, _, _, _, _ => by omega
  | m + 1, hm, i, hi, o, r, ho, hr' => by
    obtain ⟨o2, r2, ho2, hr2⟩ := two_of hn hr (i := m) (by omega)
    have hl := rowC_len (th := th) hn hr (i := m) (by omega)
    simp only [rowC, ho2, hr2]
    by_cases h : i < m
    · rw [List.getElem?_append_left (by omega)]
      exact rowC_at hn hr (m := m) (by omega) h ho hr'
    · have : i = m := by omega
      subst this
      rw [ho] at ho2; rw [hr'] at hr2; cases ho2; cases hr2
      rw [List.getElem?_append_right (by omega), hl]
      simp
/-- The first ones are told. -/
def leftAt (n m : Nat) : List Bool := List.replicate m false ++ List.replicate (n - m) true
theorem leftAt_0 : leftAt n 0 = List.replicate n true := by simp [leftAt]
theorem leftAt_get {m k : Nat} (hm : m ≤ n) (hk : k < n) : (leftAt n m)[k]? = some (decide (m ≤ k)) := by
  unfold leftAt
  rw [List.getElem?_append]
  by_cases h : m ≤ k
  · simp only [List.length_replicate, Nat.not_lt.2 h, if_false, h, decide_true]
    rw [List.getElem?_replicate_of_lt (by omega)]
  · simp only [List.length_replicate, Nat.lt_of_not_le h, if_true, h, decide_false]
    rw [List.getElem?_replicate_of_lt (by omega)]
theorem leftAt_set {m : Nat} (hm : m < n) : (leftAt n m).set m false = leftAt n (m + 1) := by
  refine List.ext_getElem? fun k => ?_
  rw [List.getElem?_set]
  by_cases hk : k < n
  · rw [leftAt_get (by omega) hk, leftAt_get (by omega) hk]
    by_cases h : m = k
    · subst h
      simp [leftAt, hm]
      omega
    · rw [if_neg h]
      congr 1
      exact decide_eq_decide.2 ⟨fun h => by omega, fun h => by omega⟩
  · rw [List.getElem?_eq_none (by simp [leftAt]; omega), List.getElem?_eq_none (by simp [leftAt]; omega)]
    split
    · omega
    · rfl
theorem row_may (hn : n ≤ ops.length) (hr : n ≤ res.length) {m i : Nat} (hm : m < n) : May (rowC th ops res n) (leftAt n m) i ↔ i = m := by
  have hl := rowC_len (th := th) hn hr (Nat.le_refl n)
  obtain ⟨om, rm, hom, hrm⟩ := two_of hn hr hm
  constructor
  · rintro ⟨h1, h2⟩
    have hi : i < n := by have := (List.getElem?_eq_some_iff.1 h1).1; simpa [leftAt, Nat.add_sub_cancel' (Nat.le_of_lt hm)] using this
    rw [leftAt_get (by omega) hi] at h1
    have h3 : m ≤ i := by simpa using h1
    obtain ⟨oi, ri, hoi, hri⟩ := two_of hn hr hi
    rcases Nat.lt_or_eq_of_le h3 with h | h
    · have := h2 m _ _ (by omega) (rowC_at hn hr (Nat.le_refl n) hm hom hrm) (rowC_at hn hr (Nat.le_refl n) hi hoi hri) (by rw [leftAt_get (by omega) hm]; simp) (by omega)
      simp [keeps] at this
      omega
    · exact h.symm
  · rintro rfl
    refine ⟨by rw [leftAt_get (by omega) hm]; simp, fun k c x hk hc hx hlk hne => ?_⟩
    have hkn : k < n := by omega
    rw [leftAt_get (by omega) hkn] at hlk
    have h3 : i ≤ k := by simpa using hlk
    obtain ⟨ok, rk, hok, hrk⟩ := two_of hn hr hkn
    rw [rowC_at hn hr (Nat.le_refl n) hkn hok hrk] at hc
    rw [rowC_at hn hr (Nat.le_refl n) hm hom hrm] at hx
    cases hc
    cases hx
    simp [keeps]
    constructor <;> omega
theorem row_done (hn : n ≤ ops.length) (hr : n ≤ res.length) {m : Nat} (hm : m ≤ n) : AllDone (rowC th ops res n) (leftAt n m) ↔ m = n := by
  have hl := rowC_len (th := th) hn hr (Nat.le_refl n)
  constructor
  · intro h
    rcases Nat.lt_or_eq_of_le hm with h1 | h1
    · obtain ⟨o, r, ho, hr'⟩ := two_of hn hr h1
      have := h m _ (by omega) (rowC_at hn hr (Nat.le_refl n) h1 ho hr') (by rw [leftAt_get (by omega) h1]; simp)
      cases this
    · exact h1
  · rintro rfl k c hk hc hlk
    rw [leftAt_get (by omega) (by omega)] at hlk
    simp at hlk
    omega
theorem want_down {i : Nat} (h : (wantI ops res i).1 = false) : ∀ k, (wantI ops res (i + k)).1 = false
  | 0 => h
  | k + 1 => by
    have := want_down h k
    rw [← Nat.add_assoc]
    simp [wantI, this]
theorem row_ok (hn : n ≤ ops.length) (hr : n ≤ res.length) (hs : List Int) : ∀ (d m : Nat) (X : List PT) (T : List Int), d + m = n → wantI ops res m = (true, X, T) → (Ok (rowC th ops res n) hs (leftAt n m) X T ↔ (wantI ops res n).1 = true)
  | 0, m, X, T, hd, hw => by
    have : m = n := by omega
    subst this
    rw [hw]
    exact ⟨fun _ => rfl, fun _ => .done ((row_done hn hr (Nat.le_refl _)).2 rfl)⟩
  | d + 1, m, X, T, hd, hw => by
    have hm : m < n := by omega
    obtain ⟨o, r, ho, hr'⟩ := two_of hn hr hm
    have hc := rowC_at (th := th) hn hr (Nat.le_refl n) hm ho hr'
    obtain ⟨b, X', T', ht⟩ : ∃ b X' T', tryP (X, T) o.d o.h o.off o.n r.1 r.2 = (b, X', T') := ⟨_, _, _, rfl⟩
    have hw' := wantI_yes hw ho hr' ht
    cases b with
    | true =>
      rw [← row_ok hn hr hs d (m + 1) X' T' (by omega) hw']
      constructor
      · intro h
        cases h with
        | done h => have := (row_done hn hr (by omega)).1 h; omega
        | @step _ _ X2 _ T2 i c r2 h1 h2 h3 h4 h5 =>
          have := (row_may hn hr hm).1 h1
          subst this
          rw [hc] at h2
          cases h2
          rw [resP_done rfl, List.mem_singleton] at h3
          subst h3
          dsimp only at h4
          rw [ht] at h4
          cases h4
          rw [leftAt_set hm] at h5
          exact h5
      · intro h
        exact .step ((row_may hn hr hm).2 rfl) hc (by rw [resP_done rfl]; exact List.mem_singleton.2 rfl) ht (by rw [leftAt_set hm]; exact h)
    | false =>
      have hf := want_down (ops := ops) (res := res) (i := m + 1) (by rw [hw']) (n - (m + 1))
      rw [show m + 1 + (n - (m + 1)) = n from by omega] at hf
      rw [hf]
      refine ⟨fun h => ?_, fun h => by cases h⟩
      cases h with
      | done h => have := (row_done hn hr (by omega)).1 h; omega
      | @step _ _ X2 _ T2 i c r2 h1 h2 h3 h4 h5 =>
        have := (row_may hn hr hm).1 h1
        subst this
        rw [hc] at h2
        cases h2
        rw [resP_done rfl, List.mem_singleton] at h3
        subst h3
        dsimp only at h4
        rw [ht] at h4
        cases h4
theorem row_acc (hn : n ≤ ops.length) (hr : n ≤ res.length) (hth : ∀ i, 0 ≤ th i ∧ th i ≤ 3) : AccP (rowI th ops res n) ↔ (wantI ops res n).1 = true := by
  have hl := row_len (th := th) hn hr (Nat.le_refl n)
  have hc := row_calls (th := th) hn hr (Nat.le_refl n)
  have h1 : callsI (rowI th ops res n) (rowI th ops res n).length = rowC th ops res n := by rw [hl, hc]
  unfold AccP
  rw [h1, rowC_len hn hr (Nat.le_refl n), ← leftAt_0, row_ok hn hr _ n 0 [] [] (by omega) rfl]
  exact ⟨fun h => h.2, fun h => ⟨row_check hn hr hth, h⟩⟩
theorem ord_len (hn : n ≤ ops.length) (hr : n ≤ res.length) : ∀ {i : Nat}, i ≤ n → (ordI ops res i).length = i
  | 0, _ => rfl
  | i + 1, hi => by
    obtain ⟨o, r, ho, hr'⟩ := two_of hn hr (i := i) (by omega)
    simp [ordI_succ ho hr', ord_len hn hr (i := i) (by omega)]
theorem ord_at (hn : n ≤ ops.length) (hr : n ≤ res.length) : ∀ {m : Nat}, m ≤ n → ∀ {i : Nat}, i < m → ∀ {o r}, ops[i]? = some o → res[i]? = some r → (ordI ops res m)[i]? = some (tellE o r)
  | 0, _, i, hi, _, _, _, _ => by omega
  | m + 1, hm, i, hi, o, r, ho, hr' => by
    obtain ⟨o2, r2, ho2, hr2⟩ := two_of hn hr (i := m) (by omega)
    have hl := ord_len hn hr (i := m) (by omega)
    rw [ordI_succ ho2 hr2]
    by_cases h : i < m
    · rw [List.getElem?_append_left (by omega)]
      exact ord_at hn hr (m := m) (by omega) h ho hr'
    · have : i = m := by omega
      subst this
      rw [ho] at ho2; rw [hr'] at hr2; cases ho2; cases hr2
      rw [List.getElem?_append_right (by omega), hl]
      simp
theorem one_first (hn : n ≤ ops.length) (hr : n ≤ res.length) {m : Nat} (hm : m < n) : ∀ (d i : Nat), d + i = m → firstAt (rowC (fun _ => 0) ops res n) (leftAt n m) 0 i = some m
  | 0, i, hd => by
    have : i = m := by omega
    subst this
    obtain ⟨o, r, ho, hr'⟩ := two_of hn hr hm
    exact firstAt_here (rowC_at hn hr (Nat.le_refl n) hm ho hr') (by rw [leftAt_get (by omega) hm]; simp) rfl
  | d + 1, i, hd => by
    obtain ⟨o, r, ho, hr'⟩ := two_of hn hr (i := i) (by omega)
    rw [firstAt_on (rowC_at hn hr (Nat.le_refl n) (by omega) ho hr') (.inl (by rw [leftAt_get (by omega) (by omega)]; simp; omega))]
    exact one_first hn hr hm d (i + 1) (by omega)
theorem one_hold (hn : n ≤ ops.length) (hr : n ≤ res.length) : ∀ {i : Nat}, i ≤ n → holdI (rowC (fun _ => 0) ops res n) (ordI ops res n) i = if (wantI ops res i).1 = true then some (leftAt n i, (wantI ops res i).2) else none
  | 0, _ => by simp [holdI, wantI, leftAt_0, rowC_len hn hr (Nat.le_refl n)]
  | i + 1, hi => by
    have ih := one_hold hn hr (i := i) (by omega)
    obtain ⟨o, r, ho, hr'⟩ := two_of hn hr (i := i) (by omega)
    rcases hw : wantI ops res i with ⟨b, X, T⟩
    rw [hw] at ih
    cases b with
    | false =>
      rw [wantI_no hw]
      simp at ih
      simp [holdI, ih]
    | true =>
      simp at ih
      rw [holdI_succ ih (ord_at hn hr (Nat.le_refl n) (by omega) ho hr')]
      obtain ⟨b, X', T', ht⟩ : ∃ b X' T', tryP (X, T) o.d o.h o.off o.n r.1 r.2 = (b, X', T') := ⟨_, _, _, rfl⟩
      rw [wantI_yes hw ho hr' ht]
      have hf := one_first hn hr (m := i) (by omega) i 0 (by omega)
      have hc := rowC_at (th := fun _ => (0 : Int)) hn hr (Nat.le_refl n) (i := i) (by omega) ho hr'
      cases b with
      | true =>
        rw [hStep_yes hf hc (by simp [isP, tellE]) ((row_may hn hr (by omega)).2 rfl) ht, leftAt_set (by omega)]
        simp
      | false =>
        rw [hStep_try hf ht]
        simp
theorem one_holds (hn : n ≤ ops.length) (hr : n ≤ res.length) : HoldsP (rowI (fun _ => 0) ops res n) (ordI ops res n) ↔ (wantI ops res n).1 = true := by
  have hl := row_len (th := fun _ => (0 : Int)) hn hr (Nat.le_refl n)
  have hc := row_calls (th := fun _ => (0 : Int)) hn hr (Nat.le_refl n)
  have h1 : callsI (rowI (fun _ => 0) ops res n) (rowI (fun _ => 0) ops res n).length = rowC (fun _ => 0) ops res n := by rw [hl, hc]
  unfold HoldsP HoldsL
  rw [h1, ord_len hn hr (Nat.le_refl n), one_hold hn hr (Nat.le_refl n)]
  constructor
  · rintro ⟨_, st, h, _⟩
    by_cases hw : (wantI ops res n).1 = true
    · exact hw
    · rw [if_neg hw] at h; cases h
  · intro hw
    rw [if_pos hw]
    exact ⟨row_check hn hr (fun _ => by simp), _, rfl, (row_done hn hr (Nat.le_refl n)).2 rfl⟩
theorem row_B (ho : OpB ops) (hr : ResB res) : ∀ i, EvB (rowI th ops res i)
  | 0 => fun x h => by cases h
  | i + 1 => fun x h => by
    simp only [rowI, List.mem_append] at h
    rcases h with h | h
    · exact row_B ho hr i x h
    · split at h
      · rename_i o r h1 h2
        have hb1 := ho o (List.mem_of_getElem? h1)
        have hb2 := hr r (List.mem_of_getElem? h2)
        simp only [rowE, List.mem_cons, List.not_mem_nil, or_false] at h
        rcases h with rfl | rfl
        · exact ⟨⟨by dsimp only; omega, by dsimp only; omega⟩, hb1⟩
        · exact ⟨hb2, by dsimp only; omega, by dsimp only; omega⟩
      · cases h
theorem ord_B (ho : OpB ops) (hr : ResB res) : ∀ i, EvB (ordI ops res i)
  | 0 => fun x h => by cases h
  | i + 1 => fun x h => by
    simp only [ordI, List.mem_append] at h
    rcases h with h | h
    · exact ord_B ho hr i x h
    · split at h
      · rename_i o r h1 h2
        have hb1 := ho o (List.mem_of_getElem? h1)
        have hb2 := hr r (List.mem_of_getElem? h2)
        simp only [List.mem_singleton] at h
        subst h
        exact ⟨hb2, hb1⟩
      · cases h
theorem want_len : ∀ i, (wantI ops res i).2.1.length ≤ i ∧ (wantI ops res i).2.2.length ≤ i
  | 0 => by simp [wantI]
  | i + 1 => by
    have ih := want_len i
    simp only [wantI]
    split
    · split
      · rename_i o r h1 h2
        have h3 := try_lenX (X := (wantI ops res i).2.1) (T := (wantI ops res i).2.2) (b := (tryP (wantI ops res i).2 o.d o.h o.off o.n r.1 r.2).1) (X' := (tryP (wantI ops res i).2 o.d o.h o.off o.n r.1 r.2).2.1) (T' := (tryP (wantI ops res i).2 o.d o.h o.off o.n r.1 r.2).2.2) rfl
        have h4 := try_len (X := (wantI ops res i).2.1) (T := (wantI ops res i).2.2) (b := (tryP (wantI ops res i).2 o.d o.h o.off o.n r.1 r.2).1) (X' := (tryP (wantI ops res i).2 o.d o.h o.off o.n r.1 r.2).2.1) (T' := (tryP (wantI ops res i).2 o.d o.h o.off o.n r.1 r.2).2.2) rfl
        omega
      · omega
    · omega
end
end Go.Sd
