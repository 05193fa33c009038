/-
  Orders of a history in plain words: what may come next, what it may be answered, whether there is an order.
-/
import Derived.Test.YtgkbmelecalllaaSe1
import Derived.Test.YtgkbmelecalllaaSf1
set_option linter.unusedSectionVars false
set_option linter.unusedSimpArgs false
set_option linter.unusedVariables false
namespace Go.Sd
open Go Go.Proofs
variable [Str]

def encB (b : Bool) : List Value := [.bool b]
def encR (r : Int × Int) : List Value := [.int .i64 r.1, .int .i64 r.2]
/-- Does a call that is left keep another one back? -/
def keeps (c x : Cal) (k i : Nat) : Bool := (c.done && decide (c.to_ < x.frm)) || (decide (c.th = x.th) && decide (k < i))
def MayTo (cs : List Cal) (left : List Bool) (i m : Nat) : Prop := ∀ k c x, k < m → cs[k]? = some c → cs[i]? = some x → left[k]? = some true → k ≠ i → keeps c x k i = false
/-- A call may come next. -/
def May (cs : List Cal) (left : List Bool) (i : Nat) : Prop := left[i]? = some true ∧ MayTo cs left i cs.length
def DoneTo (cs : List Cal) (left : List Bool) (m : Nat) : Prop := ∀ k c, k < m → cs[k]? = some c → left[k]? = some true → c.done = false
/-- No call is left that must be told. -/
def AllDone (cs : List Cal) (left : List Bool) : Prop := DoneTo cs left cs.length
noncomputable instance (cs : List Cal) (left : List Bool) (i : Nat) : Decidable (May cs left i) := Classical.propDecidable _
noncomputable instance (cs : List Cal) (left : List Bool) : Decidable (AllDone cs left) := Classical.propDecidable _
/-- What a call may be answered. -/
def resP (X : List PT) (c : Cal) (hs : List Int) : List (Int × Int) :=
  if c.done then [(c.code, c.num)] else if (ansP X c.d c.h c.off c.n).2.2 then [((ansP X c.d c.h c.off c.n).1, (ansP X c.d c.h c.off c.n).2.1)] else hs.map fun h => (0, h)
/-- There is an order of the calls that are left, from a map on. -/
inductive Ok (cs : List Cal) (hs : List Int) : List Bool → List PT → List Int → Prop
  | done {left : List Bool} {X : List PT} {T : List Int} : AllDone cs left → Ok cs hs left X T
  | step {left : List Bool} {X X' : List PT} {T T' : List Int} {i : Nat} {c : Cal} {r : Int × Int} : May cs left i → cs[i]? = some c → r ∈ resP X c hs → tryP (X, T) c.d c.h c.off c.n r.1 r.2 = (true, X', T') → Ok cs hs (left.set i false) X' T' → Ok cs hs left X T
noncomputable instance (cs : List Cal) (hs : List Int) (left : List Bool) (X : List PT) (T : List Int) : Decidable (Ok cs hs left X T) := Classical.propDecidable _
theorem resP_len (X : List PT) (c : Cal) (hs : List Int) : (resP X c hs).length ≤ hs.length + 1 := by
  unfold resP
  split
  · simp
  · split <;> simp
theorem resP_done {X : List PT} {c : Cal} {hs : List Int} (h : c.done = true) : resP X c hs = [(c.code, c.num)] := by simp [resP, h]
theorem resP_ans {X : List PT} {c : Cal} {hs : List Int} {a m : Int} (h : c.done = false) (ha : ansP X c.d c.h c.off c.n = (a, m, true)) : resP X c hs = [(a, m)] := by simp [resP, h, ha]
theorem resP_hs {X : List PT} {c : Cal} {hs : List Int} {a m : Int} (h : c.done = false) (ha : ansP X c.d c.h c.off c.n = (a, m, false)) : resP X c hs = hs.map fun h => (0, h) := by simp [resP, h, ha]

/-! ### what is found, step by step -/
theorem done_step {cs : List Cal} {left : List Bool} {i : Nat} {c : Cal} {b e : Bool} (hb : b = true ↔ DoneTo cs left i) (hc : cs[i]? = some c) (hl : left[i]? = some e) : (b && (!e || !c.done)) = true ↔ DoneTo cs left (i + 1) := by
  simp only [Bool.and_eq_true, Bool.or_eq_true, Bool.not_eq_true', hb]
  constructor
  · rintro ⟨h1, h2⟩ k c' hk hc' hl'
    rcases Nat.lt_succ_iff_lt_or_eq.1 hk with hk | rfl
    · exact h1 k c' hk hc' hl'
    · rw [hc] at hc'; rw [hl] at hl'; cases hc'; cases hl'
      simpa using h2
  · intro h
    refine ⟨fun k c' hk => h k c' (by omega), ?_⟩
    have := h i c (by omega) hc
    cases e
    · exact .inl rfl
    · exact .inr (this hl)
theorem done_no {cs : List Cal} {left : List Bool} {i : Nat} {c : Cal} (hc : cs[i]? = some c) (hl : left[i]? = some true) (hd : c.done = true) : ¬ AllDone cs left := fun h => by
  have := h i c (List.getElem?_eq_some_iff.1 hc).1 hc hl
  rw [hd] at this; cases this
theorem may_step {cs : List Cal} {left : List Bool} {i k : Nat} {c x : Cal} {e : Bool} (hx : cs[i]? = some x) (h : MayTo cs left i k) (hc : cs[k]? = some c) (hl : left[k]? = some e) (hk : e = true → k ≠ i → keeps c x k i = false) : MayTo cs left i (k + 1) := by
  intro k' c' x' hk' hc' hx' hl' hne
  rcases Nat.lt_succ_iff_lt_or_eq.1 hk' with hk' | rfl
  · exact h k' c' x' hk' hc' hx' hl' hne
  · rw [hc] at hc'; rw [hx] at hx'; rw [hl] at hl'; cases hc'; cases hx'; cases hl'
    exact hk rfl hne
theorem may_no {cs : List Cal} {left : List Bool} {i k : Nat} {c x : Cal} (hx : cs[i]? = some x) (hc : cs[k]? = some c) (hl : left[k]? = some true) (hne : k ≠ i) (h : keeps c x k i = true) : ¬ May cs left i := fun hm => by
  have := hm.2 k c x (List.getElem?_eq_some_iff.1 hc).1 hc hx hl hne
  rw [h] at this; cases this
theorem may_not {cs : List Cal} {left : List Bool} {i : Nat} (h : left[i]? = some false) : ¬ May cs left i := fun hm => by rw [hm.1] at h; cases h

/-! ### how many are left -/
def cntL (left : List Bool) : Nat := left.count true
theorem cnt_set {left : List Bool} {i : Nat} (h : left[i]? = some true) : cntL (left.set i false) + 1 = cntL left := by
  induction left generalizing i with
  | nil => simp at h
  | cons b l ih =>
    cases i with
    | zero => simp at h; subst h; simp [cntL]
    | succ i =>
      have := ih (i := i) (by simpa using h)
      simp only [cntL, List.set_cons_succ, List.count_cons] at this ⊢
      omega
/-- Which calls were tried, and none was one: ahead of a place, and of that place's call the first answers. -/
def NoTo (cs : List Cal) (hs : List Int) (left : List Bool) (X : List PT) (T : List Int) (m : Nat) : Prop :=
  ∀ i c r X' T', i < m → cs[i]? = some c → May cs left i → r ∈ resP X c hs → tryP (X, T) c.d c.h c.off c.n r.1 r.2 = (true, X', T') → ¬ Ok cs hs (left.set i false) X' T'
def NoAt (cs : List Cal) (hs : List Int) (left : List Bool) (X : List PT) (T : List Int) (i : Nat) (c : Cal) (m : Nat) : Prop :=
  ∀ j r X' T', j < m → (resP X c hs)[j]? = some r → tryP (X, T) c.d c.h c.off c.n r.1 r.2 = (true, X', T') → ¬ Ok cs hs (left.set i false) X' T'
section
variable {cs : List Cal} {hs : List Int} {left : List Bool} {X X' : List PT} {T T' : List Int} {i j m : Nat} {c : Cal} {r : Int × Int}
theorem ok_no (hd : ¬ AllDone cs left) (h : NoTo cs hs left X T cs.length) : ¬ Ok cs hs left X T := fun hk => by
  cases hk with
  | done h1 => exact hd h1
  | step h1 h2 h3 h4 h5 => exact h _ _ _ _ _ (List.getElem?_eq_some_iff.1 h2).1 h2 h1 h3 h4 h5
theorem noTo_skip (h : NoTo cs hs left X T i) (hm : ¬ May cs left i) : NoTo cs hs left X T (i + 1) := fun i' c' r X' T' hi hc hM => by
  rcases Nat.lt_succ_iff_lt_or_eq.1 hi with hi | rfl
  · exact h i' c' r X' T' hi hc hM
  · exact absurd hM hm
theorem noTo_all (h : NoTo cs hs left X T i) (hc : cs[i]? = some c) (ha : NoAt cs hs left X T i c (resP X c hs).length) : NoTo cs hs left X T (i + 1) := fun i' c' r X' T' hi hc' hM hr => by
  rcases Nat.lt_succ_iff_lt_or_eq.1 hi with hi | rfl
  · exact h i' c' r X' T' hi hc' hM hr
  · rw [hc] at hc'; cases hc'
    obtain ⟨j, hj, rfl⟩ := List.getElem_of_mem hr
    exact ha j _ X' T' hj (List.getElem?_eq_getElem hj)
theorem noAt_step (h : NoAt cs hs left X T i c j) (hr : (resP X c hs)[j]? = some r) (hn : ∀ X' T', tryP (X, T) c.d c.h c.off c.n r.1 r.2 = (true, X', T') → ¬ Ok cs hs (left.set i false) X' T') : NoAt cs hs left X T i c (j + 1) := fun j' r' X' T' hj hr' ht => by
  rcases Nat.lt_succ_iff_lt_or_eq.1 hj with hj | rfl
  · exact h j' r' X' T' hj hr' ht
  · rw [hr] at hr'; cases hr'
    exact hn X' T' ht
theorem ok_yes (hM : May cs left i) (hc : cs[i]? = some c) (hr : (resP X c hs)[j]? = some r) (ht : tryP (X, T) c.d c.h c.off c.n r.1 r.2 = (true, X', T')) (hk : Ok cs hs (left.set i false) X' T') : Ok cs hs left X T := .step hM hc (List.mem_of_getElem? hr) ht hk
end
/-- Only which handles there are is of moment. -/
theorem ok_hs {cs : List Cal} {hs hs' : List Int} (h : ∀ x, x ∈ hs → x ∈ hs') {left : List Bool} {X : List PT} {T : List Int} (hk : Ok cs hs left X T) : Ok cs hs' left X T := by
  induction hk with
  | done h1 => exact .done h1
  | @step left X X' T T' i c r h1 h2 h3 h4 _ ih =>
    refine .step h1 h2 ?_ h4 ih
    unfold resP at h3 ⊢
    split
    · rename_i hd; rw [if_pos hd] at h3; exact h3
    · rename_i hd
      rw [if_neg hd] at h3
      split
      · rename_i ha; rw [if_pos ha] at h3; exact h3
      · rename_i ha
        rw [if_neg ha] at h3
        obtain ⟨y, hy, rfl⟩ := List.mem_map.1 h3
        exact List.mem_map_of_mem (h y hy)
theorem putSP_len (x : PT) : ∀ (L : List PT) (o : List PT) (l : Bool), (L.foldl (putSP x) (o, l)).1.length ≤ o.length + L.length + (if l then 0 else 1) ∧ ((L.foldl (putSP x) (o, l)).2 = false → (L.foldl (putSP x) (o, l)).1.length ≤ o.length + L.length)
  | [], o, l => by cases l <;> simp
  | t :: L, o, l => by
    simp only [List.foldl_cons]
    obtain ⟨h1, h2⟩ := putSP_len x L (putSP x (o, l) t).1 (putSP x (o, l) t).2
    have e : putSP x (o, l) t = ((putSP x (o, l) t).1, (putSP x (o, l) t).2) := rfl
    rw [e]
    have h3 : (putSP x (o, l) t).1.length + (if (putSP x (o, l) t).2 then 0 else 1) ≤ o.length + 1 + (if l then 0 else 1) ∧ ((putSP x (o, l) t).2 = false → (putSP x (o, l) t).1.length ≤ o.length + 1) := by
      unfold putSP
      cases l <;> by_cases a : t.h = x.h <;> by_cases b : x.h ≤ t.h <;> simp [a, b]
    simp only [List.length_cons]
    refine ⟨by omega, fun h => ?_⟩
    have h4 := h2 h
    by_cases h5 : (putSP x (o, l) t).2 = true
    · rw [h5] at h
      have : ∀ (L : List PT) (o : List PT), (L.foldl (putSP x) (o, true)).2 = true := by
        intro L
        induction L with
        | nil => intro o; rfl
        | cons t L ih => intro o; simp only [List.foldl_cons]; have := ih (putSP x (o, true) t).1; simpa [putSP] using this
      rw [this] at h; cases h
    · have := h3.2 (by simpa using h5)
      omega
theorem putP_len (x : PT) (L : List PT) : (putP x L).length ≤ L.length + 1 := by
  unfold putP
  obtain ⟨h1, h2⟩ := putSP_len x L [] (decide ((x.b.length : Int) = 0))
  dsimp only
  split
  · simp only [List.length_nil] at h1
    split at h1 <;> omega
  · rename_i h
    have := h2 (by simpa using h)
    simp only [List.length_append, List.length_singleton, List.length_nil] at this ⊢
    omega
theorem try_lenX {X X' : List PT} {T T' : List Int} {d h off n code num : Int} {b : Bool} (hr : tryP (X, T) d h off n code num = (b, X', T')) : X'.length ≤ X.length + 1 := by
  have h2 : X' = (tryP (X, T) d h off n code num).2.1 := by rw [hr]
  rw [h2]
  unfold tryP
  dsimp only
  repeat' split
  all_goals (first | exact putP_len _ _ | exact Nat.le_succ _ | skip)
end Go.Sd
