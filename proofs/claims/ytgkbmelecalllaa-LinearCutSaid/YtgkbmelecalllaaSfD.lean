/-
  The calls of a history that is cut off.
-/
import Derived.Test.YtgkbmelecalllaaSfC
import Derived.Test.YtgkbmelecalllaaSfB
set_option linter.unusedSectionVars false
set_option linter.unusedSimpArgs false
set_option linter.unusedVariables false
namespace Go.Sd
open Go Go.Proofs
variable [Str]
section
variable {l : List Ev} {m : Nat}
theorem take_at (hm : m ≤ l.length) {i : Nat} (hi : i < m) : (l.take m)[i]? = l[i]? := by rw [List.getElem?_take, if_pos hi]
theorem take_len (hm : m ≤ l.length) : (l.take m).length = m := by rw [List.length_take]; omega
theorem turn_take (hm : m ≤ l.length) {t : Int} {i : Nat} (hi : i ≤ m) : turnI (l.take m) t i = turnI l t i := by
  unfold turnI
  rw [List.take_take, Nat.min_eq_left hi]
theorem check_take (hm : m ≤ l.length) (h : checkL l = 0) : checkL (l.take m) = 0 := by
  have hok : okL l := by
    unfold checkL at h
    split at h
    · assumption
    · cases h
  refine checkL_yes fun j e hj he => ?_
  rw [take_len hm] at hj
  rw [take_at hm hj] at he
  have := hok j e he
  unfold okE at this ⊢
  rw [turn_take hm (by omega)]
  exact this
theorem next_take (hm : m ≤ l.length) (t : Int) : ∀ (d i : Nat), m - i ≤ d → i ≤ m → nextI (l.take m) t i = if nextI l t i < m then nextI l t i else m
  | 0, i, hd, hi => by
    have hi' : i = m := by omega
    subst hi'
    have h1 := nextI_le (l := l) (t := t) (i := i) hm
    rw [nextI_end (by rw [take_len hm]; omega), take_len hm, if_neg (by omega)]
  | d + 1, i, hd, hi => by
    rcases Nat.lt_or_eq_of_le hi with h | h
    · obtain ⟨e, he⟩ : ∃ e, l[i]? = some e := ⟨_, List.getElem?_eq_getElem (by omega)⟩
      have he' : (l.take m)[i]? = some e := by rw [take_at hm h, he]
      by_cases ht : e.th = t
      · rw [nextI_here he' ht, nextI_here he ht, if_pos h]
      · rw [nextI_on he' ht, nextI_on he ht]
        exact next_take hm t d (i + 1) (by omega) (by omega)
    · subst h
      have h1 := nextI_le (l := l) (t := t) (i := i) hm
      rw [nextI_end (by rw [take_len hm]; omega), take_len hm, if_neg (by omega)]
theorem callOf_take (hm : m ≤ l.length) {i : Nat} {e : Ev} (hi : i < m) : callOf (l.take m) i e = cutM m (callOf l i e) := by
  have h1 := next_take hm e.th _ (i + 1) (Nat.le_refl _) (by omega)
  have h2 := nextI_le (l := l) (t := e.th) (i := i + 1) (by omega)
  have h3 : (callOf l i e).to_ = nextI l e.th (i + 1) := callOf_to.1
  unfold cutM
  rw [h3]
  by_cases h : nextI l e.th (i + 1) < m
  · rw [if_pos h] at h1
    rw [if_pos (by omega)]
    unfold callOf
    rw [h1, take_at hm h]
  · rw [if_neg h] at h1
    rw [if_neg (by omega)]
    have h4 : (l.take m)[m]? = none := List.getElem?_eq_none (by rw [take_len hm]; omega)
    obtain ⟨g1, g2, g3, _, g4, g5, g6, g7⟩ := callOf_to (l := l) (i := i) (e := e)
    rw [g2, g3, g4, g5, g6, g7]
    unfold callOf
    rw [h1, h4]
theorem calls_take (hm : m ≤ l.length) : ∀ {i : Nat}, i ≤ m → callsI (l.take m) i = (callsI l i).map (cutM m)
  | 0, _ => rfl
  | i + 1, hi => by
    simp only [callsI, take_at hm (show i < m from by omega), calls_take hm (i := i) (by omega), List.map_append]
    split
    · split
      · rfl
      · simp [callOf_take hm (show i < m from by omega)]
    · rfl
theorem calls_more : ∀ (j : Nat), ∃ R, callsI l (m + j) = callsI l m ++ R ∧ ∀ c ∈ R, (m : Int) ≤ c.frm
  | 0 => ⟨[], by simp, fun c h => by cases h⟩
  | j + 1 => by
    obtain ⟨R, h1, h2⟩ := calls_more j
    rw [← Nat.add_assoc]
    simp only [callsI, h1]
    split
    · rename_i e he
      split
      · exact ⟨R, by simp, h2⟩
      · refine ⟨R ++ [callOf l (m + j) e], by simp, fun c hc => ?_⟩
        rcases List.mem_append.1 hc with hc | hc
        · exact h2 c hc
        · rw [List.mem_singleton.1 hc, callOf_to.2.2.1]
          omega
    · exact ⟨R, by simp, h2⟩
theorem calls_sorted : ∀ {i k k' : Nat} {c c' : Cal}, (callsI l i)[k]? = some c → (callsI l i)[k']? = some c' → k < k' → c.frm < c'.frm
  | 0, k, _, c, _, h, _, _ => by simp [callsI] at h
  | i + 1, k, k', c, c', h, h', hk => by
    have key : ∀ {k : Nat} {c : Cal}, (callsI l (i + 1))[k]? = some c → (callsI l i)[k]? = some c ∧ c.frm < (i : Int) ∨ k = (callsI l i).length ∧ c.frm = (i : Int) := by
      intro k c h
      simp only [callsI] at h
      rcases Nat.lt_or_ge k (callsI l i).length with hk | hk
      · rw [List.getElem?_append_left hk] at h
        obtain ⟨j, e, h1, h2, h3, rfl⟩ := callsI_mem h
        exact .inl ⟨h, by rw [callOf_to.2.2.1]; omega⟩
      · rw [List.getElem?_append_right hk] at h
        split at h
        · rename_i e he
          split at h
          · simp at h
          · cases hk0 : k - (callsI l i).length with
            | zero =>
              rw [hk0] at h
              simp at h
              exact .inr ⟨by omega, by rw [← h, callOf_to.2.2.1]⟩
            | succ m => rw [hk0] at h; simp at h
        · simp at h
    rcases key h with ⟨h1, h2⟩ | ⟨h1, h2⟩ <;> rcases key h' with ⟨h3, h4⟩ | ⟨h3, h4⟩
    · exact calls_sorted h1 h3 hk
    · omega
    · have := (List.getElem?_eq_some_iff.1 h3).1; omega
    · omega
theorem turn_next {t : Int} : ∀ (d i : Nat), l.length - i ≤ d → turnI l t (nextI l t i) = turnI l t i ∨ l.length < i
  | 0, i, hd => by
    by_cases h : i = l.length
    · subst h; left; rw [nextI_end (Nat.le_refl _)]
    · right; omega
  | d + 1, i, hd => by
    by_cases h : i < l.length
    · obtain ⟨e, he⟩ : ∃ e, l[i]? = some e := ⟨_, List.getElem?_eq_getElem h⟩
      by_cases ht : e.th = t
      · left; rw [nextI_here he ht]
      · rw [nextI_on he ht]
        rcases turn_next d (i + 1) (by omega) with h1 | h1
        · left; rw [h1, turnI_succ he, if_neg ht]; rfl
        · omega
    · by_cases h : i = l.length
      · subst h; left; rw [nextI_end (Nat.le_refl _)]
      · right; omega
theorem cuts_of (hm : m ≤ l.length) (hch : checkL l = 0) : Cuts (fun x => x ∈ handR (l.take m) (l.take m).length) m (callsI l l.length) (callsI (l.take m) (l.take m).length) := by
  have hok : okL l := by
    unfold checkL at hch
    split at hch
    · assumption
    · cases hch
  have hmem : ∀ x, x ∈ handR (l.take m) (l.take m).length ↔ x ∈ (l.take m).map hOf := fun x => by
    have := (handR_mem (l.take m) (l.take m).length (Nat.le_refl _)).1 x
    rwa [List.take_length] at this
  have hcs' : callsI (l.take m) (l.take m).length = (callsI l m).map (cutM m) := by rw [take_len hm]; exact calls_take hm (Nat.le_refl m)
  obtain ⟨R, hR, hRf⟩ := calls_more (l := l) (m := m) (l.length - m)
  rw [show m + (l.length - m) = l.length from by omega] at hR
  have hn : (callsI (l.take m) (l.take m).length).length = (callsI l m).length := by rw [hcs', List.length_map]
  constructor
  · intro k hk
    rw [hn] at hk
    obtain ⟨c, hc⟩ : ∃ c, (callsI l m)[k]? = some c := ⟨_, List.getElem?_eq_getElem hk⟩
    obtain ⟨j, e, h1, h2, h3, rfl⟩ := callsI_mem hc
    obtain ⟨g1, g2, g3, g0, g4, g5, g6, g7⟩ := callOf_to (l := l) (i := j) (e := e)
    refine ⟨callOf l j e, by rw [hR, List.getElem?_append_left hk]; exact hc, by rw [hcs', List.getElem?_map, hc]; rfl, by rw [g3]; omega, ?_, fun hto => ?_⟩
    · rw [hmem]
      refine List.mem_map.2 ⟨e, List.mem_of_getElem? (i := j) (by rw [take_at hm h1]; exact h2), ?_⟩
      rw [g5]
      simp [hOf, h3]
    · rw [g1] at hto
      have hlt : nextI l e.th (j + 1) < m := by omega
      obtain ⟨r, hr⟩ : ∃ r, l[nextI l e.th (j + 1)]? = some r := ⟨_, List.getElem?_eq_getElem (by omega)⟩
      refine ⟨?_, g0.2 (by omega)⟩
      have hrt : r.th = e.th := nextI_th (l := l) (t := e.th) _ (j + 1) (Nat.le_refl _) r hr
      have hnum : (callOf l j e).num = r.num := by unfold callOf; rw [hr]
      have hback : r.back = true := by
        have o1 := hok _ r hr
        have o2 := hok _ e h2
        have t1 := turnI_succ (t := e.th) h2
        rw [if_pos rfl] at t1
        have t2 : turnI l e.th (nextI l e.th (j + 1)) = turnI l e.th (j + 1) := by
          rcases turn_next (l := l) (t := e.th) _ (j + 1) (Nat.le_refl _) with h | h
          · exact h
          · omega
        unfold okE at o1 o2
        rw [hrt, t2, t1] at o1
        simp only [Bool.and_eq_true, Bool.not_eq_true', Bool.or_eq_false_iff, bne_eq_false_iff_eq] at o1 o2
        have p1 := o1.1.1.2
        have p2 := o2.1.1.2
        rw [h3] at p2
        have p3 : ¬ ((turnI l e.th j : Int).tmod 2 = 1) := by
          intro h
          rw [decide_eq_true h] at p2
          cases p2
        rw [tmod2] at p3
        rw [p1]
        refine decide_eq_true ?_
        rw [tmod2]
        omega
      rw [hmem, hnum]
      refine List.mem_map.2 ⟨r, List.mem_of_getElem? (i := nextI l e.th (j + 1)) (by rw [take_at hm hlt]; exact hr), ?_⟩
      simp [hOf, hback]
  · intro k c hk hc
    rw [hn] at hk
    rw [hR, List.getElem?_append_right hk] at hc
    exact hRf c (List.mem_of_getElem? hc)
  · intro k k' c c' hk hc hc' ht
    have hs := calls_sorted hc hc' hk
    obtain ⟨j, e, h1, h2, h3, rfl⟩ := callsI_mem hc
    obtain ⟨j', e', h1', h2', h3', rfl⟩ := callsI_mem hc'
    rw [callOf_to.2.2.1, callOf_to.2.2.1] at hs
    rw [callOf_to.2.1, callOf_to.2.1] at ht
    rw [callOf_to.1, callOf_to.2.2.1]
    have : ¬ j' < nextI l e.th (j + 1) := fun h => nextI_gap (l := l) (t := e.th) _ (j + 1) (Nat.le_refl _) j' e' (by omega) h h2' ht.symm
    omega
theorem acc_take (hm : m ≤ l.length) (h : AccP l) : AccP (l.take m) := by
  obtain ⟨h1, h2⟩ := h
  have hC := cuts_of hm h1
  refine ⟨check_take hm h1, cut_sim hC (fun x hx => hx) h2 _ _ _ ⟨by simp, fun k hk h => ?_, fun k c hk h hc => .inl ?_⟩ ⟨fun _ _ => rfl, fun _ _ => Iff.rfl⟩⟩
  · rw [List.getElem?_replicate_of_lt hk]
  · rw [List.getElem?_replicate_of_lt (List.getElem?_eq_some_iff.1 hc).1]
end
end Go.Sd
