/-
  The program's calls of a history, in plain words: a fold over its events; it is what the document says.
-/
import Derived.Test.YtgkbmelecalllaaSe1
import Derived.Test.YtgkbmelecalllaaSf1
set_option linter.unusedSectionVars false
set_option linter.unusedSimpArgs false
set_option linter.unusedVariables false
namespace Go.Sd
open Go Go.Proofs
variable [Str]

def W0 : Int → Int := fun _ => 0
/-- One event, by the program. -/
def stepE (n : Nat) (cs : List Cal) (W : Int → Int) (i : Nat) (e : Ev) : Option (List Cal × (Int → Int)) :=
  if e.th < 0 ∨ 4 ≤ e.th then none else
  if e.back = !decide (-1 < W e.th - 1) then none else
  if e.back then (if e.d = 0 ∧ e.h = 0 ∧ e.off = 0 ∧ e.n = 0 then some (cs.modify (W e.th - 1).toNat fun c => ⟨c.th, c.d, c.h, c.off, c.n, e.code, e.num, true, c.frm, i⟩, upd W e.th 0) else none)
  else if e.code = 0 ∧ e.num = 0 then some (cs ++ [⟨e.th, e.d, e.h, e.off, e.n, 0, 0, false, i, n⟩], upd W e.th (cs.length + 1)) else none
def foldE (l : List Ev) : Nat → Option (List Cal × (Int → Int))
  | 0 => some ([], W0)
  | i + 1 => match foldE l i, l[i]? with
    | some (cs, W), some e => stepE l.length cs W i e
    | _, _ => none
theorem foldE_succ {l : List Ev} {i : Nat} {cs : List Cal} {W : Int → Int} {e : Ev} (h : foldE l i = some (cs, W)) (he : l[i]? = some e) : foldE l (i + 1) = stepE l.length cs W i e := by
  simp [foldE, h, he]
theorem foldE_none {l : List Ev} {i : Nat} (h : foldE l i = none) : ∀ k, i ≤ k → foldE l k = none := by
  intro k hk
  induction k with
  | zero =>
    have : i = 0 := by omega
    subst this
    exact h
  | succ k ih =>
    by_cases hik : i = k + 1
    · subst hik; exact h
    · rw [foldE, ih (by omega)]
/-- Each thread's call that waits is one of those that there are. -/
def WOk (cs : List Cal) (W : Int → Int) : Prop := ∀ t, 0 ≤ W t ∧ W t ≤ cs.length
theorem WOk.start : WOk [] W0 := fun t => ⟨Int.le_refl _, Int.le_refl _⟩
theorem foldE_ok {l : List Ev} : ∀ {i : Nat} {cs : List Cal} {W : Int → Int}, foldE l i = some (cs, W) → WOk cs W ∧ cs.length ≤ i
  | 0, cs, W, h => by
    simp only [foldE, Option.some.injEq, Prod.mk.injEq] at h
    obtain ⟨rfl, rfl⟩ := h
    exact ⟨WOk.start, Nat.le_refl _⟩
  | i + 1, cs, W, h => by
    simp only [foldE] at h
    split at h
    · rename_i cs' W' e h1 h2
      obtain ⟨hw, hl⟩ := foldE_ok h1
      unfold stepE at h
      repeat' (split at h)
      all_goals (first | cases h | skip)
      · refine ⟨fun t => ?_, by simpa using Nat.le_succ_of_le hl⟩
        simp only [upd, List.length_modify]
        split
        · exact ⟨Int.le_refl _, by omega⟩
        · exact hw t
      · refine ⟨fun t => ?_, by simpa using hl⟩
        have := hw t
        simp only [upd, List.length_append, List.length_singleton]
        split <;> omega
    · cases h

/-- The calls that the first i events tell, as far as they are answered by then. -/
def cutC (l : List Ev) (i : Nat) (c : Cal) : Cal := if c.to_ < i then c else ⟨c.th, c.d, c.h, c.off, c.n, 0, 0, false, c.frm, l.length⟩
theorem callOf_to {l : List Ev} {i : Nat} {e : Ev} : (callOf l i e).to_ = nextI l e.th (i + 1) ∧ (callOf l i e).th = e.th ∧ (callOf l i e).frm = i ∧ ((callOf l i e).done = true ↔ nextI l e.th (i + 1) < l.length) ∧ (callOf l i e).d = e.d ∧ (callOf l i e).h = e.h ∧ (callOf l i e).off = e.off ∧ (callOf l i e).n = e.n := by
  unfold callOf
  split
  · rename_i r h
    have := (List.getElem?_eq_some_iff.1 h).1
    exact ⟨rfl, rfl, rfl, by simpa using this, rfl, rfl, rfl, rfl⟩
  · rename_i h
    have := List.getElem?_eq_none_iff.1 h
    exact ⟨rfl, rfl, rfl, by simpa using this, rfl, rfl, rfl, rfl⟩
theorem nextI_ge {l : List Ev} {t : Int} : ∀ (m i : Nat), l.length - i ≤ m → i ≤ l.length → i ≤ nextI l t i ∧ nextI l t i ≤ l.length
  | 0, i, h, hi => by rw [nextI_end (by omega)]; omega
  | m + 1, i, h, hi => by
    rw [nextI]
    split
    · split
      · omega
      · have := nextI_ge (l := l) (t := t) m (i + 1) (by omega) (by omega); omega
    · omega
theorem nextI_le {l : List Ev} {t : Int} {i : Nat} (hi : i ≤ l.length) : i ≤ nextI l t i ∧ nextI l t i ≤ l.length := nextI_ge _ i (Nat.le_refl _) hi
theorem nextI_th {l : List Ev} {t : Int} : ∀ (m i : Nat), l.length - i ≤ m → ∀ e, l[nextI l t i]? = some e → e.th = t
  | 0, i, h, e, he => by rw [nextI_end (by omega)] at he; simp at he
  | m + 1, i, h, e, he => by
    rw [nextI] at he
    split at he
    · split at he
      · rename_i h1 h2
        rw [List.getElem?_eq_getElem h1] at he
        cases he; exact h2
      · exact nextI_th m (i + 1) (by omega) e he
    · simp at he
/-- Nothing of the thread lies between. -/
theorem nextI_gap {l : List Ev} {t : Int} : ∀ (m i : Nat), l.length - i ≤ m → ∀ k e, i ≤ k → k < nextI l t i → l[k]? = some e → e.th ≠ t
  | 0, i, h, k, e, h1, h2, he => by rw [nextI_end (by omega)] at h2; omega
  | m + 1, i, h, k, e, h1, h2, he => by
    rw [nextI] at h2
    split at h2
    · rename_i h3
      split at h2
      · omega
      · rename_i h4
        by_cases hk : k = i
        · subst hk; rw [List.getElem?_eq_getElem h3] at he; cases he; exact h4
        · exact nextI_gap m (i + 1) (by omega) k e (by omega) h2 he
    · have := (List.getElem?_eq_some_iff.1 he).1; omega
/-- What a call of the list is. -/
theorem callsI_mem {l : List Ev} : ∀ {i k : Nat} {c : Cal}, (callsI l i)[k]? = some c → ∃ j e, j < i ∧ l[j]? = some e ∧ e.back = false ∧ c = callOf l j e
  | 0, k, c, h => by simp [callsI] at h
  | i + 1, k, c, h => by
    simp only [callsI] at h
    rcases Nat.lt_or_ge k (callsI l i).length with hk | hk
    · rw [List.getElem?_append_left hk] at h
      obtain ⟨j, e, h1, h2⟩ := callsI_mem h
      exact ⟨j, e, by omega, h2⟩
    · rw [List.getElem?_append_right hk] at h
      split at h
      · rename_i e he
        split at h
        · simp at h
        · rename_i hb
          cases hk0 : k - (callsI l i).length with
          | zero =>
            rw [hk0] at h
            simp at h
            exact ⟨i, e, by omega, he, by simpa using hb, h.symm⟩
          | succ m => rw [hk0] at h; simp at h
      · simp at h
/-- Two calls that begin at one place are one. -/
theorem callsI_inj {l : List Ev} : ∀ {i k k' : Nat} {c c' : Cal}, (callsI l i)[k]? = some c → (callsI l i)[k']? = some c' → c.frm = c'.frm → k = k'
  | 0, k, _, c, _, h, _, _ => by simp [callsI] at h
  | i + 1, k, k', c, c', h, h', he => by
    have key : ∀ {k c}, (callsI l (i + 1))[k]? = some c → (callsI l i)[k]? = some c ∧ c.frm < (i : Int) ∨ k = (callsI l i).length ∧ c.frm = (i : Int) := by
      intro k c h
      simp only [callsI] at h
      rcases Nat.lt_or_ge k (callsI l i).length with hk | hk
      · rw [List.getElem?_append_left hk] at h
        obtain ⟨j, e, h1, h2, h3, rfl⟩ := callsI_mem h
        exact .inl ⟨h, by rw [callOf_to.2.2.1]; omega⟩
      · rw [List.getElem?_append_right hk] at h
        split at h
        · rename_i e he
          split at h
          · simp at h
          · cases hk0 : k - (callsI l i).length with
            | zero =>
              rw [hk0] at h
              simp at h
              exact .inr ⟨by omega, by rw [← h, callOf_to.2.2.1]⟩
            | succ m => rw [hk0] at h; simp at h
        · simp at h
    rcases key h with ⟨h1, h2⟩ | ⟨h1, h2⟩ <;> rcases key h' with ⟨h3, h4⟩ | ⟨h3, h4⟩
    · exact callsI_inj h1 h3 he
    · omega
    · omega
    · omega

theorem tmod2 (n : Nat) : ((n : Int).tmod 2 = 1) ↔ n % 2 = 1 := by
  rw [Int.tmod_eq_emod_of_nonneg (by omega)]
  omega
structure CInv (l : List Ev) (i : Nat) (cs : List Cal) (W : Int → Int) : Prop where
  ok : ∀ j e, j < i → l[j]? = some e → okE l j e = true
  cs : cs = (callsI l i).map (cutC l i)
  par : ∀ t, turnI l t i % 2 = 1 ↔ W t ≠ 0
  wait : ∀ t (k : Nat) c, (callsI l i)[k]? = some c → c.th = t → (i : Int) ≤ c.to_ → W t = k + 1
  has : ∀ t, W t ≠ 0 → ∃ (k : Nat) (c : Cal), W t = k + 1 ∧ (callsI l i)[k]? = some c ∧ c.th = t ∧ (i : Int) ≤ c.to_
theorem stepE_bad {l : List Ev} {i : Nat} {cs : List Cal} {W : Int → Int} {e : Ev} (hw : WOk cs W) (hp : turnI l e.th i % 2 = 1 ↔ W e.th ≠ 0) : okE l i e = false ↔ stepE l.length cs W i e = none := by
  have h0 := (hw e.th).1
  have h1 : decide ((turnI l e.th i : Int).tmod 2 = 1) = decide (-1 < W e.th - 1) := by
    apply Bool.eq_iff_iff.2
    simp only [decide_eq_true_eq, tmod2, hp]
    omega
  unfold okE stepE
  rw [h1]
  by_cases a1 : e.th < 0
  · simp [a1]
  by_cases a2 : 3 < e.th
  · have a3 : 4 ≤ e.th := by omega
    simp [a2, a3]
  have a3 : ¬ 4 ≤ e.th := by omega
  cases hb : e.back <;> by_cases a4 : -1 < W e.th - 1 <;> simp only [a1, a2, a3, a4, decide_true, decide_false] <;> simp
theorem callsI_at {l : List Ev} {i k : Nat} {c : Cal} (h : (callsI l i)[k]? = some c) (hi : i ≤ l.length) : ∃ j e, j < i ∧ l[j]? = some e ∧ c = callOf l j e ∧ c.frm = (j : Int) ∧ c.th = e.th ∧ c.to_ = (nextI l e.th (j + 1) : Int) := by
  obtain ⟨j, e, h1, h2, _, rfl⟩ := callsI_mem h
  exact ⟨j, e, h1, h2, rfl, callOf_to.2.2.1, callOf_to.2.1, callOf_to.1⟩
theorem toI_th {l : List Ev} {i k : Nat} {c : Cal} {e : Ev} (h : (callsI l i)[k]? = some c) (hi : l[i]? = some e) (ht : c.to_ = (i : Int)) : e.th = c.th := by
  have hl := (List.getElem?_eq_some_iff.1 hi).1
  obtain ⟨j, e', h1, h2, rfl, h4, h5, h6⟩ := callsI_at h (by omega)
  rw [h5]
  rw [h6] at ht
  have : nextI l e'.th (j + 1) = i := by omega
  exact nextI_th (l := l) (t := e'.th) _ (j + 1) (Nat.le_refl _) e (by rw [this]; exact hi)
theorem to_at {l : List Ev} {i k : Nat} {c : Cal} {e : Ev} (h : (callsI l i)[k]? = some c) (hi : l[i]? = some e) (ht : c.th = e.th) (hle : (i : Int) ≤ c.to_) : c.to_ = (i : Int) := by
  have hl := (List.getElem?_eq_some_iff.1 hi).1
  obtain ⟨j, e', h1, h2, rfl, h4, h5, h6⟩ := callsI_at h (by omega)
  rw [h6] at hle ⊢
  have h7 : ¬ i < nextI l e'.th (j + 1) := fun h8 => nextI_gap (l := l) (t := e'.th) _ (j + 1) (Nat.le_refl _) i e (by omega) h8 hi (by rw [← ht, h5])
  omega
theorem cutC_same {l : List Ev} {i : Nat} {c : Cal} (h : c.to_ ≠ (i : Int)) : cutC l (i + 1) c = cutC l i c := by
  unfold cutC
  by_cases h1 : c.to_ < (i : Int)
  · rw [if_pos h1, if_pos (by omega)]
  · rw [if_neg h1, if_neg (by omega)]
theorem foldE_inv {l : List Ev} : ∀ {i : Nat}, i ≤ l.length → (∃ cs W, foldE l i = some (cs, W) ∧ CInv l i cs W) ∨ (foldE l i = none ∧ ∃ j e, j < i ∧ l[j]? = some e ∧ okE l j e = false)
  | 0, _ => .inl ⟨[], W0, rfl, fun j e h => by omega, rfl, fun t => by simp [turnI, W0], fun t k c h => by simp [callsI] at h, fun t h => absurd rfl h⟩
  | i + 1, hi => by
    rcases foldE_inv (l := l) (i := i) (by omega) with ⟨cs, W, hf, hI⟩ | ⟨hf, j, e, h1, h2⟩
    · obtain ⟨e, he⟩ : ∃ e, l[i]? = some e := ⟨_, List.getElem?_eq_getElem (by omega)⟩
      have hw := (foldE_ok hf).1
      rw [foldE_succ hf he]
      cases hs : stepE l.length cs W i e with
      | none => exact .inr ⟨rfl, i, e, by omega, he, (stepE_bad hw (hI.par _)).2 hs⟩
      | some r =>
        refine .inl ⟨r.1, r.2, rfl, ?_⟩
        have hok : okE l i e = true := by
          cases hk : okE l i e with
          | true => rfl
          | false => rw [(stepE_bad hw (hI.par _)).1 hk] at hs; cases hs
        have hoks : ∀ j u, j < i + 1 → l[j]? = some u → okE l j u = true := fun j u hj hu => by
          rcases Nat.lt_succ_iff_lt_or_eq.1 hj with hj | rfl
          · exact hI.ok j u hj hu
          · rw [he] at hu; cases hu; exact hok
        have hsame : ∀ (k : Nat) c, (callsI l i)[k]? = some c → (c.th = e.th → W e.th ≠ k + 1) → cutC l (i + 1) c = cutC l i c := fun k c hc hne => cutC_same fun ht => by
          have h1 := toI_th hc he ht
          exact hne h1.symm (hI.wait _ k c hc h1.symm (by omega))
        have hpar' : ∀ t, t ≠ e.th → turnI l t (i + 1) = turnI l t i := fun t ht => by rw [turnI_succ he, if_neg (fun h => ht h.symm)]; rfl
        have hpar : turnI l e.th (i + 1) = turnI l e.th i + 1 := by rw [turnI_succ he, if_pos rfl]
        unfold stepE at hs
        split at hs
        · cases hs
        split at hs
        · cases hs
        rename_i hb0
        split at hs
        · rename_i hb
          split at hs
          · cases hs
            rw [hb] at hb0
            have hW : W e.th ≠ 0 := by
              simp at hb0
              omega
            obtain ⟨k, c, h1, h2, h3, h4⟩ := hI.has _ hW
            have hcs := callsI_back he hb
            have hto := to_at h2 he h3 h4
            refine ⟨hoks, ?_, fun t => ?_, fun t k' c' hc' ht' hle => ?_, fun t ht => ?_⟩
            · dsimp only
              rw [hcs, hI.cs]
              have hk : (W e.th - 1).toNat = k := by omega
              rw [hk]
              apply List.ext_getElem?
              intro m
              rw [List.getElem?_modify, List.getElem?_map, List.getElem?_map]
              cases hm : (callsI l i)[m]? with
              | none => simp
              | some c' =>
                simp only [Option.map_some, Option.map_eq_map, Option.some.injEq]
                by_cases hmk : k = m
                · subst hmk
                  rw [h2] at hm
                  cases hm
                  rw [if_pos rfl]
                  obtain ⟨j, e', g1, g2, g3, g4, g5, g6⟩ := callsI_at h2 (by omega)
                  have hn : nextI l e'.th (j + 1) = i := by omega
                  have hc1 := callOf_done hn he
                  have e1 : cutC l (i + 1) c = c := by unfold cutC; rw [if_pos (by omega)]
                  have e2 : cutC l i c = ⟨c.th, c.d, c.h, c.off, c.n, 0, 0, false, c.frm, l.length⟩ := by unfold cutC; rw [if_neg (by omega)]
                  rw [e1, e2, g3, hc1]
                · rw [if_neg hmk]
                  refine (hsame m c' hm (fun _ h => hmk (by omega))).symm
            · by_cases ht : t = e.th
              · subst ht
                rw [hpar]
                have := (hI.par e.th).2 hW
                have hu : upd W e.th 0 e.th = 0 := by simp [upd]
                dsimp only
                rw [hu]
                omega
              · rw [hpar' t ht]
                simp only [upd, if_neg ht]
                exact hI.par t
            · rw [hcs] at hc'
              by_cases ht : t = e.th
              · subst ht
                have := to_at hc' he ht' (by omega)
                omega
              · simp only [upd, if_neg ht]
                exact hI.wait t k' c' hc' ht' (by omega)
            · by_cases ht2 : t = e.th
              · subst ht2; simp [upd] at ht
              · simp only [upd, if_neg ht2] at ht ⊢
                obtain ⟨k', c', g1, g2, g3, g4⟩ := hI.has t ht
                refine ⟨k', c', g1, by rw [hcs]; exact g2, g3, ?_⟩
                have : c'.to_ ≠ (i : Int) := fun h => ht2 (by rw [← g3]; exact (toI_th g2 he h).symm)
                omega
          · cases hs
        · rename_i hb
          have hb' : e.back = false := by simpa using hb
          split at hs
          · cases hs
            rw [hb'] at hb0
            have h0 := (hw e.th).1
            have hW : W e.th = 0 := by
              simp at hb0
              omega
            have hcs := callsI_call he hb'
            have hlen : cs.length = (callsI l i).length := by rw [hI.cs]; simp
            have hnx := nextI_le (l := l) (t := e.th) (i := i + 1) (by omega)
            have hto := callOf_to (l := l) (i := i) (e := e)
            refine ⟨hoks, ?_, fun t => ?_, fun t k' c' hc' ht' hle => ?_, fun t ht => ?_⟩
            · dsimp only
              rw [hcs, List.map_append, hI.cs]
              congr 1
              · apply List.map_congr_left
                intro c hc
                obtain ⟨m, hm, rfl⟩ := List.getElem_of_mem hc
                exact (hsame m _ (List.getElem?_eq_getElem hm) (fun _ h => by omega)).symm
              · simp only [List.map_cons, List.map_nil, cutC]
                rw [if_neg (by rw [hto.1]; omega)]
                simp [hto]
            · by_cases ht : t = e.th
              · subst ht
                rw [hpar]
                have := (hI.par e.th)
                have hu : upd W e.th (cs.length + 1) e.th = cs.length + 1 := by simp [upd]
                dsimp only
                rw [hu]
                omega
              · rw [hpar' t ht]
                simp only [upd, if_neg ht]
                exact hI.par t
            · rw [hcs] at hc'
              rcases Nat.lt_or_ge k' (callsI l i).length with hk | hk
              · rw [List.getElem?_append_left hk] at hc'
                by_cases ht : t = e.th
                · have := hI.wait t k' c' hc' ht' (by omega)
                  rw [ht] at this
                  omega
                · simp only [upd, if_neg ht]
                  exact hI.wait t k' c' hc' ht' (by omega)
              · rw [List.getElem?_append_right hk] at hc'
                cases hk0 : k' - (callsI l i).length with
                | zero =>
                  rw [hk0] at hc'
                  simp at hc'
                  subst hc'
                  rw [hto.2.1] at ht'
                  simp only [upd, if_pos ht'.symm]
                  omega
                | succ m => rw [hk0] at hc'; simp at hc'
            · by_cases ht2 : t = e.th
              · subst ht2
                refine ⟨(callsI l i).length, callOf l i e, by simp [upd, hlen], by rw [hcs]; simp, hto.2.1, by rw [hto.1]; omega⟩
              · simp only [upd, if_neg ht2] at ht ⊢
                obtain ⟨k', c', g1, g2, g3, g4⟩ := hI.has t ht
                have hk := (List.getElem?_eq_some_iff.1 g2).1
                refine ⟨k', c', g1, by rw [hcs, List.getElem?_append_left hk]; exact g2, g3, ?_⟩
                have : c'.to_ ≠ (i : Int) := fun h => ht2 (by rw [← g3]; exact (toI_th g2 he h).symm)
                omega
          · cases hs
    · exact .inr ⟨foldE_none hf _ (by omega), j, e, by omega, h2⟩
theorem cutC_all {l : List Ev} {c : Cal} {k : Nat} (h : (callsI l l.length)[k]? = some c) : cutC l l.length c = c := by
  obtain ⟨j, e, h1, h2, rfl, h4, h5, h6⟩ := callsI_at h (Nat.le_refl _)
  unfold cutC
  split
  · rfl
  · rename_i h7
    rw [h6] at h7
    have := callOf_open (l := l) (i := j) (e := e) rfl (by omega)
    have hle := nextI_le (l := l) (t := e.th) (i := j + 1) (by omega)
    rw [this]
    simp
    omega
/-- The program's calls are the document's. -/
theorem foldE_all (l : List Ev) : (checkL l = 0 ∧ ∃ W, foldE l l.length = some (callsI l l.length, W)) ∨ (checkL l = 2 ∧ foldE l l.length = none) := by
  rcases foldE_inv (l := l) (Nat.le_refl _) with ⟨cs, W, hf, hI⟩ | ⟨hf, j, e, h1, h2, h3⟩
  · refine .inl ⟨checkL_yes fun j e hj he => hI.ok j e hj he, W, ?_⟩
    rw [hf, hI.cs]
    congr 2
    have : (callsI l l.length).map (cutC l l.length) = (callsI l l.length).map id := by
      apply List.map_congr_left
      intro c hc
      obtain ⟨m, hm, rfl⟩ := List.getElem_of_mem hc
      exact cutC_all (List.getElem?_eq_getElem hm)
    simpa using this
  · exact .inr ⟨checkL_no h2 h3, hf⟩

section
variable {n i : Nat} {cs : List Cal} {W : Int → Int} {e : Ev} {q : Cal}
theorem stepE_th (h : e.th < 0 ∨ 4 ≤ e.th) : stepE n cs W i e = none := by unfold stepE; rw [if_pos h]
theorem stepE_ne (hE : ¬ e.back = decide (-1 < W e.th - 1)) : stepE n cs W i e = none := by
  unfold stepE
  split
  · rfl
  · rw [if_pos]
    cases h1 : e.back <;> cases h2 : decide (-1 < W e.th - 1) <;> simp_all
theorem stepE_op (hb : e.back = true) (ho : ¬ (e.d = 0 ∧ e.h = 0 ∧ e.off = 0 ∧ e.n = 0)) : stepE n cs W i e = none := by
  unfold stepE
  repeat' split
  all_goals (first | rfl | (exfalso; simp_all; done))
theorem stepE_res (hb : e.back = false) (hr : ¬ (e.code = 0 ∧ e.num = 0)) : stepE n cs W i e = none := by
  unfold stepE
  repeat' split
  all_goals (first | rfl | (exfalso; simp_all; done))
theorem stepE_back (h0 : ¬ e.th < 0) (h1 : ¬ 4 ≤ e.th) (hE : e.back = decide (-1 < W e.th - 1)) (hb : e.back = true) (ho : e.d = 0 ∧ e.h = 0 ∧ e.off = 0 ∧ e.n = 0) (hq : cs[(W e.th - 1).toNat]? = some q) : stepE n cs W i e = some (cs.set (W e.th - 1).toNat ⟨q.th, q.d, q.h, q.off, q.n, e.code, e.num, true, q.frm, i⟩, upd W e.th 0) := by
  unfold stepE
  rw [if_neg (by omega), if_neg (by rw [hb] at hE ⊢; simp [← hE]), if_pos hb, if_pos ho]
  congr 2
  generalize (W e.th - 1).toNat = p at hq ⊢
  apply List.ext_getElem?
  intro m
  have hl := (List.getElem?_eq_some_iff.1 hq).1
  rw [List.getElem?_modify, List.getElem?_set]
  by_cases hm : p = m
  · subst hm
    rw [List.getElem?_eq_getElem hl] at hq
    cases hq
    simp [hl]
  · simp [hm]
theorem stepE_call (h0 : ¬ e.th < 0) (h1 : ¬ 4 ≤ e.th) (hE : e.back = decide (-1 < W e.th - 1)) (hb : e.back = false) (hr : e.code = 0 ∧ e.num = 0) : stepE n cs W i e = some (cs ++ [⟨e.th, e.d, e.h, e.off, e.n, 0, 0, false, i, n⟩], upd W e.th (cs.length + 1)) := by
  unfold stepE
  rw [if_neg (by omega), if_neg (by rw [hb] at hE ⊢; simp [← hE]), if_neg (by simp [hb]), if_pos hr]
end
end Go.Sd
