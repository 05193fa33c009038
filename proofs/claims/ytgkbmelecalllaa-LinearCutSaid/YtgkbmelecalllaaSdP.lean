/-
  The map under test, in plain words: what lies in memory, and which plain map that is.
-/
import Derived.Test.YtgkbmelecalllaaSdM
import Derived.Test.YtgkbmelecalllaaSdK
set_option linter.unusedSectionVars false
set_option linter.unusedSimpArgs false
set_option linter.unusedVariables false
namespace Go.Sd
open Go
variable [Str]

abbrev encU : Int → List Value := fun x => [Value.int .u8 x]
/-- An object: its handle, its block, its entry's stamp, where its bytes lie; what they are. -/
structure Ob where
  h : Int
  p : Nat
  n : Nat
  bb : Nat
  cap : Nat
  b : List Int
  rest : List Value
  pins : Int
def Ob.ent (x : Ob) : Ent := (x.h, .pointer (some ⟨x.p, 0, none⟩), x.n)
def Ob.q (x : Ob) : PT := ⟨x.h, x.b, x.pins⟩
def Ob.st (x : Ob) : Seg := [(x.p, .cells #[.slice (some ⟨x.bb, 0, none⟩) x.b.length x.cap, .int .i64 x.pins] 111 (0, 0))]
def Ob.by_ (x : Ob) : Seg := [(x.bb, .cells (x.b.flatMap encU ++ x.rest).toArray 5 (0, 0))]
def obs (M : List Ob) : Seg := M.flatMap fun x => x.st ++ x.by_
def mseg (pm bo bt c cu : Nat) (M : List Ob) (U : List Ent) : Seg := [(pm, .cells #[.map (some bo), .map (some bt)] 95 (0, 0)), (bo, mobj (M.map Ob.ent) c), (bt, mobj U cu)] ++ obs M

/-- An object as it should be. -/
structure ObOk (x : Ob) : Prop where
  len : x.b.length + x.rest.length = x.cap
  ne : 1 ≤ x.b.length
  le : x.b.length ≤ 256
  pins : 0 ≤ x.pins ∧ x.pins ≤ 7
  by_ : ∀ y ∈ x.b, 0 ≤ y ∧ y < 256
structure MOk (M : List Ob) (c : Nat) (U : List Ent) (cu : Nat) (X : List PT) (T : List Int) : Prop where
  q_ : (M.map Ob.q).Perm X
  u_ : (U.map (·.1)).Perm T
  X_ : X.Pairwise (fun a b => a.h < b.h)
  T_ : T.Pairwise (· < ·)
  XT : ∀ x ∈ X, x.h ∈ T
  hd : ∀ t ∈ T, isHandle t = true
  bM : ∀ x ∈ M, x.n < c
  nM : (M.map (·.n)).Nodup
  bU : ∀ e ∈ U, e.2.2 < cu
  nU : (U.map (·.2.2)).Nodup
  ob : ∀ x ∈ M, ObOk x

theorem MOk.lenX {M : List Ob} {c : Nat} {U : List Ent} {cu : Nat} {X : List PT} {T : List Int} (h : MOk M c U cu X T) : M.length = X.length := by simpa using h.q_.length_eq
theorem MOk.lenT {M : List Ob} {c : Nat} {U : List Ent} {cu : Nat} {X : List PT} {T : List Int} (h : MOk M c U cu X T) : U.length = T.length := by simpa using h.u_.length_eq
theorem nodup_of_lt {l : List Int} (h : l.Pairwise (· < ·)) : l.Nodup := h.imp (fun h e => by omega)
theorem MOk.keysX {M : List Ob} {c : Nat} {U : List Ent} {cu : Nat} {X : List PT} {T : List Int} (h : MOk M c U cu X T) : (M.map (·.h)).Perm (X.map (·.h)) := by
  have := h.q_.map (·.h)
  simpa [Function.comp_def, Ob.q] using this
theorem MOk.ndX {M : List Ob} {c : Nat} {U : List Ent} {cu : Nat} {X : List PT} {T : List Int} (h : MOk M c U cu X T) : (X.map (·.h)).Nodup := nodup_of_lt (List.pairwise_map.2 h.X_)
theorem MOk.ndM {M : List Ob} {c : Nat} {U : List Ent} {cu : Nat} {X : List PT} {T : List Int} (h : MOk M c U cu X T) : (M.map (·.h)).Nodup := h.keysX.nodup_iff.2 h.ndX
theorem handle_bounds {t : Int} (h : isHandle t = true) : 0 ≤ t ∧ t ≤ 2199023255552 := by
  simp only [isHandle, decide_eq_true_eq] at h
  omega
/-- The entries of the map of objects can be sorted. -/
theorem MOk.okM {M : List Ob} {c : Nat} {U : List Ent} {cu : Nat} {X : List PT} {T : List Int} (h : MOk M c U cu X T) (hn : T.length ≤ 1000000) : KeysOk (M.map Ob.ent) c := by
  have hXT : X.length ≤ T.length := by
    have h1 := h.ndX
    have h2 : ∀ x ∈ X.map (·.h), x ∈ T := fun x hx => by obtain ⟨p, hp, rfl⟩ := List.mem_map.1 hx; exact h.XT p hp
    have := List.Nodup.length_le_of_subset h1 h2
    simpa using this
  refine ⟨fun e he => ?_, ?_, ?_, fun e he => ?_, ?_⟩
  · obtain ⟨x, hx, rfl⟩ := List.mem_map.1 he; exact h.bM x hx
  · simpa [Function.comp_def, Ob.ent] using h.nM
  · simpa [Function.comp_def, Ob.ent] using h.ndM
  · obtain ⟨x, hx, rfl⟩ := List.mem_map.1 he
    have h1 : x.h ∈ T := by
      have := h.keysX.mem_iff.1 (List.mem_map_of_mem (f := (·.h)) hx)
      obtain ⟨p, hp, e⟩ := List.mem_map.1 this
      exact e ▸ h.XT p hp
    have := handle_bounds (h.hd _ h1)
    simp only [Ob.ent]; omega
  · have := h.lenX; simp; omega
theorem MOk.okU {M : List Ob} {c : Nat} {U : List Ent} {cu : Nat} {X : List PT} {T : List Int} (h : MOk M c U cu X T) (hn : T.length ≤ 1000000) : KeysOk U cu := by
  refine ⟨h.bU, h.nU, h.u_.nodup_iff.2 (nodup_of_lt h.T_), fun e he => ?_, by have := h.lenT; omega⟩
  have := handle_bounds (h.hd _ (h.u_.mem_iff.1 (List.mem_map_of_mem (f := (·.1)) he)))
  omega
theorem sort_perm {l s : List Int} (h : l.Perm s) (hs : s.Pairwise (· < ·)) : l.mergeSort leI = s := by
  rw [mergeSort_of_perm_i h]
  exact List.mergeSort_of_pairwise (hs.imp (fun {a b} h => by simp [leI]; omega))
theorem MOk.sortX {M : List Ob} {c : Nat} {U : List Ent} {cu : Nat} {X : List PT} {T : List Int} (h : MOk M c U cu X T) : ((M.map Ob.ent).map (·.1)).mergeSort leI = X.map (·.h) := by
  have : (M.map Ob.ent).map (·.1) = M.map (·.h) := by simp [Function.comp_def, Ob.ent]
  rw [this]
  exact sort_perm h.keysX (List.pairwise_map.2 h.X_)
theorem MOk.sortT {M : List Ob} {c : Nat} {U : List Ent} {cu : Nat} {X : List PT} {T : List Int} (h : MOk M c U cu X T) : (U.map (·.1)).mergeSort leI = T := sort_perm h.u_ h.T_

/-! finding -/
theorem find_ob : ∀ (M : List Ob) (h : Int), (∀ x ∈ M, x.h ≠ h) ∨ ∃ A x B, M = A ++ x :: B ∧ x.h = h ∧ ∀ a ∈ A, a.h ≠ h
  | [], _ => .inl (by simp)
  | y :: M, h => by
    by_cases e : y.h = h
    · exact .inr ⟨[], y, M, rfl, e, by simp⟩
    · rcases find_ob M h with h1 | ⟨A, x, B, rfl, h2, h3⟩
      · exact .inl (fun x hx => by rcases List.mem_cons.1 hx with rfl | hx; exact e; exact h1 x hx)
      · exact .inr ⟨y :: A, x, B, rfl, h2, fun a ha => by rcases List.mem_cons.1 ha with rfl | ha; exact e; exact h3 a ha⟩
theorem find_ent : ∀ (U : List Ent) (h : Int), (∀ x ∈ U, x.1 ≠ h) ∨ ∃ A x B, U = A ++ x :: B ∧ x.1 = h ∧ ∀ a ∈ A, a.1 ≠ h
  | [], _ => .inl (by simp)
  | y :: M, h => by
    by_cases e : y.1 = h
    · exact .inr ⟨[], y, M, rfl, e, by simp⟩
    · rcases find_ent M h with h1 | ⟨A, x, B, rfl, h2, h3⟩
      · exact .inl (fun x hx => by rcases List.mem_cons.1 hx with rfl | hx; exact e; exact h1 x hx)
      · exact .inr ⟨y :: A, x, B, rfl, h2, fun a ha => by rcases List.mem_cons.1 ha with rfl | ha; exact e; exact h3 a ha⟩
theorem findP_none {X : List PT} {h : Int} (hn : ∀ x ∈ X, x.h ≠ h) : findP X h = none := by
  unfold findP
  rw [List.find?_eq_none]
  intro x hx
  simpa using hn x hx
theorem findP_some : ∀ {X : List PT} {x : PT}, (X.map (·.h)).Nodup → x ∈ X → findP X x.h = some x
  | [], _, _, h => by simp at h
  | y :: X, x, hn, hx => by
    simp only [List.map_cons, List.nodup_cons] at hn
    rcases List.mem_cons.1 hx with rfl | hx'
    · simp [findP]
    · have h1 : y.h ≠ x.h := fun e => hn.1 (e ▸ List.mem_map_of_mem hx')
      have := findP_some hn.2 hx'
      simp only [findP] at this ⊢
      simp [h1, this]
theorem MOk.none {M : List Ob} {c : Nat} {U : List Ent} {cu : Nat} {X : List PT} {T : List Int} (hM : MOk M c U cu X T) {h : Int} (hn : ∀ x ∈ M, x.h ≠ h) : findP X h = none :=
  findP_none fun x hx => by
    obtain ⟨y, hy, rfl⟩ := List.mem_map.1 (hM.q_.mem_iff.2 hx)
    exact hn y hy
theorem MOk.some {M : List Ob} {c : Nat} {U : List Ent} {cu : Nat} {X : List PT} {T : List Int} (hM : MOk M c U cu X T) {x : Ob} (hx : x ∈ M) : findP X x.h = some x.q :=
  findP_some (x := x.q) hM.ndX (hM.q_.mem_iff.1 (List.mem_map_of_mem hx))

/-! putting, in plain words -/
theorem putSP_true (x : PT) : ∀ (X : List PT) (o : List PT), X.foldl (putSP x) (o, true) = (o ++ X.filter (fun t => decide (t.h ≠ x.h)), true)
  | [], o => by simp
  | t :: X, o => by
    have h1 : putSP x (o, true) t = (if t.h = x.h then o else o ++ [t], true) := by simp [putSP]
    rw [List.foldl_cons, h1, putSP_true x X]
    by_cases e : t.h = x.h <;> simp [e]
theorem putSP_false (x : PT) : ∀ (X : List PT) (o : List PT), X.Pairwise (fun a b => a.h < b.h) → X.foldl (putSP x) (o, false) = if ∃ t ∈ X, x.h ≤ t.h then (o ++ (X.filter (fun t => decide (t.h < x.h)) ++ x :: X.filter (fun t => decide (x.h < t.h))), true) else (o ++ X, false)
  | [], o, _ => by simp
  | t :: X, o, hp => by
    obtain ⟨h1, h2⟩ := List.pairwise_cons.1 hp
    rw [List.foldl_cons]
    by_cases hle : x.h ≤ t.h
    · have e1 : putSP x (o, false) t = (if t.h = x.h then o ++ [x] else o ++ [x] ++ [t], true) := by simp [putSP, hle]
      have hex : ∃ t' ∈ t :: X, x.h ≤ t'.h := ⟨t, by simp, hle⟩
      rw [e1, putSP_true, if_pos hex]
      have e2 : X.filter (fun t => decide (t.h < x.h)) = [] := List.filter_eq_nil_iff.2 fun a ha => by have := h1 a ha; simp; omega
      have e3 : X.filter (fun t => decide (x.h < t.h)) = X := List.filter_eq_self.2 fun a ha => by have := h1 a ha; simp; omega
      have e4 : X.filter (fun t => !decide (t.h = x.h)) = X := List.filter_eq_self.2 fun a ha => by have := h1 a ha; simp; omega
      have e5 : ¬ t.h < x.h := by omega
      by_cases e : t.h = x.h
      · have e6 : ¬ x.h < t.h := by omega
        simp [e2, e3, e4, e, e5, e6]
      · have e6 : x.h < t.h := by omega
        simp [e2, e3, e4, e, e5, e6]
    · have e1 : putSP x (o, false) t = (o ++ [t], false) := by
        have : ¬ t.h = x.h := by omega
        simp [putSP, hle, this]
      rw [e1, putSP_false x X _ h2]
      have h5 : t.h < x.h := by omega
      have h6 : ¬ x.h < t.h := by omega
      by_cases hex : ∃ t ∈ X, x.h ≤ t.h
      · have hex' : ∃ t' ∈ t :: X, x.h ≤ t'.h := by obtain ⟨a, ha, h⟩ := hex; exact ⟨a, by simp [ha], h⟩
        rw [if_pos hex, if_pos hex']
        simp [h5, h6]
      · have hex' : ¬ ∃ t' ∈ t :: X, x.h ≤ t'.h := by rintro ⟨a, ha, h⟩; rcases List.mem_cons.1 ha with rfl | ha; exact hle h; exact hex ⟨a, ha, h⟩
        rw [if_neg hex, if_neg hex']
        simp
theorem putP_drop {x : PT} {X : List PT} (hb : x.b = []) : putP x X = X.filter (fun t => decide (t.h ≠ x.h)) := by
  unfold putP
  simp [hb, putSP_true]
theorem putP_eq {x : PT} {X : List PT} (hb : x.b ≠ []) (hp : X.Pairwise (fun a b => a.h < b.h)) : putP x X = X.filter (fun t => decide (t.h < x.h)) ++ x :: X.filter (fun t => decide (x.h < t.h)) := by
  unfold putP
  have h0 : decide ((x.b.length : Int) = 0) = false := by
    rw [decide_eq_false_iff_not]
    have : x.b.length ≠ 0 := fun h => hb (List.eq_nil_of_length_eq_zero h)
    omega
  simp only [h0]
  rw [putSP_false x X [] hp]
  by_cases hex : ∃ t ∈ X, x.h ≤ t.h
  · simp [if_pos hex]
  · rw [if_neg hex]
    have e1 : X.filter (fun t => decide (t.h < x.h)) = X := List.filter_eq_self.2 fun a ha => by
      have : ¬ x.h ≤ a.h := fun h => hex ⟨a, ha, h⟩
      simp; omega
    have e2 : X.filter (fun t => decide (x.h < t.h)) = [] := List.filter_eq_nil_iff.2 fun a ha => by
      have : ¬ x.h ≤ a.h := fun h => hex ⟨a, ha, h⟩
      simp; omega
    simp [e1, e2]
theorem putP_sorted {x : PT} {X : List PT} (hp : X.Pairwise (fun a b => a.h < b.h)) : (putP x X).Pairwise (fun a b => a.h < b.h) := by
  by_cases hb : x.b = []
  · rw [putP_drop hb]; exact hp.filter _
  · rw [putP_eq hb hp]
    refine List.pairwise_append.2 ⟨hp.filter _, List.pairwise_cons.2 ⟨fun a ha => by simpa using (List.mem_filter.1 ha).2, hp.filter _⟩, fun a ha b hb' => ?_⟩
    have h1 : a.h < x.h := by simpa using (List.mem_filter.1 ha).2
    rcases List.mem_cons.1 hb' with rfl | hb'
    · exact h1
    · have : x.h < b.h := by simpa using (List.mem_filter.1 hb').2
      omega
/-- What a put map holds. -/
theorem putP_perm {x : PT} {X : List PT} (hb : x.b ≠ []) (hp : X.Pairwise (fun a b => a.h < b.h)) : (putP x X).Perm (x :: X.filter (fun t => decide (t.h ≠ x.h))) := by
  rw [putP_eq hb hp]
  refine List.perm_middle.trans (List.Perm.cons _ ?_)
  have h : ∀ Y : List PT, (Y.filter (fun t => decide (t.h < x.h)) ++ Y.filter (fun t => decide (x.h < t.h))).Perm (Y.filter (fun t => decide (t.h ≠ x.h))) := by
    intro Y
    induction Y with
    | nil => simp
    | cons y Y ih =>
      by_cases h1 : y.h < x.h
      · have h2 : ¬ x.h < y.h := by omega
        have h3 : y.h ≠ x.h := by omega
        simpa [h1, h2, h3] using ih
      · by_cases h2 : x.h < y.h
        · have h3 : y.h ≠ x.h := by omega
          simp only [List.filter_cons, h1, h2, h3, decide_true, decide_false, if_true, ne_eq, not_false_eq_true, Bool.false_eq_true, if_false]
          exact List.perm_middle.trans (ih.cons y)
        · have h3 : y.h = x.h := by omega
          simpa [h1, h2, h3] using ih
  exact h X
/-! telling, in plain words -/
theorem tellS_true (h : Int) : ∀ (T : List Int) (o : List Int), T.foldl (tellS h) (o, true) = (o ++ T, true)
  | [], o => by simp
  | t :: T, o => by rw [List.foldl_cons, show tellS h (o, true) t = (o ++ [t], true) from by simp [tellS], tellS_true h T]; simp
theorem tellS_false (h : Int) : ∀ (T : List Int) (o : List Int), T.Pairwise (· < ·) → h ∉ T → T.foldl (tellS h) (o, false) = if ∃ t ∈ T, h < t then (o ++ (T.filter (fun t => decide (t < h)) ++ h :: T.filter (fun t => decide (h < t))), true) else (o ++ T, false)
  | [], o, _, _ => by simp
  | t :: T, o, hp, hn => by
    obtain ⟨h1, h2⟩ := List.pairwise_cons.1 hp
    have hn1 : h ≠ t := fun e => hn (by simp [e])
    have hn2 : h ∉ T := fun e => hn (by simp [e])
    rw [List.foldl_cons]
    by_cases hlt : h < t
    · have hex : ∃ t' ∈ t :: T, h < t' := ⟨t, by simp, hlt⟩
      rw [show tellS h (o, false) t = (o ++ [h] ++ [t], true) from by simp [tellS, hlt], tellS_true, if_pos hex]
      have e2 : T.filter (fun t => decide (t < h)) = [] := List.filter_eq_nil_iff.2 fun a ha => by have := h1 a ha; simp; omega
      have e3 : T.filter (fun t => decide (h < t)) = T := List.filter_eq_self.2 fun a ha => by have := h1 a ha; simp; omega
      have e5 : ¬ t < h := by omega
      simp [e2, e3, e5, hlt]
    · rw [show tellS h (o, false) t = (o ++ [t], false) from by simp [tellS, hlt], tellS_false h T _ h2 hn2]
      have h5 : t < h := by omega
      by_cases hex : ∃ t ∈ T, h < t
      · have hex' : ∃ t' ∈ t :: T, h < t' := by obtain ⟨a, ha, e⟩ := hex; exact ⟨a, by simp [ha], e⟩
        rw [if_pos hex, if_pos hex']
        simp [h5, hlt]
      · have hex' : ¬ ∃ t' ∈ t :: T, h < t' := by rintro ⟨a, ha, e⟩; rcases List.mem_cons.1 ha with rfl | ha; exact hlt e; exact hex ⟨a, ha, e⟩
        rw [if_neg hex, if_neg hex']
        simp
theorem tellT_eq {h : Int} {T : List Int} (hp : T.Pairwise (· < ·)) (hn : h ∉ T) : tellT h T = T.filter (fun t => decide (t < h)) ++ h :: T.filter (fun t => decide (h < t)) := by
  unfold tellT tellI
  rw [List.take_length, tellS_false h T [] hp hn]
  by_cases hex : ∃ t ∈ T, h < t
  · simp [if_pos hex]
  · rw [if_neg hex]
    have e1 : T.filter (fun t => decide (t < h)) = T := List.filter_eq_self.2 fun a ha => by
      have h1 : ¬ h < a := fun e => hex ⟨a, ha, e⟩
      have h2 : h ≠ a := fun e => hn (e ▸ ha)
      simp; omega
    have e2 : T.filter (fun t => decide (h < t)) = [] := List.filter_eq_nil_iff.2 fun a ha => by
      have : ¬ h < a := fun e => hex ⟨a, ha, e⟩
      simpa using Int.not_lt.1 this
    simp [e1, e2]
theorem tellT_sorted {h : Int} {T : List Int} (hp : T.Pairwise (· < ·)) (hn : h ∉ T) : (tellT h T).Pairwise (· < ·) := by
  rw [tellT_eq hp hn]
  refine List.pairwise_append.2 ⟨hp.filter _, List.pairwise_cons.2 ⟨fun a ha => by simpa using (List.mem_filter.1 ha).2, hp.filter _⟩, fun a ha b hb' => ?_⟩
  have h1 : a < h := by simpa using (List.mem_filter.1 ha).2
  rcases List.mem_cons.1 hb' with rfl | hb'
  · exact h1
  · have : h < b := by simpa using (List.mem_filter.1 hb').2
    omega
theorem tellT_perm {h : Int} {T : List Int} (hp : T.Pairwise (· < ·)) (hn : h ∉ T) : (tellT h T).Perm (h :: T) := by
  rw [tellT_eq hp hn]
  refine List.perm_middle.trans (List.Perm.cons _ ?_)
  clear hp
  induction T with
  | nil => simp
  | cons y Y ih =>
    have hn1 : h ≠ y := fun e => hn (by simp [e])
    have ih := ih (fun e => hn (by simp [e]))
    by_cases h1 : y < h
    · have h2 : ¬ h < y := by omega
      simpa [h1, h2] using ih
    · have h2 : h < y := by omega
      simp only [List.filter_cons, h1, h2, decide_true, decide_false, if_true, Bool.false_eq_true, if_false]
      exact List.perm_middle.trans (ih.cons y)

/-! the map under test turns -/
section
variable {M A B : List Ob} {x : Ob} {c : Nat} {U : List Ent} {cu : Nat} {X : List PT} {T : List Int}
theorem perm_rest (hM : MOk (A ++ x :: B) c U cu X T) : ((A ++ B).map Ob.q).Perm (X.filter (fun t => decide (t.h ≠ x.h))) := by
  have h1 := hM.q_.filter (fun t => decide (t.h ≠ x.h))
  refine List.Perm.trans (List.Perm.of_eq ?_) h1
  have hn := hM.ndM
  simp only [List.map_append, List.map_cons, List.nodup_append, List.nodup_cons] at hn
  have hA : (A.map Ob.q).filter (fun t => decide (t.h ≠ x.h)) = A.map Ob.q := List.filter_eq_self.2 fun a ha => by
    obtain ⟨y, hy, rfl⟩ := List.mem_map.1 ha
    exact decide_eq_true (hn.2.2 y.h (List.mem_map_of_mem hy) x.h (by simp))
  have hB : (B.map Ob.q).filter (fun t => decide (t.h ≠ x.h)) = B.map Ob.q := List.filter_eq_self.2 fun a ha => by
    obtain ⟨y, hy, rfl⟩ := List.mem_map.1 ha
    have : y.h ≠ x.h := fun e => hn.2.1.1 (e ▸ List.mem_map_of_mem (f := (·.h)) hy)
    exact decide_eq_true this
  simp only [List.map_append, List.map_cons, List.filter_append, List.filter_cons, hA, hB]
  simp [Ob.q]
theorem MOk.drop (hM : MOk (A ++ x :: B) c U cu X T) {y : PT} (hy : y.h = x.h) (hb : y.b = []) : MOk (A ++ B) c U cu (putP y X) T := by
  refine ⟨?_, hM.u_, putP_sorted hM.X_, hM.T_, fun z hz => ?_, hM.hd, fun z hz => hM.bM z (by simp at hz ⊢; rcases hz with h | h <;> simp [h]), ?_, hM.bU, hM.nU, fun z hz => hM.ob z (by simp at hz ⊢; rcases hz with h | h <;> simp [h])⟩
  · rw [putP_drop hb, hy]; exact perm_rest hM
  · rw [putP_drop hb] at hz; exact hM.XT z (List.mem_filter.1 hz).1
  · have := hM.nM
    simp only [List.map_append, List.map_cons, List.nodup_append, List.nodup_cons] at this ⊢
    exact ⟨this.1, this.2.1.2, fun a ha b hb => this.2.2 a ha b (by simp [hb])⟩
theorem MOk.turn (hM : MOk (A ++ x :: B) c U cu X T) {y : Ob} (hy : y.h = x.h) (hn : y.n = x.n) (ho : ObOk y) : MOk (A ++ y :: B) c U cu (putP y.q X) T := by
  have hb : y.q.b ≠ [] := fun e => by have h1 := ho.ne; rw [show y.b = [] from e] at h1; simp at h1
  have hp := putP_perm hb hM.X_
  refine ⟨?_, hM.u_, putP_sorted hM.X_, hM.T_, fun z hz => ?_, hM.hd, fun z hz => ?_, ?_, hM.bU, hM.nU, fun z hz => ?_⟩
  · refine List.Perm.trans ?_ hp.symm
    have : y.q.h = x.h := hy
    rw [this]
    simp only [List.map_append, List.map_cons]
    exact List.perm_middle.trans ((by simpa using perm_rest hM : (A.map Ob.q ++ B.map Ob.q).Perm _).cons _)
  · rcases List.mem_cons.1 (hp.mem_iff.1 hz) with rfl | h
    · show y.h ∈ T
      rw [hy]
      have := hM.q_.mem_iff.1 (List.mem_map_of_mem (f := Ob.q) (show x ∈ A ++ x :: B by simp))
      exact hM.XT x.q this
    · exact hM.XT z (List.mem_filter.1 h).1
  · simp at hz
    rcases hz with h | rfl | h
    · exact hM.bM z (by simp [h])
    · rw [hn]; exact hM.bM x (by simp)
    · exact hM.bM z (by simp [h])
  · have := hM.nM
    simpa [hn] using this
  · simp at hz
    rcases hz with h | rfl | h
    · exact hM.ob z (by simp [h])
    · exact ho
    · exact hM.ob z (by simp [h])
theorem MOk.new (hM : MOk M c U cu X T) {y : Ob} {v : Value} (hh : isHandle y.h = true) (hn : y.h ∉ T) (hc : y.n = c) (ho : ObOk y) : MOk (M ++ [y]) (c + 1) (U ++ [(y.h, v, cu)]) (cu + 1) (putP y.q X) (tellT y.h T) := by
  have hb : y.q.b ≠ [] := fun e => by have h1 := ho.ne; rw [show y.b = [] from e] at h1; simp at h1
  have hp := putP_perm hb hM.X_
  have hf : X.filter (fun t => decide (t.h ≠ y.q.h)) = X := List.filter_eq_self.2 fun a ha => by
    have : a.h ≠ y.h := fun e => hn (e ▸ hM.XT a ha)
    exact decide_eq_true this
  rw [hf] at hp
  have ht := tellT_perm hM.T_ hn
  refine ⟨?_, ?_, putP_sorted hM.X_, tellT_sorted hM.T_ hn, fun z hz => ?_, fun t h => ?_, fun z hz => ?_, ?_, fun e he => ?_, ?_, fun z hz => ?_⟩
  · refine List.Perm.trans ?_ hp.symm
    simp only [List.map_append, List.map_cons, List.map_nil]
    exact List.perm_append_comm.trans (hM.q_.cons _)
  · refine List.Perm.trans ?_ ht.symm
    simp only [List.map_append, List.map_cons, List.map_nil]
    exact List.perm_append_comm.trans (hM.u_.cons _)
  · rw [ht.mem_iff]
    rcases List.mem_cons.1 (hp.mem_iff.1 hz) with rfl | h
    · simp [Ob.q]
    · exact List.mem_cons_of_mem _ (hM.XT z h)
  · rcases List.mem_cons.1 (ht.mem_iff.1 h) with rfl | h
    · exact hh
    · exact hM.hd t h
  · simp at hz
    rcases hz with h | rfl
    · have := hM.bM z h; omega
    · omega
  · simp only [List.map_append, List.map_cons, List.map_nil, List.nodup_append, List.nodup_cons, List.nodup_nil, List.not_mem_nil, not_false_eq_true, and_true, true_and, List.mem_cons, or_false]
    refine ⟨hM.nM, fun a ha b hb e => ?_⟩
    obtain ⟨z, hz, rfl⟩ := List.mem_map.1 ha
    have := hM.bM z hz
    omega
  · simp at he
    rcases he with h | rfl
    · have := hM.bU e h; omega
    · show cu < cu + 1; omega
  · simp only [List.map_append, List.map_cons, List.map_nil, List.nodup_append, List.nodup_cons, List.nodup_nil, List.not_mem_nil, not_false_eq_true, and_true, true_and, List.mem_cons, or_false]
    refine ⟨hM.nU, fun a ha b hb e => ?_⟩
    obtain ⟨z, hz, rfl⟩ := List.mem_map.1 ha
    have := hM.bU z hz
    omega
  · simp at hz
    rcases hz with h | rfl
    · exact hM.ob z h
    · exact ho
theorem perm_of_sub {α : Type} {l l' : List α} (h : l.Nodup) (h' : l'.Nodup) (hs : ∀ x ∈ l, x ∈ l') (hl : l'.length ≤ l.length) : l.Perm l' := by
  refine (List.perm_ext_iff_of_nodup h h').2 fun x => ⟨hs x, fun hx => ?_⟩
  by_cases hm : x ∈ l
  · exact hm
  · have := List.Nodup.length_le_of_subset (l₁ := x :: l) (l₂ := l') (List.nodup_cons.2 ⟨hm, h⟩) (fun y hy => by rcases List.mem_cons.1 hy with rfl | hy; exact hx; exact hs y hy)
    simp at this
    omega
theorem MOk.ndq {M : List Ob} {c : Nat} {U : List Ent} {cu : Nat} {X : List PT} {T : List Int} (h : MOk M c U cu X T) : (M.map Ob.q).Nodup :=
  List.pairwise_map.2 ((List.pairwise_map.1 h.ndM).imp (fun {a b} hne e => hne (congrArg PT.h e)))
theorem MOk.empty : MOk [] 0 [] 0 [] [] := by
  refine ⟨by simp, by simp, by simp, by simp, by simp, by simp, by simp, by simp, by simp, by simp, by simp⟩
/-- Two maps under test hold the same objects. -/
theorem same_objs {M M2 : List Ob} {c c2 cu cu2 : Nat} {U U2 : List Ent} {X X2 : List PT} {T T2 : List Int} (h : MOk M c U cu X T) (h2 : MOk M2 c2 U2 cu2 X2 T2) (hl : M.length = M2.length) (hs : ∀ x ∈ M, ∃ y ∈ M2, y.q = x.q) : X = X2 := by
  have hsub : M.map Ob.q ⊆ M2.map Ob.q := fun q hq => by
    obtain ⟨x, hx, rfl⟩ := List.mem_map.1 hq
    obtain ⟨y, hy, e⟩ := hs x hx
    exact e ▸ List.mem_map_of_mem hy
  have hp : (M.map Ob.q).Perm (M2.map Ob.q) := by
    exact perm_of_sub h.ndq h2.ndq (fun x hx => hsub hx) (by simp [hl])
  have hX : X.Perm X2 := h.q_.symm.trans (hp.trans h2.q_)
  exact hX.eq_of_pairwise (le := fun a b => a.h < b.h) (fun a b _ _ h1 h2 => by omega) h.X_ h2.X_
theorem not_same {M M2 : List Ob} {c c2 cu cu2 : Nat} {U U2 : List Ent} {X X2 : List PT} {T T2 : List Int} (h : MOk M c U cu X T) (h2 : MOk M2 c2 U2 cu2 X2 T2) {x : Ob} (hx : x ∈ M) (hn : ∀ y ∈ M2, y.h = x.h → y.q ≠ x.q) : X ≠ X2 := by
  rintro rfl
  have h1 := h.q_.mem_iff.1 (List.mem_map_of_mem (f := Ob.q) hx)
  obtain ⟨y, hy, e⟩ := List.mem_map.1 (h2.q_.mem_iff.2 h1)
  exact hn y hy (congrArg PT.h e) e
theorem not_same_len {M M2 : List Ob} {c c2 cu cu2 : Nat} {U U2 : List Ent} {X X2 : List PT} {T T2 : List Int} (h : MOk M c U cu X T) (h2 : MOk M2 c2 U2 cu2 X2 T2) (hl : M.length ≠ M2.length) : X ≠ X2 := by
  rintro rfl
  exact hl (h.lenX.trans h2.lenX.symm)
end
end Go.Sd
