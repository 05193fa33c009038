/-
  What the laws see of the two maps: a contract for each of their methods.
-/
import Derived.Test.YtgkbmelecalllaaSdV
set_option linter.unusedSectionVars false
set_option linter.unusedSimpArgs false
set_option linter.unusedVariables false
namespace Go.Sd
open Go Go.Proofs
variable [Str]

def MRef (s : Seg) (pm : Nat) (X : List PT) (T : List Int) : Prop := ∃ bo bt c cu M U, s = mseg pm bo bt c cu M U ∧ MOk M c U cu X T
def KRef (G : Seg) (cs : Array Value) (X : List PT) (T : List Int) : Prop := ∃ aL aT nL cL nT cT L, cs = #[.slice aL nL cL, .slice aT nT cT] ∧ KAt G aL aT nL cL nT cT L T ∧ X = L.map Thing.p
theorem KRef.mono {G G' : Seg} {cs : Array Value} {X : List PT} {T : List Int} (h : KRef G cs X T) (hs : ∀ p ∈ G, p ∈ G') : KRef G' cs X T := by
  obtain ⟨aL, aT, nL, cL, nT, cT, L, rfl, hK, rfl⟩ := h
  exact ⟨aL, aT, nL, cL, nT, cT, L, rfl, hK.mono hs, rfl⟩
abbrev kblk (k : Nat) (cs : Array Value) : Seg := [(k, .cells cs 34 (0, 0))]
theorem KRef.empty : KRef [] #[.slice none 0 0, .slice none 0 0] [] [] := ⟨none, none, 0, 0, 0, 0, [], rfl, ⟨Sl.nil, by simp, Sl.nil, by simp⟩, rfl⟩
theorem MRef.le {s : Seg} {pm : Nat} {X : List PT} {T : List Int} (h : MRef s pm X T) : X.length ≤ T.length := by
  obtain ⟨bo, bt, c, cu, M, U, rfl, h⟩ := h
  have h2 : ∀ x ∈ X.map (·.h), x ∈ T := fun x hx => by obtain ⟨p, hp, rfl⟩ := List.mem_map.1 hx; exact h.XT p hp
  have := List.Nodup.length_le_of_subset h.ndX h2
  simpa using this
theorem tellT_len (h : Int) (T : List Int) : (tellT h T).length = T.length + 1 := by
  unfold tellT
  cases e : tellI h T T.length with
  | mk o l =>
    have := tellI_len e (Nat.le_refl _)
    cases l <;> simp at this ⊢ <;> omega
theorem try_len {X X' : List PT} {T T' : List Int} {d h off n code num : Int} {b : Bool} (hr : tryP (X, T) d h off n code num = (b, X', T')) : T'.length ≤ T.length + 1 := by
  have h2 : T' = (tryP (X, T) d h off n code num).2.2 := by rw [hr]
  rw [h2]
  unfold tryP
  dsimp only
  repeat' split
  all_goals (try rw [tellT_len])
  all_goals (first | exact Nat.le_refl _ | exact Nat.le_succ _)

section
variable {F G : Seg} {w : World} {s s2 : Seg} {pm pm2 k k2 : Nat} {X X2 X' : List PT} {T T2 T' : List Int} {cs cs2 : Array Value}

theorem MRef.bytes (hM : MRef s pm X T) : ∀ x ∈ X, ∀ y ∈ x.b, 0 ≤ y ∧ y < 256 := by
  obtain ⟨bo, bt, c, cu, M, U, rfl, h⟩ := hM
  intro x hx
  obtain ⟨z, hz, rfl⟩ := List.mem_map.1 (h.q_.mem_iff.2 hx)
  exact (h.ob z hz).by_
theorem ans_bounds (hM : MRef s pm X T) {d h off n a m : Int} {t : Bool} (ha : ansP X d h off n = (a, m, t)) : 0 ≤ m ∧ m < 256 := by
  have h2 : m = (ansP X d h off n).2.1 := by rw [ha]
  rw [h2]
  unfold ansP
  cases hf : findP X h with
  | none =>
    dsimp only
    repeat' split
    all_goals (dsimp only; omega)
  | some x =>
    have hx : x ∈ X := List.mem_of_find?_eq_some hf
    dsimp only
    repeat' split
    all_goals (try (dsimp only; omega))
    refine hM.bytes x hx _ ?_
    exact getD_mem (by omega)
theorem tried_bounds (hM : MRef s pm X T) {d h off n code num tc tn : Int} {own : Bool} (ht : triedP X d h off n code num own = (tc, tn)) (hb : -9223372036854775808 ≤ num ∧ num ≤ 9223372036854775807) : -9223372036854775808 ≤ tn ∧ tn ≤ 9223372036854775807 := by
  unfold triedP at ht
  split at ht
  · have := ans_bounds hM (show ansP X d h off n = ((ansP X d h off n).1, tn, (ansP X d h off n).2.2) from by injection ht with h1 h2; rw [← h2])
    omega
  · injection ht with h1 h2
    omega

theorem l_new (F : Seg) (w : World) (hO : Own w [F]) : Calls Try.prog 22 [].toArray w (Ret fun v w' => ∃ pm s, v = .pointer (some ⟨pm, 0, none⟩) ∧ MRef s pm [] [] ∧ Own w' [s, F]) := by
  refine Ret.mono (v_new F w hO) fun v w' h => ?_
  obtain ⟨pm, bo, bt, hv, hO⟩ := h
  exact ⟨pm, _, hv, ⟨bo, bt, 0, 0, [], [], rfl, MOk.empty⟩, hO⟩
theorem l_answer (hM : MRef s pm X T) (hT : T.length ≤ 1000000) {d h off n a m : Int} {t : Bool} (ha : ansP X d h off n = (a, m, t)) (hO : Own w [s, F]) : Calls Try.prog 52 [.pointer (some ⟨pm, 0, none⟩), .agg #[.int .i64 d, .int .i64 h, .int .i64 off, .int .i64 n]].toArray w (Ret fun v w' => v = .tuple #[.agg #[.int .i64 a, .int .i64 m], .bool t] ∧ Own w' [s, F]) := by
  obtain ⟨bo, bt, c, cu, M, U, rfl, hM⟩ := hM
  refine Ret.mono (v_answer pm bo bt c cu M U X T F d h off n w hM hT hO) fun v w' h => ?_
  rw [ha] at h
  exact h
theorem l_try (hM : MRef s pm X T) (hT : T.length ≤ 1000000) {d h off n code num : Int} {b : Bool} (hr : tryP (X, T) d h off n code num = (b, X', T')) (hnum : -9223372036854775808 ≤ num ∧ num ≤ 9223372036854775807) (hO : Own w [s, F]) : Calls Try.prog 29 [.pointer (some ⟨pm, 0, none⟩), .agg #[.int .i64 d, .int .i64 h, .int .i64 off, .int .i64 n], .agg #[.int .i64 code, .int .i64 num]].toArray w (Ret fun v w' => ∃ s', v = .bool b ∧ MRef s' pm X' T' ∧ Own w' [s', F]) := by
  obtain ⟨bo, bt, c, cu, M, U, rfl, hM⟩ := hM
  refine Ret.mono (v_try pm bo bt c cu M U X T F d h off n code num w hM hT hnum hO) fun v w' h => ?_
  obtain ⟨c', cu', M', U', hv, hM', hO'⟩ := h
  rw [hr] at hv hM'
  exact ⟨_, hv, ⟨bo, bt, c', cu', M', U', rfl, hM'⟩, hO'⟩
theorem l_copy (hM : MRef s pm X T) (hT : T.length ≤ 1000000) (hO : Own w [s, F]) : Calls Try.prog 44 [.pointer (some ⟨pm, 0, none⟩)].toArray w (Ret fun v w' => ∃ pm' s', v = .pointer (some ⟨pm', 0, none⟩) ∧ MRef s' pm' X T ∧ Own w' [s, s', F]) := by
  obtain ⟨bo, bt, c, cu, M, U, rfl, hM⟩ := hM
  refine Ret.mono (v_copy pm bo bt c cu M U X T F w hM hT hO) fun v w' h => ?_
  obtain ⟨pm', bo', bt', c', M', hv, hM', hO'⟩ := h
  exact ⟨pm', _, hv, ⟨bo', bt', c', cu, M', U, rfl, hM'⟩, hO'⟩
theorem r_answer (hK : KRef G cs X T) (hX : X.length ≤ 1000000) {d h off n a m : Int} {t : Bool} (ha : ansP X d h off n = (a, m, t)) (hO : Own w [kblk k cs, G, F]) : Calls Try.prog 30 [.pointer (some ⟨k, 0, none⟩), .agg #[.int .i64 d, .int .i64 h, .int .i64 off, .int .i64 n]].toArray w (Ret fun v w' => v = .tuple #[.agg #[.int .i64 a, .int .i64 m], .bool t] ∧ Own w' [kblk k cs, G, F]) := by
  obtain ⟨aL, aT, nL, cL, nT, cT, L, rfl, hK, rfl⟩ := hK
  refine Ret.mono (k_answer k G F aL aT nL cL nT cT L d h off n w hK.L_ hK.B_ (by simpa using hX) hO) fun v w' h => ?_
  rw [ansT_p, ha] at h
  exact h
theorem r_try (hK : KRef G cs X T) (hX : X.length ≤ 1000000) (hT : T.length ≤ 1000000) {d h off n code num : Int} {b : Bool} (hr : tryP (X, T) d h off n code num = (b, X', T')) (hO : Own w [kblk k cs, G, F]) : Calls Try.prog 14 [.pointer (some ⟨k, 0, none⟩), .agg #[.int .i64 d, .int .i64 h, .int .i64 off, .int .i64 n], .agg #[.int .i64 code, .int .i64 num]].toArray w (Ret fun v w' => ∃ G' cs', v = .bool b ∧ (∀ p ∈ G, p ∈ G') ∧ KRef G' cs' X' T' ∧ Own w' [kblk k cs', G', F]) := by
  obtain ⟨aL, aT, nL, cL, nT, cT, L, rfl, hK, rfl⟩ := hK
  refine Ret.mono (k_try k G F aL aT nL cL nT cT L T d h off n code num w hK (by simpa using hX) hT hO) fun v w' h => ?_
  obtain ⟨aL', aT', nL', cL', nT', cT', L', T2, N, hv, hK', he, hO'⟩ := h
  rw [hr] at hv he
  injection he with h1 h2
  subst h2
  exact ⟨N ++ G, _, hv, fun p hp => List.mem_append_right _ hp, ⟨aL', aT', nL', cL', nT', cT', L', rfl, hK', h1.symm⟩, hO'⟩
theorem r_copy (hK : KRef G cs X T) (hX : X.length ≤ 1000000) (hT : T.length ≤ 1000000) (hO : Own w [kblk k cs, G, F]) : Calls Try.prog 37 [.pointer (some ⟨k, 0, none⟩)].toArray w (Ret fun v w' => ∃ k' cs' G', v = .pointer (some ⟨k', 0, none⟩) ∧ (∀ p ∈ G, p ∈ G') ∧ KRef G' cs' X T ∧ Own w' [kblk k cs, kblk k' cs', G', F]) := by
  obtain ⟨aL, aT, nL, cL, nT, cT, L, rfl, hK, rfl⟩ := hK
  refine Ret.mono (k_copy k G F aL aT nL cL nT cT L T w hK (by simpa using hX) hT hO) fun v w' h => ?_
  obtain ⟨b, aL', aT', nL', cL', nT', cT', N, hv, hK', hO'⟩ := h
  exact ⟨b, _, N ++ G, hv, fun p hp => List.mem_append_right _ hp, ⟨aL', aT', nL', cL', nT', cT', L, rfl, hK', rfl⟩, hO'⟩
end

/-- A call of a script. -/
structure Cl where
  d : Int
  h : Int
  off : Int
  n : Int
  code : Int
  num : Int
  own : Bool
def encC (x : Cl) : List Value := [.int .i64 x.d, .int .i64 x.h, .int .i64 x.off, .int .i64 x.n, .int .i64 x.code, .int .i64 x.num, .bool x.own]
def Cls (l : List Cl) : Prop := ∀ x ∈ l, -9223372036854775808 ≤ x.num ∧ x.num ≤ 9223372036854775807
end Go.Sd
