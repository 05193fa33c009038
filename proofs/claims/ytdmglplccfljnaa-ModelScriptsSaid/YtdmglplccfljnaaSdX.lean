/-
  The laws, walked.
-/
import Derived.Test.YtdmglplccfljnaaSdL
set_option linter.unusedSimpArgs false
set_option linter.unusedVariables false
set_option linter.unusedSectionVars false
namespace Go.Sd
open Go Go.Proofs
variable [Str]
theorem l_make0 (F : Seg) (w : World) (hO : Own w [F]) : Calls Try.prog 28 [.int .i64 0, .int .i64 0].toArray w (Ret fun v w' => v = .tuple #[.int .i64 1099511627776, .int .i64 0] ∧ Own w' [F]) :=
  Ret.mono (k_make 0 0 F w hO) fun v w' h => by rw [show makeH 0 0 = (1099511627776, 0) from by decide] at h; exact h
theorem MRef.blen {s : Seg} {pm : Nat} {X : List PT} {T : List Int} (hM : MRef s pm X T) (h : Int) : (((findP X h).map (·.b)).getD []).length ≤ 1000000 := by
  obtain ⟨bo, bt, c, cu, M, U, rfl, hM⟩ := hM
  cases hf : findP X h with
  | none => simp
  | some x =>
    have hx : x ∈ X := List.mem_of_find?_eq_some hf
    obtain ⟨z, hz, rfl⟩ := List.mem_map.1 (hM.q_.mem_iff.2 hx)
    have := (hM.ob z hz).le
    simp [Ob.q]
    omega
theorem take_get0 {l : List Value} {m j : Nat} {v : Value} (h : (l.take m)[j]? = some v) : l[j]? = some v := by
  rw [List.getElem?_take] at h
  split at h
  · exact h
  · cases h
theorem take_get {l : List Value} {o m j : Nat} {v : Value} (h : ((l.drop o).take m)[j]? = some v) : l[o + j]? = some v := by
  have := take_get0 h
  rwa [List.getElem?_drop] at this
section
variable {s : Seg} {pm : Nat} {X X' : List PT} {T T' : List Int} {d h off n code num : Int} {b : Bool}
theorem MRef.X_ (hM : MRef s pm X T) : X.Pairwise (fun a b => a.h < b.h) := by obtain ⟨bo, bt, c, cu, M, U, rfl, hM⟩ := hM; exact hM.X_
theorem MRef.XT (hM : MRef s pm X T) : ∀ x ∈ X, x.h ∈ T := by obtain ⟨bo, bt, c, cu, M, U, rfl, hM⟩ := hM; exact hM.XT
theorem MRef.T_ (hM : MRef s pm X T) : T.Pairwise (· < ·) := by obtain ⟨bo, bt, c, cu, M, U, rfl, hM⟩ := hM; exact hM.T_
theorem nd_of {X : List PT} (h : X.Pairwise (fun a b => a.h < b.h)) : (X.map (·.h)).Nodup := nodup_of_lt (List.pairwise_map.2 h)
theorem try_same (hr : tryP (X, T) d h off n code num = (b, X', T')) (hc : b = false ∨ ¬ code = 0) : X' = X ∧ T' = T := by
  unfold tryP at hr
  dsimp only at hr
  repeat' split at hr
  all_goals (simp only [Prod.mk.injEq] at hr)
  all_goals (obtain ⟨h1, h2, h3⟩ := hr)
  all_goals (first | exact ⟨h2.symm, h3.symm⟩ | skip)
  all_goals (rcases hc with hc | hc)
  all_goals (first | (subst hc; cases h1) | (exfalso; simp_all))
theorem try_true (hd : d = 1 ∨ d = 3) (hr : tryP (X, T) d h off n 0 0 = (true, X', T')) : ∃ x, findP X h = some x ∧ X' = putP (chgP d off n x) X ∧ T' = T ∧ (d = 3 → 0 ≤ off ∧ off < x.b.length) := by
  have hd0 : ¬ d = 0 := by omega
  have ht : (ansP X d h off n).2.2 = true := by
    unfold ansP
    rw [if_neg hd0]
    repeat' split
    all_goals rfl
  unfold tryP at hr
  simp only [ht, Bool.true_eq_false, if_false] at hr
  split at hr
  · rename_i he
    cases hf : findP X h with
    | none => exact absurd he.1 (ansP_none hf ht)
    | some x =>
      rw [hf] at hr
      simp only [if_true, Prod.mk.injEq, true_and] at hr
      have h4 := ansP_some hf ht he.1
      exact ⟨x, rfl, hr.1.symm, hr.2.symm, fun e => h4.2.2.2.1 (.inr e)⟩
  · simp at hr
theorem findP_mem {X : List PT} {h : Int} {x : PT} (hf : findP X h = some x) : x ∈ X ∧ x.h = h := by
  refine ⟨List.mem_of_find?_eq_some hf, ?_⟩
  simpa using List.find?_some hf
theorem findP_put {x : PT} (hX : X.Pairwise (fun a b => a.h < b.h)) (hb : x.b ≠ []) : findP (putP x X) x.h = some x :=
  findP_some (nd_of (putP_sorted hX)) ((putP_perm hb hX).mem_iff.2 (by simp))
theorem findP_eq_of {X Y : List PT} {h : Int} (hX : (X.map (·.h)).Nodup) (hY : (Y.map (·.h)).Nodup) (hm : ∀ x, x.h = h → (x ∈ X ↔ x ∈ Y)) : findP X h = findP Y h := by
  cases hf : findP X h with
  | some x =>
    obtain ⟨h1, rfl⟩ := findP_mem hf
    exact (findP_some hY ((hm x rfl).1 h1)).symm
  | none =>
    cases hg : findP Y h with
    | none => rfl
    | some y =>
      obtain ⟨h1, rfl⟩ := findP_mem hg
      rw [findP_some hX ((hm y rfl).2 h1)] at hf
      cases hf
theorem findP_put_ne {x : PT} (hX : X.Pairwise (fun a b => a.h < b.h)) (hb : x.b ≠ []) {h2 : Int} (hne : h2 ≠ x.h) : findP (putP x X) h2 = findP X h2 :=
  findP_eq_of (nd_of (putP_sorted hX)) (nd_of hX) fun y hy => by
    rw [(putP_perm hb hX).mem_iff, List.mem_cons, List.mem_filter]
    constructor
    · rintro (rfl | h)
      · exact absurd hy.symm hne
      · exact h.1
    · intro h; exact .inr ⟨h, decide_eq_true (by rw [hy]; exact hne)⟩
theorem wrote (hM : MRef s pm X T) (hr : tryP (X, T) 3 h off n 0 0 = (true, X', T')) : ansP X' 2 h off 0 = (0, n % 256, true) := by
  obtain ⟨x, hf, rfl, rfl, ho⟩ := try_true (.inr rfl) hr
  obtain ⟨hx, rfl⟩ := findP_mem hf
  obtain ⟨h0, h1⟩ := ho rfl
  have hb : (chgP 3 off n x).b ≠ [] := by
    intro e
    have := congrArg List.length e
    simp [chgP] at this
    rw [this] at h1
    simp at h1
    omega
  have hg := findP_put hM.X_ hb
  have he : (chgP 3 off n x).h = x.h := by simp [chgP]
  rw [he] at hg
  unfold ansP
  rw [hg]
  have h2 : off.toNat < x.b.length := by omega
  have h3 : ¬ (off < 0 ∨ (x.b.length : Int) ≤ off) := by omega
  simp [chgP, h3, List.getD_eq_getElem?_getD, h2]
theorem wrote_else (hM : MRef s pm X T) (hr : tryP (X, T) 3 h off n 0 0 = (true, X', T')) {h2 off2 n2 : Int} (hne : ¬ (h2 = h ∧ off2 = off)) : ansP X' 2 h2 off2 n2 = ansP X 2 h2 off2 n2 := by
  obtain ⟨x, hf, rfl, rfl, ho⟩ := try_true (.inr rfl) hr
  obtain ⟨hx, rfl⟩ := findP_mem hf
  obtain ⟨h0, h1⟩ := ho rfl
  have hb : (chgP 3 off n x).b ≠ [] := by
    intro e
    have := congrArg List.length e
    simp [chgP] at this
    rw [this] at h1
    simp at h1
    omega
  have he : (chgP 3 off n x).h = x.h := by simp [chgP]
  by_cases hh : h2 = x.h
  · subst hh
    have hg := findP_put hM.X_ hb
    rw [he] at hg
    unfold ansP
    rw [hg, hf]
    have hoff : off2 ≠ off := fun e => hne ⟨rfl, e⟩
    by_cases h3 : off2 < 0 ∨ (x.b.length : Int) ≤ off2
    · simp [chgP, h3]
    · have h4 : off.toNat ≠ off2.toNat := by omega
      simp [chgP, h3, List.getD_eq_getElem?_getD, List.getElem?_set_ne h4]
  · have hg := findP_put_ne hM.X_ hb (h2 := h2) (by rw [he]; exact hh)
    unfold ansP
    rw [hg]
/-- A handle that is stale for ever. -/
def Gone (h : Int) (X : List PT) (T : List Int) : Prop := (∀ x ∈ X, x.h ≠ h) ∧ h ∈ T
theorem freed (hM : MRef s pm X T) {n2 off2 : Int} (hr : tryP (X, T) 1 h off2 n2 0 0 = (true, X', T')) : Gone h X' T' := by
  obtain ⟨x, hf, rfl, rfl, _⟩ := try_true (.inl rfl) hr
  obtain ⟨hx, rfl⟩ := findP_mem hf
  refine ⟨fun y hy => ?_, hM.XT x hx⟩
  rw [putP_drop (by simp [chgP])] at hy
  simpa [chgP] using (List.mem_filter.1 hy).2
theorem putP_keys {x : PT} (hX : X.Pairwise (fun a b => a.h < b.h)) : ∀ y ∈ putP x X, y.h = x.h ∨ y ∈ X := fun y hy => by
  by_cases hb : x.b = []
  · rw [putP_drop hb] at hy; exact .inr (List.mem_filter.1 hy).1
  · rcases List.mem_cons.1 ((putP_perm hb hX).mem_iff.1 hy) with rfl | h
    · exact .inl rfl
    · exact .inr (List.mem_filter.1 h).1
theorem chgP_h (d off n : Int) (x : PT) : (chgP d off n x).h = x.h := by unfold chgP; (repeat' split) <;> rfl
theorem Gone.step {g : Int} (hg : Gone g X T) (hM : MRef s pm X T) (hr : tryP (X, T) d h off n code num = (b, X', T')) : Gone g X' T' := by
  unfold tryP at hr
  dsimp only at hr
  repeat' split at hr
  all_goals (simp only [Prod.mk.injEq] at hr)
  all_goals (obtain ⟨h1, h2, h3⟩ := hr; subst h2 h3)
  all_goals (try exact hg)
  · rename_i h5
    refine ⟨fun y hy e => ?_, (tellT_perm hM.T_ h5.2.2).mem_iff.2 (List.mem_cons_of_mem _ hg.2)⟩
    rcases putP_keys hM.X_ y hy with h | h
    · exact h5.2.2 (by rw [← show y.h = num from h, e]; exact hg.2)
    · exact hg.1 y h e
  · rename_i x hf
    refine ⟨fun y hy e => ?_, hg.2⟩
    obtain ⟨hx, _⟩ := findP_mem hf
    rcases putP_keys hM.X_ y hy with h | h
    · rw [chgP_h] at h; exact hg.1 x hx (h.symm.trans e)
    · exact hg.1 y h e
theorem Gone.read {g off2 n2 : Int} (hg : Gone g X T) : ansP X 2 g off2 n2 = (4, 0, true) := by
  unfold ansP
  rw [findP_none hg.1]
  simp
theorem Gone.new {g : Int} (hg : Gone g X T) (hr : tryP (X, T) 0 0 0 1 0 g = (b, X', T')) : b = false := by
  have : (ansP X 0 0 0 1).2.2 = false := by simp [ansP]
  unfold tryP at hr
  simp [this, hg.2] at hr
  exact hr.1
end
/-! counting pins -/
abbrev H0 : Int := 1099511627776
def cX (n p : Int) : List PT := [⟨1099511627776, List.replicate n.toNat 0, p⟩]
theorem cX_find (n p : Int) : findP (cX n p) 1099511627776 = some ⟨1099511627776, List.replicate n.toNat 0, p⟩ := by simp [cX, findP]
theorem cX_put {n p p' : Int} (h1 : 1 ≤ n) : putP ⟨1099511627776, List.replicate n.toNat 0, p'⟩ (cX n p) = cX n p' := by
  have h0 : n.toNat ≠ 0 := by omega
  rw [putP_eq (by simpa using h0) (by simp [cX])]
  simp [cX]
theorem count_new {n : Int} (h1 : 1 ≤ n) (h2 : n ≤ 256) : tryP ([], []) 0 0 0 n 0 1099511627776 = (true, cX n 0, [1099511627776]) := by
  have h0 : n.toNat ≠ 0 := by omega
  have hp : putP ⟨1099511627776, List.replicate n.toNat 0, 0⟩ [] = cX n 0 := by rw [putP_eq (by simpa using h0) (by simp)]; simp [cX]
  have ha : (ansP [] 0 0 0 n).2.2 = false := by simp [ansP, show ¬ n < 1 from by omega, show ¬ 256 < n from by omega]
  have ht : tellT 1099511627776 [] = [1099511627776] := by decide
  have hh : isHandle 1099511627776 = true := by decide
  unfold tryP
  simp [ha, hp, ht, hh]
theorem count_pin {n p : Int} (h1 : 1 ≤ n) (h2 : p ≠ 7) : tryP (cX n p, [1099511627776]) 4 1099511627776 0 0 0 0 = (true, cX n (p + 1), [1099511627776]) := by
  have ha : ansP (cX n p) 4 1099511627776 0 0 = (0, 0, true) := by simp [ansP, cX_find, h2]
  unfold tryP
  simp [ha, cX_find, chgP, cX_put h1]
theorem count_full {n p : Int} (h2 : p = 7) : tryP (cX n p, [1099511627776]) 4 1099511627776 0 0 7 0 = (true, cX n p, [1099511627776]) := by
  have ha : ansP (cX n p) 4 1099511627776 0 0 = (7, 0, true) := by simp [ansP, cX_find, h2]
  unfold tryP
  simp [ha]
theorem count_held {n p : Int} (h2 : 0 < p) : tryP (cX n p, [1099511627776]) 1 1099511627776 0 0 6 0 = (true, cX n p, [1099511627776]) := by
  have ha : ansP (cX n p) 1 1099511627776 0 0 = (6, 0, true) := by simp [ansP, cX_find, h2]
  unfold tryP
  simp [ha]
theorem count_un {n p : Int} (h1 : 1 ≤ n) (h2 : 0 < p) : tryP (cX n p, [1099511627776]) 5 1099511627776 0 0 0 0 = (true, cX n (p - 1), [1099511627776]) := by
  have ha : ansP (cX n p) 5 1099511627776 0 0 = (0, 0, true) := by simp [ansP, cX_find, show ¬ p = 0 from by omega]
  unfold tryP
  simp [ha, cX_find, chgP, cX_put h1]
theorem count_none {n p : Int} (h2 : p = 0) : tryP (cX n p, [1099511627776]) 5 1099511627776 0 0 8 0 = (true, cX n p, [1099511627776]) := by
  have ha : ansP (cX n p) 5 1099511627776 0 0 = (8, 0, true) := by simp [ansP, cX_find, h2]
  unfold tryP
  simp [ha]
theorem count_free {n p : Int} (h2 : p = 0) : tryP (cX n p, [1099511627776]) 1 1099511627776 0 0 0 0 = (true, [], [1099511627776]) := by
  have ha : ansP (cX n p) 1 1099511627776 0 0 = (0, 0, true) := by simp [ansP, cX_find, h2]
  have hp : putP ⟨1099511627776, [], p⟩ (cX n p) = [] := by rw [putP_drop rfl]; simp [cX]
  unfold tryP
  simp [ha, cX_find, chgP, hp]
theorem R.min_int {P : Program} {ρ : Operand → Value} {w : World} {dst : Option Tmp} {ty : TypeId} {pos : String} {aft : Array Edge} {g : Option (Nat × Bool)} {x y : Operand} {tys : Array TypeId} {k : IntKind} {a b : Int} (hx : ρ x = .int k a) (hy : ρ y = .int k b) :
    (execOp ρ ⟨dst, .call ⟨.builtin .min, #[x, y], tys⟩, ty, pos, aft, g⟩).run P w = .ok (.value (.int k (min a b))) w := by
  have h : (if b < a then b else a) = min a b := by omega
  simp [execOp, resolve, hx, hy, invoke, builtin, Builtin.min_, Builtin.min2, h]

set_option maxRecDepth 100000 in
set_option maxHeartbeats 1000000 in
theorem x_live (F : Seg) (w : World) (hO : Own w [F]) : Calls Try.prog 10 [].toArray w (Ret fun v w' => v = .bool true ∧ Own w' [F]) := by
  refine enter (n := 120) Try.func10 rfl rfl rfl ?_
  refine CW.seq ?_
  refine CW.region ?_
  refine LW.value (.free rfl) rfl (fun _ r => R.assign (r.e rfl)) ?_
  refine LW.nil (EW.then (?_))
  refine CW.seq ?_
  refine CW.region ?_
  refine LW.op (.free rfl) (OW.calls rfl (fun _ r => R.call (vs := []) Try.call11 rfl trivial) (l_new _ _ (hO.frame [] rfl)) ?_)
  rintro _ w1 ⟨pm3, s4, rfl, hM5, hO2⟩
  replace hO2 := hO2.unframe1
  refine LW.value (.free rfl) rfl (fun _ r => R.assign (r.e rfl)) ?_
  refine LW.nil (EW.then (?_))
  refine CW.seq ?_
  refine CW.region ?_
  refine LW.op (.free rfl) (OW.calls rfl (fun _ r => R.call (vs := [.int .i64 0, .int .i64 0]) Try.call28 rfl ⟨r.e rfl, r.e rfl, trivial⟩) (l_make0 _ _ (hO2.frame [] rfl)) ?_)
  rintro _ w6 ⟨rfl, hO7⟩
  replace hO7 := hO7.unframe0
  refine LW.value (.free rfl) rfl (fun _ r => R.move (r.e rfl)) ?_
  refine LW.value (.free rfl) rfl (fun _ r => R.extract (r.e rfl) rfl) ?_
  refine LW.value (.free rfl) rfl (fun _ r => R.extract (r.e rfl) rfl) ?_
  refine LW.value (.free rfl) rfl (fun _ r => R.assign (r.e rfl)) ?_
  refine LW.value (.free rfl) rfl (fun _ r => R.assign (r.e rfl)) ?_
  refine LW.nil (EW.then (?_))
  refine CW.seq ?_
  refine CW.seq ?_
  refine CW.region ?_
  refine LW.value (.free rfl) rfl (fun _ r => R.move (r.e rfl)) ?_
  refine LW.value (.free rfl) rfl (fun _ r => R.as (R.isNil (r.e rfl) (r.e rfl) Try.underlying25) rfl) ?_
  refine LW.nil (EW.then (?_))
  refine CW.no rfl ?_
  refine CW.skip (EW.then (?_))
  refine CW.seq ?_
  refine CW.region ?_
  refine LW.value (.free rfl) rfl (fun _ r => R.move (r.e rfl)) ?_
  refine LW.value (.free rfl) rfl (fun _ r => R.build (v := .agg #[.int .i64 0, .int .i64 0, .int .i64 0, .int .i64 4]) (vs := [(3, .int .i64 4)]) ⟨⟨r.e rfl, rfl⟩, trivial⟩ (by simp [go_sem])) ?_
  refine LW.value (.free rfl) rfl (fun _ r => R.move (r.e rfl)) ?_
  refine LW.value (.free rfl) rfl (fun _ r => R.build (v := .agg #[.int .i64 0, .int .i64 1099511627776]) (vs := [(1, .int .i64 1099511627776)]) ⟨⟨r.e rfl, rfl⟩, trivial⟩ (by simp [go_sem])) ?_
  have hr8 : tryP ([], []) 0 0 0 4 0 1099511627776 = (true, ([⟨1099511627776, [0, 0, 0, 0], 0⟩] : List PT), ([1099511627776] : List Int)) := by decide
  refine LW.op (.free rfl) (OW.calls rfl (fun _ r => R.call (vs := [.pointer (some ⟨pm3, 0, none⟩), .agg #[.int .i64 0, .int .i64 0, .int .i64 0, .int .i64 4], .agg #[.int .i64 0, .int .i64 1099511627776]]) Try.call17 rfl ⟨r.e rfl, r.e rfl, r.e rfl, trivial⟩) (l_try hM5 (by first | omega | decide) hr8 (by decide) (hO7.frame [0] rfl)) ?_)
  rintro _ w9 ⟨s11, rfl, hM12, hO10⟩
  replace hO10 := hO10.unframe1
  refine LW.value (.free rfl) rfl (fun _ r => R.assign (r.e rfl)) ?_
  refine LW.nil (EW.then (?_))
  refine CW.seq ?_
  refine CW.region ?_
  refine LW.value (.free rfl) rfl (fun _ r => R.move (r.e rfl)) ?_
  refine LW.value (.free rfl) rfl (fun _ r => R.build (v := .agg #[.int .i64 0, .int .i64 0, .int .i64 0, .int .i64 4]) (vs := [(3, .int .i64 4)]) ⟨⟨r.e rfl, rfl⟩, trivial⟩ (by simp [go_sem])) ?_
  refine LW.value (.free rfl) rfl (fun _ r => R.move (r.e rfl)) ?_
  refine LW.value (.free rfl) rfl (fun _ r => R.build (v := .agg #[.int .i64 0, .int .i64 1099511627776]) (vs := [(1, .int .i64 1099511627776)]) ⟨⟨r.e rfl, rfl⟩, trivial⟩ (by simp [go_sem])) ?_
  have hr13 : tryP (([⟨1099511627776, [0, 0, 0, 0], 0⟩] : List PT), ([1099511627776] : List Int)) 0 0 0 4 0 1099511627776 = (false, ([⟨1099511627776, [0, 0, 0, 0], 0⟩] : List PT), ([1099511627776] : List Int)) := by decide
  refine LW.op (.free rfl) (OW.calls rfl (fun _ r => R.call (vs := [.pointer (some ⟨pm3, 0, none⟩), .agg #[.int .i64 0, .int .i64 0, .int .i64 0, .int .i64 4], .agg #[.int .i64 0, .int .i64 1099511627776]]) Try.call17 rfl ⟨r.e rfl, r.e rfl, r.e rfl, trivial⟩) (l_try hM12 (by first | omega | decide) hr13 (by decide) (hO10.frame [0] rfl)) ?_)
  rintro _ w14 ⟨s16, rfl, hM17, hO15⟩
  replace hO15 := hO15.unframe1
  refine LW.value (.free rfl) rfl (fun _ r => R.assign (r.e rfl)) ?_
  refine LW.nil (EW.then (?_))
  refine CW.seq ?_
  refine CW.region ?_
  refine LW.value (.free rfl) rfl (fun _ r => R.move (r.e rfl)) ?_
  refine LW.value (.free rfl) rfl (fun _ r => R.move (r.e rfl)) ?_
  refine LW.value (.free rfl) rfl (fun _ r => R.build (v := .agg #[.int .i64 3, .int .i64 1099511627776, .int .i64 3, .int .i64 261]) (vs := [(0, .int .i64 3), (1, .int .i64 1099511627776), (2, .int .i64 3), (3, .int .i64 261)]) ⟨⟨r.e rfl, rfl⟩, ⟨r.e rfl, rfl⟩, ⟨r.e rfl, rfl⟩, ⟨r.e rfl, rfl⟩, trivial⟩ (by simp [go_sem])) ?_
  refine LW.value (.free rfl) rfl (fun _ r => R.build (v := .agg #[.int .i64 0, .int .i64 0]) (vs := []) trivial (by simp [go_sem])) ?_
  have hr18 : tryP (([⟨1099511627776, [0, 0, 0, 0], 0⟩] : List PT), ([1099511627776] : List Int)) 3 1099511627776 3 261 0 0 = (true, ([⟨1099511627776, [0, 0, 0, 5], 0⟩] : List PT), ([1099511627776] : List Int)) := by decide
  refine LW.op (.free rfl) (OW.calls rfl (fun _ r => R.call (vs := [.pointer (some ⟨pm3, 0, none⟩), .agg #[.int .i64 3, .int .i64 1099511627776, .int .i64 3, .int .i64 261], .agg #[.int .i64 0, .int .i64 0]]) Try.call17 rfl ⟨r.e rfl, r.e rfl, r.e rfl, trivial⟩) (l_try hM17 (by first | omega | decide) hr18 (by decide) (hO15.frame [0] rfl)) ?_)
  rintro _ w19 ⟨s21, rfl, hM22, hO20⟩
  replace hO20 := hO20.unframe1
  refine LW.value (.free rfl) rfl (fun _ r => R.assign (r.e rfl)) ?_
  refine LW.nil (EW.then (?_))
  refine CW.seq ?_
  refine CW.region ?_
  refine LW.value (.free rfl) rfl (fun _ r => R.move (r.e rfl)) ?_
  refine LW.value (.free rfl) rfl (fun _ r => R.move (r.e rfl)) ?_
  refine LW.value (.free rfl) rfl (fun _ r => R.build (v := .agg #[.int .i64 2, .int .i64 1099511627776, .int .i64 3, .int .i64 0]) (vs := [(0, .int .i64 2), (1, .int .i64 1099511627776), (2, .int .i64 3)]) ⟨⟨r.e rfl, rfl⟩, ⟨r.e rfl, rfl⟩, ⟨r.e rfl, rfl⟩, trivial⟩ (by simp [go_sem])) ?_
  refine LW.op (.free rfl) (OW.calls rfl (fun _ r => R.call (vs := [.pointer (some ⟨pm3, 0, none⟩), .agg #[.int .i64 2, .int .i64 1099511627776, .int .i64 3, .int .i64 0]]) Try.call14 rfl ⟨r.e rfl, r.e rfl, trivial⟩) (l_answer hM22 (by first | omega | decide) (show ansP ([⟨1099511627776, [0, 0, 0, 5], 0⟩] : List PT) 2 1099511627776 3 0 = (0, 5, true) from by decide) (hO20.frame [0] rfl)) ?_)
  rintro _ w23 ⟨rfl, hO24⟩
  replace hO24 := hO24.unframe1
  refine LW.value (.free rfl) rfl (fun _ r => R.move (r.e rfl)) ?_
  refine LW.value (.free rfl) rfl (fun _ r => R.extract (r.e rfl) rfl) ?_
  refine LW.value (.free rfl) rfl (fun _ r => R.extract (r.e rfl) rfl) ?_
  refine LW.op (.free rfl) (OW.alloc (cs := #[.int .i64 0, .int .i64 0]) rfl hO24 Try.zeroValue35 rfl ?_)
  intro b25 w26 hO27
  refine LW.op (.free rfl) (OW.storen (i := 0) (vs := [.int .i64 0, .int .i64 5]) rfl hO27 rfl rfl rfl rfl Try.sizeOf35 rfl ?_)
  intro w28 hO29
  refine LW.value (.free rfl) rfl (fun _ r => R.assign (r.e rfl)) ?_
  refine LW.nil (EW.then (?_))
  refine CW.seq ?_
  refine CW.region ?_
  refine LW.value (.free rfl) rfl (fun _ r => R.move (r.e rfl)) ?_
  refine LW.value (.free rfl) rfl (fun _ r => R.build (v := .agg #[.int .i64 0, .int .i64 0, .int .i64 0, .int .i64 4]) (vs := [(3, .int .i64 4)]) ⟨⟨r.e rfl, rfl⟩, trivial⟩ (by simp [go_sem])) ?_
  refine LW.op (.free rfl) (OW.calls rfl (fun _ r => R.call (vs := [.pointer (some ⟨pm3, 0, none⟩), .agg #[.int .i64 0, .int .i64 0, .int .i64 0, .int .i64 4]]) Try.call14 rfl ⟨r.e rfl, r.e rfl, trivial⟩) (l_answer hM22 (by first | omega | decide) (show ansP ([⟨1099511627776, [0, 0, 0, 5], 0⟩] : List PT) 0 0 0 4 = (0, 0, false) from by decide) (hO29.frame [1] rfl)) ?_)
  rintro _ w30 ⟨rfl, hO31⟩
  replace hO31 := hO31.unframe1
  refine LW.value (.free rfl) rfl (fun _ r => R.move (r.e rfl)) ?_
  refine LW.value (.free rfl) rfl (fun _ r => R.extract (r.e rfl) rfl) ?_
  refine LW.value (.free rfl) rfl (fun _ r => R.extract (r.e rfl) rfl) ?_
  refine LW.op (.free rfl) (OW.alloc (cs := #[.int .i64 0, .int .i64 0]) rfl hO31 Try.zeroValue35 rfl ?_)
  intro b32 w33 hO34
  refine LW.op (.free rfl) (OW.storen (i := 0) (vs := [.int .i64 0, .int .i64 0]) rfl hO34 rfl rfl rfl rfl Try.sizeOf35 rfl ?_)
  intro w35 hO36
  refine LW.value (.free rfl) rfl (fun _ r => R.assign (r.e rfl)) ?_
  refine LW.nil (EW.then (?_))
  refine CW.seq ?_
  refine CW.region ?_
  refine LW.value (.free rfl) rfl (fun _ r => R.move (r.e rfl)) ?_
  refine LW.value (.free rfl) rfl (fun _ r => R.move (r.e rfl)) ?_
  refine LW.value (.free rfl) rfl (fun _ r => R.build (v := .agg #[.int .i64 4, .int .i64 1099511627776, .int .i64 0, .int .i64 0]) (vs := [(0, .int .i64 4), (1, .int .i64 1099511627776)]) ⟨⟨r.e rfl, rfl⟩, ⟨r.e rfl, rfl⟩, trivial⟩ (by simp [go_sem])) ?_
  refine LW.value (.free rfl) rfl (fun _ r => R.build (v := .agg #[.int .i64 0, .int .i64 0]) (vs := []) trivial (by simp [go_sem])) ?_
  have hr37 : tryP (([⟨1099511627776, [0, 0, 0, 5], 0⟩] : List PT), ([1099511627776] : List Int)) 4 1099511627776 0 0 0 0 = (true, ([⟨1099511627776, [0, 0, 0, 5], 1⟩] : List PT), ([1099511627776] : List Int)) := by decide
  refine LW.op (.free rfl) (OW.calls rfl (fun _ r => R.call (vs := [.pointer (some ⟨pm3, 0, none⟩), .agg #[.int .i64 4, .int .i64 1099511627776, .int .i64 0, .int .i64 0], .agg #[.int .i64 0, .int .i64 0]]) Try.call17 rfl ⟨r.e rfl, r.e rfl, r.e rfl, trivial⟩) (l_try hM22 (by first | omega | decide) hr37 (by decide) (hO36.frame [1] rfl)) ?_)
  rintro _ w38 ⟨s40, rfl, hM41, hO39⟩
  replace hO39 := hO39.unframe1
  refine LW.value (.free rfl) rfl (fun _ r => R.assign (r.e rfl)) ?_
  refine LW.nil (EW.then (?_))
  refine CW.seq ?_
  refine CW.region ?_
  refine LW.value (.free rfl) rfl (fun _ r => R.move (r.e rfl)) ?_
  refine LW.value (.free rfl) rfl (fun _ r => R.move (r.e rfl)) ?_
  refine LW.value (.free rfl) rfl (fun _ r => R.build (v := .agg #[.int .i64 1, .int .i64 1099511627776, .int .i64 0, .int .i64 0]) (vs := [(0, .int .i64 1), (1, .int .i64 1099511627776)]) ⟨⟨r.e rfl, rfl⟩, ⟨r.e rfl, rfl⟩, trivial⟩ (by simp [go_sem])) ?_
  refine LW.value (.free rfl) rfl (fun _ r => R.build (v := .agg #[.int .i64 6, .int .i64 0]) (vs := [(0, .int .i64 6)]) ⟨⟨r.e rfl, rfl⟩, trivial⟩ (by simp [go_sem])) ?_
  have hr42 : tryP (([⟨1099511627776, [0, 0, 0, 5], 1⟩] : List PT), ([1099511627776] : List Int)) 1 1099511627776 0 0 6 0 = (true, ([⟨1099511627776, [0, 0, 0, 5], 1⟩] : List PT), ([1099511627776] : List Int)) := by decide
  refine LW.op (.free rfl) (OW.calls rfl (fun _ r => R.call (vs := [.pointer (some ⟨pm3, 0, none⟩), .agg #[.int .i64 1, .int .i64 1099511627776, .int .i64 0, .int .i64 0], .agg #[.int .i64 6, .int .i64 0]]) Try.call17 rfl ⟨r.e rfl, r.e rfl, r.e rfl, trivial⟩) (l_try hM41 (by first | omega | decide) hr42 (by decide) (hO39.frame [0] rfl)) ?_)
  rintro _ w43 ⟨s45, rfl, hM46, hO44⟩
  replace hO44 := hO44.unframe1
  refine LW.value (.free rfl) rfl (fun _ r => R.assign (r.e rfl)) ?_
  refine LW.nil (EW.then (?_))
  refine CW.seq ?_
  refine CW.region ?_
  refine LW.value (.free rfl) rfl (fun _ r => R.move (r.e rfl)) ?_
  refine LW.op (.free rfl) (OW.calls rfl (fun _ r => R.call (vs := [.pointer (some ⟨pm3, 0, none⟩)]) Try.call12 rfl ⟨r.e rfl, trivial⟩) (l_copy hM46 (by first | omega | decide) (hO44.frame [0] rfl)) ?_)
  rintro _ w47 ⟨pm49, s50, rfl, hM51, hO48⟩
  replace hO48 := hO48.unframe2
  refine LW.value (.free rfl) rfl (fun _ r => R.assign (r.e rfl)) ?_
  refine LW.nil (EW.then (?_))
  refine CW.seq ?_
  refine CW.region ?_
  refine LW.value (.free rfl) rfl (fun _ r => R.move (r.e rfl)) ?_
  refine LW.value (.free rfl) rfl (fun _ r => R.build (v := .agg #[.int .i64 0, .int .i64 0, .int .i64 0, .int .i64 5]) (vs := [(3, .int .i64 5)]) ⟨⟨r.e rfl, rfl⟩, trivial⟩ (by simp [go_sem])) ?_
  refine LW.value (.free rfl) rfl (fun _ r => R.build (v := .agg #[.int .i64 10, .int .i64 0]) (vs := [(0, .int .i64 10)]) ⟨⟨r.e rfl, rfl⟩, trivial⟩ (by simp [go_sem])) ?_
  have hr52 : tryP (([⟨1099511627776, [0, 0, 0, 5], 1⟩] : List PT), ([1099511627776] : List Int)) 0 0 0 5 10 0 = (true, ([⟨1099511627776, [0, 0, 0, 5], 1⟩] : List PT), ([1099511627776] : List Int)) := by decide
  refine LW.op (.free rfl) (OW.calls rfl (fun _ r => R.call (vs := [.pointer (some ⟨pm3, 0, none⟩), .agg #[.int .i64 0, .int .i64 0, .int .i64 0, .int .i64 5], .agg #[.int .i64 10, .int .i64 0]]) Try.call17 rfl ⟨r.e rfl, r.e rfl, r.e rfl, trivial⟩) (l_try hM46 (by first | omega | decide) hr52 (by decide) (hO48.frame [0] rfl)) ?_)
  rintro _ w53 ⟨s55, rfl, hM56, hO54⟩
  replace hO54 := hO54.unframe1
  refine LW.value (.free rfl) rfl (fun _ r => R.assign (r.e rfl)) ?_
  refine LW.nil (EW.then (?_))
  refine CW.seq ?_
  refine CW.region ?_
  refine LW.value (.free rfl) rfl (fun _ r => R.move (r.e rfl)) ?_
  refine LW.value (.free rfl) rfl (fun _ r => R.move (r.e rfl)) ?_
  refine LW.value (.yes rfl rfl rfl) rfl (fun _ r => R.move (r.e rfl)) ?_
  refine LW.value (.yes rfl rfl rfl) rfl (fun _ r => R.not (r.e rfl)) ?_
  refine LW.value (.free rfl) rfl (fun _ r => R.pick_yes (r.e rfl) (r.e rfl)) ?_
  refine LW.value (.free rfl) rfl (fun _ r => R.move (r.e rfl)) ?_
  refine LW.value (.yes rfl rfl rfl) rfl (fun _ r => R.move (r.e rfl)) ?_
  refine LW.value (.free rfl) rfl (fun _ r => R.pick_yes (r.e rfl) (r.e rfl)) ?_
  refine LW.value (.free rfl) rfl (fun _ r => R.move (r.e rfl)) ?_
  refine LW.value (.yes rfl rfl rfl) rfl (fun _ r => R.loadn (vs := [.int .i64 0, .int .i64 5]) (r.e rfl) Try.isAgg35 Try.sizeOf35 rfl (hO54.cells (i := 3) rfl rfl)) ?_
  refine LW.value (.yes rfl rfl rfl) rfl (fun _ r => R.build (v := .agg #[.int .i64 0, .int .i64 5]) (vs := [(1, .int .i64 5)]) ⟨⟨r.e rfl, rfl⟩, trivial⟩ (by simp [go_sem])) ?_
  refine LW.value (.yes rfl rfl rfl) rfl (fun _ r => eq35_eql (r.e rfl) (r.e rfl)) ?_
  refine LW.value (.free rfl) rfl (fun _ r => R.pick_yes (r.e rfl) (r.e rfl)) ?_
  refine LW.value (.free rfl) rfl (fun _ r => R.move (r.e rfl)) ?_
  have h57 : (0 : Int) = 0 ∧ (5 : Int) = 5 := ⟨rfl, rfl⟩
  refine LW.value (.yes rfl rfl (kb (dT h57))) rfl (fun _ r => R.move (r.e rfl)) ?_
  refine LW.value (.free rfl) rfl (fun _ r => R.pick_yes (r.e (kb (dT h57))) (r.e rfl)) ?_
  refine LW.value (.free rfl) rfl (fun _ r => R.move (r.e rfl)) ?_
  refine LW.value (.yes rfl rfl rfl) rfl (fun _ r => R.move (r.e rfl)) ?_
  refine LW.value (.yes rfl rfl rfl) rfl (fun _ r => R.not (r.e rfl)) ?_
  refine LW.value (.free rfl) rfl (fun _ r => R.pick_yes (r.e rfl) (r.e rfl)) ?_
  refine LW.value (.free rfl) rfl (fun _ r => R.move (r.e rfl)) ?_
  refine LW.value (.yes rfl rfl rfl) rfl (fun _ r => R.move (r.e rfl)) ?_
  refine LW.value (.free rfl) rfl (fun _ r => R.pick_yes (r.e rfl) (r.e rfl)) ?_
  refine LW.value (.free rfl) rfl (fun _ r => R.move (r.e rfl)) ?_
  refine LW.value (.yes rfl rfl rfl) rfl (fun _ r => R.move (r.e rfl)) ?_
  refine LW.value (.free rfl) rfl (fun _ r => R.pick_yes (r.e rfl) (r.e rfl)) ?_
  refine LW.value (.free rfl) rfl (fun _ r => R.move (r.e rfl)) ?_
  refine LW.value (.yes rfl rfl rfl) rfl (fun _ r => R.move (r.e rfl)) ?_
  refine LW.value (.free rfl) rfl (fun _ r => R.pick_yes (r.e rfl) (r.e rfl)) ?_
  refine LW.value (.free rfl) rfl (fun _ r => R.move (r.e rfl)) ?_
  refine LW.value (.yes rfl rfl rfl) rfl (fun _ r => R.move (r.e rfl)) ?_
  refine LW.value (.yes rfl rfl rfl) rfl (fun _ r => R.move (r.e rfl)) ?_
  refine LW.op (.yes rfl rfl rfl) (OW.calls rfl (fun _ r => R.call (vs := [.pointer (some ⟨pm49, 0, none⟩), .pointer (some ⟨pm3, 0, none⟩)]) Try.call26 rfl ⟨r.e rfl, r.e rfl, trivial⟩) (l_same hM51 (by first | omega | decide) hM56 (by first | omega | decide) (hO54.frame [1, 0] rfl)) ?_)
  rintro _ w58 ⟨rfl, hO59⟩
  replace hO59 := hO59.unframe2
  refine LW.value (.free rfl) rfl (fun _ r => R.pick_yes (r.e rfl) (r.e rfl)) ?_
  refine LW.value (.free rfl) rfl (fun _ r => R.move (r.e rfl)) ?_
  have h60 : ([⟨1099511627776, [0, 0, 0, 5], 1⟩] : List PT) = ([⟨1099511627776, [0, 0, 0, 5], 1⟩] : List PT) ∧ ([1099511627776] : List Int) = ([1099511627776] : List Int) := ⟨rfl, rfl⟩
  refine LW.value (.yes rfl rfl (kb (dT h60))) rfl (fun _ r => R.move (r.e rfl)) ?_
  refine LW.op (.yes rfl rfl (kb (dT h60))) (OW.calls rfl (fun _ r => R.call (vs := [.pointer (some ⟨pm3, 0, none⟩)]) Try.call20 rfl ⟨r.e rfl, trivial⟩) (l_live hM56 (by first | omega | decide) (hO59.frame [1] rfl)) ?_)
  rintro v61 w64 ⟨g62, hg63, hO65⟩
  replace hO65 := hO65.unframe2
  refine LW.value (.yes rfl rfl (kb (dT h60))) rfl (fun _ r => R.move (r.e rfl)) ?_
  refine LW.op (.yes rfl rfl (kb (dT h60))) (OW.buildSlice (cs := #[.int .i64 1099511627776]) (e := 3) (vs := [(0, .int .i64 1099511627776)]) rfl hO65 (fun _ r => ⟨⟨r.e rfl, rfl⟩, trivial⟩) (fun _ => by simp [go_sem, Instr.buildSlice, newRow]) ?_)
  intro b66 w67 hO68
  obtain ⟨a69, n70, c71, ehs72, hs72⟩ := Grow.shut (enc := encI) (sz := 1) hg63 (fun _ _ => rfl)
  subst ehs72
  have hg73 : Grow 3 1 encI (.slice (some ⟨b66, 0, none⟩) 1 1) [(b66, .cells #[.int .i64 1099511627776] 3 (0, 0))] [1099511627776] := .inr ⟨b66, 1, [], rfl, rfl, rfl, Nat.le_refl _⟩
  obtain ⟨a74, n75, c76, ehs77, hs77⟩ := Grow.shut (enc := encI) (sz := 1) hg73 (fun _ _ => rfl)
  injection ehs77 with e1 e2 e3; subst e1 e2 e3
  have hO78 := (hO68.move [1, 0] rfl).join
  refine LW.op (.yes rfl rfl (kb (dT h60))) (OW.calls rfl (fun _ r => R.call (vs := [(.slice a69 n70 c71), .slice (some ⟨b66, 0, none⟩) 1 1]) Try.call19 rfl ⟨r.e rfl, r.e rfl, trivial⟩) (k_same ((g62 : Seg) ++ ([(b66, .cells #[.int .i64 1099511627776] 3 (0, 0))] : Seg)) _ _ _ _ _ _ _ (List.map (·.h) ([⟨1099511627776, [0, 0, 0, 5], 1⟩] : List PT)) ([1099511627776]) _ (hs72.mono (fun p hp => List.mem_append_left _ hp)) (hs77.mono (fun p hp => List.mem_append_right _ hp)) (by rw [List.length_map]; exact (by decide)) (hO78.frame [0] rfl)) ?_)
  rintro _ w79 ⟨rfl, hO80⟩
  replace hO80 := hO80.unframe1.split
  refine LW.value (.free rfl) rfl (fun _ r => R.pick_yes (r.e (kb (dT h60))) (r.e rfl)) ?_
  refine LW.value (.free rfl) rfl (fun _ r => R.move (r.e rfl)) ?_
  have h81 : (List.map (·.h) ([⟨1099511627776, [0, 0, 0, 5], 1⟩] : List PT)) = ([1099511627776]) := by decide
  refine LW.value (.yes rfl rfl (kb (dT h81))) rfl (fun _ r => R.move (r.e rfl)) ?_
  refine LW.value (.yes rfl rfl (kb (dT h81))) rfl (fun _ r => R.move (r.e rfl)) ?_
  refine LW.op (.yes rfl rfl (kb (dT h81))) (OW.calls rfl (fun _ r => R.call (vs := [.pointer (some ⟨pm3, 0, none⟩), .int .i64 1099511627776]) Try.call22 rfl ⟨r.e rfl, r.e rfl, trivial⟩) (l_bytes hM56 (by first | omega | decide) _ (hO80.frame [2] rfl)) ?_)
  rintro v82 w85 ⟨g83, hg84, hO86⟩
  replace hO86 := hO86.unframe2
  refine LW.op (.yes rfl rfl (kb (dT h81))) (OW.buildSlice (cs := #[.int .i64 0, .int .i64 0, .int .i64 0, .int .i64 5]) (e := 3) (vs := [(0, .int .i64 0), (1, .int .i64 0), (2, .int .i64 0), (3, .int .i64 5)]) rfl hO86 (fun _ r => ⟨⟨r.e rfl, rfl⟩, ⟨r.e rfl, rfl⟩, ⟨r.e rfl, rfl⟩, ⟨r.e rfl, rfl⟩, trivial⟩) (fun _ => by simp [go_sem, Instr.buildSlice, newRow]) ?_)
  intro b87 w88 hO89
  obtain ⟨a90, n91, c92, ehs93, hs93⟩ := Grow.shut (enc := encI) (sz := 1) hg84 (fun _ _ => rfl)
  subst ehs93
  have hg94 : Grow 3 1 encI (.slice (some ⟨b87, 0, none⟩) 4 4) [(b87, .cells #[.int .i64 0, .int .i64 0, .int .i64 0, .int .i64 5] 3 (0, 0))] [0, 0, 0, 5] := .inr ⟨b87, 4, [], rfl, rfl, rfl, Nat.le_refl _⟩
  obtain ⟨a95, n96, c97, ehs98, hs98⟩ := Grow.shut (enc := encI) (sz := 1) hg94 (fun _ _ => rfl)
  injection ehs98 with e1 e2 e3; subst e1 e2 e3
  have hO99 := (hO89.move [1, 0] rfl).join
  refine LW.op (.yes rfl rfl (kb (dT h81))) (OW.calls rfl (fun _ r => R.call (vs := [(.slice a90 n91 c92), .slice (some ⟨b87, 0, none⟩) 4 4]) Try.call19 rfl ⟨r.e rfl, r.e rfl, trivial⟩) (k_same ((g83 : Seg) ++ ([(b87, .cells #[.int .i64 0, .int .i64 0, .int .i64 0, .int .i64 5] 3 (0, 0))] : Seg)) _ _ _ _ _ _ _ (((findP ([⟨1099511627776, [0, 0, 0, 5], 1⟩] : List PT) 1099511627776).map (·.b)).getD []) ([0, 0, 0, 5]) _ (hs93.mono (fun p hp => List.mem_append_left _ hp)) (hs98.mono (fun p hp => List.mem_append_right _ hp)) (hM56.blen _) (hO99.frame [0] rfl)) ?_)
  rintro _ w100 ⟨rfl, hO101⟩
  replace hO101 := hO101.unframe1.split
  refine LW.value (.free rfl) rfl (fun _ r => R.pick_yes (r.e (kb (dT h81))) (r.e rfl)) ?_
  refine LW.value (.free rfl) rfl (fun _ r => R.move (r.e rfl)) ?_
  have h102 : (((findP ([⟨1099511627776, [0, 0, 0, 5], 1⟩] : List PT) 1099511627776).map (·.b)).getD []) = ([0, 0, 0, 5]) := by decide
  refine LW.value (.yes rfl rfl (kb (dT h102))) rfl (fun _ r => R.move (r.e rfl)) ?_
  refine LW.value (.yes rfl rfl (kb (dT h102))) rfl (fun _ r => R.move (r.e rfl)) ?_
  refine LW.op (.yes rfl rfl (kb (dT h102))) (OW.calls rfl (fun _ r => R.call (vs := [.pointer (some ⟨pm3, 0, none⟩), .int .i64 1099511627776]) Try.call24 rfl ⟨r.e rfl, r.e rfl, trivial⟩) (l_pins hM56 (by first | omega | decide) _ (hO101.frame [2] rfl)) ?_)
  rintro _ w103 ⟨rfl, hO104⟩
  replace hO104 := hO104.unframe1
  refine LW.value (.yes rfl rfl (kb (dT h102))) rfl (fun _ r => R.eql (r.e rfl) (r.e rfl)) ?_
  refine LW.value (.free rfl) rfl (fun _ r => R.pick_yes (r.e (kb (dT h102))) (r.e rfl)) ?_
  refine LW.value (.free rfl) rfl (fun _ r => R.assign (r.e rfl)) ?_
  refine LW.nil (EW.then (?_))
  refine CW.ret ?_
  refine EW.ret1 rfl rfl ?_
  exact ⟨congrArg Value.bool (decide_eq_true (show (((findP ([⟨1099511627776, [0, 0, 0, 5], 1⟩] : List PT) 1099511627776).map (·.pins)).getD 0) = 1 from by decide)), hO104.pick [8] rfl⟩

set_option maxRecDepth 100000 in
set_option maxHeartbeats 1000000 in
theorem x_scripts (F : Seg) (a : Option Addr) (n cc : Nat) (sc : List Cl) (hs : Sl F 7 encC a n cc sc) (hcl : Cls sc) (at_ : Int) (w : World) (hO : Own w [F]) : Calls Try.prog 3 [.slice a n cc, .int .i64 at_].toArray w (Ret fun v w' => v = .bool true ∧ Own w' [F]) := by
  have hsl := hs.hlen
  refine enter (n := 152) Try.func3 rfl rfl rfl ?_
  refine CW.seq ?_
  refine CW.region ?_
  refine LW.value (.free rfl) rfl (fun _ r => R.assign (r.e rfl)) ?_
  refine LW.nil (EW.then (?_))
  refine CW.seq ?_
  refine CW.seq ?_
  refine CW.region ?_
  refine LW.value (.free rfl) rfl (fun _ r => R.move (r.e rfl)) ?_
  refine LW.op (.free rfl) (OW.calls rfl (fun _ r => R.call (vs := [.slice a n cc, .int .i64 60]) Try.call9 rfl ⟨r.e rfl, r.e rfl, trivial⟩) (v_small _ _ _ _ _ _ (hO.frame [] rfl)) ?_)
  rintro _ w1 ⟨rfl, hO2⟩
  replace hO2 := hO2.unframe0
  refine LW.value (.free rfl) rfl (fun _ r => R.not (r.e rfl)) ?_
  refine LW.nil (EW.then (?_))
  by_cases h3 : (n : Int) ≤ 60
  · -- (n : Int) ≤ 60
    refine CW.no (kb (bN (dT h3))) ?_
    refine CW.skip (EW.then (?_))
    refine CW.seq ?_
    refine CW.region ?_
    refine LW.op (.free rfl) (OW.calls rfl (fun _ r => R.call (vs := []) Try.call11 rfl trivial) (l_new _ _ (hO2.frame [] rfl)) ?_)
    rintro _ w4 ⟨pm6, s7, rfl, hM8, hO5⟩
    replace hO5 := hO5.unframe1
    refine LW.value (.free rfl) rfl (fun _ r => R.assign (r.e rfl)) ?_
    refine LW.nil (EW.then (?_))
    refine CW.seq ?_
    refine CW.seq ?_
    refine CW.region ?_
    refine LW.value (.free rfl) rfl (fun _ r => R.move (r.e rfl)) ?_
    refine LW.value (.free rfl) rfl (fun _ r => R.as (R.isNil (r.e rfl) (r.e rfl) Try.underlying25) rfl) ?_
    refine LW.nil (EW.then (?_))
    refine CW.no rfl ?_
    refine CW.skip (EW.then (?_))
    refine CW.seq ?_
    refine CW.region ?_
    refine LW.value (.free rfl) rfl (fun _ r => R.build (v := .agg #[.slice none 0 0, .slice none 0 0]) (vs := []) trivial (by simp [go_sem])) ?_
    refine LW.op (.free rfl) (OW.box (cs := #[.slice none 0 0, .slice none 0 0]) rfl hO5 rfl rfl ?_)
    intro b9 w10 hO11
    have hO12 := hO11.nil
    refine LW.value (.free rfl) rfl (fun _ r => R.assign (r.e rfl)) ?_
    refine LW.nil (EW.then (?_))
    refine CW.seq ?_
    refine CW.region ?_
    refine LW.value (.free rfl) rfl (fun _ r => R.move (r.e rfl)) ?_
    refine LW.op (.free rfl) (OW.calls rfl (fun _ r => R.call (vs := [.pointer (some ⟨pm6, 0, none⟩)]) Try.call12 rfl ⟨r.e rfl, trivial⟩) (l_copy hM8 (by first | omega | decide) (hO12.frame [2] rfl)) ?_)
    rintro _ w13 ⟨pm15, s16, rfl, hM17, hO14⟩
    replace hO14 := hO14.unframe2
    refine LW.value (.free rfl) rfl (fun _ r => R.assign (r.e rfl)) ?_
    refine LW.nil (EW.then (?_))
    refine CW.seq ?_
    refine CW.region ?_
    refine LW.value (.free rfl) rfl (fun _ r => R.move (r.e rfl)) ?_
    refine LW.op (.free rfl) (OW.calls rfl (fun _ r => R.call (vs := [.pointer (some ⟨b9, 0, none⟩)]) Try.call13 rfl ⟨r.e rfl, trivial⟩) (r_copy KRef.empty (by decide) (by first | omega | decide) (hO14.frame [3, 2] rfl)) ?_)
    rintro _ w18 ⟨k20, cs21, G22, rfl, hs23, hK24, hO19⟩
    replace hO19 := hO19.unframe3
    have hK25 := KRef.mono KRef.empty hs23
    refine LW.value (.free rfl) rfl (fun _ r => R.assign (r.e rfl)) ?_
    refine LW.nil (EW.then (?_))
    refine CW.seq ?_
    refine CW.seq ?_
    refine CW.region ?_
    refine LW.value (.free rfl) rfl (fun _ r => R.assign (r.e rfl)) ?_
    refine LW.nil (EW.then (?_))
    refine CW.block ?_
    refine CW.sub (env' := [(5, .pointer (some ⟨pm6, 0, none⟩)), (6, .pointer (some ⟨b9, 0, none⟩)), (9, .int .i64 (0 : Int)), (0, .slice a n cc), (1, .int .i64 at_), (7, .pointer (some ⟨pm15, 0, none⟩)), (8, .pointer (some ⟨k20, 0, none⟩))]) ⟨rfl, rfl, rfl, rfl, rfl, rfl, rfl, trivial⟩ ?_
    refine CW.loop (α := Nat × List PT × List Int × Seg × Seg × Array Value × Nat × Seg × Nat × Array Value × List PT × List Int) (fun (x_ : Nat × List PT × List Int × Seg × Seg × Array Value × Nat × Seg × Nat × Array Value × List PT × List Int) env_ w_ => ∃ i X T s G cs pm2 s2 k2 cs2 X2 T2, x_ = (i, X, T, s, G, cs, pm2, s2, k2, cs2, X2, T2) ∧ env_ = [(5, .pointer (some ⟨pm6, 0, none⟩)), (6, .pointer (some ⟨b9, 0, none⟩)), (9, .int .i64 (i : Int)), (0, .slice a n cc), (1, .int .i64 at_), (7, .pointer (some ⟨pm2, 0, none⟩)), (8, .pointer (some ⟨k2, 0, none⟩))] ∧ Own w_ [s, s2, [(b9, .cells cs 31 (0, 0))], [(k2, .cells cs2 31 (0, 0))], G, F] ∧ (i ≤ sc.length) ∧ (MRef s pm6 X T) ∧ (KRef G cs X T) ∧ (T.length ≤ i) ∧ (MRef s2 pm2 X2 T2) ∧ (KRef G cs2 X2 T2) ∧ (T2.length ≤ i)) (fun (x_ : Nat × List PT × List Int × Seg × Seg × Array Value × Nat × Seg × Nat × Array Value × List PT × List Int) => sc.length - x_.1) (0, [], [], s7, G22, #[.slice none 0 0, .slice none 0 0], pm15, s16, k20, cs21, [], []) ⟨0, [], [], s7, G22, #[.slice none 0 0, .slice none 0 0], pm15, s16, k20, cs21, [], [], rfl, rfl, hO19.pick [3, 3, 0, 0, 0, 0] rfl, Nat.zero_le _, hM8, hK25, by simp, hM17, hK24, by simp⟩ ?_
    rintro _ _ w26 ⟨i, X, T, s, G, cs, pm2, s2, k2, cs2, X2, T2, rfl, rfl, hO27, hi, hM, hK, hl, hM2, hK2, hl2⟩
    refine CW.seq ?_
    refine CW.seq ?_
    refine CW.region ?_
    refine LW.value (.free rfl) rfl (fun _ r => R.move (r.e rfl)) ?_
    refine LW.value (.free rfl) rfl (fun _ r => R.move (r.e rfl)) ?_
    refine LW.value (.free rfl) rfl (fun _ r => R.len_slice (r.e rfl) Try.runUnderlying22) ?_
    refine LW.value (.free rfl) rfl (fun _ r => R.lss (r.e rfl) (r.e rfl)) ?_
    refine LW.nil (EW.then (?_))
    by_cases h28 : (i : Int) < (n : Int)
    · -- (i : Int) < (n : Int)
      refine CW.yes (kb (dT h28)) ?_
      refine CW.skip (EW.then (?_))
      refine CW.seq ?_
      refine CW.block ?_
      refine CW.seq ?_
      refine CW.seq ?_
      refine CW.region ?_
      refine LW.value (.free rfl) rfl (fun _ r => R.move (r.e rfl)) ?_
      refine LW.value (.free rfl) rfl (fun _ r => R.move (r.e rfl)) ?_
      refine LW.value (.free rfl) rfl (fun _ r => R.eql (r.e rfl) (r.e rfl)) ?_
      refine LW.nil (EW.then (?_))
      by_cases h29 : (i : Int) = at_
      · -- (i : Int) = at_
        refine CW.yes (kb (dT h29)) ?_
        refine CW.seq ?_
        refine CW.region ?_
        refine LW.value (.free rfl) rfl (fun _ r => R.move (r.e rfl)) ?_
        refine LW.op (.free rfl) (OW.calls rfl (fun _ r => R.call (vs := [.pointer (some ⟨pm6, 0, none⟩)]) Try.call12 rfl ⟨r.e rfl, trivial⟩) (l_copy hM (by first | omega | decide) (hO27.frame [0] rfl)) ?_)
        rintro _ w30 ⟨pm32, s33, rfl, hM34, hO31⟩
        replace hO31 := hO31.unframe2
        refine LW.value (.free rfl) rfl (fun _ r => R.assign (r.e rfl)) ?_
        refine LW.nil (EW.then (?_))
        refine CW.region ?_
        refine LW.value (.free rfl) rfl (fun _ r => R.move (r.e rfl)) ?_
        refine LW.op (.free rfl) (OW.calls rfl (fun _ r => R.call (vs := [.pointer (some ⟨b9, 0, none⟩)]) Try.call13 rfl ⟨r.e rfl, trivial⟩) (r_copy hK (by have := hM.le; first | omega | decide) (by first | omega | decide) (hO31.frame [3, 4] rfl)) ?_)
        rintro _ w35 ⟨k37, cs38, G39, rfl, hs40, hK41, hO36⟩
        replace hO36 := hO36.unframe3
        have hK42 := KRef.mono hK hs40
        have hK43 := KRef.mono hK2 hs40
        refine LW.value (.free rfl) rfl (fun _ r => R.assign (r.e rfl)) ?_
        refine LW.nil (EW.then (?_))
        refine CW.seq ?_
        refine CW.region ?_
        refine LW.value (.free rfl) rfl (fun _ r => R.move (r.e rfl)) ?_
        refine LW.value (.free rfl) rfl (fun _ r => R.move (r.e rfl)) ?_
        refine LW.value (.free rfl) rfl (fun _ r => R.move (r.e rfl)) ?_
        obtain ⟨x44, hxx44⟩ : ∃ t, (sc)[i]? = some t := ⟨_, List.getElem?_eq_getElem (by omega)⟩
        obtain ⟨blx44, olx44, hax44, hcx44⟩ := hs.at_ _ _ hxx44
        refine LW.value (.free rfl) rfl (fun _ r => R.indexAddr_o (k := olx44 + i * 7) (r.e rfl) hax44 (r.e rfl) Try.runUnderlying22 Try.sizeOf41 (by omega) (by omega) (by simp)) ?_
        refine LW.value (.free rfl) rfl (fun _ r => R.fieldAddr (k := olx44 + i * 7) (r.e rfl) Try.runUnderlying41 rfl Try.sizeOf39 rfl) ?_
        refine LW.value (.free rfl) rfl (fun _ r => R.loadn (vs := [.int .i64 x44.d, .int .i64 x44.h, .int .i64 x44.off, .int .i64 x44.n]) (r.e rfl) Try.isAgg39 Try.sizeOf39 rfl (fun j v hj => hO36.pc (i := 7) rfl (hcx44 j v (take_get0 (m := 4) hj)))) ?_
        obtain ⟨a45, m46, t47, ha48⟩ : ∃ a m t, ansP X x44.d x44.h x44.off x44.n = (a, m, t) := ⟨_, _, _, rfl⟩
        refine LW.op (.free rfl) (OW.calls rfl (fun _ r => R.call (vs := [.pointer (some ⟨pm6, 0, none⟩), .agg #[.int .i64 x44.d, .int .i64 x44.h, .int .i64 x44.off, .int .i64 x44.n]]) Try.call14 rfl ⟨r.e rfl, r.e rfl, trivial⟩) (l_answer hM (by first | omega | decide) ha48 (hO36.frame [3] rfl)) ?_)
        rintro _ w49 ⟨rfl, hO50⟩
        replace hO50 := hO50.unframe1
        refine LW.value (.free rfl) rfl (fun _ r => R.move (r.e rfl)) ?_
        refine LW.value (.free rfl) rfl (fun _ r => R.extract (r.e rfl) rfl) ?_
        refine LW.value (.free rfl) rfl (fun _ r => R.extract (r.e rfl) rfl) ?_
        refine LW.op (.free rfl) (OW.alloc (cs := #[.int .i64 0, .int .i64 0]) rfl hO50 Try.zeroValue35 rfl ?_)
        intro b51 w52 hO53
        refine LW.op (.free rfl) (OW.storen (i := 0) (vs := [.int .i64 a45, .int .i64 m46]) rfl hO53 rfl rfl rfl rfl Try.sizeOf35 rfl ?_)
        intro w54 hO55
        refine LW.value (.free rfl) rfl (fun _ r => R.assign (r.e rfl)) ?_
        refine LW.nil (EW.then (?_))
        refine CW.seq ?_
        refine CW.region ?_
        refine LW.value (.free rfl) rfl (fun _ r => R.move (r.e rfl)) ?_
        refine LW.value (.free rfl) rfl (fun _ r => R.move (r.e rfl)) ?_
        refine LW.value (.free rfl) rfl (fun _ r => R.move (r.e rfl)) ?_
        obtain ⟨blx44_56, olx44_56, hax44_56, hcx44_56⟩ := hs.at_ _ _ hxx44
        refine LW.value (.free rfl) rfl (fun _ r => R.indexAddr_o (k := olx44_56 + i * 7) (r.e rfl) hax44_56 (r.e rfl) Try.runUnderlying22 Try.sizeOf41 (by omega) (by omega) (by simp)) ?_
        refine LW.value (.free rfl) rfl (fun _ r => R.fieldAddr (k := olx44_56 + i * 7) (r.e rfl) Try.runUnderlying41 rfl Try.sizeOf39 rfl) ?_
        refine LW.value (.free rfl) rfl (fun _ r => R.loadn (vs := [.int .i64 x44.d, .int .i64 x44.h, .int .i64 x44.off, .int .i64 x44.n]) (r.e rfl) Try.isAgg39 Try.sizeOf39 rfl (fun j v hj => hO55.pc (i := 8) rfl (hcx44_56 j v (take_get0 (m := 4) hj)))) ?_
        refine LW.op (.free rfl) (OW.calls rfl (fun _ r => R.call (vs := [.pointer (some ⟨b9, 0, none⟩), .agg #[.int .i64 x44.d, .int .i64 x44.h, .int .i64 x44.off, .int .i64 x44.n]]) Try.call15 rfl ⟨r.e rfl, r.e rfl, trivial⟩) (r_answer hK42 (by have := hM.le; first | omega | decide) ha48 (hO55.frame [2, 3] rfl)) ?_)
        rintro _ w57 ⟨rfl, hO58⟩
        replace hO58 := hO58.unframe2
        refine LW.value (.free rfl) rfl (fun _ r => R.move (r.e rfl)) ?_
        refine LW.value (.free rfl) rfl (fun _ r => R.extract (r.e rfl) rfl) ?_
        refine LW.value (.free rfl) rfl (fun _ r => R.extract (r.e rfl) rfl) ?_
        refine LW.op (.free rfl) (OW.alloc (cs := #[.int .i64 0, .int .i64 0]) rfl hO58 Try.zeroValue35 rfl ?_)
        intro b59 w60 hO61
        refine LW.op (.free rfl) (OW.storen (i := 0) (vs := [.int .i64 a45, .int .i64 m46]) rfl hO61 rfl rfl rfl rfl Try.sizeOf35 rfl ?_)
        intro w62 hO63
        refine LW.value (.free rfl) rfl (fun _ r => R.assign (r.e rfl)) ?_
        refine LW.nil (EW.then (?_))
        refine CW.seq ?_
        refine CW.region ?_
        refine LW.value (.free rfl) rfl (fun _ r => R.move (r.e rfl)) ?_
        refine LW.value (.free rfl) rfl (fun _ r => R.move (r.e rfl)) ?_
        refine LW.value (.free rfl) rfl (fun _ r => R.move (r.e rfl)) ?_
        obtain ⟨blx44_64, olx44_64, hax44_64, hcx44_64⟩ := hs.at_ _ _ hxx44
        refine LW.value (.free rfl) rfl (fun _ r => R.indexAddr_o (k := olx44_64 + i * 7) (r.e rfl) hax44_64 (r.e rfl) Try.runUnderlying22 Try.sizeOf41 (by omega) (by omega) (by simp)) ?_
        refine LW.value (.free rfl) rfl (fun _ r => R.loadn (vs := [.int .i64 x44.d, .int .i64 x44.h, .int .i64 x44.off, .int .i64 x44.n, .int .i64 x44.code, .int .i64 x44.num, .bool x44.own]) (r.e rfl) Try.isAgg41 Try.sizeOf41 rfl (fun j v hj => hO63.pc (i := 9) rfl (hcx44_64 j v hj))) ?_
        obtain ⟨tc65, tn66, ht67⟩ : ∃ a m, triedP X x44.d x44.h x44.off x44.n x44.code x44.num x44.own = (a, m) := ⟨_, _, rfl⟩
        refine LW.op (.free rfl) (OW.calls rfl (fun _ r => R.call (vs := [.pointer (some ⟨b9, 0, none⟩), .agg #[.int .i64 x44.d, .int .i64 x44.h, .int .i64 x44.off, .int .i64 x44.n, .int .i64 x44.code, .int .i64 x44.num, .bool x44.own]]) Try.call16 rfl ⟨r.e rfl, r.e rfl, trivial⟩) (r_tried hK42 (by have := hM.le; first | omega | decide) ht67 (hO63.frame [1, 1] rfl)) ?_)
        rintro _ w68 ⟨rfl, hO69⟩
        replace hO69 := hO69.unframe2
        refine LW.op (.free rfl) (OW.alloc (cs := #[.int .i64 0, .int .i64 0]) rfl hO69 Try.zeroValue35 rfl ?_)
        intro b70 w71 hO72
        refine LW.op (.free rfl) (OW.storen (i := 0) (vs := [.int .i64 tc65, .int .i64 tn66]) rfl hO72 rfl rfl rfl rfl Try.sizeOf35 rfl ?_)
        intro w73 hO74
        refine LW.nil (EW.then (?_))
        refine CW.seq ?_
        refine CW.seq ?_
        refine HP.start (I := fun w' => Own w' [[(b70, .cells #[.int .i64 tc65, .int .i64 tn66] 35 (0, 0))], [(b59, .cells #[.int .i64 a45, .int .i64 m46] 35 (0, 0))], [(b51, .cells #[.int .i64 a45, .int .i64 m46] 35 (0, 0))], F]) (.take 0 (.take 1 (.take 2 (.take 3 (.take 4 (.take 5 (.take 6 (.take 7 (.take 8 (.take 9 (.take 10 (.take 11 (.take 12 (.take 13 (.take 14 (.take 15 (.take 17 (.take 18 (.take 19 (.take 20 (.take 21 (.take 22 (.take 23 (.one 16 (.one 24 (.take 25 (.take 26 (.done)))))))))))))))))))))))))))) Try.mixed (by intro c d v a w h; cases d <;> exact h) hO74 (by kernel_rfl) ?_
        intro w77 hO78
        have hI79 := hO78.pick [0, 2, 2, 7] rfl
        refine HP.take rfl (.free rfl) rfl hI79 (fun _ r _ hI => R.loadn (vs := [.int .i64 a45, .int .i64 m46]) (r.e rfl) Try.isAgg35 Try.sizeOf35 rfl (hI.cells (i := 2) rfl rfl)) ?_
        refine HP.take rfl (.free rfl) rfl hI79 (fun _ r _ hI => R.loadn (vs := [.int .i64 a45, .int .i64 m46]) (r.e rfl) Try.isAgg35 Try.sizeOf35 rfl (hI.cells (i := 1) rfl rfl)) ?_
        refine HP.take rfl (.free rfl) rfl hI79 (fun _ r _ hI => eq35_neq (r.e rfl) (r.e rfl)) ?_
        refine HP.take rfl (.free rfl) rfl hI79 (fun _ r _ hI => R.move (r.e rfl)) ?_
        have h80 : a45 = a45 ∧ m46 = m46 := ⟨rfl, rfl⟩
        refine HP.take rfl (.yes rfl rfl (kb (bN (dT h80)))) rfl hI79 (fun _ r _ hI => R.move (r.e rfl)) ?_
        refine HP.take rfl (.yes rfl rfl (kb (bN (dT h80)))) rfl hI79 (fun _ r _ hI => R.move (r.e rfl)) ?_
        refine HP.take rfl (.yes rfl rfl (kb (bN (dT h80)))) rfl hI79 (fun _ r _ hI => R.neq_bool Try.underlying4 (r.e rfl) (r.e rfl)) ?_
        refine HP.take rfl (.free rfl) rfl hI79 (fun _ r _ hI => R.pick_no (r.e (kb (bN (dT h80)))) (r.e rfl)) ?_
        refine HP.take rfl (.free rfl) rfl hI79 (fun _ r _ hI => R.move (r.e rfl)) ?_
        have h81 : t47 = t47 := rfl
        refine HP.take rfl (.yes rfl rfl (kb (bN (dT h81)))) rfl hI79 (fun _ r _ hI => R.move (r.e rfl)) ?_
        refine HP.take rfl (.yes rfl rfl (kb (bN (dT h81)))) rfl hI79 (fun _ r _ hI => R.move (r.e rfl)) ?_
        refine HP.take rfl (.yes rfl rfl (kb (bN (dT h81)))) rfl hI79 (fun _ r _ hI => R.move (r.e rfl)) ?_
        obtain ⟨blx44_82, olx44_82, hax44_82, hcx44_82⟩ := hs.at_ _ _ hxx44
        refine HP.take rfl (.yes rfl rfl (kb (bN (dT h81)))) rfl hI79 (fun _ r _ hI => R.indexAddr_o (k := olx44_82 + i * 7) (r.e rfl) hax44_82 (r.e rfl) Try.runUnderlying22 Try.sizeOf41 (by omega) (by omega) (by simp)) ?_
        refine HP.take rfl (.yes rfl rfl (kb (bN (dT h81)))) rfl hI79 (fun _ r _ hI => R.fieldAddr (k := olx44_82 + i * 7) (r.e rfl) Try.runUnderlying41 rfl Try.sizeOf39 rfl) ?_
        refine HP.take rfl (.yes rfl rfl (kb (bN (dT h81)))) rfl hI79 (fun _ r _ hI => R.loadn (vs := [.int .i64 x44.d, .int .i64 x44.h, .int .i64 x44.off, .int .i64 x44.n]) (r.e rfl) Try.isAgg39 Try.sizeOf39 rfl (fun j v hj => hI.pc (i := 3) rfl (hcx44_82 j v (take_get0 (m := 4) hj)))) ?_
        refine HP.take rfl (.yes rfl rfl (kb (bN (dT h81)))) rfl hI79 (fun _ r _ hI => R.loadn (vs := [.int .i64 tc65, .int .i64 tn66]) (r.e rfl) Try.isAgg35 Try.sizeOf35 rfl (hI.cells (i := 0) rfl rfl)) ?_
        refine HP.take rfl (.yes rfl rfl (kb (bN (dT h81)))) rfl hI79 (fun _ r _ hI => R.move (r.e rfl)) ?_
        refine HP.take rfl (.yes rfl rfl (kb (bN (dT h81)))) rfl hI79 (fun _ r _ hI => R.move (r.e rfl)) ?_
        refine HP.take rfl (.yes rfl rfl (kb (bN (dT h81)))) rfl hI79 (fun _ r _ hI => R.move (r.e rfl)) ?_
        obtain ⟨blx44_83, olx44_83, hax44_83, hcx44_83⟩ := hs.at_ _ _ hxx44
        refine HP.take rfl (.yes rfl rfl (kb (bN (dT h81)))) rfl hI79 (fun _ r _ hI => R.indexAddr_o (k := olx44_83 + i * 7) (r.e rfl) hax44_83 (r.e rfl) Try.runUnderlying22 Try.sizeOf41 (by omega) (by omega) (by simp)) ?_
        refine HP.take rfl (.yes rfl rfl (kb (bN (dT h81)))) rfl hI79 (fun _ r _ hI => R.fieldAddr (k := olx44_83 + i * 7) (r.e rfl) Try.runUnderlying41 rfl Try.sizeOf39 rfl) ?_
        refine HP.take rfl (.yes rfl rfl (kb (bN (dT h81)))) rfl hI79 (fun _ r _ hI => R.loadn (vs := [.int .i64 x44.d, .int .i64 x44.h, .int .i64 x44.off, .int .i64 x44.n]) (r.e rfl) Try.isAgg39 Try.sizeOf39 rfl (fun j v hj => hI.pc (i := 3) rfl (hcx44_83 j v (take_get0 (m := 4) hj)))) ?_
        refine HP.take rfl (.yes rfl rfl (kb (bN (dT h81)))) rfl hI79 (fun _ r _ hI => R.loadn (vs := [.int .i64 tc65, .int .i64 tn66]) (r.e rfl) Try.isAgg35 Try.sizeOf35 rfl (hI.cells (i := 0) rfl rfl)) ?_
        obtain ⟨b84, X85, T86, hr87⟩ : ∃ b X' T', tryP (X, T) x44.d x44.h x44.off x44.n tc65 tn66 = (b, X', T') := ⟨_, _, _, rfl⟩
        have hlhr87 := try_len hr87
        refine HP.one rfl (.yes rfl rfl (kb (bN (dT h81)))) (OW.calls rfl (fun _ r => R.call (vs := [.pointer (some ⟨pm6, 0, none⟩), .agg #[.int .i64 x44.d, .int .i64 x44.h, .int .i64 x44.off, .int .i64 x44.n], .agg #[.int .i64 tc65, .int .i64 tn66]]) Try.call17 rfl ⟨r.e rfl, r.e rfl, r.e rfl, trivial⟩) (l_try hM (by first | omega | decide) hr87 (tried_bounds hM ht67 (hcl _ (List.mem_of_getElem? hxx44))) (hO78.frame [5] rfl)) ?_)
        rintro _ w88 ⟨s90, rfl, hM91, hO89⟩
        replace hO89 := hO89.unframe1
        have hI92 := hO89.pick [1, 3, 3, 7] rfl
        refine ⟨hI92, ?_⟩
        refine HP.one rfl (.yes rfl rfl (kb (bN (dT h81)))) (OW.calls rfl (fun _ r => R.call (vs := [.pointer (some ⟨b9, 0, none⟩), .agg #[.int .i64 x44.d, .int .i64 x44.h, .int .i64 x44.off, .int .i64 x44.n], .agg #[.int .i64 tc65, .int .i64 tn66]]) Try.call18 rfl ⟨r.e rfl, r.e rfl, r.e rfl, trivial⟩) (r_try hK42 (by have := hM.le; first | omega | decide) (by first | omega | decide) hr87 (hO89.frame [2, 2] rfl)) ?_)
        rintro _ w93 ⟨G95, cs96, rfl, hs97, hK98, hO94⟩
        replace hO94 := hO94.unframe2
        have hI99 := hO94.pick [3, 3, 3, 7] rfl
        refine ⟨hI99, ?_⟩
        have hK100 := KRef.mono hK43 hs97
        have hK101 := KRef.mono hK41 hs97
        refine HP.take rfl (.yes rfl rfl (kb (bN (dT h81)))) rfl hI99 (fun _ r _ hI => R.neq_bool Try.underlying4 (r.e rfl) (r.e rfl)) ?_
        refine HP.take rfl (.free rfl) rfl hI99 (fun _ r _ hI => R.pick_no (r.e (kb (bN (dT h81)))) (r.e rfl)) ?_
        refine HP.done (EW.then (?_))
        have h102 : b84 = b84 := rfl
        refine CW.no (kb (bN (dT h102))) ?_
        refine CW.skip (EW.then (?_))
        refine CW.seq ?_
        refine CW.region ?_
        refine LW.value (.free rfl) rfl (fun _ r => R.move (r.e rfl)) ?_
        refine LW.value (.free rfl) rfl (fun _ r => R.move (r.e rfl)) ?_
        obtain ⟨blx44_103, olx44_103, hax44_103, hcx44_103⟩ := hs.at_ _ _ hxx44
        refine LW.value (.free rfl) rfl (fun _ r => R.indexAddr_o (k := olx44_103 + i * 7) (r.e rfl) hax44_103 (r.e rfl) Try.runUnderlying22 Try.sizeOf41 (by omega) (by omega) (by simp)) ?_
        refine LW.value (.free rfl) rfl (fun _ r => R.fieldAddr (k := olx44_103 + i * 7) (r.e rfl) Try.runUnderlying41 rfl Try.sizeOf39 rfl) ?_
        refine LW.value (.free rfl) rfl (fun _ r => R.fieldAddr (k := olx44_103 + i * 7 + 1) (r.e rfl) Try.runUnderlying39 rfl Try.sizeOf3 rfl) ?_
        refine LW.value (.free rfl) rfl (fun _ r => R.load1 (r.e rfl) Try.isAgg3 (hO94.pc (i := 10) rfl (hcx44_103 1 _ rfl))) ?_
        refine LW.value (.free rfl) rfl (fun _ r => R.assign (r.e rfl)) ?_
        refine LW.nil (EW.then (?_))
        refine CW.seq ?_
        refine CW.region ?_
        refine LW.value (.free rfl) rfl (fun _ r => R.move (r.e rfl)) ?_
        refine LW.op (.free rfl) (OW.calls rfl (fun _ r => R.call (vs := [.pointer (some ⟨pm6, 0, none⟩)]) Try.call20 rfl ⟨r.e rfl, trivial⟩) (l_live hM91 (by first | omega | decide) (hO94.frame [2] rfl)) ?_)
        rintro v104 w107 ⟨g105, hg106, hO108⟩
        replace hO108 := hO108.unframe2
        refine LW.value (.free rfl) rfl (fun _ r => R.move (r.e rfl)) ?_
        refine LW.op (.free rfl) (OW.calls rfl (fun _ r => R.call (vs := [.pointer (some ⟨b9, 0, none⟩)]) Try.call21 rfl ⟨r.e rfl, trivial⟩) (r_live hK98 (by have := hM91.le; first | omega | decide) (hO108.frame [2, 2] rfl)) ?_)
        rintro v109 w112 ⟨g110, hg111, hO113⟩
        replace hO113 := hO113.unframe3
        obtain ⟨a114, n115, c116, ehs117, hs117⟩ := Grow.shut (enc := encI) (sz := 1) hg106 (fun _ _ => rfl)
        subst ehs117
        obtain ⟨a118, n119, c120, ehs121, hs121⟩ := Grow.shut (enc := encI) (sz := 1) hg111 (fun _ _ => rfl)
        subst ehs121
        have hO122 := (hO113.move [3, 0] rfl).join
        refine LW.op (.free rfl) (OW.calls rfl (fun _ r => R.call (vs := [(.slice a114 n115 c116), (.slice a118 n119 c120)]) Try.call19 rfl ⟨r.e rfl, r.e rfl, trivial⟩) (k_same ((g105 : Seg) ++ (g110 : Seg)) _ _ _ _ _ _ _ (List.map (·.h) X85) (List.map (·.h) X85) _ (hs117.mono (fun p hp => List.mem_append_left _ hp)) (hs121.mono (fun p hp => List.mem_append_right _ hp)) (by rw [List.length_map]; exact (by have := hM91.le; first | omega | decide)) (hO122.frame [0] rfl)) ?_)
        rintro _ w123 ⟨rfl, hO124⟩
        replace hO124 := hO124.unframe1.split
        refine LW.value (.free rfl) rfl (fun _ r => R.not (r.e rfl)) ?_
        refine LW.value (.free rfl) rfl (fun _ r => R.move (r.e rfl)) ?_
        have h125 : (List.map (·.h) X85) = (List.map (·.h) X85) := rfl
        refine LW.value (.yes rfl rfl (kb (bN (dT h125)))) rfl (fun _ r => R.move (r.e rfl)) ?_
        refine LW.value (.yes rfl rfl (kb (bN (dT h125)))) rfl (fun _ r => R.move (r.e rfl)) ?_
        refine LW.op (.yes rfl rfl (kb (bN (dT h125)))) (OW.calls rfl (fun _ r => R.call (vs := [.pointer (some ⟨pm6, 0, none⟩), .int .i64 x44.h]) Try.call22 rfl ⟨r.e rfl, r.e rfl, trivial⟩) (l_bytes hM91 (by first | omega | decide) _ (hO124.frame [4] rfl)) ?_)
        rintro v126 w129 ⟨g127, hg128, hO130⟩
        replace hO130 := hO130.unframe2
        refine LW.value (.yes rfl rfl (kb (bN (dT h125)))) rfl (fun _ r => R.move (r.e rfl)) ?_
        refine LW.value (.yes rfl rfl (kb (bN (dT h125)))) rfl (fun _ r => R.move (r.e rfl)) ?_
        refine LW.op (.yes rfl rfl (kb (bN (dT h125)))) (OW.calls rfl (fun _ r => R.call (vs := [.pointer (some ⟨b9, 0, none⟩), .int .i64 x44.h]) Try.call23 rfl ⟨r.e rfl, r.e rfl, trivial⟩) (r_bytes hK98 (by have := hM91.le; first | omega | decide) _ (hO130.frame [4, 4] rfl)) ?_)
        rintro _ w131 ⟨a133, n134, c135, rfl, hs136, hO132⟩
        replace hO132 := hO132.unframe2
        obtain ⟨a137, n138, c139, ehs140, hs140⟩ := Grow.shut (enc := encI) (sz := 1) hg128 (fun _ _ => rfl)
        subst ehs140
        have hO141 := (hO132.move [2, 1] rfl).join
        refine LW.op (.yes rfl rfl (kb (bN (dT h125)))) (OW.calls rfl (fun _ r => R.call (vs := [(.slice a137 n138 c139), .slice a133 n134 c135]) Try.call19 rfl ⟨r.e rfl, r.e rfl, trivial⟩) (k_same ((g127 : Seg) ++ (G95 : Seg)) _ _ _ _ _ _ _ (((findP X85 x44.h).map (·.b)).getD []) (((findP X85 x44.h).map (·.b)).getD []) _ (hs140.mono (fun p hp => List.mem_append_left _ hp)) (hs136.mono (fun p hp => List.mem_append_right _ hp)) (hM91.blen _) (hO141.frame [0] rfl)) ?_)
        rintro _ w142 ⟨rfl, hO143⟩
        replace hO143 := hO143.unframe1.split
        refine LW.value (.yes rfl rfl (kb (bN (dT h125)))) rfl (fun _ r => R.not (r.e rfl)) ?_
        refine LW.value (.free rfl) rfl (fun _ r => R.pick_no (r.e (kb (bN (dT h125)))) (r.e rfl)) ?_
        refine LW.value (.free rfl) rfl (fun _ r => R.move (r.e rfl)) ?_
        have h144 : (((findP X85 x44.h).map (·.b)).getD []) = (((findP X85 x44.h).map (·.b)).getD []) := rfl
        refine LW.value (.yes rfl rfl (kb (bN (dT h144)))) rfl (fun _ r => R.move (r.e rfl)) ?_
        refine LW.value (.yes rfl rfl (kb (bN (dT h144)))) rfl (fun _ r => R.move (r.e rfl)) ?_
        refine LW.op (.yes rfl rfl (kb (bN (dT h144)))) (OW.calls rfl (fun _ r => R.call (vs := [.pointer (some ⟨pm6, 0, none⟩), .int .i64 x44.h]) Try.call24 rfl ⟨r.e rfl, r.e rfl, trivial⟩) (l_pins hM91 (by first | omega | decide) _ (hO143.frame [3] rfl)) ?_)
        rintro _ w145 ⟨rfl, hO146⟩
        replace hO146 := hO146.unframe1
        refine LW.value (.yes rfl rfl (kb (bN (dT h144)))) rfl (fun _ r => R.move (r.e rfl)) ?_
        refine LW.value (.yes rfl rfl (kb (bN (dT h144)))) rfl (fun _ r => R.move (r.e rfl)) ?_
        refine LW.op (.yes rfl rfl (kb (bN (dT h144)))) (OW.calls rfl (fun _ r => R.call (vs := [.pointer (some ⟨b9, 0, none⟩), .int .i64 x44.h]) Try.call25 rfl ⟨r.e rfl, r.e rfl, trivial⟩) (r_pins hK98 (by have := hM91.le; first | omega | decide) _ (hO146.frame [3, 2] rfl)) ?_)
        rintro _ w147 ⟨rfl, hO148⟩
        replace hO148 := hO148.unframe2
        refine LW.value (.yes rfl rfl (kb (bN (dT h144)))) rfl (fun _ r => R.neq (r.e rfl) (r.e rfl)) ?_
        refine LW.value (.free rfl) rfl (fun _ r => R.pick_no (r.e (kb (bN (dT h144)))) (r.e rfl)) ?_
        refine LW.nil (EW.then (?_))
        have h149 : (((findP X85 x44.h).map (·.pins)).getD 0) = (((findP X85 x44.h).map (·.pins)).getD 0) := rfl
        refine CW.no (kb (bN (dT h149))) ?_
        refine CW.skip (EW.inB_normal (EW.then (?_)))
        refine CW.region ?_
        refine LW.value (.free rfl) rfl (fun _ r => R.move (r.e rfl)) ?_
        refine LW.value (.free rfl) rfl (fun _ r => R.as (R.add (r.e rfl) (r.e rfl)) (congrArg (Value.int .i64) (wrap_i64 (by omega) (by omega)))) ?_
        refine LW.value (.free rfl) rfl (fun _ r => R.assign (r.e rfl)) ?_
        refine LW.nil ?_
        exact EW.sub (env' := [(5, .pointer (some ⟨pm6, 0, none⟩)), (6, .pointer (some ⟨b9, 0, none⟩)), (9, .int .i64 ((i + 1) : Int)), (0, .slice a n cc), (1, .int .i64 at_), (7, .pointer (some ⟨pm32, 0, none⟩)), (8, .pointer (some ⟨k37, 0, none⟩))]) ⟨rfl, rfl, rfl, rfl, rfl, rfl, rfl, trivial⟩ (EW.round (i + 1, X85, T86, s90, G95, cs96, pm32, s33, k37, cs38, X, T) ⟨i + 1, X85, T86, s90, G95, cs96, pm32, s33, k37, cs38, X, T, rfl, rfl, hO148.pick [2, 9, 0, 7, 0, 8] rfl, by omega, hM91, hK98, by omega, hM34, hK101, by omega⟩ (by omega))
      · -- not: (i : Int) = at_
        refine CW.no (kb (dF h29)) ?_
        refine CW.skip (EW.then (?_))
        refine CW.seq ?_
        refine CW.region ?_
        refine LW.value (.free rfl) rfl (fun _ r => R.move (r.e rfl)) ?_
        refine LW.value (.free rfl) rfl (fun _ r => R.move (r.e rfl)) ?_
        refine LW.value (.free rfl) rfl (fun _ r => R.move (r.e rfl)) ?_
        obtain ⟨x150, hxx150⟩ : ∃ t, (sc)[i]? = some t := ⟨_, List.getElem?_eq_getElem (by omega)⟩
        obtain ⟨blx150, olx150, hax150, hcx150⟩ := hs.at_ _ _ hxx150
        refine LW.value (.free rfl) rfl (fun _ r => R.indexAddr_o (k := olx150 + i * 7) (r.e rfl) hax150 (r.e rfl) Try.runUnderlying22 Try.sizeOf41 (by omega) (by omega) (by simp)) ?_
        refine LW.value (.free rfl) rfl (fun _ r => R.fieldAddr (k := olx150 + i * 7) (r.e rfl) Try.runUnderlying41 rfl Try.sizeOf39 rfl) ?_
        refine LW.value (.free rfl) rfl (fun _ r => R.loadn (vs := [.int .i64 x150.d, .int .i64 x150.h, .int .i64 x150.off, .int .i64 x150.n]) (r.e rfl) Try.isAgg39 Try.sizeOf39 rfl (fun j v hj => hO27.pc (i := 5) rfl (hcx150 j v (take_get0 (m := 4) hj)))) ?_
        obtain ⟨a151, m152, t153, ha154⟩ : ∃ a m t, ansP X x150.d x150.h x150.off x150.n = (a, m, t) := ⟨_, _, _, rfl⟩
        refine LW.op (.free rfl) (OW.calls rfl (fun _ r => R.call (vs := [.pointer (some ⟨pm6, 0, none⟩), .agg #[.int .i64 x150.d, .int .i64 x150.h, .int .i64 x150.off, .int .i64 x150.n]]) Try.call14 rfl ⟨r.e rfl, r.e rfl, trivial⟩) (l_answer hM (by first | omega | decide) ha154 (hO27.frame [0] rfl)) ?_)
        rintro _ w155 ⟨rfl, hO156⟩
        replace hO156 := hO156.unframe1
        refine LW.value (.free rfl) rfl (fun _ r => R.move (r.e rfl)) ?_
        refine LW.value (.free rfl) rfl (fun _ r => R.extract (r.e rfl) rfl) ?_
        refine LW.value (.free rfl) rfl (fun _ r => R.extract (r.e rfl) rfl) ?_
        refine LW.op (.free rfl) (OW.alloc (cs := #[.int .i64 0, .int .i64 0]) rfl hO156 Try.zeroValue35 rfl ?_)
        intro b157 w158 hO159
        refine LW.op (.free rfl) (OW.storen (i := 0) (vs := [.int .i64 a151, .int .i64 m152]) rfl hO159 rfl rfl rfl rfl Try.sizeOf35 rfl ?_)
        intro w160 hO161
        refine LW.value (.free rfl) rfl (fun _ r => R.assign (r.e rfl)) ?_
        refine LW.nil (EW.then (?_))
        refine CW.seq ?_
        refine CW.region ?_
        refine LW.value (.free rfl) rfl (fun _ r => R.move (r.e rfl)) ?_
        refine LW.value (.free rfl) rfl (fun _ r => R.move (r.e rfl)) ?_
        refine LW.value (.free rfl) rfl (fun _ r => R.move (r.e rfl)) ?_
        obtain ⟨blx150_162, olx150_162, hax150_162, hcx150_162⟩ := hs.at_ _ _ hxx150
        refine LW.value (.free rfl) rfl (fun _ r => R.indexAddr_o (k := olx150_162 + i * 7) (r.e rfl) hax150_162 (r.e rfl) Try.runUnderlying22 Try.sizeOf41 (by omega) (by omega) (by simp)) ?_
        refine LW.value (.free rfl) rfl (fun _ r => R.fieldAddr (k := olx150_162 + i * 7) (r.e rfl) Try.runUnderlying41 rfl Try.sizeOf39 rfl) ?_
        refine LW.value (.free rfl) rfl (fun _ r => R.loadn (vs := [.int .i64 x150.d, .int .i64 x150.h, .int .i64 x150.off, .int .i64 x150.n]) (r.e rfl) Try.isAgg39 Try.sizeOf39 rfl (fun j v hj => hO161.pc (i := 6) rfl (hcx150_162 j v (take_get0 (m := 4) hj)))) ?_
        refine LW.op (.free rfl) (OW.calls rfl (fun _ r => R.call (vs := [.pointer (some ⟨b9, 0, none⟩), .agg #[.int .i64 x150.d, .int .i64 x150.h, .int .i64 x150.off, .int .i64 x150.n]]) Try.call15 rfl ⟨r.e rfl, r.e rfl, trivial⟩) (r_answer hK (by have := hM.le; first | omega | decide) ha154 (hO161.frame [3, 4] rfl)) ?_)
        rintro _ w163 ⟨rfl, hO164⟩
        replace hO164 := hO164.unframe2
        refine LW.value (.free rfl) rfl (fun _ r => R.move (r.e rfl)) ?_
        refine LW.value (.free rfl) rfl (fun _ r => R.extract (r.e rfl) rfl) ?_
        refine LW.value (.free rfl) rfl (fun _ r => R.extract (r.e rfl) rfl) ?_
        refine LW.op (.free rfl) (OW.alloc (cs := #[.int .i64 0, .int .i64 0]) rfl hO164 Try.zeroValue35 rfl ?_)
        intro b165 w166 hO167
        refine LW.op (.free rfl) (OW.storen (i := 0) (vs := [.int .i64 a151, .int .i64 m152]) rfl hO167 rfl rfl rfl rfl Try.sizeOf35 rfl ?_)
        intro w168 hO169
        refine LW.value (.free rfl) rfl (fun _ r => R.assign (r.e rfl)) ?_
        refine LW.nil (EW.then (?_))
        refine CW.seq ?_
        refine CW.region ?_
        refine LW.value (.free rfl) rfl (fun _ r => R.move (r.e rfl)) ?_
        refine LW.value (.free rfl) rfl (fun _ r => R.move (r.e rfl)) ?_
        refine LW.value (.free rfl) rfl (fun _ r => R.move (r.e rfl)) ?_
        obtain ⟨blx150_170, olx150_170, hax150_170, hcx150_170⟩ := hs.at_ _ _ hxx150
        refine LW.value (.free rfl) rfl (fun _ r => R.indexAddr_o (k := olx150_170 + i * 7) (r.e rfl) hax150_170 (r.e rfl) Try.runUnderlying22 Try.sizeOf41 (by omega) (by omega) (by simp)) ?_
        refine LW.value (.free rfl) rfl (fun _ r => R.loadn (vs := [.int .i64 x150.d, .int .i64 x150.h, .int .i64 x150.off, .int .i64 x150.n, .int .i64 x150.code, .int .i64 x150.num, .bool x150.own]) (r.e rfl) Try.isAgg41 Try.sizeOf41 rfl (fun j v hj => hO169.pc (i := 7) rfl (hcx150_170 j v hj))) ?_
        obtain ⟨tc171, tn172, ht173⟩ : ∃ a m, triedP X x150.d x150.h x150.off x150.n x150.code x150.num x150.own = (a, m) := ⟨_, _, rfl⟩
        refine LW.op (.free rfl) (OW.calls rfl (fun _ r => R.call (vs := [.pointer (some ⟨b9, 0, none⟩), .agg #[.int .i64 x150.d, .int .i64 x150.h, .int .i64 x150.off, .int .i64 x150.n, .int .i64 x150.code, .int .i64 x150.num, .bool x150.own]]) Try.call16 rfl ⟨r.e rfl, r.e rfl, trivial⟩) (r_tried hK (by have := hM.le; first | omega | decide) ht173 (hO169.frame [1, 1] rfl)) ?_)
        rintro _ w174 ⟨rfl, hO175⟩
        replace hO175 := hO175.unframe2
        refine LW.op (.free rfl) (OW.alloc (cs := #[.int .i64 0, .int .i64 0]) rfl hO175 Try.zeroValue35 rfl ?_)
        intro b176 w177 hO178
        refine LW.op (.free rfl) (OW.storen (i := 0) (vs := [.int .i64 tc171, .int .i64 tn172]) rfl hO178 rfl rfl rfl rfl Try.sizeOf35 rfl ?_)
        intro w179 hO180
        refine LW.nil (EW.then (?_))
        refine CW.seq ?_
        refine CW.seq ?_
        refine HP.start (I := fun w' => Own w' [[(b176, .cells #[.int .i64 tc171, .int .i64 tn172] 35 (0, 0))], [(b165, .cells #[.int .i64 a151, .int .i64 m152] 35 (0, 0))], [(b157, .cells #[.int .i64 a151, .int .i64 m152] 35 (0, 0))], F]) (.take 0 (.take 1 (.take 2 (.take 3 (.take 4 (.take 5 (.take 6 (.take 7 (.take 8 (.take 9 (.take 10 (.take 11 (.take 12 (.take 13 (.take 14 (.take 15 (.take 17 (.take 18 (.take 19 (.take 20 (.take 21 (.take 22 (.take 23 (.one 16 (.one 24 (.take 25 (.take 26 (.done)))))))))))))))))))))))))))) Try.mixed (by intro c d v a w h; cases d <;> exact h) hO180 (by kernel_rfl) ?_
        intro w183 hO184
        have hI185 := hO184.pick [0, 2, 2, 5] rfl
        refine HP.take rfl (.free rfl) rfl hI185 (fun _ r _ hI => R.loadn (vs := [.int .i64 a151, .int .i64 m152]) (r.e rfl) Try.isAgg35 Try.sizeOf35 rfl (hI.cells (i := 2) rfl rfl)) ?_
        refine HP.take rfl (.free rfl) rfl hI185 (fun _ r _ hI => R.loadn (vs := [.int .i64 a151, .int .i64 m152]) (r.e rfl) Try.isAgg35 Try.sizeOf35 rfl (hI.cells (i := 1) rfl rfl)) ?_
        refine HP.take rfl (.free rfl) rfl hI185 (fun _ r _ hI => eq35_neq (r.e rfl) (r.e rfl)) ?_
        refine HP.take rfl (.free rfl) rfl hI185 (fun _ r _ hI => R.move (r.e rfl)) ?_
        have h186 : a151 = a151 ∧ m152 = m152 := ⟨rfl, rfl⟩
        refine HP.take rfl (.yes rfl rfl (kb (bN (dT h186)))) rfl hI185 (fun _ r _ hI => R.move (r.e rfl)) ?_
        refine HP.take rfl (.yes rfl rfl (kb (bN (dT h186)))) rfl hI185 (fun _ r _ hI => R.move (r.e rfl)) ?_
        refine HP.take rfl (.yes rfl rfl (kb (bN (dT h186)))) rfl hI185 (fun _ r _ hI => R.neq_bool Try.underlying4 (r.e rfl) (r.e rfl)) ?_
        refine HP.take rfl (.free rfl) rfl hI185 (fun _ r _ hI => R.pick_no (r.e (kb (bN (dT h186)))) (r.e rfl)) ?_
        refine HP.take rfl (.free rfl) rfl hI185 (fun _ r _ hI => R.move (r.e rfl)) ?_
        have h187 : t153 = t153 := rfl
        refine HP.take rfl (.yes rfl rfl (kb (bN (dT h187)))) rfl hI185 (fun _ r _ hI => R.move (r.e rfl)) ?_
        refine HP.take rfl (.yes rfl rfl (kb (bN (dT h187)))) rfl hI185 (fun _ r _ hI => R.move (r.e rfl)) ?_
        refine HP.take rfl (.yes rfl rfl (kb (bN (dT h187)))) rfl hI185 (fun _ r _ hI => R.move (r.e rfl)) ?_
        obtain ⟨blx150_188, olx150_188, hax150_188, hcx150_188⟩ := hs.at_ _ _ hxx150
        refine HP.take rfl (.yes rfl rfl (kb (bN (dT h187)))) rfl hI185 (fun _ r _ hI => R.indexAddr_o (k := olx150_188 + i * 7) (r.e rfl) hax150_188 (r.e rfl) Try.runUnderlying22 Try.sizeOf41 (by omega) (by omega) (by simp)) ?_
        refine HP.take rfl (.yes rfl rfl (kb (bN (dT h187)))) rfl hI185 (fun _ r _ hI => R.fieldAddr (k := olx150_188 + i * 7) (r.e rfl) Try.runUnderlying41 rfl Try.sizeOf39 rfl) ?_
        refine HP.take rfl (.yes rfl rfl (kb (bN (dT h187)))) rfl hI185 (fun _ r _ hI => R.loadn (vs := [.int .i64 x150.d, .int .i64 x150.h, .int .i64 x150.off, .int .i64 x150.n]) (r.e rfl) Try.isAgg39 Try.sizeOf39 rfl (fun j v hj => hI.pc (i := 3) rfl (hcx150_188 j v (take_get0 (m := 4) hj)))) ?_
        refine HP.take rfl (.yes rfl rfl (kb (bN (dT h187)))) rfl hI185 (fun _ r _ hI => R.loadn (vs := [.int .i64 tc171, .int .i64 tn172]) (r.e rfl) Try.isAgg35 Try.sizeOf35 rfl (hI.cells (i := 0) rfl rfl)) ?_
        refine HP.take rfl (.yes rfl rfl (kb (bN (dT h187)))) rfl hI185 (fun _ r _ hI => R.move (r.e rfl)) ?_
        refine HP.take rfl (.yes rfl rfl (kb (bN (dT h187)))) rfl hI185 (fun _ r _ hI => R.move (r.e rfl)) ?_
        refine HP.take rfl (.yes rfl rfl (kb (bN (dT h187)))) rfl hI185 (fun _ r _ hI => R.move (r.e rfl)) ?_
        obtain ⟨blx150_189, olx150_189, hax150_189, hcx150_189⟩ := hs.at_ _ _ hxx150
        refine HP.take rfl (.yes rfl rfl (kb (bN (dT h187)))) rfl hI185 (fun _ r _ hI => R.indexAddr_o (k := olx150_189 + i * 7) (r.e rfl) hax150_189 (r.e rfl) Try.runUnderlying22 Try.sizeOf41 (by omega) (by omega) (by simp)) ?_
        refine HP.take rfl (.yes rfl rfl (kb (bN (dT h187)))) rfl hI185 (fun _ r _ hI => R.fieldAddr (k := olx150_189 + i * 7) (r.e rfl) Try.runUnderlying41 rfl Try.sizeOf39 rfl) ?_
        refine HP.take rfl (.yes rfl rfl (kb (bN (dT h187)))) rfl hI185 (fun _ r _ hI => R.loadn (vs := [.int .i64 x150.d, .int .i64 x150.h, .int .i64 x150.off, .int .i64 x150.n]) (r.e rfl) Try.isAgg39 Try.sizeOf39 rfl (fun j v hj => hI.pc (i := 3) rfl (hcx150_189 j v (take_get0 (m := 4) hj)))) ?_
        refine HP.take rfl (.yes rfl rfl (kb (bN (dT h187)))) rfl hI185 (fun _ r _ hI => R.loadn (vs := [.int .i64 tc171, .int .i64 tn172]) (r.e rfl) Try.isAgg35 Try.sizeOf35 rfl (hI.cells (i := 0) rfl rfl)) ?_
        obtain ⟨b190, X191, T192, hr193⟩ : ∃ b X' T', tryP (X, T) x150.d x150.h x150.off x150.n tc171 tn172 = (b, X', T') := ⟨_, _, _, rfl⟩
        have hlhr193 := try_len hr193
        refine HP.one rfl (.yes rfl rfl (kb (bN (dT h187)))) (OW.calls rfl (fun _ r => R.call (vs := [.pointer (some ⟨pm6, 0, none⟩), .agg #[.int .i64 x150.d, .int .i64 x150.h, .int .i64 x150.off, .int .i64 x150.n], .agg #[.int .i64 tc171, .int .i64 tn172]]) Try.call17 rfl ⟨r.e rfl, r.e rfl, r.e rfl, trivial⟩) (l_try hM (by first | omega | decide) hr193 (tried_bounds hM ht173 (hcl _ (List.mem_of_getElem? hxx150))) (hO184.frame [5] rfl)) ?_)
        rintro _ w194 ⟨s196, rfl, hM197, hO195⟩
        replace hO195 := hO195.unframe1
        have hI198 := hO195.pick [1, 3, 3, 5] rfl
        refine ⟨hI198, ?_⟩
        refine HP.one rfl (.yes rfl rfl (kb (bN (dT h187)))) (OW.calls rfl (fun _ r => R.call (vs := [.pointer (some ⟨b9, 0, none⟩), .agg #[.int .i64 x150.d, .int .i64 x150.h, .int .i64 x150.off, .int .i64 x150.n], .agg #[.int .i64 tc171, .int .i64 tn172]]) Try.call18 rfl ⟨r.e rfl, r.e rfl, r.e rfl, trivial⟩) (r_try hK (by have := hM.le; first | omega | decide) (by first | omega | decide) hr193 (hO195.frame [2, 2] rfl)) ?_)
        rintro _ w199 ⟨G201, cs202, rfl, hs203, hK204, hO200⟩
        replace hO200 := hO200.unframe2
        have hI205 := hO200.pick [3, 3, 3, 5] rfl
        refine ⟨hI205, ?_⟩
        have hK206 := KRef.mono hK2 hs203
        refine HP.take rfl (.yes rfl rfl (kb (bN (dT h187)))) rfl hI205 (fun _ r _ hI => R.neq_bool Try.underlying4 (r.e rfl) (r.e rfl)) ?_
        refine HP.take rfl (.free rfl) rfl hI205 (fun _ r _ hI => R.pick_no (r.e (kb (bN (dT h187)))) (r.e rfl)) ?_
        refine HP.done (EW.then (?_))
        have h207 : b190 = b190 := rfl
        refine CW.no (kb (bN (dT h207))) ?_
        refine CW.skip (EW.then (?_))
        refine CW.seq ?_
        refine CW.region ?_
        refine LW.value (.free rfl) rfl (fun _ r => R.move (r.e rfl)) ?_
        refine LW.value (.free rfl) rfl (fun _ r => R.move (r.e rfl)) ?_
        obtain ⟨blx150_208, olx150_208, hax150_208, hcx150_208⟩ := hs.at_ _ _ hxx150
        refine LW.value (.free rfl) rfl (fun _ r => R.indexAddr_o (k := olx150_208 + i * 7) (r.e rfl) hax150_208 (r.e rfl) Try.runUnderlying22 Try.sizeOf41 (by omega) (by omega) (by simp)) ?_
        refine LW.value (.free rfl) rfl (fun _ r => R.fieldAddr (k := olx150_208 + i * 7) (r.e rfl) Try.runUnderlying41 rfl Try.sizeOf39 rfl) ?_
        refine LW.value (.free rfl) rfl (fun _ r => R.fieldAddr (k := olx150_208 + i * 7 + 1) (r.e rfl) Try.runUnderlying39 rfl Try.sizeOf3 rfl) ?_
        refine LW.value (.free rfl) rfl (fun _ r => R.load1 (r.e rfl) Try.isAgg3 (hO200.pc (i := 8) rfl (hcx150_208 1 _ rfl))) ?_
        refine LW.value (.free rfl) rfl (fun _ r => R.assign (r.e rfl)) ?_
        refine LW.nil (EW.then (?_))
        refine CW.seq ?_
        refine CW.region ?_
        refine LW.value (.free rfl) rfl (fun _ r => R.move (r.e rfl)) ?_
        refine LW.op (.free rfl) (OW.calls rfl (fun _ r => R.call (vs := [.pointer (some ⟨pm6, 0, none⟩)]) Try.call20 rfl ⟨r.e rfl, trivial⟩) (l_live hM197 (by first | omega | decide) (hO200.frame [2] rfl)) ?_)
        rintro v209 w212 ⟨g210, hg211, hO213⟩
        replace hO213 := hO213.unframe2
        refine LW.value (.free rfl) rfl (fun _ r => R.move (r.e rfl)) ?_
        refine LW.op (.free rfl) (OW.calls rfl (fun _ r => R.call (vs := [.pointer (some ⟨b9, 0, none⟩)]) Try.call21 rfl ⟨r.e rfl, trivial⟩) (r_live hK204 (by have := hM197.le; first | omega | decide) (hO213.frame [2, 2] rfl)) ?_)
        rintro v214 w217 ⟨g215, hg216, hO218⟩
        replace hO218 := hO218.unframe3
        obtain ⟨a219, n220, c221, ehs222, hs222⟩ := Grow.shut (enc := encI) (sz := 1) hg211 (fun _ _ => rfl)
        subst ehs222
        obtain ⟨a223, n224, c225, ehs226, hs226⟩ := Grow.shut (enc := encI) (sz := 1) hg216 (fun _ _ => rfl)
        subst ehs226
        have hO227 := (hO218.move [3, 0] rfl).join
        refine LW.op (.free rfl) (OW.calls rfl (fun _ r => R.call (vs := [(.slice a219 n220 c221), (.slice a223 n224 c225)]) Try.call19 rfl ⟨r.e rfl, r.e rfl, trivial⟩) (k_same ((g210 : Seg) ++ (g215 : Seg)) _ _ _ _ _ _ _ (List.map (·.h) X191) (List.map (·.h) X191) _ (hs222.mono (fun p hp => List.mem_append_left _ hp)) (hs226.mono (fun p hp => List.mem_append_right _ hp)) (by rw [List.length_map]; exact (by have := hM197.le; first | omega | decide)) (hO227.frame [0] rfl)) ?_)
        rintro _ w228 ⟨rfl, hO229⟩
        replace hO229 := hO229.unframe1.split
        refine LW.value (.free rfl) rfl (fun _ r => R.not (r.e rfl)) ?_
        refine LW.value (.free rfl) rfl (fun _ r => R.move (r.e rfl)) ?_
        have h230 : (List.map (·.h) X191) = (List.map (·.h) X191) := rfl
        refine LW.value (.yes rfl rfl (kb (bN (dT h230)))) rfl (fun _ r => R.move (r.e rfl)) ?_
        refine LW.value (.yes rfl rfl (kb (bN (dT h230)))) rfl (fun _ r => R.move (r.e rfl)) ?_
        refine LW.op (.yes rfl rfl (kb (bN (dT h230)))) (OW.calls rfl (fun _ r => R.call (vs := [.pointer (some ⟨pm6, 0, none⟩), .int .i64 x150.h]) Try.call22 rfl ⟨r.e rfl, r.e rfl, trivial⟩) (l_bytes hM197 (by first | omega | decide) _ (hO229.frame [4] rfl)) ?_)
        rintro v231 w234 ⟨g232, hg233, hO235⟩
        replace hO235 := hO235.unframe2
        refine LW.value (.yes rfl rfl (kb (bN (dT h230)))) rfl (fun _ r => R.move (r.e rfl)) ?_
        refine LW.value (.yes rfl rfl (kb (bN (dT h230)))) rfl (fun _ r => R.move (r.e rfl)) ?_
        refine LW.op (.yes rfl rfl (kb (bN (dT h230)))) (OW.calls rfl (fun _ r => R.call (vs := [.pointer (some ⟨b9, 0, none⟩), .int .i64 x150.h]) Try.call23 rfl ⟨r.e rfl, r.e rfl, trivial⟩) (r_bytes hK204 (by have := hM197.le; first | omega | decide) _ (hO235.frame [4, 4] rfl)) ?_)
        rintro _ w236 ⟨a238, n239, c240, rfl, hs241, hO237⟩
        replace hO237 := hO237.unframe2
        obtain ⟨a242, n243, c244, ehs245, hs245⟩ := Grow.shut (enc := encI) (sz := 1) hg233 (fun _ _ => rfl)
        subst ehs245
        have hO246 := (hO237.move [2, 1] rfl).join
        refine LW.op (.yes rfl rfl (kb (bN (dT h230)))) (OW.calls rfl (fun _ r => R.call (vs := [(.slice a242 n243 c244), .slice a238 n239 c240]) Try.call19 rfl ⟨r.e rfl, r.e rfl, trivial⟩) (k_same ((g232 : Seg) ++ (G201 : Seg)) _ _ _ _ _ _ _ (((findP X191 x150.h).map (·.b)).getD []) (((findP X191 x150.h).map (·.b)).getD []) _ (hs245.mono (fun p hp => List.mem_append_left _ hp)) (hs241.mono (fun p hp => List.mem_append_right _ hp)) (hM197.blen _) (hO246.frame [0] rfl)) ?_)
        rintro _ w247 ⟨rfl, hO248⟩
        replace hO248 := hO248.unframe1.split
        refine LW.value (.yes rfl rfl (kb (bN (dT h230)))) rfl (fun _ r => R.not (r.e rfl)) ?_
        refine LW.value (.free rfl) rfl (fun _ r => R.pick_no (r.e (kb (bN (dT h230)))) (r.e rfl)) ?_
        refine LW.value (.free rfl) rfl (fun _ r => R.move (r.e rfl)) ?_
        have h249 : (((findP X191 x150.h).map (·.b)).getD []) = (((findP X191 x150.h).map (·.b)).getD []) := rfl
        refine LW.value (.yes rfl rfl (kb (bN (dT h249)))) rfl (fun _ r => R.move (r.e rfl)) ?_
        refine LW.value (.yes rfl rfl (kb (bN (dT h249)))) rfl (fun _ r => R.move (r.e rfl)) ?_
        refine LW.op (.yes rfl rfl (kb (bN (dT h249)))) (OW.calls rfl (fun _ r => R.call (vs := [.pointer (some ⟨pm6, 0, none⟩), .int .i64 x150.h]) Try.call24 rfl ⟨r.e rfl, r.e rfl, trivial⟩) (l_pins hM197 (by first | omega | decide) _ (hO248.frame [3] rfl)) ?_)
        rintro _ w250 ⟨rfl, hO251⟩
        replace hO251 := hO251.unframe1
        refine LW.value (.yes rfl rfl (kb (bN (dT h249)))) rfl (fun _ r => R.move (r.e rfl)) ?_
        refine LW.value (.yes rfl rfl (kb (bN (dT h249)))) rfl (fun _ r => R.move (r.e rfl)) ?_
        refine LW.op (.yes rfl rfl (kb (bN (dT h249)))) (OW.calls rfl (fun _ r => R.call (vs := [.pointer (some ⟨b9, 0, none⟩), .int .i64 x150.h]) Try.call25 rfl ⟨r.e rfl, r.e rfl, trivial⟩) (r_pins hK204 (by have := hM197.le; first | omega | decide) _ (hO251.frame [3, 2] rfl)) ?_)
        rintro _ w252 ⟨rfl, hO253⟩
        replace hO253 := hO253.unframe2
        refine LW.value (.yes rfl rfl (kb (bN (dT h249)))) rfl (fun _ r => R.neq (r.e rfl) (r.e rfl)) ?_
        refine LW.value (.free rfl) rfl (fun _ r => R.pick_no (r.e (kb (bN (dT h249)))) (r.e rfl)) ?_
        refine LW.nil (EW.then (?_))
        have h254 : (((findP X191 x150.h).map (·.pins)).getD 0) = (((findP X191 x150.h).map (·.pins)).getD 0) := rfl
        refine CW.no (kb (bN (dT h254))) ?_
        refine CW.skip (EW.inB_normal (EW.then (?_)))
        refine CW.region ?_
        refine LW.value (.free rfl) rfl (fun _ r => R.move (r.e rfl)) ?_
        refine LW.value (.free rfl) rfl (fun _ r => R.as (R.add (r.e rfl) (r.e rfl)) (congrArg (Value.int .i64) (wrap_i64 (by omega) (by omega)))) ?_
        refine LW.value (.free rfl) rfl (fun _ r => R.assign (r.e rfl)) ?_
        refine LW.nil ?_
        exact EW.sub (env' := [(5, .pointer (some ⟨pm6, 0, none⟩)), (6, .pointer (some ⟨b9, 0, none⟩)), (9, .int .i64 ((i + 1) : Int)), (0, .slice a n cc), (1, .int .i64 at_), (7, .pointer (some ⟨pm2, 0, none⟩)), (8, .pointer (some ⟨k2, 0, none⟩))]) ⟨rfl, rfl, rfl, rfl, rfl, rfl, rfl, trivial⟩ (EW.round (i + 1, X191, T192, s196, G201, cs202, pm2, s2, k2, cs2, X2, T2) ⟨i + 1, X191, T192, s196, G201, cs202, pm2, s2, k2, cs2, X2, T2, rfl, rfl, hO253.pick [2, 8, 0, 7, 0, 6] rfl, by omega, hM197, hK204, by omega, hM2, hK206, by omega⟩ (by omega))
    · -- not: (i : Int) < (n : Int)
      refine CW.no (kb (dF h28)) ?_
      refine CW.exit (EW.then_exit (EW.then_exit (EW.inB_same (EW.then (?_)))))
      refine CW.seq ?_
      refine CW.region ?_
      refine LW.value (.free rfl) rfl (fun _ r => R.move (r.e rfl)) ?_
      refine LW.value (.free rfl) rfl (fun _ r => R.move (r.e rfl)) ?_
      refine LW.op (.free rfl) (OW.calls rfl (fun _ r => R.call (vs := [.pointer (some ⟨pm2, 0, none⟩), .pointer (some ⟨pm6, 0, none⟩)]) Try.call26 rfl ⟨r.e rfl, r.e rfl, trivial⟩) (l_same hM2 (by first | omega | decide) hM (by first | omega | decide) (hO27.frame [1, 0] rfl)) ?_)
      rintro _ w255 ⟨rfl, hO256⟩
      replace hO256 := hO256.unframe2
      refine LW.value (.free rfl) rfl (fun _ r => R.move (r.e rfl)) ?_
      refine LW.value (.free rfl) rfl (fun _ r => R.move (r.e rfl)) ?_
      refine LW.op (.free rfl) (OW.calls rfl (fun _ r => R.call (vs := [.pointer (some ⟨k2, 0, none⟩), .pointer (some ⟨b9, 0, none⟩)]) Try.call27 rfl ⟨r.e rfl, r.e rfl, trivial⟩) (r_same hK2 (by have := hM2.le; first | omega | decide) (by first | omega | decide) hK (hO256.frame [3, 2, 2] rfl)) ?_)
      rintro _ w257 ⟨rfl, hO258⟩
      replace hO258 := hO258.unframe3
      refine LW.value (.free rfl) rfl (fun _ r => R.eql_bool Try.underlying4 (r.e rfl) (r.e rfl)) ?_
      refine LW.value (.free rfl) rfl (fun _ r => R.move (r.e rfl)) ?_
      have h259 : (decide (X2 = X ∧ T2 = T)) = (decide (X2 = X ∧ T2 = T)) := rfl
      refine LW.value (.yes rfl rfl (kb (dT h259))) rfl (fun _ r => R.move (r.e rfl)) ?_
      refine LW.value (.yes rfl rfl (kb (dT h259))) rfl (fun _ r => R.move (r.e rfl)) ?_
      refine LW.op (.yes rfl rfl (kb (dT h259))) (OW.calls rfl (fun _ r => R.call (vs := [.pointer (some ⟨pm6, 0, none⟩), .pointer (some ⟨pm2, 0, none⟩)]) Try.call26 rfl ⟨r.e rfl, r.e rfl, trivial⟩) (l_same hM (by first | omega | decide) hM2 (by first | omega | decide) (hO258.frame [4, 3] rfl)) ?_)
      rintro _ w260 ⟨rfl, hO261⟩
      replace hO261 := hO261.unframe2
      refine LW.value (.yes rfl rfl (kb (dT h259))) rfl (fun _ r => R.move (r.e rfl)) ?_
      refine LW.value (.yes rfl rfl (kb (dT h259))) rfl (fun _ r => R.move (r.e rfl)) ?_
      refine LW.op (.yes rfl rfl (kb (dT h259))) (OW.calls rfl (fun _ r => R.call (vs := [.pointer (some ⟨k2, 0, none⟩), .pointer (some ⟨b9, 0, none⟩)]) Try.call27 rfl ⟨r.e rfl, r.e rfl, trivial⟩) (r_same hK2 (by have := hM2.le; first | omega | decide) (by first | omega | decide) hK (hO261.frame [2, 2, 2] rfl)) ?_)
      rintro _ w262 ⟨rfl, hO263⟩
      replace hO263 := hO263.unframe3
      refine LW.value (.yes rfl rfl (kb (dT h259))) rfl (fun _ r => R.eql_bool Try.underlying4 (r.e rfl) (r.e rfl)) ?_
      refine LW.value (.free rfl) rfl (fun _ r => R.pick_yes (r.e (kb (dT h259))) (r.e rfl)) ?_
      refine LW.value (.free rfl) rfl (fun _ r => R.move (r.e rfl)) ?_
      have h264 : (decide (X = X2 ∧ T = T2)) = (decide (X2 = X ∧ T2 = T)) := decide_eq_decide.2 ⟨fun h => ⟨h.1.symm, h.2.symm⟩, fun h => ⟨h.1.symm, h.2.symm⟩⟩
      refine LW.value (.yes rfl rfl (kb (dT h264))) rfl (fun _ r => R.move (r.e rfl)) ?_
      refine LW.op (.yes rfl rfl (kb (dT h264))) (OW.calls rfl (fun _ r => R.call (vs := [.pointer (some ⟨pm2, 0, none⟩)]) Try.call20 rfl ⟨r.e rfl, trivial⟩) (l_live hM2 (by first | omega | decide) (hO263.frame [4] rfl)) ?_)
      rintro v265 w268 ⟨g266, hg267, hO269⟩
      replace hO269 := hO269.unframe2
      refine LW.value (.yes rfl rfl (kb (dT h264))) rfl (fun _ r => R.move (r.e rfl)) ?_
      refine LW.op (.yes rfl rfl (kb (dT h264))) (OW.calls rfl (fun _ r => R.call (vs := [.pointer (some ⟨k2, 0, none⟩)]) Try.call21 rfl ⟨r.e rfl, trivial⟩) (r_live hK2 (by have := hM2.le; first | omega | decide) (hO269.frame [2, 3] rfl)) ?_)
      rintro v270 w273 ⟨g271, hg272, hO274⟩
      replace hO274 := hO274.unframe3
      obtain ⟨a275, n276, c277, ehs278, hs278⟩ := Grow.shut (enc := encI) (sz := 1) hg267 (fun _ _ => rfl)
      subst ehs278
      obtain ⟨a279, n280, c281, ehs282, hs282⟩ := Grow.shut (enc := encI) (sz := 1) hg272 (fun _ _ => rfl)
      subst ehs282
      have hO283 := (hO274.move [3, 0] rfl).join
      refine LW.op (.yes rfl rfl (kb (dT h264))) (OW.calls rfl (fun _ r => R.call (vs := [(.slice a275 n276 c277), (.slice a279 n280 c281)]) Try.call19 rfl ⟨r.e rfl, r.e rfl, trivial⟩) (k_same ((g266 : Seg) ++ (g271 : Seg)) _ _ _ _ _ _ _ (List.map (·.h) X2) (List.map (·.h) X2) _ (hs278.mono (fun p hp => List.mem_append_left _ hp)) (hs282.mono (fun p hp => List.mem_append_right _ hp)) (by rw [List.length_map]; exact (by have := hM2.le; first | omega | decide)) (hO283.frame [0] rfl)) ?_)
      rintro _ w284 ⟨rfl, hO285⟩
      replace hO285 := hO285.unframe1.split
      refine LW.value (.free rfl) rfl (fun _ r => R.pick_yes (r.e (kb (dT h264))) (r.e rfl)) ?_
      refine LW.value (.free rfl) rfl (fun _ r => R.move (r.e rfl)) ?_
      have h286 : (List.map (·.h) X2) = (List.map (·.h) X2) := rfl
      refine LW.op (.yes rfl rfl (kb (dT h286))) (OW.calls rfl (fun _ r => R.call (vs := []) Try.call10 rfl trivial) (x_live _ _ (hO285.frame [] rfl)) ?_)
      rintro _ w287 ⟨rfl, hO288⟩
      replace hO288 := hO288.unframe0
      refine LW.value (.free rfl) rfl (fun _ r => R.pick_yes (r.e (kb (dT h286))) (r.e rfl)) ?_
      refine LW.value (.free rfl) rfl (fun _ r => R.assign (r.e rfl)) ?_
      refine LW.nil (EW.then (?_))
      refine CW.ret ?_
      refine EW.ret1 rfl rfl ?_
      exact ⟨rfl, hO288.pick [7] rfl⟩
  · -- not: (n : Int) ≤ 60
    refine CW.yes (kb (bN (dF h3))) ?_
    refine CW.seq ?_
    refine CW.region ?_
    refine LW.op (.free rfl) (OW.calls rfl (fun _ r => R.call (vs := []) Try.call10 rfl trivial) (x_live _ _ (hO2.frame [] rfl)) ?_)
    rintro _ w289 ⟨rfl, hO290⟩
    replace hO290 := hO290.unframe0
    refine LW.value (.free rfl) rfl (fun _ r => R.assign (r.e rfl)) ?_
    refine LW.nil (EW.then (?_))
    refine CW.ret (EW.then_ret (?_))
    refine EW.ret1 rfl rfl ?_
    exact ⟨rfl, hO290.pick [0] rfl⟩

set_option maxRecDepth 100000 in
set_option maxHeartbeats 1000000 in
theorem x_refused (F : Seg) (a : Option Addr) (n cc : Nat) (sc : List Cl) (hs : Sl F 7 encC a n cc sc) (hcl : Cls sc) (q : Cl) (hq : -9223372036854775808 ≤ q.num ∧ q.num ≤ 9223372036854775807) (w : World) (hO : Own w [F]) : Calls Try.prog 6 [.slice a n cc, .agg #[.int .i64 q.d, .int .i64 q.h, .int .i64 q.off, .int .i64 q.n, .int .i64 q.code, .int .i64 q.num, .bool q.own]].toArray w (Ret fun v w' => v = .bool true ∧ Own w' [F]) := by
  have hsl := hs.hlen
  refine enter (n := 73) Try.func6 rfl rfl rfl ?_
  refine CW.seq ?_
  refine CW.region ?_
  refine LW.op (.free rfl) (OW.box (cs := #[.int .i64 q.d, .int .i64 q.h, .int .i64 q.off, .int .i64 q.n, .int .i64 q.code, .int .i64 q.num, .bool q.own]) rfl hO rfl rfl ?_)
  intro b1 w2 hO3
  refine LW.value (.free rfl) rfl (fun _ r => R.assign (r.e rfl)) ?_
  refine LW.nil (EW.then (?_))
  refine CW.seq ?_
  refine CW.seq ?_
  refine CW.region ?_
  refine LW.value (.free rfl) rfl (fun _ r => R.move (r.e rfl)) ?_
  refine LW.op (.free rfl) (OW.calls rfl (fun _ r => R.call (vs := [.slice a n cc, .int .i64 30]) Try.call9 rfl ⟨r.e rfl, r.e rfl, trivial⟩) (v_small _ _ _ _ _ _ (hO3.frame [] rfl)) ?_)
  rintro _ w4 ⟨rfl, hO5⟩
  replace hO5 := hO5.unframe0
  refine LW.value (.free rfl) rfl (fun _ r => R.not (r.e rfl)) ?_
  refine LW.nil (EW.then (?_))
  by_cases h6 : (n : Int) ≤ 30
  · -- (n : Int) ≤ 30
    refine CW.no (kb (bN (dT h6))) ?_
    refine CW.skip (EW.then (?_))
    refine CW.seq ?_
    refine CW.region ?_
    refine LW.op (.free rfl) (OW.calls rfl (fun _ r => R.call (vs := []) Try.call11 rfl trivial) (l_new _ _ (hO5.frame [] rfl)) ?_)
    rintro _ w7 ⟨pm9, s10, rfl, hM11, hO8⟩
    replace hO8 := hO8.unframe1
    refine LW.value (.free rfl) rfl (fun _ r => R.assign (r.e rfl)) ?_
    refine LW.nil (EW.then (?_))
    refine CW.seq ?_
    refine CW.seq ?_
    refine CW.region ?_
    refine LW.value (.free rfl) rfl (fun _ r => R.move (r.e rfl)) ?_
    refine LW.value (.free rfl) rfl (fun _ r => R.as (R.isNil (r.e rfl) (r.e rfl) Try.underlying25) rfl) ?_
    refine LW.nil (EW.then (?_))
    refine CW.no rfl ?_
    refine CW.skip (EW.then (?_))
    refine CW.seq ?_
    refine CW.region ?_
    refine LW.value (.free rfl) rfl (fun _ r => R.build (v := .agg #[.slice none 0 0, .slice none 0 0]) (vs := []) trivial (by simp [go_sem])) ?_
    refine LW.op (.free rfl) (OW.box (cs := #[.slice none 0 0, .slice none 0 0]) rfl hO8 rfl rfl ?_)
    intro b12 w13 hO14
    have hO15 := hO14.nil
    refine LW.value (.free rfl) rfl (fun _ r => R.assign (r.e rfl)) ?_
    refine LW.nil (EW.then (?_))
    refine CW.seq ?_
    refine CW.seq ?_
    refine CW.region ?_
    refine LW.value (.free rfl) rfl (fun _ r => R.assign (r.e rfl)) ?_
    refine LW.nil (EW.then (?_))
    refine CW.block ?_
    refine CW.sub (env' := [(5, .pointer (some ⟨pm9, 0, none⟩)), (6, .pointer (some ⟨b12, 0, none⟩)), (7, .int .i64 (0 : Int)), (0, .slice a n cc), (3, .pointer (some ⟨b1, 0, none⟩))]) ⟨rfl, rfl, rfl, rfl, rfl, trivial⟩ ?_
    refine CW.loop (α := Nat × List PT × List Int × Seg × Seg × Array Value) (fun (x_ : Nat × List PT × List Int × Seg × Seg × Array Value) env_ w_ => ∃ i X T s G cs, x_ = (i, X, T, s, G, cs) ∧ env_ = [(5, .pointer (some ⟨pm9, 0, none⟩)), (6, .pointer (some ⟨b12, 0, none⟩)), (7, .int .i64 (i : Int)), (0, .slice a n cc), (3, .pointer (some ⟨b1, 0, none⟩))] ∧ Own w_ [s, [(b12, .cells cs 31 (0, 0))], G, [(b1, .cells #[.int .i64 q.d, .int .i64 q.h, .int .i64 q.off, .int .i64 q.n, .int .i64 q.code, .int .i64 q.num, .bool q.own] 41 (0, 0))], F] ∧ (i ≤ sc.length) ∧ (MRef s pm9 X T) ∧ (KRef G cs X T) ∧ (T.length ≤ i)) (fun (x_ : Nat × List PT × List Int × Seg × Seg × Array Value) => sc.length - x_.1) (0, [], [], s10, [], #[.slice none 0 0, .slice none 0 0]) ⟨0, [], [], s10, [], #[.slice none 0 0, .slice none 0 0], rfl, rfl, hO15.pick [2, 1, 0, 0, 0] rfl, Nat.zero_le _, hM11, KRef.empty, by simp⟩ ?_
    rintro _ _ w16 ⟨i, X, T, s, G, cs, rfl, rfl, hO17, hi, hM, hK, hl⟩
    refine CW.seq ?_
    refine CW.seq ?_
    refine CW.region ?_
    refine LW.value (.free rfl) rfl (fun _ r => R.move (r.e rfl)) ?_
    refine LW.value (.free rfl) rfl (fun _ r => R.move (r.e rfl)) ?_
    refine LW.value (.free rfl) rfl (fun _ r => R.len_slice (r.e rfl) Try.runUnderlying22) ?_
    refine LW.value (.free rfl) rfl (fun _ r => R.lss (r.e rfl) (r.e rfl)) ?_
    refine LW.nil (EW.then (?_))
    by_cases h18 : (i : Int) < (n : Int)
    · -- (i : Int) < (n : Int)
      refine CW.yes (kb (dT h18)) ?_
      refine CW.skip (EW.then (?_))
      refine CW.seq ?_
      refine CW.block ?_
      refine CW.seq ?_
      refine CW.region ?_
      refine LW.value (.free rfl) rfl (fun _ r => R.move (r.e rfl)) ?_
      refine LW.value (.free rfl) rfl (fun _ r => R.move (r.e rfl)) ?_
      refine LW.value (.free rfl) rfl (fun _ r => R.move (r.e rfl)) ?_
      obtain ⟨x19, hxx19⟩ : ∃ t, (sc)[i]? = some t := ⟨_, List.getElem?_eq_getElem (by omega)⟩
      obtain ⟨blx19, olx19, hax19, hcx19⟩ := hs.at_ _ _ hxx19
      refine LW.value (.free rfl) rfl (fun _ r => R.indexAddr_o (k := olx19 + i * 7) (r.e rfl) hax19 (r.e rfl) Try.runUnderlying22 Try.sizeOf41 (by omega) (by omega) (by simp)) ?_
      refine LW.value (.free rfl) rfl (fun _ r => R.loadn (vs := [.int .i64 x19.d, .int .i64 x19.h, .int .i64 x19.off, .int .i64 x19.n, .int .i64 x19.code, .int .i64 x19.num, .bool x19.own]) (r.e rfl) Try.isAgg41 Try.sizeOf41 rfl (fun j v hj => hO17.pc (i := 4) rfl (hcx19 j v hj))) ?_
      obtain ⟨tc20, tn21, ht22⟩ : ∃ a m, triedP X x19.d x19.h x19.off x19.n x19.code x19.num x19.own = (a, m) := ⟨_, _, rfl⟩
      refine LW.op (.free rfl) (OW.calls rfl (fun _ r => R.call (vs := [.pointer (some ⟨b12, 0, none⟩), .agg #[.int .i64 x19.d, .int .i64 x19.h, .int .i64 x19.off, .int .i64 x19.n, .int .i64 x19.code, .int .i64 x19.num, .bool x19.own]]) Try.call16 rfl ⟨r.e rfl, r.e rfl, trivial⟩) (r_tried hK (by have := hM.le; first | omega | decide) ht22 (hO17.frame [1, 1] rfl)) ?_)
      rintro _ w23 ⟨rfl, hO24⟩
      replace hO24 := hO24.unframe2
      refine LW.op (.free rfl) (OW.alloc (cs := #[.int .i64 0, .int .i64 0]) rfl hO24 Try.zeroValue35 rfl ?_)
      intro b25 w26 hO27
      refine LW.op (.free rfl) (OW.storen (i := 0) (vs := [.int .i64 tc20, .int .i64 tn21]) rfl hO27 rfl rfl rfl rfl Try.sizeOf35 rfl ?_)
      intro w28 hO29
      refine LW.nil (EW.then (?_))
      refine CW.seq ?_
      refine HP.start (I := fun w' => Own w' [[(b25, .cells #[.int .i64 tc20, .int .i64 tn21] 35 (0, 0))], [(b1, .cells #[.int .i64 q.d, .int .i64 q.h, .int .i64 q.off, .int .i64 q.n, .int .i64 q.code, .int .i64 q.num, .bool q.own] 41 (0, 0))], F]) (.take 0 (.take 1 (.take 2 (.take 3 (.take 4 (.take 5 (.take 6 (.one 7 (.done))))))))) Try.mixed (by intro c d v a w h; cases d <;> exact h) hO29 (by kernel_rfl) ?_
      intro w31 hO32
      have hI33 := hO32.pick [0, 3, 3] rfl
      refine HP.take rfl (.free rfl) rfl hI33 (fun _ r _ hI => R.move (r.e rfl)) ?_
      refine HP.take rfl (.free rfl) rfl hI33 (fun _ r _ hI => R.move (r.e rfl)) ?_
      refine HP.take rfl (.free rfl) rfl hI33 (fun _ r _ hI => R.move (r.e rfl)) ?_
      obtain ⟨blx19_34, olx19_34, hax19_34, hcx19_34⟩ := hs.at_ _ _ hxx19
      refine HP.take rfl (.free rfl) rfl hI33 (fun _ r _ hI => R.indexAddr_o (k := olx19_34 + i * 7) (r.e rfl) hax19_34 (r.e rfl) Try.runUnderlying22 Try.sizeOf41 (by omega) (by omega) (by simp)) ?_
      refine HP.take rfl (.free rfl) rfl hI33 (fun _ r _ hI => R.fieldAddr (k := olx19_34 + i * 7) (r.e rfl) Try.runUnderlying41 rfl Try.sizeOf39 rfl) ?_
      refine HP.take rfl (.free rfl) rfl hI33 (fun _ r _ hI => R.loadn (vs := [.int .i64 x19.d, .int .i64 x19.h, .int .i64 x19.off, .int .i64 x19.n]) (r.e rfl) Try.isAgg39 Try.sizeOf39 rfl (fun j v hj => hI.pc (i := 2) rfl (hcx19_34 j v (take_get0 (m := 4) hj)))) ?_
      refine HP.take rfl (.free rfl) rfl hI33 (fun _ r _ hI => R.loadn (vs := [.int .i64 tc20, .int .i64 tn21]) (r.e rfl) Try.isAgg35 Try.sizeOf35 rfl (hI.cells (i := 0) rfl rfl)) ?_
      obtain ⟨b35, X36, T37, hr38⟩ : ∃ b X' T', tryP (X, T) x19.d x19.h x19.off x19.n tc20 tn21 = (b, X', T') := ⟨_, _, _, rfl⟩
      have hlhr38 := try_len hr38
      refine HP.one rfl (.free rfl) (OW.calls rfl (fun _ r => R.call (vs := [.pointer (some ⟨pm9, 0, none⟩), .agg #[.int .i64 x19.d, .int .i64 x19.h, .int .i64 x19.off, .int .i64 x19.n], .agg #[.int .i64 tc20, .int .i64 tn21]]) Try.call17 rfl ⟨r.e rfl, r.e rfl, r.e rfl, trivial⟩) (l_try hM (by first | omega | decide) hr38 (tried_bounds hM ht22 (hcl _ (List.mem_of_getElem? hxx19))) (hO32.frame [3] rfl)) ?_)
      rintro _ w39 ⟨s41, rfl, hM42, hO40⟩
      replace hO40 := hO40.unframe1
      have hI43 := hO40.pick [1, 3, 3] rfl
      refine ⟨hI43, ?_⟩
      refine HP.done (EW.then (?_))
      refine HP.start (I := fun w' => Own w' [[(b25, .cells #[.int .i64 tc20, .int .i64 tn21] 35 (0, 0))], [(b1, .cells #[.int .i64 q.d, .int .i64 q.h, .int .i64 q.off, .int .i64 q.n, .int .i64 q.code, .int .i64 q.num, .bool q.own] 41 (0, 0))], F]) (.take 0 (.take 1 (.take 2 (.take 3 (.take 4 (.take 5 (.take 6 (.one 7 (.done))))))))) Try.mixed (by intro c d v a w h; cases d <;> exact h) hO40 (by kernel_rfl) ?_
      intro w45 hO46
      have hI47 := hO46.pick [1, 3, 3] rfl
      refine HP.take rfl (.free rfl) rfl hI47 (fun _ r _ hI => R.move (r.e rfl)) ?_
      refine HP.take rfl (.free rfl) rfl hI47 (fun _ r _ hI => R.move (r.e rfl)) ?_
      refine HP.take rfl (.free rfl) rfl hI47 (fun _ r _ hI => R.move (r.e rfl)) ?_
      obtain ⟨blx19_48, olx19_48, hax19_48, hcx19_48⟩ := hs.at_ _ _ hxx19
      refine HP.take rfl (.free rfl) rfl hI47 (fun _ r _ hI => R.indexAddr_o (k := olx19_48 + i * 7) (r.e rfl) hax19_48 (r.e rfl) Try.runUnderlying22 Try.sizeOf41 (by omega) (by omega) (by simp)) ?_
      refine HP.take rfl (.free rfl) rfl hI47 (fun _ r _ hI => R.fieldAddr (k := olx19_48 + i * 7) (r.e rfl) Try.runUnderlying41 rfl Try.sizeOf39 rfl) ?_
      refine HP.take rfl (.free rfl) rfl hI47 (fun _ r _ hI => R.loadn (vs := [.int .i64 x19.d, .int .i64 x19.h, .int .i64 x19.off, .int .i64 x19.n]) (r.e rfl) Try.isAgg39 Try.sizeOf39 rfl (fun j v hj => hI.pc (i := 2) rfl (hcx19_48 j v (take_get0 (m := 4) hj)))) ?_
      refine HP.take rfl (.free rfl) rfl hI47 (fun _ r _ hI => R.loadn (vs := [.int .i64 tc20, .int .i64 tn21]) (r.e rfl) Try.isAgg35 Try.sizeOf35 rfl (hI.cells (i := 0) rfl rfl)) ?_
      refine HP.one rfl (.free rfl) (OW.calls rfl (fun _ r => R.call (vs := [.pointer (some ⟨b12, 0, none⟩), .agg #[.int .i64 x19.d, .int .i64 x19.h, .int .i64 x19.off, .int .i64 x19.n], .agg #[.int .i64 tc20, .int .i64 tn21]]) Try.call18 rfl ⟨r.e rfl, r.e rfl, r.e rfl, trivial⟩) (r_try hK (by have := hM.le; first | omega | decide) (by first | omega | decide) hr38 (hO46.frame [2, 2] rfl)) ?_)
      rintro _ w49 ⟨G51, cs52, rfl, hs53, hK54, hO50⟩
      replace hO50 := hO50.unframe2
      have hI55 := hO50.pick [3, 3, 3] rfl
      refine ⟨hI55, ?_⟩
      refine HP.done (EW.inB_normal (EW.then (?_)))
      refine CW.region ?_
      refine LW.value (.free rfl) rfl (fun _ r => R.move (r.e rfl)) ?_
      refine LW.value (.free rfl) rfl (fun _ r => R.as (R.add (r.e rfl) (r.e rfl)) (congrArg (Value.int .i64) (wrap_i64 (by omega) (by omega)))) ?_
      refine LW.value (.free rfl) rfl (fun _ r => R.assign (r.e rfl)) ?_
      refine LW.nil ?_
      exact EW.sub (env' := [(5, .pointer (some ⟨pm9, 0, none⟩)), (6, .pointer (some ⟨b12, 0, none⟩)), (7, .int .i64 ((i + 1) : Int)), (0, .slice a n cc), (3, .pointer (some ⟨b1, 0, none⟩))]) ⟨rfl, rfl, rfl, rfl, rfl, trivial⟩ (EW.round (i + 1, X36, T37, s41, G51, cs52) ⟨i + 1, X36, T37, s41, G51, cs52, rfl, rfl, hO50.pick [2, 0, 0, 1, 1] rfl, by omega, hM42, hK54, by omega⟩ (by omega))
    · -- not: (i : Int) < (n : Int)
      refine CW.no (kb (dF h18)) ?_
      refine CW.exit (EW.then_exit (EW.then_exit (EW.inB_same (EW.then (?_)))))
      refine CW.seq ?_
      refine CW.region ?_
      refine LW.value (.free rfl) rfl (fun _ r => R.move (r.e rfl)) ?_
      refine LW.op (.free rfl) (OW.calls rfl (fun _ r => R.call (vs := [.pointer (some ⟨pm9, 0, none⟩)]) Try.call12 rfl ⟨r.e rfl, trivial⟩) (l_copy hM (by first | omega | decide) (hO17.frame [0] rfl)) ?_)
      rintro _ w56 ⟨pm58, s59, rfl, hM60, hO57⟩
      replace hO57 := hO57.unframe2
      refine LW.value (.free rfl) rfl (fun _ r => R.assign (r.e rfl)) ?_
      refine LW.nil (EW.then (?_))
      refine CW.seq ?_
      refine CW.seq ?_
      refine CW.region ?_
      refine LW.value (.free rfl) rfl (fun _ r => R.move (r.e rfl)) ?_
      refine LW.value (.free rfl) rfl (fun _ r => R.fieldAddr (k := 0) (r.e rfl) Try.runUnderlying41 rfl Try.sizeOf39 rfl) ?_
      refine LW.value (.free rfl) rfl (fun _ r => R.loadn (vs := [.int .i64 q.d, .int .i64 q.h, .int .i64 q.off, .int .i64 q.n]) (r.e rfl) Try.isAgg39 Try.sizeOf39 rfl (hO57.cells (i := 4) rfl rfl)) ?_
      refine LW.value (.free rfl) rfl (fun _ r => R.fieldAddr (k := 4) (r.e rfl) Try.runUnderlying41 rfl Try.sizeOf35 rfl) ?_
      refine LW.value (.free rfl) rfl (fun _ r => R.loadn (vs := [.int .i64 q.code, .int .i64 q.num]) (r.e rfl) Try.isAgg35 Try.sizeOf35 rfl (hO57.cells (i := 4) rfl rfl)) ?_
      obtain ⟨b61, X62, T63, hr64⟩ : ∃ b X' T', tryP (X, T) q.d q.h q.off q.n q.code q.num = (b, X', T') := ⟨_, _, _, rfl⟩
      have hlhr64 := try_len hr64
      refine LW.op (.free rfl) (OW.calls rfl (fun _ r => R.call (vs := [.pointer (some ⟨pm9, 0, none⟩), .agg #[.int .i64 q.d, .int .i64 q.h, .int .i64 q.off, .int .i64 q.n], .agg #[.int .i64 q.code, .int .i64 q.num]]) Try.call17 rfl ⟨r.e rfl, r.e rfl, r.e rfl, trivial⟩) (l_try hM (by first | omega | decide) hr64 hq (hO57.frame [0] rfl)) ?_)
      rintro _ w65 ⟨s67, rfl, hM68, hO66⟩
      replace hO66 := hO66.unframe1
      refine LW.value (.free rfl) rfl (fun _ r => R.move (r.e rfl)) ?_
      rcases Bool.eq_false_or_eq_true b61 with h69 | h69
      · -- b61
        refine LW.value (.yes rfl rfl (kb h69)) rfl (fun _ r => R.fieldAddr (k := 4) (r.e rfl) Try.runUnderlying41 rfl Try.sizeOf35 rfl) ?_
        refine LW.value (.yes rfl rfl (kb h69)) rfl (fun _ r => R.fieldAddr (k := 4) (r.e rfl) Try.runUnderlying35 rfl Try.sizeOf33 rfl) ?_
        refine LW.value (.yes rfl rfl (kb h69)) rfl (fun _ r => R.load1 (r.e rfl) Try.isAgg33 (hO66.cell (i := 4) rfl rfl)) ?_
        refine LW.value (.yes rfl rfl (kb h69)) rfl (fun _ r => R.eql (r.e rfl) (r.e rfl)) ?_
        refine LW.value (.free rfl) rfl (fun _ r => R.pick_yes (r.e (kb h69)) (r.e rfl)) ?_
        refine LW.nil (EW.then (?_))
        by_cases h70 : q.code = 0
        · -- q.code = 0
          refine CW.yes (kb (dT h70)) ?_
          refine CW.seq ?_
          refine CW.region ?_
          refine LW.op (.free rfl) (OW.calls rfl (fun _ r => R.call (vs := []) Try.call10 rfl trivial) (x_live _ _ (hO66.frame [] rfl)) ?_)
          rintro _ w71 ⟨rfl, hO72⟩
          replace hO72 := hO72.unframe0
          refine LW.value (.free rfl) rfl (fun _ r => R.assign (r.e rfl)) ?_
          refine LW.nil (EW.then (?_))
          refine CW.ret (EW.then_ret (?_))
          refine EW.ret1 rfl rfl ?_
          exact ⟨rfl, hO72.pick [5] rfl⟩
        · -- not: q.code = 0
          refine CW.no (kb (dF h70)) ?_
          refine CW.skip (EW.then (?_))
          refine CW.seq ?_
          refine CW.region ?_
          refine LW.value (.free rfl) rfl (fun _ r => R.move (r.e rfl)) ?_
          refine LW.value (.free rfl) rfl (fun _ r => R.move (r.e rfl)) ?_
          refine LW.op (.free rfl) (OW.calls rfl (fun _ r => R.call (vs := [.pointer (some ⟨pm9, 0, none⟩), .pointer (some ⟨pm58, 0, none⟩)]) Try.call26 rfl ⟨r.e rfl, r.e rfl, trivial⟩) (l_same hM68 (by first | omega | decide) hM60 (by first | omega | decide) (hO66.frame [0, 0] rfl)) ?_)
          rintro _ w73 ⟨rfl, hO74⟩
          replace hO74 := hO74.unframe2
          refine LW.value (.free rfl) rfl (fun _ r => R.move (r.e rfl)) ?_
          have h75 : X62 = X ∧ T63 = T := ⟨(try_same hr64 (.inr h70)).1, (try_same hr64 (.inr h70)).2⟩
          refine LW.value (.yes rfl rfl (kb (dT h75))) rfl (fun _ r => R.move (r.e rfl)) ?_
          refine LW.value (.yes rfl rfl (kb (dT h75))) rfl (fun _ r => R.move (r.e rfl)) ?_
          refine LW.op (.yes rfl rfl (kb (dT h75))) (OW.calls rfl (fun _ r => R.call (vs := [.pointer (some ⟨pm58, 0, none⟩), .pointer (some ⟨pm9, 0, none⟩)]) Try.call26 rfl ⟨r.e rfl, r.e rfl, trivial⟩) (l_same hM60 (by first | omega | decide) hM68 (by first | omega | decide) (hO74.frame [1, 0] rfl)) ?_)
          rintro _ w76 ⟨rfl, hO77⟩
          replace hO77 := hO77.unframe2
          refine LW.value (.free rfl) rfl (fun _ r => R.pick_yes (r.e (kb (dT h75))) (r.e rfl)) ?_
          refine LW.value (.free rfl) rfl (fun _ r => R.move (r.e rfl)) ?_
          have h78 : X = X62 ∧ T = T63 := ⟨(try_same hr64 (.inr h70)).1.symm, (try_same hr64 (.inr h70)).2.symm⟩
          refine LW.op (.yes rfl rfl (kb (dT h78))) (OW.calls rfl (fun _ r => R.call (vs := []) Try.call10 rfl trivial) (x_live _ _ (hO77.frame [] rfl)) ?_)
          rintro _ w79 ⟨rfl, hO80⟩
          replace hO80 := hO80.unframe0
          refine LW.value (.free rfl) rfl (fun _ r => R.pick_yes (r.e (kb (dT h78))) (r.e rfl)) ?_
          refine LW.value (.free rfl) rfl (fun _ r => R.assign (r.e rfl)) ?_
          refine LW.nil (EW.then (?_))
          refine CW.ret ?_
          refine EW.ret1 rfl rfl ?_
          exact ⟨rfl, hO80.pick [5] rfl⟩
      · -- not: b61
        refine LW.off (.no rfl rfl (kb h69)) rfl ?_
        refine LW.off (.no rfl rfl (kb h69)) rfl ?_
        refine LW.off (.no rfl rfl (kb h69)) rfl ?_
        refine LW.off (.no rfl rfl (kb h69)) rfl ?_
        refine LW.value (.free rfl) rfl (fun _ r => R.pick_no (r.e (kb h69)) (r.e rfl)) ?_
        refine LW.nil (EW.then (?_))
        refine CW.no rfl ?_
        refine CW.skip (EW.then (?_))
        refine CW.seq ?_
        refine CW.region ?_
        refine LW.value (.free rfl) rfl (fun _ r => R.move (r.e rfl)) ?_
        refine LW.value (.free rfl) rfl (fun _ r => R.move (r.e rfl)) ?_
        refine LW.op (.free rfl) (OW.calls rfl (fun _ r => R.call (vs := [.pointer (some ⟨pm9, 0, none⟩), .pointer (some ⟨pm58, 0, none⟩)]) Try.call26 rfl ⟨r.e rfl, r.e rfl, trivial⟩) (l_same hM68 (by first | omega | decide) hM60 (by first | omega | decide) (hO66.frame [0, 0] rfl)) ?_)
        rintro _ w81 ⟨rfl, hO82⟩
        replace hO82 := hO82.unframe2
        refine LW.value (.free rfl) rfl (fun _ r => R.move (r.e rfl)) ?_
        have h83 : X62 = X ∧ T63 = T := ⟨(try_same hr64 (.inl h69)).1, (try_same hr64 (.inl h69)).2⟩
        refine LW.value (.yes rfl rfl (kb (dT h83))) rfl (fun _ r => R.move (r.e rfl)) ?_
        refine LW.value (.yes rfl rfl (kb (dT h83))) rfl (fun _ r => R.move (r.e rfl)) ?_
        refine LW.op (.yes rfl rfl (kb (dT h83))) (OW.calls rfl (fun _ r => R.call (vs := [.pointer (some ⟨pm58, 0, none⟩), .pointer (some ⟨pm9, 0, none⟩)]) Try.call26 rfl ⟨r.e rfl, r.e rfl, trivial⟩) (l_same hM60 (by first | omega | decide) hM68 (by first | omega | decide) (hO82.frame [1, 0] rfl)) ?_)
        rintro _ w84 ⟨rfl, hO85⟩
        replace hO85 := hO85.unframe2
        refine LW.value (.free rfl) rfl (fun _ r => R.pick_yes (r.e (kb (dT h83))) (r.e rfl)) ?_
        refine LW.value (.free rfl) rfl (fun _ r => R.move (r.e rfl)) ?_
        have h86 : X = X62 ∧ T = T63 := ⟨(try_same hr64 (.inl h69)).1.symm, (try_same hr64 (.inl h69)).2.symm⟩
        refine LW.op (.yes rfl rfl (kb (dT h86))) (OW.calls rfl (fun _ r => R.call (vs := []) Try.call10 rfl trivial) (x_live _ _ (hO85.frame [] rfl)) ?_)
        rintro _ w87 ⟨rfl, hO88⟩
        replace hO88 := hO88.unframe0
        refine LW.value (.free rfl) rfl (fun _ r => R.pick_yes (r.e (kb (dT h86))) (r.e rfl)) ?_
        refine LW.value (.free rfl) rfl (fun _ r => R.assign (r.e rfl)) ?_
        refine LW.nil (EW.then (?_))
        refine CW.ret ?_
        refine EW.ret1 rfl rfl ?_
        exact ⟨rfl, hO88.pick [5] rfl⟩
  · -- not: (n : Int) ≤ 30
    refine CW.yes (kb (bN (dF h6))) ?_
    refine CW.seq ?_
    refine CW.region ?_
    refine LW.op (.free rfl) (OW.calls rfl (fun _ r => R.call (vs := []) Try.call10 rfl trivial) (x_live _ _ (hO5.frame [] rfl)) ?_)
    rintro _ w89 ⟨rfl, hO90⟩
    replace hO90 := hO90.unframe0
    refine LW.value (.free rfl) rfl (fun _ r => R.assign (r.e rfl)) ?_
    refine LW.nil (EW.then (?_))
    refine CW.ret (EW.then_ret (?_))
    refine EW.ret1 rfl rfl ?_
    exact ⟨rfl, hO90.pick [1] rfl⟩

set_option maxRecDepth 100000 in
set_option maxHeartbeats 1000000 in
theorem x_stale (F : Seg) (a : Option Addr) (n cc : Nat) (sc : List Cl) (hs : Sl F 7 encC a n cc sc) (hcl : Cls sc) (h : Int) (hh : -9223372036854775808 ≤ h ∧ h ≤ 9223372036854775807) (a2 : Option Addr) (n2 cc2 : Nat) (sc2 : List Cl) (hs2 : Sl F 7 encC a2 n2 cc2 sc2) (hcl2 : Cls sc2) (w : World) (hO : Own w [F]) : Calls Try.prog 5 [.slice a n cc, .int .i64 h, .slice a2 n2 cc2].toArray w (Ret fun v w' => v = .bool true ∧ Own w' [F]) := by
  have hsl := hs.hlen
  have hsl2 := hs2.hlen
  refine enter (n := 120) Try.func5 rfl rfl rfl ?_
  refine CW.seq ?_
  refine CW.region ?_
  refine LW.value (.free rfl) rfl (fun _ r => R.assign (r.e rfl)) ?_
  refine LW.nil (EW.then (?_))
  refine CW.seq ?_
  refine CW.seq ?_
  refine CW.region ?_
  refine LW.value (.free rfl) rfl (fun _ r => R.move (r.e rfl)) ?_
  refine LW.op (.free rfl) (OW.calls rfl (fun _ r => R.call (vs := [.slice a n cc, .int .i64 30]) Try.call9 rfl ⟨r.e rfl, r.e rfl, trivial⟩) (v_small _ _ _ _ _ _ (hO.frame [] rfl)) ?_)
  rintro _ w1 ⟨rfl, hO2⟩
  replace hO2 := hO2.unframe0
  refine LW.value (.free rfl) rfl (fun _ r => R.not (r.e rfl)) ?_
  refine LW.value (.free rfl) rfl (fun _ r => R.move (r.e rfl)) ?_
  by_cases h3 : (n : Int) ≤ 30
  · -- (n : Int) ≤ 30
    refine LW.value (.yes rfl rfl (kb (bN (dT h3)))) rfl (fun _ r => R.move (r.e rfl)) ?_
    refine LW.op (.yes rfl rfl (kb (bN (dT h3)))) (OW.calls rfl (fun _ r => R.call (vs := [.slice a2 n2 cc2, .int .i64 30]) Try.call9 rfl ⟨r.e rfl, r.e rfl, trivial⟩) (v_small _ _ _ _ _ _ (hO2.frame [] rfl)) ?_)
    rintro _ w4 ⟨rfl, hO5⟩
    replace hO5 := hO5.unframe0
    refine LW.value (.yes rfl rfl (kb (bN (dT h3)))) rfl (fun _ r => R.not (r.e rfl)) ?_
    refine LW.value (.free rfl) rfl (fun _ r => R.pick_no (r.e (kb (bN (dT h3)))) (r.e rfl)) ?_
    refine LW.nil (EW.then (?_))
    by_cases h6 : (n2 : Int) ≤ 30
    · -- (n2 : Int) ≤ 30
      refine CW.no (kb (bN (dT h6))) ?_
      refine CW.skip (EW.then (?_))
      refine CW.seq ?_
      refine CW.region ?_
      refine LW.op (.free rfl) (OW.calls rfl (fun _ r => R.call (vs := []) Try.call11 rfl trivial) (l_new _ _ (hO5.frame [] rfl)) ?_)
      rintro _ w7 ⟨pm9, s10, rfl, hM11, hO8⟩
      replace hO8 := hO8.unframe1
      refine LW.value (.free rfl) rfl (fun _ r => R.assign (r.e rfl)) ?_
      refine LW.nil (EW.then (?_))
      refine CW.seq ?_
      refine CW.seq ?_
      refine CW.region ?_
      refine LW.value (.free rfl) rfl (fun _ r => R.move (r.e rfl)) ?_
      refine LW.value (.free rfl) rfl (fun _ r => R.as (R.isNil (r.e rfl) (r.e rfl) Try.underlying25) rfl) ?_
      refine LW.nil (EW.then (?_))
      refine CW.no rfl ?_
      refine CW.skip (EW.then (?_))
      refine CW.seq ?_
      refine CW.region ?_
      refine LW.value (.free rfl) rfl (fun _ r => R.build (v := .agg #[.slice none 0 0, .slice none 0 0]) (vs := []) trivial (by simp [go_sem])) ?_
      refine LW.op (.free rfl) (OW.box (cs := #[.slice none 0 0, .slice none 0 0]) rfl hO8 rfl rfl ?_)
      intro b12 w13 hO14
      have hO15 := hO14.nil
      refine LW.value (.free rfl) rfl (fun _ r => R.assign (r.e rfl)) ?_
      refine LW.nil (EW.then (?_))
      refine CW.seq ?_
      refine CW.seq ?_
      refine CW.region ?_
      refine LW.value (.free rfl) rfl (fun _ r => R.assign (r.e rfl)) ?_
      refine LW.nil (EW.then (?_))
      refine CW.block ?_
      refine CW.sub (env' := [(7, .pointer (some ⟨pm9, 0, none⟩)), (8, .pointer (some ⟨b12, 0, none⟩)), (9, .int .i64 (0 : Int)), (0, .slice a n cc), (1, .int .i64 h), (2, .slice a2 n2 cc2)]) ⟨rfl, rfl, rfl, rfl, rfl, rfl, trivial⟩ ?_
      refine CW.loop (α := Nat × List PT × List Int × Seg × Seg × Array Value) (fun (x_ : Nat × List PT × List Int × Seg × Seg × Array Value) env_ w_ => ∃ i X T s G cs, x_ = (i, X, T, s, G, cs) ∧ env_ = [(7, .pointer (some ⟨pm9, 0, none⟩)), (8, .pointer (some ⟨b12, 0, none⟩)), (9, .int .i64 (i : Int)), (0, .slice a n cc), (1, .int .i64 h), (2, .slice a2 n2 cc2)] ∧ Own w_ [s, [(b12, .cells cs 31 (0, 0))], G, F] ∧ (i ≤ sc.length) ∧ (MRef s pm9 X T) ∧ (KRef G cs X T) ∧ (T.length ≤ i)) (fun (x_ : Nat × List PT × List Int × Seg × Seg × Array Value) => sc.length - x_.1) (0, [], [], s10, [], #[.slice none 0 0, .slice none 0 0]) ⟨0, [], [], s10, [], #[.slice none 0 0, .slice none 0 0], rfl, rfl, hO15.pick [2, 1, 0, 0] rfl, Nat.zero_le _, hM11, KRef.empty, by simp⟩ ?_
      rintro _ _ w16 ⟨i, X, T, s, G, cs, rfl, rfl, hO17, hi, hM, hK, hl⟩
      refine CW.seq ?_
      refine CW.seq ?_
      refine CW.region ?_
      refine LW.value (.free rfl) rfl (fun _ r => R.move (r.e rfl)) ?_
      refine LW.value (.free rfl) rfl (fun _ r => R.move (r.e rfl)) ?_
      refine LW.value (.free rfl) rfl (fun _ r => R.len_slice (r.e rfl) Try.runUnderlying22) ?_
      refine LW.value (.free rfl) rfl (fun _ r => R.lss (r.e rfl) (r.e rfl)) ?_
      refine LW.nil (EW.then (?_))
      by_cases h18 : (i : Int) < (n : Int)
      · -- (i : Int) < (n : Int)
        refine CW.yes (kb (dT h18)) ?_
        refine CW.skip (EW.then (?_))
        refine CW.seq ?_
        refine CW.block ?_
        refine CW.seq ?_
        refine CW.region ?_
        refine LW.value (.free rfl) rfl (fun _ r => R.move (r.e rfl)) ?_
        refine LW.value (.free rfl) rfl (fun _ r => R.move (r.e rfl)) ?_
        refine LW.value (.free rfl) rfl (fun _ r => R.move (r.e rfl)) ?_
        obtain ⟨x19, hxx19⟩ : ∃ t, (sc)[i]? = some t := ⟨_, List.getElem?_eq_getElem (by omega)⟩
        obtain ⟨blx19, olx19, hax19, hcx19⟩ := hs.at_ _ _ hxx19
        refine LW.value (.free rfl) rfl (fun _ r => R.indexAddr_o (k := olx19 + i * 7) (r.e rfl) hax19 (r.e rfl) Try.runUnderlying22 Try.sizeOf41 (by omega) (by omega) (by simp)) ?_
        refine LW.value (.free rfl) rfl (fun _ r => R.loadn (vs := [.int .i64 x19.d, .int .i64 x19.h, .int .i64 x19.off, .int .i64 x19.n, .int .i64 x19.code, .int .i64 x19.num, .bool x19.own]) (r.e rfl) Try.isAgg41 Try.sizeOf41 rfl (fun j v hj => hO17.pc (i := 3) rfl (hcx19 j v hj))) ?_
        obtain ⟨tc20, tn21, ht22⟩ : ∃ a m, triedP X x19.d x19.h x19.off x19.n x19.code x19.num x19.own = (a, m) := ⟨_, _, rfl⟩
        refine LW.op (.free rfl) (OW.calls rfl (fun _ r => R.call (vs := [.pointer (some ⟨b12, 0, none⟩), .agg #[.int .i64 x19.d, .int .i64 x19.h, .int .i64 x19.off, .int .i64 x19.n, .int .i64 x19.code, .int .i64 x19.num, .bool x19.own]]) Try.call16 rfl ⟨r.e rfl, r.e rfl, trivial⟩) (r_tried hK (by have := hM.le; first | omega | decide) ht22 (hO17.frame [1, 1] rfl)) ?_)
        rintro _ w23 ⟨rfl, hO24⟩
        replace hO24 := hO24.unframe2
        refine LW.op (.free rfl) (OW.alloc (cs := #[.int .i64 0, .int .i64 0]) rfl hO24 Try.zeroValue35 rfl ?_)
        intro b25 w26 hO27
        refine LW.op (.free rfl) (OW.storen (i := 0) (vs := [.int .i64 tc20, .int .i64 tn21]) rfl hO27 rfl rfl rfl rfl Try.sizeOf35 rfl ?_)
        intro w28 hO29
        refine LW.nil (EW.then (?_))
        refine CW.seq ?_
        refine HP.start (I := fun w' => Own w' [[(b25, .cells #[.int .i64 tc20, .int .i64 tn21] 35 (0, 0))], F]) (.take 0 (.take 1 (.take 2 (.take 3 (.take 4 (.take 5 (.take 6 (.one 7 (.done))))))))) Try.mixed (by intro c d v a w h; cases d <;> exact h) hO29 (by kernel_rfl) ?_
        intro w31 hO32
        have hI33 := hO32.pick [0, 3] rfl
        refine HP.take rfl (.free rfl) rfl hI33 (fun _ r _ hI => R.move (r.e rfl)) ?_
        refine HP.take rfl (.free rfl) rfl hI33 (fun _ r _ hI => R.move (r.e rfl)) ?_
        refine HP.take rfl (.free rfl) rfl hI33 (fun _ r _ hI => R.move (r.e rfl)) ?_
        obtain ⟨blx19_34, olx19_34, hax19_34, hcx19_34⟩ := hs.at_ _ _ hxx19
        refine HP.take rfl (.free rfl) rfl hI33 (fun _ r _ hI => R.indexAddr_o (k := olx19_34 + i * 7) (r.e rfl) hax19_34 (r.e rfl) Try.runUnderlying22 Try.sizeOf41 (by omega) (by omega) (by simp)) ?_
        refine HP.take rfl (.free rfl) rfl hI33 (fun _ r _ hI => R.fieldAddr (k := olx19_34 + i * 7) (r.e rfl) Try.runUnderlying41 rfl Try.sizeOf39 rfl) ?_
        refine HP.take rfl (.free rfl) rfl hI33 (fun _ r _ hI => R.loadn (vs := [.int .i64 x19.d, .int .i64 x19.h, .int .i64 x19.off, .int .i64 x19.n]) (r.e rfl) Try.isAgg39 Try.sizeOf39 rfl (fun j v hj => hI.pc (i := 1) rfl (hcx19_34 j v (take_get0 (m := 4) hj)))) ?_
        refine HP.take rfl (.free rfl) rfl hI33 (fun _ r _ hI => R.loadn (vs := [.int .i64 tc20, .int .i64 tn21]) (r.e rfl) Try.isAgg35 Try.sizeOf35 rfl (hI.cells (i := 0) rfl rfl)) ?_
        obtain ⟨b35, X36, T37, hr38⟩ : ∃ b X' T', tryP (X, T) x19.d x19.h x19.off x19.n tc20 tn21 = (b, X', T') := ⟨_, _, _, rfl⟩
        have hlhr38 := try_len hr38
        refine HP.one rfl (.free rfl) (OW.calls rfl (fun _ r => R.call (vs := [.pointer (some ⟨pm9, 0, none⟩), .agg #[.int .i64 x19.d, .int .i64 x19.h, .int .i64 x19.off, .int .i64 x19.n], .agg #[.int .i64 tc20, .int .i64 tn21]]) Try.call17 rfl ⟨r.e rfl, r.e rfl, r.e rfl, trivial⟩) (l_try hM (by first | omega | decide) hr38 (tried_bounds hM ht22 (hcl _ (List.mem_of_getElem? hxx19))) (hO32.frame [3] rfl)) ?_)
        rintro _ w39 ⟨s41, rfl, hM42, hO40⟩
        replace hO40 := hO40.unframe1
        have hI43 := hO40.pick [1, 3] rfl
        refine ⟨hI43, ?_⟩
        refine HP.done (EW.then (?_))
        refine HP.start (I := fun w' => Own w' [[(b25, .cells #[.int .i64 tc20, .int .i64 tn21] 35 (0, 0))], F]) (.take 0 (.take 1 (.take 2 (.take 3 (.take 4 (.take 5 (.take 6 (.one 7 (.done))))))))) Try.mixed (by intro c d v a w h; cases d <;> exact h) hO40 (by kernel_rfl) ?_
        intro w45 hO46
        have hI47 := hO46.pick [1, 3] rfl
        refine HP.take rfl (.free rfl) rfl hI47 (fun _ r _ hI => R.move (r.e rfl)) ?_
        refine HP.take rfl (.free rfl) rfl hI47 (fun _ r _ hI => R.move (r.e rfl)) ?_
        refine HP.take rfl (.free rfl) rfl hI47 (fun _ r _ hI => R.move (r.e rfl)) ?_
        obtain ⟨blx19_48, olx19_48, hax19_48, hcx19_48⟩ := hs.at_ _ _ hxx19
        refine HP.take rfl (.free rfl) rfl hI47 (fun _ r _ hI => R.indexAddr_o (k := olx19_48 + i * 7) (r.e rfl) hax19_48 (r.e rfl) Try.runUnderlying22 Try.sizeOf41 (by omega) (by omega) (by simp)) ?_
        refine HP.take rfl (.free rfl) rfl hI47 (fun _ r _ hI => R.fieldAddr (k := olx19_48 + i * 7) (r.e rfl) Try.runUnderlying41 rfl Try.sizeOf39 rfl) ?_
        refine HP.take rfl (.free rfl) rfl hI47 (fun _ r _ hI => R.loadn (vs := [.int .i64 x19.d, .int .i64 x19.h, .int .i64 x19.off, .int .i64 x19.n]) (r.e rfl) Try.isAgg39 Try.sizeOf39 rfl (fun j v hj => hI.pc (i := 1) rfl (hcx19_48 j v (take_get0 (m := 4) hj)))) ?_
        refine HP.take rfl (.free rfl) rfl hI47 (fun _ r _ hI => R.loadn (vs := [.int .i64 tc20, .int .i64 tn21]) (r.e rfl) Try.isAgg35 Try.sizeOf35 rfl (hI.cells (i := 0) rfl rfl)) ?_
        refine HP.one rfl (.free rfl) (OW.calls rfl (fun _ r => R.call (vs := [.pointer (some ⟨b12, 0, none⟩), .agg #[.int .i64 x19.d, .int .i64 x19.h, .int .i64 x19.off, .int .i64 x19.n], .agg #[.int .i64 tc20, .int .i64 tn21]]) Try.call18 rfl ⟨r.e rfl, r.e rfl, r.e rfl, trivial⟩) (r_try hK (by have := hM.le; first | omega | decide) (by first | omega | decide) hr38 (hO46.frame [2, 2] rfl)) ?_)
        rintro _ w49 ⟨G51, cs52, rfl, hs53, hK54, hO50⟩
        replace hO50 := hO50.unframe2
        have hI55 := hO50.pick [3, 3] rfl
        refine ⟨hI55, ?_⟩
        refine HP.done (EW.inB_normal (EW.then (?_)))
        refine CW.region ?_
        refine LW.value (.free rfl) rfl (fun _ r => R.move (r.e rfl)) ?_
        refine LW.value (.free rfl) rfl (fun _ r => R.as (R.add (r.e rfl) (r.e rfl)) (congrArg (Value.int .i64) (wrap_i64 (by omega) (by omega)))) ?_
        refine LW.value (.free rfl) rfl (fun _ r => R.assign (r.e rfl)) ?_
        refine LW.nil ?_
        exact EW.sub (env' := [(7, .pointer (some ⟨pm9, 0, none⟩)), (8, .pointer (some ⟨b12, 0, none⟩)), (9, .int .i64 ((i + 1) : Int)), (0, .slice a n cc), (1, .int .i64 h), (2, .slice a2 n2 cc2)]) ⟨rfl, rfl, rfl, rfl, rfl, rfl, trivial⟩ (EW.round (i + 1, X36, T37, s41, G51, cs52) ⟨i + 1, X36, T37, s41, G51, cs52, rfl, rfl, hO50.pick [2, 0, 0, 1] rfl, by omega, hM42, hK54, by omega⟩ (by omega))
      · -- not: (i : Int) < (n : Int)
        refine CW.no (kb (dF h18)) ?_
        refine CW.exit (EW.then_exit (EW.then_exit (EW.inB_same (EW.then (?_)))))
        refine CW.seq ?_
        refine CW.seq ?_
        refine CW.region ?_
        refine LW.value (.free rfl) rfl (fun _ r => R.move (r.e rfl)) ?_
        refine LW.value (.free rfl) rfl (fun _ r => R.move (r.e rfl)) ?_
        refine LW.value (.free rfl) rfl (fun _ r => R.build (v := .agg #[.int .i64 1, .int .i64 h, .int .i64 0, .int .i64 0]) (vs := [(0, .int .i64 1), (1, .int .i64 h)]) ⟨⟨r.e rfl, rfl⟩, ⟨r.e rfl, rfl⟩, trivial⟩ (by simp [go_sem])) ?_
        refine LW.value (.free rfl) rfl (fun _ r => R.build (v := .agg #[.int .i64 0, .int .i64 0]) (vs := []) trivial (by simp [go_sem])) ?_
        obtain ⟨b56, X57, T58, hr59⟩ : ∃ b X' T', tryP (X, T) 1 h 0 0 0 0 = (b, X', T') := ⟨_, _, _, rfl⟩
        have hlhr59 := try_len hr59
        refine LW.op (.free rfl) (OW.calls rfl (fun _ r => R.call (vs := [.pointer (some ⟨pm9, 0, none⟩), .agg #[.int .i64 1, .int .i64 h, .int .i64 0, .int .i64 0], .agg #[.int .i64 0, .int .i64 0]]) Try.call17 rfl ⟨r.e rfl, r.e rfl, r.e rfl, trivial⟩) (l_try hM (by first | omega | decide) hr59 (by decide) (hO17.frame [0] rfl)) ?_)
        rintro _ w60 ⟨s62, rfl, hM63, hO61⟩
        replace hO61 := hO61.unframe1
        refine LW.value (.free rfl) rfl (fun _ r => R.not (r.e rfl)) ?_
        refine LW.nil (EW.then (?_))
        rcases Bool.eq_false_or_eq_true b56 with h64 | h64
        · -- b56
          refine CW.no (kb (bN h64)) ?_
          refine CW.skip (EW.then (?_))
          refine CW.seq ?_
          refine CW.region ?_
          refine LW.value (.free rfl) rfl (fun _ r => R.move (r.e rfl)) ?_
          refine LW.value (.free rfl) rfl (fun _ r => R.move (r.e rfl)) ?_
          refine LW.value (.free rfl) rfl (fun _ r => R.build (v := .agg #[.int .i64 1, .int .i64 h, .int .i64 0, .int .i64 0]) (vs := [(0, .int .i64 1), (1, .int .i64 h)]) ⟨⟨r.e rfl, rfl⟩, ⟨r.e rfl, rfl⟩, trivial⟩ (by simp [go_sem])) ?_
          refine LW.value (.free rfl) rfl (fun _ r => R.build (v := .agg #[.int .i64 0, .int .i64 0]) (vs := []) trivial (by simp [go_sem])) ?_
          refine LW.op (.free rfl) (OW.calls rfl (fun _ r => R.call (vs := [.pointer (some ⟨b12, 0, none⟩), .agg #[.int .i64 1, .int .i64 h, .int .i64 0, .int .i64 0], .agg #[.int .i64 0, .int .i64 0]]) Try.call18 rfl ⟨r.e rfl, r.e rfl, r.e rfl, trivial⟩) (r_try hK (by have := hM.le; first | omega | decide) (by first | omega | decide) hr59 (hO61.frame [1, 1] rfl)) ?_)
          rintro _ w65 ⟨G67, cs68, rfl, hs69, hK70, hO66⟩
          replace hO66 := hO66.unframe2
          refine LW.nil (EW.then (?_))
          refine CW.seq ?_
          refine CW.seq ?_
          refine CW.region ?_
          refine LW.value (.free rfl) rfl (fun _ r => R.assign (r.e rfl)) ?_
          refine LW.nil (EW.then (?_))
          refine CW.block ?_
          refine CW.sub (env' := [(7, .pointer (some ⟨pm9, 0, none⟩)), (8, .pointer (some ⟨b12, 0, none⟩)), (11, .int .i64 (0 : Int)), (1, .int .i64 h), (2, .slice a2 n2 cc2)]) ⟨rfl, rfl, rfl, rfl, rfl, trivial⟩ ?_
          refine CW.loop (α := Nat × List PT × List Int × Seg × Seg × Array Value) (fun (x_ : Nat × List PT × List Int × Seg × Seg × Array Value) env_ w_ => ∃ i X T s G cs, x_ = (i, X, T, s, G, cs) ∧ env_ = [(7, .pointer (some ⟨pm9, 0, none⟩)), (8, .pointer (some ⟨b12, 0, none⟩)), (11, .int .i64 (i : Int)), (1, .int .i64 h), (2, .slice a2 n2 cc2)] ∧ Own w_ [s, [(b12, .cells cs 31 (0, 0))], G, F] ∧ (i ≤ sc2.length) ∧ (MRef s pm9 X T) ∧ (KRef G cs X T) ∧ (T.length ≤ i + 100) ∧ (Gone h X T)) (fun (x_ : Nat × List PT × List Int × Seg × Seg × Array Value) => sc2.length - x_.1) (0, X57, T58, s62, G67, cs68) ⟨0, X57, T58, s62, G67, cs68, rfl, rfl, hO66.pick [2, 0, 0, 0] rfl, Nat.zero_le _, hM63, hK70, by omega, freed hM (hr59.trans (by rw [h64]))⟩ ?_
          rintro _ _ w71 ⟨i, X, T, s, G, cs, rfl, rfl, hO72, hi, hM, hK, hl, hg⟩
          refine CW.seq ?_
          refine CW.seq ?_
          refine CW.region ?_
          refine LW.value (.free rfl) rfl (fun _ r => R.move (r.e rfl)) ?_
          refine LW.value (.free rfl) rfl (fun _ r => R.move (r.e rfl)) ?_
          refine LW.value (.free rfl) rfl (fun _ r => R.len_slice (r.e rfl) Try.runUnderlying22) ?_
          refine LW.value (.free rfl) rfl (fun _ r => R.lss (r.e rfl) (r.e rfl)) ?_
          refine LW.nil (EW.then (?_))
          by_cases h73 : (i : Int) < (n2 : Int)
          · -- (i : Int) < (n2 : Int)
            refine CW.yes (kb (dT h73)) ?_
            refine CW.skip (EW.then (?_))
            refine CW.seq ?_
            refine CW.block ?_
            refine CW.seq ?_
            refine CW.region ?_
            refine LW.value (.free rfl) rfl (fun _ r => R.move (r.e rfl)) ?_
            refine LW.value (.free rfl) rfl (fun _ r => R.move (r.e rfl)) ?_
            refine LW.value (.free rfl) rfl (fun _ r => R.move (r.e rfl)) ?_
            obtain ⟨x74, hxx74⟩ : ∃ t, (sc2)[i]? = some t := ⟨_, List.getElem?_eq_getElem (by omega)⟩
            obtain ⟨blx74, olx74, hax74, hcx74⟩ := hs2.at_ _ _ hxx74
            refine LW.value (.free rfl) rfl (fun _ r => R.indexAddr_o (k := olx74 + i * 7) (r.e rfl) hax74 (r.e rfl) Try.runUnderlying22 Try.sizeOf41 (by omega) (by omega) (by simp)) ?_
            refine LW.value (.free rfl) rfl (fun _ r => R.loadn (vs := [.int .i64 x74.d, .int .i64 x74.h, .int .i64 x74.off, .int .i64 x74.n, .int .i64 x74.code, .int .i64 x74.num, .bool x74.own]) (r.e rfl) Try.isAgg41 Try.sizeOf41 rfl (fun j v hj => hO72.pc (i := 3) rfl (hcx74 j v hj))) ?_
            obtain ⟨tc75, tn76, ht77⟩ : ∃ a m, triedP X x74.d x74.h x74.off x74.n x74.code x74.num x74.own = (a, m) := ⟨_, _, rfl⟩
            refine LW.op (.free rfl) (OW.calls rfl (fun _ r => R.call (vs := [.pointer (some ⟨b12, 0, none⟩), .agg #[.int .i64 x74.d, .int .i64 x74.h, .int .i64 x74.off, .int .i64 x74.n, .int .i64 x74.code, .int .i64 x74.num, .bool x74.own]]) Try.call16 rfl ⟨r.e rfl, r.e rfl, trivial⟩) (r_tried hK (by have := hM.le; first | omega | decide) ht77 (hO72.frame [1, 1] rfl)) ?_)
            rintro _ w78 ⟨rfl, hO79⟩
            replace hO79 := hO79.unframe2
            refine LW.op (.free rfl) (OW.alloc (cs := #[.int .i64 0, .int .i64 0]) rfl hO79 Try.zeroValue35 rfl ?_)
            intro b80 w81 hO82
            refine LW.op (.free rfl) (OW.storen (i := 0) (vs := [.int .i64 tc75, .int .i64 tn76]) rfl hO82 rfl rfl rfl rfl Try.sizeOf35 rfl ?_)
            intro w83 hO84
            refine LW.nil (EW.then (?_))
            refine CW.seq ?_
            refine HP.start (I := fun w' => Own w' [[(b80, .cells #[.int .i64 tc75, .int .i64 tn76] 35 (0, 0))], F]) (.take 0 (.take 1 (.take 2 (.take 3 (.take 4 (.take 5 (.take 6 (.one 7 (.done))))))))) Try.mixed (by intro c d v a w h; cases d <;> exact h) hO84 (by kernel_rfl) ?_
            intro w86 hO87
            have hI88 := hO87.pick [0, 3] rfl
            refine HP.take rfl (.free rfl) rfl hI88 (fun _ r _ hI => R.move (r.e rfl)) ?_
            refine HP.take rfl (.free rfl) rfl hI88 (fun _ r _ hI => R.move (r.e rfl)) ?_
            refine HP.take rfl (.free rfl) rfl hI88 (fun _ r _ hI => R.move (r.e rfl)) ?_
            obtain ⟨blx74_89, olx74_89, hax74_89, hcx74_89⟩ := hs2.at_ _ _ hxx74
            refine HP.take rfl (.free rfl) rfl hI88 (fun _ r _ hI => R.indexAddr_o (k := olx74_89 + i * 7) (r.e rfl) hax74_89 (r.e rfl) Try.runUnderlying22 Try.sizeOf41 (by omega) (by omega) (by simp)) ?_
            refine HP.take rfl (.free rfl) rfl hI88 (fun _ r _ hI => R.fieldAddr (k := olx74_89 + i * 7) (r.e rfl) Try.runUnderlying41 rfl Try.sizeOf39 rfl) ?_
            refine HP.take rfl (.free rfl) rfl hI88 (fun _ r _ hI => R.loadn (vs := [.int .i64 x74.d, .int .i64 x74.h, .int .i64 x74.off, .int .i64 x74.n]) (r.e rfl) Try.isAgg39 Try.sizeOf39 rfl (fun j v hj => hI.pc (i := 1) rfl (hcx74_89 j v (take_get0 (m := 4) hj)))) ?_
            refine HP.take rfl (.free rfl) rfl hI88 (fun _ r _ hI => R.loadn (vs := [.int .i64 tc75, .int .i64 tn76]) (r.e rfl) Try.isAgg35 Try.sizeOf35 rfl (hI.cells (i := 0) rfl rfl)) ?_
            obtain ⟨b90, X91, T92, hr93⟩ : ∃ b X' T', tryP (X, T) x74.d x74.h x74.off x74.n tc75 tn76 = (b, X', T') := ⟨_, _, _, rfl⟩
            have hlhr93 := try_len hr93
            refine HP.one rfl (.free rfl) (OW.calls rfl (fun _ r => R.call (vs := [.pointer (some ⟨pm9, 0, none⟩), .agg #[.int .i64 x74.d, .int .i64 x74.h, .int .i64 x74.off, .int .i64 x74.n], .agg #[.int .i64 tc75, .int .i64 tn76]]) Try.call17 rfl ⟨r.e rfl, r.e rfl, r.e rfl, trivial⟩) (l_try hM (by first | omega | decide) hr93 (tried_bounds hM ht77 (hcl2 _ (List.mem_of_getElem? hxx74))) (hO87.frame [3] rfl)) ?_)
            rintro _ w94 ⟨s96, rfl, hM97, hO95⟩
            replace hO95 := hO95.unframe1
            have hI98 := hO95.pick [1, 3] rfl
            refine ⟨hI98, ?_⟩
            refine HP.done (EW.then (?_))
            refine HP.start (I := fun w' => Own w' [[(b80, .cells #[.int .i64 tc75, .int .i64 tn76] 35 (0, 0))], F]) (.take 0 (.take 1 (.take 2 (.take 3 (.take 4 (.take 5 (.take 6 (.one 7 (.done))))))))) Try.mixed (by intro c d v a w h; cases d <;> exact h) hO95 (by kernel_rfl) ?_
            intro w100 hO101
            have hI102 := hO101.pick [1, 3] rfl
            refine HP.take rfl (.free rfl) rfl hI102 (fun _ r _ hI => R.move (r.e rfl)) ?_
            refine HP.take rfl (.free rfl) rfl hI102 (fun _ r _ hI => R.move (r.e rfl)) ?_
            refine HP.take rfl (.free rfl) rfl hI102 (fun _ r _ hI => R.move (r.e rfl)) ?_
            obtain ⟨blx74_103, olx74_103, hax74_103, hcx74_103⟩ := hs2.at_ _ _ hxx74
            refine HP.take rfl (.free rfl) rfl hI102 (fun _ r _ hI => R.indexAddr_o (k := olx74_103 + i * 7) (r.e rfl) hax74_103 (r.e rfl) Try.runUnderlying22 Try.sizeOf41 (by omega) (by omega) (by simp)) ?_
            refine HP.take rfl (.free rfl) rfl hI102 (fun _ r _ hI => R.fieldAddr (k := olx74_103 + i * 7) (r.e rfl) Try.runUnderlying41 rfl Try.sizeOf39 rfl) ?_
            refine HP.take rfl (.free rfl) rfl hI102 (fun _ r _ hI => R.loadn (vs := [.int .i64 x74.d, .int .i64 x74.h, .int .i64 x74.off, .int .i64 x74.n]) (r.e rfl) Try.isAgg39 Try.sizeOf39 rfl (fun j v hj => hI.pc (i := 1) rfl (hcx74_103 j v (take_get0 (m := 4) hj)))) ?_
            refine HP.take rfl (.free rfl) rfl hI102 (fun _ r _ hI => R.loadn (vs := [.int .i64 tc75, .int .i64 tn76]) (r.e rfl) Try.isAgg35 Try.sizeOf35 rfl (hI.cells (i := 0) rfl rfl)) ?_
            refine HP.one rfl (.free rfl) (OW.calls rfl (fun _ r => R.call (vs := [.pointer (some ⟨b12, 0, none⟩), .agg #[.int .i64 x74.d, .int .i64 x74.h, .int .i64 x74.off, .int .i64 x74.n], .agg #[.int .i64 tc75, .int .i64 tn76]]) Try.call18 rfl ⟨r.e rfl, r.e rfl, r.e rfl, trivial⟩) (r_try hK (by have := hM.le; first | omega | decide) (by first | omega | decide) hr93 (hO101.frame [2, 2] rfl)) ?_)
            rintro _ w104 ⟨G106, cs107, rfl, hs108, hK109, hO105⟩
            replace hO105 := hO105.unframe2
            have hI110 := hO105.pick [3, 3] rfl
            refine ⟨hI110, ?_⟩
            refine HP.done (EW.inB_normal (EW.then (?_)))
            refine CW.region ?_
            refine LW.value (.free rfl) rfl (fun _ r => R.move (r.e rfl)) ?_
            refine LW.value (.free rfl) rfl (fun _ r => R.as (R.add (r.e rfl) (r.e rfl)) (congrArg (Value.int .i64) (wrap_i64 (by omega) (by omega)))) ?_
            refine LW.value (.free rfl) rfl (fun _ r => R.assign (r.e rfl)) ?_
            refine LW.nil ?_
            exact EW.sub (env' := [(7, .pointer (some ⟨pm9, 0, none⟩)), (8, .pointer (some ⟨b12, 0, none⟩)), (11, .int .i64 ((i + 1) : Int)), (1, .int .i64 h), (2, .slice a2 n2 cc2)]) ⟨rfl, rfl, rfl, rfl, rfl, trivial⟩ (EW.round (i + 1, X91, T92, s96, G106, cs107) ⟨i + 1, X91, T92, s96, G106, cs107, rfl, rfl, hO105.pick [2, 0, 0, 1] rfl, by omega, hM97, hK109, by omega, hg.step hM hr93⟩ (by omega))
          · -- not: (i : Int) < (n2 : Int)
            refine CW.no (kb (dF h73)) ?_
            refine CW.exit (EW.then_exit (EW.then_exit (EW.inB_same (EW.then (?_)))))
            refine CW.seq ?_
            refine CW.region ?_
            refine LW.value (.free rfl) rfl (fun _ r => R.move (r.e rfl)) ?_
            refine LW.value (.free rfl) rfl (fun _ r => R.move (r.e rfl)) ?_
            refine LW.value (.free rfl) rfl (fun _ r => R.build (v := .agg #[.int .i64 2, .int .i64 h, .int .i64 0, .int .i64 0]) (vs := [(0, .int .i64 2), (1, .int .i64 h)]) ⟨⟨r.e rfl, rfl⟩, ⟨r.e rfl, rfl⟩, trivial⟩ (by simp [go_sem])) ?_
            obtain ⟨a111, m112, t113, ha114⟩ : ∃ a m t, ansP X 2 h 0 0 = (a, m, t) := ⟨_, _, _, rfl⟩
            refine LW.op (.free rfl) (OW.calls rfl (fun _ r => R.call (vs := [.pointer (some ⟨pm9, 0, none⟩), .agg #[.int .i64 2, .int .i64 h, .int .i64 0, .int .i64 0]]) Try.call14 rfl ⟨r.e rfl, r.e rfl, trivial⟩) (l_answer hM (by first | omega | decide) ha114 (hO72.frame [0] rfl)) ?_)
            rintro _ w115 ⟨rfl, hO116⟩
            replace hO116 := hO116.unframe1
            refine LW.value (.free rfl) rfl (fun _ r => R.move (r.e rfl)) ?_
            refine LW.value (.free rfl) rfl (fun _ r => R.extract (r.e rfl) rfl) ?_
            refine LW.value (.free rfl) rfl (fun _ r => R.extract (r.e rfl) rfl) ?_
            refine LW.op (.free rfl) (OW.alloc (cs := #[.int .i64 0, .int .i64 0]) rfl hO116 Try.zeroValue35 rfl ?_)
            intro b117 w118 hO119
            refine LW.op (.free rfl) (OW.storen (i := 0) (vs := [.int .i64 a111, .int .i64 m112]) rfl hO119 rfl rfl rfl rfl Try.sizeOf35 rfl ?_)
            intro w120 hO121
            refine LW.value (.free rfl) rfl (fun _ r => R.assign (r.e rfl)) ?_
            refine LW.nil (EW.then (?_))
            refine CW.seq ?_
            refine CW.region ?_
            refine LW.value (.free rfl) rfl (fun _ r => R.move (r.e rfl)) ?_
            refine LW.value (.free rfl) rfl (fun _ r => R.build (v := .agg #[.int .i64 0, .int .i64 0, .int .i64 0, .int .i64 1]) (vs := [(3, .int .i64 1)]) ⟨⟨r.e rfl, rfl⟩, trivial⟩ (by simp [go_sem])) ?_
            refine LW.value (.free rfl) rfl (fun _ r => R.move (r.e rfl)) ?_
            refine LW.value (.free rfl) rfl (fun _ r => R.build (v := .agg #[.int .i64 0, .int .i64 h]) (vs := [(1, .int .i64 h)]) ⟨⟨r.e rfl, rfl⟩, trivial⟩ (by simp [go_sem])) ?_
            obtain ⟨b122, X123, T124, hr125⟩ : ∃ b X' T', tryP (X, T) 0 0 0 1 0 h = (b, X', T') := ⟨_, _, _, rfl⟩
            have hlhr125 := try_len hr125
            have hb126 : b122 = false := hg.new hr125
            refine LW.op (.free rfl) (OW.calls rfl (fun _ r => R.call (vs := [.pointer (some ⟨pm9, 0, none⟩), .agg #[.int .i64 0, .int .i64 0, .int .i64 0, .int .i64 1], .agg #[.int .i64 0, .int .i64 h]]) Try.call17 rfl ⟨r.e rfl, r.e rfl, r.e rfl, trivial⟩) (l_try hM (by first | omega | decide) hr125 hh (hO121.frame [1] rfl)) ?_)
            rintro _ w127 ⟨s129, rfl, hM130, hO128⟩
            replace hO128 := hO128.unframe1
            refine LW.value (.free rfl) rfl (fun _ r => R.assign (r.e rfl)) ?_
            refine LW.nil (EW.then (?_))
            refine CW.seq ?_
            refine CW.region ?_
            refine LW.value (.free rfl) rfl (fun _ r => R.loadn (vs := [.int .i64 a111, .int .i64 m112]) (r.e rfl) Try.isAgg35 Try.sizeOf35 rfl (hO128.cells (i := 1) rfl rfl)) ?_
            refine LW.value (.free rfl) rfl (fun _ r => R.build (v := .agg #[.int .i64 4, .int .i64 0]) (vs := [(0, .int .i64 4)]) ⟨⟨r.e rfl, rfl⟩, trivial⟩ (by simp [go_sem])) ?_
            refine LW.value (.free rfl) rfl (fun _ r => eq35_eql (r.e rfl) (r.e rfl)) ?_
            refine LW.value (.free rfl) rfl (fun _ r => R.move (r.e rfl)) ?_
            have h131 : a111 = 4 ∧ m112 = 0 := by have e := hg.read (off2 := 0) (n2 := 0); rw [ha114] at e; injection e with e1 e2; injection e2 with e2 e3; exact ⟨e1, e2⟩
            refine LW.value (.yes rfl rfl (kb (dT h131))) rfl (fun _ r => R.move (r.e rfl)) ?_
            refine LW.value (.yes rfl rfl (kb (dT h131))) rfl (fun _ r => R.not (r.e rfl)) ?_
            refine LW.value (.free rfl) rfl (fun _ r => R.pick_yes (r.e (kb (dT h131))) (r.e rfl)) ?_
            refine LW.value (.free rfl) rfl (fun _ r => R.move (r.e rfl)) ?_
            refine LW.op (.yes rfl rfl (kb (bN hb126))) (OW.calls rfl (fun _ r => R.call (vs := []) Try.call10 rfl trivial) (x_live _ _ (hO128.frame [] rfl)) ?_)
            rintro _ w132 ⟨rfl, hO133⟩
            replace hO133 := hO133.unframe0
            refine LW.value (.free rfl) rfl (fun _ r => R.pick_yes (r.e (kb (bN hb126))) (r.e rfl)) ?_
            refine LW.value (.free rfl) rfl (fun _ r => R.assign (r.e rfl)) ?_
            refine LW.nil (EW.then (?_))
            refine CW.ret ?_
            refine EW.ret1 rfl rfl ?_
            exact ⟨rfl, hO133.pick [4] rfl⟩
        · -- not: b56
          refine CW.yes (kb (bN h64)) ?_
          refine CW.seq ?_
          refine CW.region ?_
          refine LW.op (.free rfl) (OW.calls rfl (fun _ r => R.call (vs := []) Try.call10 rfl trivial) (x_live _ _ (hO61.frame [] rfl)) ?_)
          rintro _ w134 ⟨rfl, hO135⟩
          replace hO135 := hO135.unframe0
          refine LW.value (.free rfl) rfl (fun _ r => R.assign (r.e rfl)) ?_
          refine LW.nil (EW.then (?_))
          refine CW.ret (EW.then_ret (?_))
          refine EW.ret1 rfl rfl ?_
          exact ⟨rfl, hO135.pick [3] rfl⟩
    · -- not: (n2 : Int) ≤ 30
      refine CW.yes (kb (bN (dF h6))) ?_
      refine CW.seq ?_
      refine CW.region ?_
      refine LW.op (.free rfl) (OW.calls rfl (fun _ r => R.call (vs := []) Try.call10 rfl trivial) (x_live _ _ (hO5.frame [] rfl)) ?_)
      rintro _ w136 ⟨rfl, hO137⟩
      replace hO137 := hO137.unframe0
      refine LW.value (.free rfl) rfl (fun _ r => R.assign (r.e rfl)) ?_
      refine LW.nil (EW.then (?_))
      refine CW.ret (EW.then_ret (?_))
      refine EW.ret1 rfl rfl ?_
      exact ⟨rfl, hO137.pick [0] rfl⟩
  · -- not: (n : Int) ≤ 30
    refine LW.off (.no rfl rfl (kb (bN (dF h3)))) rfl ?_
    refine LW.off (.no rfl rfl (kb (bN (dF h3)))) rfl ?_
    refine LW.off (.no rfl rfl (kb (bN (dF h3)))) rfl ?_
    refine LW.value (.free rfl) rfl (fun _ r => R.pick_yes (r.e (kb (bN (dF h3)))) (r.e rfl)) ?_
    refine LW.nil (EW.then (?_))
    refine CW.yes rfl ?_
    refine CW.seq ?_
    refine CW.region ?_
    refine LW.op (.free rfl) (OW.calls rfl (fun _ r => R.call (vs := []) Try.call10 rfl trivial) (x_live _ _ (hO2.frame [] rfl)) ?_)
    rintro _ w138 ⟨rfl, hO139⟩
    replace hO139 := hO139.unframe0
    refine LW.value (.free rfl) rfl (fun _ r => R.assign (r.e rfl)) ?_
    refine LW.nil (EW.then (?_))
    refine CW.ret (EW.then_ret (?_))
    refine EW.ret1 rfl rfl ?_
    exact ⟨rfl, hO139.pick [0] rfl⟩

set_option maxRecDepth 100000 in
set_option maxHeartbeats 1000000 in
theorem x_written (F : Seg) (a : Option Addr) (n cc : Nat) (sc : List Cl) (hs : Sl F 7 encC a n cc sc) (hcl : Cls sc) (d1 h1 o1 n1 d2 h2 o2 n2 : Int) (w : World) (hO : Own w [F]) : Calls Try.prog 4 [.slice a n cc, .agg #[.int .i64 d1, .int .i64 h1, .int .i64 o1, .int .i64 n1], .agg #[.int .i64 d2, .int .i64 h2, .int .i64 o2, .int .i64 n2]].toArray w (Ret fun v w' => v = .bool true ∧ Own w' [F]) := by
  have hsl := hs.hlen
  have htb := tmod_bounds n1
  refine enter (n := 117) Try.func4 rfl rfl rfl ?_
  refine CW.seq ?_
  refine CW.region ?_
  refine LW.op (.free rfl) (OW.box (cs := #[.int .i64 d1, .int .i64 h1, .int .i64 o1, .int .i64 n1]) rfl hO rfl rfl ?_)
  intro b1 w2 hO3
  refine LW.op (.free rfl) (OW.box (cs := #[.int .i64 d2, .int .i64 h2, .int .i64 o2, .int .i64 n2]) rfl hO3 rfl rfl ?_)
  intro b4 w5 hO6
  refine LW.value (.free rfl) rfl (fun _ r => R.assign (r.e rfl)) ?_
  refine LW.nil (EW.then (?_))
  refine CW.seq ?_
  refine CW.seq ?_
  refine CW.region ?_
  refine LW.value (.free rfl) rfl (fun _ r => R.move (r.e rfl)) ?_
  refine LW.op (.free rfl) (OW.calls rfl (fun _ r => R.call (vs := [.slice a n cc, .int .i64 30]) Try.call9 rfl ⟨r.e rfl, r.e rfl, trivial⟩) (v_small _ _ _ _ _ _ (hO6.frame [] rfl)) ?_)
  rintro _ w7 ⟨rfl, hO8⟩
  replace hO8 := hO8.unframe0
  refine LW.value (.free rfl) rfl (fun _ r => R.not (r.e rfl)) ?_
  refine LW.nil (EW.then (?_))
  by_cases h9 : (n : Int) ≤ 30
  · -- (n : Int) ≤ 30
    refine CW.no (kb (bN (dT h9))) ?_
    refine CW.skip (EW.then (?_))
    refine CW.seq ?_
    refine CW.region ?_
    refine LW.op (.free rfl) (OW.calls rfl (fun _ r => R.call (vs := []) Try.call11 rfl trivial) (l_new _ _ (hO8.frame [] rfl)) ?_)
    rintro _ w10 ⟨pm12, s13, rfl, hM14, hO11⟩
    replace hO11 := hO11.unframe1
    refine LW.value (.free rfl) rfl (fun _ r => R.assign (r.e rfl)) ?_
    refine LW.nil (EW.then (?_))
    refine CW.seq ?_
    refine CW.seq ?_
    refine CW.region ?_
    refine LW.value (.free rfl) rfl (fun _ r => R.move (r.e rfl)) ?_
    refine LW.value (.free rfl) rfl (fun _ r => R.as (R.isNil (r.e rfl) (r.e rfl) Try.underlying25) rfl) ?_
    refine LW.nil (EW.then (?_))
    refine CW.no rfl ?_
    refine CW.skip (EW.then (?_))
    refine CW.seq ?_
    refine CW.region ?_
    refine LW.value (.free rfl) rfl (fun _ r => R.build (v := .agg #[.slice none 0 0, .slice none 0 0]) (vs := []) trivial (by simp [go_sem])) ?_
    refine LW.op (.free rfl) (OW.box (cs := #[.slice none 0 0, .slice none 0 0]) rfl hO11 rfl rfl ?_)
    intro b15 w16 hO17
    have hO18 := hO17.nil
    refine LW.value (.free rfl) rfl (fun _ r => R.assign (r.e rfl)) ?_
    refine LW.nil (EW.then (?_))
    refine CW.seq ?_
    refine CW.seq ?_
    refine CW.region ?_
    refine LW.value (.free rfl) rfl (fun _ r => R.assign (r.e rfl)) ?_
    refine LW.nil (EW.then (?_))
    refine CW.block ?_
    refine CW.sub (env' := [(7, .pointer (some ⟨pm12, 0, none⟩)), (8, .pointer (some ⟨b15, 0, none⟩)), (9, .int .i64 (0 : Int)), (0, .slice a n cc), (4, .pointer (some ⟨b1, 0, none⟩)), (5, .pointer (some ⟨b4, 0, none⟩))]) ⟨rfl, rfl, rfl, rfl, rfl, rfl, trivial⟩ ?_
    refine CW.loop (α := Nat × List PT × List Int × Seg × Seg × Array Value) (fun (x_ : Nat × List PT × List Int × Seg × Seg × Array Value) env_ w_ => ∃ i X T s G cs, x_ = (i, X, T, s, G, cs) ∧ env_ = [(7, .pointer (some ⟨pm12, 0, none⟩)), (8, .pointer (some ⟨b15, 0, none⟩)), (9, .int .i64 (i : Int)), (0, .slice a n cc), (4, .pointer (some ⟨b1, 0, none⟩)), (5, .pointer (some ⟨b4, 0, none⟩))] ∧ Own w_ [s, [(b15, .cells cs 31 (0, 0))], G, [(b4, .cells #[.int .i64 d2, .int .i64 h2, .int .i64 o2, .int .i64 n2] 39 (0, 0))], [(b1, .cells #[.int .i64 d1, .int .i64 h1, .int .i64 o1, .int .i64 n1] 39 (0, 0))], F] ∧ (i ≤ sc.length) ∧ (MRef s pm12 X T) ∧ (KRef G cs X T) ∧ (T.length ≤ i)) (fun (x_ : Nat × List PT × List Int × Seg × Seg × Array Value) => sc.length - x_.1) (0, [], [], s13, [], #[.slice none 0 0, .slice none 0 0]) ⟨0, [], [], s13, [], #[.slice none 0 0, .slice none 0 0], rfl, rfl, hO18.pick [2, 1, 0, 0, 0, 0] rfl, Nat.zero_le _, hM14, KRef.empty, by simp⟩ ?_
    rintro _ _ w19 ⟨i, X, T, s, G, cs, rfl, rfl, hO20, hi, hM, hK, hl⟩
    refine CW.seq ?_
    refine CW.seq ?_
    refine CW.region ?_
    refine LW.value (.free rfl) rfl (fun _ r => R.move (r.e rfl)) ?_
    refine LW.value (.free rfl) rfl (fun _ r => R.move (r.e rfl)) ?_
    refine LW.value (.free rfl) rfl (fun _ r => R.len_slice (r.e rfl) Try.runUnderlying22) ?_
    refine LW.value (.free rfl) rfl (fun _ r => R.lss (r.e rfl) (r.e rfl)) ?_
    refine LW.nil (EW.then (?_))
    by_cases h21 : (i : Int) < (n : Int)
    · -- (i : Int) < (n : Int)
      refine CW.yes (kb (dT h21)) ?_
      refine CW.skip (EW.then (?_))
      refine CW.seq ?_
      refine CW.block ?_
      refine CW.seq ?_
      refine CW.region ?_
      refine LW.value (.free rfl) rfl (fun _ r => R.move (r.e rfl)) ?_
      refine LW.value (.free rfl) rfl (fun _ r => R.move (r.e rfl)) ?_
      refine LW.value (.free rfl) rfl (fun _ r => R.move (r.e rfl)) ?_
      obtain ⟨x22, hxx22⟩ : ∃ t, (sc)[i]? = some t := ⟨_, List.getElem?_eq_getElem (by omega)⟩
      obtain ⟨blx22, olx22, hax22, hcx22⟩ := hs.at_ _ _ hxx22
      refine LW.value (.free rfl) rfl (fun _ r => R.indexAddr_o (k := olx22 + i * 7) (r.e rfl) hax22 (r.e rfl) Try.runUnderlying22 Try.sizeOf41 (by omega) (by omega) (by simp)) ?_
      refine LW.value (.free rfl) rfl (fun _ r => R.loadn (vs := [.int .i64 x22.d, .int .i64 x22.h, .int .i64 x22.off, .int .i64 x22.n, .int .i64 x22.code, .int .i64 x22.num, .bool x22.own]) (r.e rfl) Try.isAgg41 Try.sizeOf41 rfl (fun j v hj => hO20.pc (i := 5) rfl (hcx22 j v hj))) ?_
      obtain ⟨tc23, tn24, ht25⟩ : ∃ a m, triedP X x22.d x22.h x22.off x22.n x22.code x22.num x22.own = (a, m) := ⟨_, _, rfl⟩
      refine LW.op (.free rfl) (OW.calls rfl (fun _ r => R.call (vs := [.pointer (some ⟨b15, 0, none⟩), .agg #[.int .i64 x22.d, .int .i64 x22.h, .int .i64 x22.off, .int .i64 x22.n, .int .i64 x22.code, .int .i64 x22.num, .bool x22.own]]) Try.call16 rfl ⟨r.e rfl, r.e rfl, trivial⟩) (r_tried hK (by have := hM.le; first | omega | decide) ht25 (hO20.frame [1, 1] rfl)) ?_)
      rintro _ w26 ⟨rfl, hO27⟩
      replace hO27 := hO27.unframe2
      refine LW.op (.free rfl) (OW.alloc (cs := #[.int .i64 0, .int .i64 0]) rfl hO27 Try.zeroValue35 rfl ?_)
      intro b28 w29 hO30
      refine LW.op (.free rfl) (OW.storen (i := 0) (vs := [.int .i64 tc23, .int .i64 tn24]) rfl hO30 rfl rfl rfl rfl Try.sizeOf35 rfl ?_)
      intro w31 hO32
      refine LW.nil (EW.then (?_))
      refine CW.seq ?_
      refine HP.start (I := fun w' => Own w' [[(b28, .cells #[.int .i64 tc23, .int .i64 tn24] 35 (0, 0))], [(b4, .cells #[.int .i64 d2, .int .i64 h2, .int .i64 o2, .int .i64 n2] 39 (0, 0))], [(b1, .cells #[.int .i64 d1, .int .i64 h1, .int .i64 o1, .int .i64 n1] 39 (0, 0))], F]) (.take 0 (.take 1 (.take 2 (.take 3 (.take 4 (.take 5 (.take 6 (.one 7 (.done))))))))) Try.mixed (by intro c d v a w h; cases d <;> exact h) hO32 (by kernel_rfl) ?_
      intro w34 hO35
      have hI36 := hO35.pick [0, 3, 3, 3] rfl
      refine HP.take rfl (.free rfl) rfl hI36 (fun _ r _ hI => R.move (r.e rfl)) ?_
      refine HP.take rfl (.free rfl) rfl hI36 (fun _ r _ hI => R.move (r.e rfl)) ?_
      refine HP.take rfl (.free rfl) rfl hI36 (fun _ r _ hI => R.move (r.e rfl)) ?_
      obtain ⟨blx22_37, olx22_37, hax22_37, hcx22_37⟩ := hs.at_ _ _ hxx22
      refine HP.take rfl (.free rfl) rfl hI36 (fun _ r _ hI => R.indexAddr_o (k := olx22_37 + i * 7) (r.e rfl) hax22_37 (r.e rfl) Try.runUnderlying22 Try.sizeOf41 (by omega) (by omega) (by simp)) ?_
      refine HP.take rfl (.free rfl) rfl hI36 (fun _ r _ hI => R.fieldAddr (k := olx22_37 + i * 7) (r.e rfl) Try.runUnderlying41 rfl Try.sizeOf39 rfl) ?_
      refine HP.take rfl (.free rfl) rfl hI36 (fun _ r _ hI => R.loadn (vs := [.int .i64 x22.d, .int .i64 x22.h, .int .i64 x22.off, .int .i64 x22.n]) (r.e rfl) Try.isAgg39 Try.sizeOf39 rfl (fun j v hj => hI.pc (i := 3) rfl (hcx22_37 j v (take_get0 (m := 4) hj)))) ?_
      refine HP.take rfl (.free rfl) rfl hI36 (fun _ r _ hI => R.loadn (vs := [.int .i64 tc23, .int .i64 tn24]) (r.e rfl) Try.isAgg35 Try.sizeOf35 rfl (hI.cells (i := 0) rfl rfl)) ?_
      obtain ⟨b38, X39, T40, hr41⟩ : ∃ b X' T', tryP (X, T) x22.d x22.h x22.off x22.n tc23 tn24 = (b, X', T') := ⟨_, _, _, rfl⟩
      have hlhr41 := try_len hr41
      refine HP.one rfl (.free rfl) (OW.calls rfl (fun _ r => R.call (vs := [.pointer (some ⟨pm12, 0, none⟩), .agg #[.int .i64 x22.d, .int .i64 x22.h, .int .i64 x22.off, .int .i64 x22.n], .agg #[.int .i64 tc23, .int .i64 tn24]]) Try.call17 rfl ⟨r.e rfl, r.e rfl, r.e rfl, trivial⟩) (l_try hM (by first | omega | decide) hr41 (tried_bounds hM ht25 (hcl _ (List.mem_of_getElem? hxx22))) (hO35.frame [3] rfl)) ?_)
      rintro _ w42 ⟨s44, rfl, hM45, hO43⟩
      replace hO43 := hO43.unframe1
      have hI46 := hO43.pick [1, 3, 3, 3] rfl
      refine ⟨hI46, ?_⟩
      refine HP.done (EW.then (?_))
      refine HP.start (I := fun w' => Own w' [[(b28, .cells #[.int .i64 tc23, .int .i64 tn24] 35 (0, 0))], [(b4, .cells #[.int .i64 d2, .int .i64 h2, .int .i64 o2, .int .i64 n2] 39 (0, 0))], [(b1, .cells #[.int .i64 d1, .int .i64 h1, .int .i64 o1, .int .i64 n1] 39 (0, 0))], F]) (.take 0 (.take 1 (.take 2 (.take 3 (.take 4 (.take 5 (.take 6 (.one 7 (.done))))))))) Try.mixed (by intro c d v a w h; cases d <;> exact h) hO43 (by kernel_rfl) ?_
      intro w48 hO49
      have hI50 := hO49.pick [1, 3, 3, 3] rfl
      refine HP.take rfl (.free rfl) rfl hI50 (fun _ r _ hI => R.move (r.e rfl)) ?_
      refine HP.take rfl (.free rfl) rfl hI50 (fun _ r _ hI => R.move (r.e rfl)) ?_
      refine HP.take rfl (.free rfl) rfl hI50 (fun _ r _ hI => R.move (r.e rfl)) ?_
      obtain ⟨blx22_51, olx22_51, hax22_51, hcx22_51⟩ := hs.at_ _ _ hxx22
      refine HP.take rfl (.free rfl) rfl hI50 (fun _ r _ hI => R.indexAddr_o (k := olx22_51 + i * 7) (r.e rfl) hax22_51 (r.e rfl) Try.runUnderlying22 Try.sizeOf41 (by omega) (by omega) (by simp)) ?_
      refine HP.take rfl (.free rfl) rfl hI50 (fun _ r _ hI => R.fieldAddr (k := olx22_51 + i * 7) (r.e rfl) Try.runUnderlying41 rfl Try.sizeOf39 rfl) ?_
      refine HP.take rfl (.free rfl) rfl hI50 (fun _ r _ hI => R.loadn (vs := [.int .i64 x22.d, .int .i64 x22.h, .int .i64 x22.off, .int .i64 x22.n]) (r.e rfl) Try.isAgg39 Try.sizeOf39 rfl (fun j v hj => hI.pc (i := 3) rfl (hcx22_51 j v (take_get0 (m := 4) hj)))) ?_
      refine HP.take rfl (.free rfl) rfl hI50 (fun _ r _ hI => R.loadn (vs := [.int .i64 tc23, .int .i64 tn24]) (r.e rfl) Try.isAgg35 Try.sizeOf35 rfl (hI.cells (i := 0) rfl rfl)) ?_
      refine HP.one rfl (.free rfl) (OW.calls rfl (fun _ r => R.call (vs := [.pointer (some ⟨b15, 0, none⟩), .agg #[.int .i64 x22.d, .int .i64 x22.h, .int .i64 x22.off, .int .i64 x22.n], .agg #[.int .i64 tc23, .int .i64 tn24]]) Try.call18 rfl ⟨r.e rfl, r.e rfl, r.e rfl, trivial⟩) (r_try hK (by have := hM.le; first | omega | decide) (by first | omega | decide) hr41 (hO49.frame [2, 2] rfl)) ?_)
      rintro _ w52 ⟨G54, cs55, rfl, hs56, hK57, hO53⟩
      replace hO53 := hO53.unframe2
      have hI58 := hO53.pick [3, 3, 3, 3] rfl
      refine ⟨hI58, ?_⟩
      refine HP.done (EW.inB_normal (EW.then (?_)))
      refine CW.region ?_
      refine LW.value (.free rfl) rfl (fun _ r => R.move (r.e rfl)) ?_
      refine LW.value (.free rfl) rfl (fun _ r => R.as (R.add (r.e rfl) (r.e rfl)) (congrArg (Value.int .i64) (wrap_i64 (by omega) (by omega)))) ?_
      refine LW.value (.free rfl) rfl (fun _ r => R.assign (r.e rfl)) ?_
      refine LW.nil ?_
      exact EW.sub (env' := [(7, .pointer (some ⟨pm12, 0, none⟩)), (8, .pointer (some ⟨b15, 0, none⟩)), (9, .int .i64 ((i + 1) : Int)), (0, .slice a n cc), (4, .pointer (some ⟨b1, 0, none⟩)), (5, .pointer (some ⟨b4, 0, none⟩))]) ⟨rfl, rfl, rfl, rfl, rfl, rfl, trivial⟩ (EW.round (i + 1, X39, T40, s44, G54, cs55) ⟨i + 1, X39, T40, s44, G54, cs55, rfl, rfl, hO53.pick [2, 0, 0, 1, 1, 1] rfl, by omega, hM45, hK57, by omega⟩ (by omega))
    · -- not: (i : Int) < (n : Int)
      refine CW.no (kb (dF h21)) ?_
      refine CW.exit (EW.then_exit (EW.then_exit (EW.inB_same (EW.then (?_)))))
      refine CW.seq ?_
      refine CW.region ?_
      refine LW.value (.free rfl) rfl (fun _ r => R.fieldAddr (k := 0) (r.e rfl) Try.runUnderlying39 rfl Try.sizeOf3 rfl) ?_
      refine LW.op (.free rfl) (OW.store (i := 4) rfl hO20 rfl rfl rfl rfl Try.sizeOf3 rfl ?_)
      intro w59 hO60
      refine LW.nil (EW.then (?_))
      refine CW.seq ?_
      refine CW.region ?_
      refine LW.value (.free rfl) rfl (fun _ r => R.fieldAddr (k := 0) (r.e rfl) Try.runUnderlying39 rfl Try.sizeOf3 rfl) ?_
      refine LW.op (.free rfl) (OW.store (i := 3) rfl hO60 rfl rfl rfl rfl Try.sizeOf3 rfl ?_)
      intro w61 hO62
      refine LW.nil (EW.then (?_))
      refine CW.seq ?_
      refine CW.region ?_
      refine LW.value (.free rfl) rfl (fun _ r => R.move (r.e rfl)) ?_
      refine LW.value (.free rfl) rfl (fun _ r => R.loadn (vs := [.int .i64 2, .int .i64 h2, .int .i64 o2, .int .i64 n2]) (r.e rfl) Try.isAgg39 Try.sizeOf39 rfl (hO62.cells (i := 3) rfl rfl)) ?_
      obtain ⟨a63, m64, t65, ha66⟩ : ∃ a m t, ansP X 2 h2 o2 n2 = (a, m, t) := ⟨_, _, _, rfl⟩
      refine LW.op (.free rfl) (OW.calls rfl (fun _ r => R.call (vs := [.pointer (some ⟨pm12, 0, none⟩), .agg #[.int .i64 2, .int .i64 h2, .int .i64 o2, .int .i64 n2]]) Try.call14 rfl ⟨r.e rfl, r.e rfl, trivial⟩) (l_answer hM (by first | omega | decide) ha66 (hO62.frame [0] rfl)) ?_)
      rintro _ w67 ⟨rfl, hO68⟩
      replace hO68 := hO68.unframe1
      refine LW.value (.free rfl) rfl (fun _ r => R.move (r.e rfl)) ?_
      refine LW.value (.free rfl) rfl (fun _ r => R.extract (r.e rfl) rfl) ?_
      refine LW.value (.free rfl) rfl (fun _ r => R.extract (r.e rfl) rfl) ?_
      refine LW.op (.free rfl) (OW.alloc (cs := #[.int .i64 0, .int .i64 0]) rfl hO68 Try.zeroValue35 rfl ?_)
      intro b69 w70 hO71
      refine LW.op (.free rfl) (OW.storen (i := 0) (vs := [.int .i64 a63, .int .i64 m64]) rfl hO71 rfl rfl rfl rfl Try.sizeOf35 rfl ?_)
      intro w72 hO73
      refine LW.value (.free rfl) rfl (fun _ r => R.assign (r.e rfl)) ?_
      refine LW.nil (EW.then (?_))
      refine CW.seq ?_
      refine CW.seq ?_
      refine CW.region ?_
      refine LW.value (.free rfl) rfl (fun _ r => R.move (r.e rfl)) ?_
      refine LW.value (.free rfl) rfl (fun _ r => R.loadn (vs := [.int .i64 3, .int .i64 h1, .int .i64 o1, .int .i64 n1]) (r.e rfl) Try.isAgg39 Try.sizeOf39 rfl (hO73.cells (i := 5) rfl rfl)) ?_
      refine LW.value (.free rfl) rfl (fun _ r => R.build (v := .agg #[.int .i64 0, .int .i64 0]) (vs := []) trivial (by simp [go_sem])) ?_
      obtain ⟨b74, X75, T76, hr77⟩ : ∃ b X' T', tryP (X, T) 3 h1 o1 n1 0 0 = (b, X', T') := ⟨_, _, _, rfl⟩
      have hlhr77 := try_len hr77
      refine LW.op (.free rfl) (OW.calls rfl (fun _ r => R.call (vs := [.pointer (some ⟨pm12, 0, none⟩), .agg #[.int .i64 3, .int .i64 h1, .int .i64 o1, .int .i64 n1], .agg #[.int .i64 0, .int .i64 0]]) Try.call17 rfl ⟨r.e rfl, r.e rfl, r.e rfl, trivial⟩) (l_try hM (by first | omega | decide) hr77 (by decide) (hO73.frame [1] rfl)) ?_)
      rintro _ w78 ⟨s80, rfl, hM81, hO79⟩
      replace hO79 := hO79.unframe1
      refine LW.value (.free rfl) rfl (fun _ r => R.not (r.e rfl)) ?_
      refine LW.nil (EW.then (?_))
      rcases Bool.eq_false_or_eq_true b74 with h82 | h82
      · -- b74
        refine CW.no (kb (bN h82)) ?_
        refine CW.skip (EW.then (?_))
        refine CW.seq ?_
        refine CW.region ?_
        refine LW.value (.free rfl) rfl (fun _ r => R.move (r.e rfl)) ?_
        refine LW.value (.free rfl) rfl (fun _ r => R.fieldAddr (k := 1) (r.e rfl) Try.runUnderlying39 rfl Try.sizeOf3 rfl) ?_
        refine LW.value (.free rfl) rfl (fun _ r => R.load1 (r.e rfl) Try.isAgg3 (hO79.cell (i := 5) rfl rfl)) ?_
        refine LW.value (.free rfl) rfl (fun _ r => R.fieldAddr (k := 2) (r.e rfl) Try.runUnderlying39 rfl Try.sizeOf3 rfl) ?_
        refine LW.value (.free rfl) rfl (fun _ r => R.load1 (r.e rfl) Try.isAgg3 (hO79.cell (i := 5) rfl rfl)) ?_
        refine LW.value (.free rfl) rfl (fun _ r => R.build (v := .agg #[.int .i64 2, .int .i64 h1, .int .i64 o1, .int .i64 0]) (vs := [(0, .int .i64 2), (1, .int .i64 h1), (2, .int .i64 o1)]) ⟨⟨r.e rfl, rfl⟩, ⟨r.e rfl, rfl⟩, ⟨r.e rfl, rfl⟩, trivial⟩ (by simp [go_sem])) ?_
        refine LW.op (.free rfl) (OW.calls rfl (fun _ r => R.call (vs := [.pointer (some ⟨pm12, 0, none⟩), .agg #[.int .i64 2, .int .i64 h1, .int .i64 o1, .int .i64 0]]) Try.call14 rfl ⟨r.e rfl, r.e rfl, trivial⟩) (l_answer hM81 (by first | omega | decide) (wrote hM (hr77.trans (by rw [h82]))) (hO79.frame [0] rfl)) ?_)
        rintro _ w83 ⟨rfl, hO84⟩
        replace hO84 := hO84.unframe1
        refine LW.value (.free rfl) rfl (fun _ r => R.move (r.e rfl)) ?_
        refine LW.value (.free rfl) rfl (fun _ r => R.extract (r.e rfl) rfl) ?_
        refine LW.value (.free rfl) rfl (fun _ r => R.extract (r.e rfl) rfl) ?_
        refine LW.op (.free rfl) (OW.alloc (cs := #[.int .i64 0, .int .i64 0]) rfl hO84 Try.zeroValue35 rfl ?_)
        intro b85 w86 hO87
        refine LW.op (.free rfl) (OW.storen (i := 0) (vs := [.int .i64 0, .int .i64 (n1 % 256)]) rfl hO87 rfl rfl rfl rfl Try.sizeOf35 rfl ?_)
        intro w88 hO89
        refine LW.value (.free rfl) rfl (fun _ r => R.assign (r.e rfl)) ?_
        refine LW.nil (EW.then (?_))
        refine CW.seq ?_
        refine CW.region ?_
        refine LW.value (.free rfl) rfl (fun _ r => R.move (r.e rfl)) ?_
        refine LW.value (.free rfl) rfl (fun _ r => R.loadn (vs := [.int .i64 2, .int .i64 h2, .int .i64 o2, .int .i64 n2]) (r.e rfl) Try.isAgg39 Try.sizeOf39 rfl (hO89.cells (i := 5) rfl rfl)) ?_
        obtain ⟨a90, m91, t92, ha93⟩ : ∃ a m t, ansP X75 2 h2 o2 n2 = (a, m, t) := ⟨_, _, _, rfl⟩
        refine LW.op (.free rfl) (OW.calls rfl (fun _ r => R.call (vs := [.pointer (some ⟨pm12, 0, none⟩), .agg #[.int .i64 2, .int .i64 h2, .int .i64 o2, .int .i64 n2]]) Try.call14 rfl ⟨r.e rfl, r.e rfl, trivial⟩) (l_answer hM81 (by first | omega | decide) ha93 (hO89.frame [1] rfl)) ?_)
        rintro _ w94 ⟨rfl, hO95⟩
        replace hO95 := hO95.unframe1
        refine LW.value (.free rfl) rfl (fun _ r => R.move (r.e rfl)) ?_
        refine LW.value (.free rfl) rfl (fun _ r => R.extract (r.e rfl) rfl) ?_
        refine LW.value (.free rfl) rfl (fun _ r => R.extract (r.e rfl) rfl) ?_
        refine LW.op (.free rfl) (OW.alloc (cs := #[.int .i64 0, .int .i64 0]) rfl hO95 Try.zeroValue35 rfl ?_)
        intro b96 w97 hO98
        refine LW.op (.free rfl) (OW.storen (i := 0) (vs := [.int .i64 a90, .int .i64 m91]) rfl hO98 rfl rfl rfl rfl Try.sizeOf35 rfl ?_)
        intro w99 hO100
        refine LW.value (.free rfl) rfl (fun _ r => R.assign (r.e rfl)) ?_
        refine LW.nil (EW.then (?_))
        refine CW.seq ?_
        refine CW.seq ?_
        refine CW.region ?_
        refine LW.value (.free rfl) rfl (fun _ r => R.fieldAddr (k := 0) (r.e rfl) Try.runUnderlying35 rfl Try.sizeOf33 rfl) ?_
        refine LW.value (.free rfl) rfl (fun _ r => R.load1 (r.e rfl) Try.isAgg33 (hO100.cell (i := 2) rfl rfl)) ?_
        refine LW.value (.free rfl) rfl (fun _ r => R.as (R.neq (r.e rfl) (r.e rfl)) rfl) ?_
        refine LW.value (.free rfl) rfl (fun _ r => R.move (r.e rfl)) ?_
        refine LW.value (.yes rfl rfl rfl) rfl (fun _ r => R.fieldAddr (k := 1) (r.e rfl) Try.runUnderlying35 rfl Try.sizeOf3 rfl) ?_
        refine LW.value (.yes rfl rfl rfl) rfl (fun _ r => R.load1 (r.e rfl) Try.isAgg3 (hO100.cell (i := 2) rfl rfl)) ?_
        refine LW.value (.yes rfl rfl rfl) rfl (fun _ r => R.fieldAddr (k := 3) (r.e rfl) Try.runUnderlying39 rfl Try.sizeOf3 rfl) ?_
        refine LW.value (.yes rfl rfl rfl) rfl (fun _ r => R.load1 (r.e rfl) Try.isAgg3 (hO100.cell (i := 7) rfl rfl)) ?_
        refine LW.value (.yes rfl rfl rfl) rfl (fun _ r => R.rem (r.e rfl) (r.e rfl) (by omega)) ?_
        refine LW.value (.yes rfl rfl rfl) rfl (fun _ r => R.as (R.add (r.e rfl) (r.e rfl)) (congrArg (Value.int .i64) (wrap_i64 (by omega) (by omega)))) ?_
        refine LW.value (.yes rfl rfl rfl) rfl (fun _ r => R.rem (r.e rfl) (r.e rfl) (by omega)) ?_
        refine LW.value (.yes rfl rfl rfl) rfl (fun _ r => R.neq (r.e rfl) (r.e rfl)) ?_
        refine LW.value (.free rfl) rfl (fun _ r => R.pick_no (r.e rfl) (r.e rfl)) ?_
        refine LW.nil (EW.then (?_))
        have h101 : n1 % 256 = (n1.tmod 256 + 256).tmod 256 := (byte_tmod n1).symm
        refine CW.no (kb (bN (dT h101))) ?_
        refine CW.skip (EW.then (?_))
        refine CW.seq ?_
        refine CW.region ?_
        refine LW.value (.free rfl) rfl (fun _ r => R.loadn (vs := [.int .i64 a90, .int .i64 m91]) (r.e rfl) Try.isAgg35 Try.sizeOf35 rfl (hO100.cells (i := 0) rfl rfl)) ?_
        refine LW.value (.free rfl) rfl (fun _ r => R.loadn (vs := [.int .i64 a63, .int .i64 m64]) (r.e rfl) Try.isAgg35 Try.sizeOf35 rfl (hO100.cells (i := 3) rfl rfl)) ?_
        refine LW.value (.free rfl) rfl (fun _ r => eq35_eql (r.e rfl) (r.e rfl)) ?_
        refine LW.value (.free rfl) rfl (fun _ r => R.move (r.e rfl)) ?_
        by_cases h102 : a90 = a63 ∧ m91 = m64
        · -- a90 = a63 ∧ m91 = m64
          refine LW.off (.no rfl rfl (kb (dT h102))) rfl ?_
          refine LW.off (.no rfl rfl (kb (dT h102))) rfl ?_
          refine LW.off (.no rfl rfl (kb (dT h102))) rfl ?_
          refine LW.off (.no rfl rfl (kb (dT h102))) rfl ?_
          refine LW.off (.no rfl rfl (kb (dT h102))) rfl ?_
          refine LW.off (.no rfl rfl (kb (dT h102))) rfl ?_
          refine LW.off (.un rfl rfl rfl) rfl ?_
          refine LW.off (.un rfl rfl rfl) rfl ?_
          refine LW.off (.un rfl rfl rfl) rfl ?_
          refine LW.off (.un rfl rfl rfl) rfl ?_
          refine LW.off (.un rfl rfl rfl) rfl ?_
          refine LW.off (.no rfl rfl (kb (dT h102))) rfl ?_
          refine LW.value (.free rfl) rfl (fun _ r => R.pick_yes (r.e (kb (dT h102))) (r.e rfl)) ?_
          refine LW.value (.free rfl) rfl (fun _ r => R.move (r.e rfl)) ?_
          refine LW.op (.yes rfl rfl rfl) (OW.calls rfl (fun _ r => R.call (vs := []) Try.call10 rfl trivial) (x_live _ _ (hO100.frame [] rfl)) ?_)
          rintro _ w103 ⟨rfl, hO104⟩
          replace hO104 := hO104.unframe0
          refine LW.value (.free rfl) rfl (fun _ r => R.pick_yes (r.e rfl) (r.e rfl)) ?_
          refine LW.value (.free rfl) rfl (fun _ r => R.assign (r.e rfl)) ?_
          refine LW.nil (EW.then (?_))
          refine CW.ret ?_
          refine EW.ret1 rfl rfl ?_
          exact ⟨rfl, hO104.pick [8] rfl⟩
        · -- not: a90 = a63 ∧ m91 = m64
          refine LW.value (.yes rfl rfl (kb (dF h102))) rfl (fun _ r => R.fieldAddr (k := 1) (r.e rfl) Try.runUnderlying39 rfl Try.sizeOf3 rfl) ?_
          refine LW.value (.yes rfl rfl (kb (dF h102))) rfl (fun _ r => R.load1 (r.e rfl) Try.isAgg3 (hO100.cell (i := 6) rfl rfl)) ?_
          refine LW.value (.yes rfl rfl (kb (dF h102))) rfl (fun _ r => R.fieldAddr (k := 1) (r.e rfl) Try.runUnderlying39 rfl Try.sizeOf3 rfl) ?_
          refine LW.value (.yes rfl rfl (kb (dF h102))) rfl (fun _ r => R.load1 (r.e rfl) Try.isAgg3 (hO100.cell (i := 7) rfl rfl)) ?_
          refine LW.value (.yes rfl rfl (kb (dF h102))) rfl (fun _ r => R.eql (r.e rfl) (r.e rfl)) ?_
          refine LW.value (.yes rfl rfl (kb (dF h102))) rfl (fun _ r => R.move (r.e rfl)) ?_
          have h105 : h2 = h1 := Classical.byContradiction fun hn => h102 (by have e := wrote_else hM (hr77.trans (by rw [h82])) (h2 := h2) (off2 := o2) (n2 := n2) (fun h => hn h.1); rw [ha93, ha66] at e; injection e with e1 e2; injection e2 with e2 e3; exact ⟨e1, e2⟩)
          refine LW.value (.yes rfl rfl (kb (dT h105))) rfl (fun _ r => R.fieldAddr (k := 2) (r.e rfl) Try.runUnderlying39 rfl Try.sizeOf3 rfl) ?_
          refine LW.value (.yes rfl rfl (kb (dT h105))) rfl (fun _ r => R.load1 (r.e rfl) Try.isAgg3 (hO100.cell (i := 6) rfl rfl)) ?_
          refine LW.value (.yes rfl rfl (kb (dT h105))) rfl (fun _ r => R.fieldAddr (k := 2) (r.e rfl) Try.runUnderlying39 rfl Try.sizeOf3 rfl) ?_
          refine LW.value (.yes rfl rfl (kb (dT h105))) rfl (fun _ r => R.load1 (r.e rfl) Try.isAgg3 (hO100.cell (i := 7) rfl rfl)) ?_
          refine LW.value (.yes rfl rfl (kb (dT h105))) rfl (fun _ r => R.eql (r.e rfl) (r.e rfl)) ?_
          refine LW.value (.yes rfl rfl (kb (dF h102))) rfl (fun _ r => R.pick_yes (r.e (kb (dT h105))) (r.e rfl)) ?_
          refine LW.value (.free rfl) rfl (fun _ r => R.pick_no (r.e (kb (dF h102))) (r.e rfl)) ?_
          refine LW.value (.free rfl) rfl (fun _ r => R.move (r.e rfl)) ?_
          have h106 : o2 = o1 := Classical.byContradiction fun hn => h102 (by have e := wrote_else hM (hr77.trans (by rw [h82])) (h2 := h2) (off2 := o2) (n2 := n2) (fun h => hn h.2); rw [ha93, ha66] at e; injection e with e1 e2; injection e2 with e2 e3; exact ⟨e1, e2⟩)
          refine LW.op (.yes rfl rfl (kb (dT h106))) (OW.calls rfl (fun _ r => R.call (vs := []) Try.call10 rfl trivial) (x_live _ _ (hO100.frame [] rfl)) ?_)
          rintro _ w107 ⟨rfl, hO108⟩
          replace hO108 := hO108.unframe0
          refine LW.value (.free rfl) rfl (fun _ r => R.pick_yes (r.e (kb (dT h106))) (r.e rfl)) ?_
          refine LW.value (.free rfl) rfl (fun _ r => R.assign (r.e rfl)) ?_
          refine LW.nil (EW.then (?_))
          refine CW.ret ?_
          refine EW.ret1 rfl rfl ?_
          exact ⟨rfl, hO108.pick [8] rfl⟩
      · -- not: b74
        refine CW.yes (kb (bN h82)) ?_
        refine CW.seq ?_
        refine CW.region ?_
        refine LW.op (.free rfl) (OW.calls rfl (fun _ r => R.call (vs := []) Try.call10 rfl trivial) (x_live _ _ (hO79.frame [] rfl)) ?_)
        rintro _ w109 ⟨rfl, hO110⟩
        replace hO110 := hO110.unframe0
        refine LW.value (.free rfl) rfl (fun _ r => R.assign (r.e rfl)) ?_
        refine LW.nil (EW.then (?_))
        refine CW.ret (EW.then_ret (?_))
        refine EW.ret1 rfl rfl ?_
        exact ⟨rfl, hO110.pick [6] rfl⟩
  · -- not: (n : Int) ≤ 30
    refine CW.yes (kb (bN (dF h9))) ?_
    refine CW.seq ?_
    refine CW.region ?_
    refine LW.op (.free rfl) (OW.calls rfl (fun _ r => R.call (vs := []) Try.call10 rfl trivial) (x_live _ _ (hO8.frame [] rfl)) ?_)
    rintro _ w111 ⟨rfl, hO112⟩
    replace hO112 := hO112.unframe0
    refine LW.value (.free rfl) rfl (fun _ r => R.assign (r.e rfl)) ?_
    refine LW.nil (EW.then (?_))
    refine CW.ret (EW.then_ret (?_))
    refine EW.ret1 rfl rfl ?_
    exact ⟨rfl, hO112.pick [2] rfl⟩

set_option maxRecDepth 100000 in
set_option maxHeartbeats 1000000 in
theorem x_apart (F : Seg) (a : Option Addr) (n cc : Nat) (sc : List Cl) (hs : Sl F 7 encC a n cc sc) (hcl : Cls sc) (a2 : Option Addr) (n2 cc2 : Nat) (sc2 : List Cl) (hs2 : Sl F 7 encC a2 n2 cc2 sc2) (hcl2 : Cls sc2) (w : World) (hO : Own w [F]) : Calls Try.prog 8 [.slice a n cc, .slice a2 n2 cc2].toArray w (Ret fun v w' => v = .bool true ∧ Own w' [F]) := by
  have hsl := hs.hlen
  have hsl2 := hs2.hlen
  refine enter (n := 88) Try.func8 rfl rfl rfl ?_
  refine CW.seq ?_
  refine CW.region ?_
  refine LW.value (.free rfl) rfl (fun _ r => R.assign (r.e rfl)) ?_
  refine LW.nil (EW.then (?_))
  refine CW.seq ?_
  refine CW.seq ?_
  refine CW.region ?_
  refine LW.value (.free rfl) rfl (fun _ r => R.move (r.e rfl)) ?_
  refine LW.op (.free rfl) (OW.calls rfl (fun _ r => R.call (vs := [.slice a n cc, .int .i64 20]) Try.call9 rfl ⟨r.e rfl, r.e rfl, trivial⟩) (v_small _ _ _ _ _ _ (hO.frame [] rfl)) ?_)
  rintro _ w1 ⟨rfl, hO2⟩
  replace hO2 := hO2.unframe0
  refine LW.value (.free rfl) rfl (fun _ r => R.not (r.e rfl)) ?_
  refine LW.value (.free rfl) rfl (fun _ r => R.move (r.e rfl)) ?_
  by_cases h3 : (n : Int) ≤ 20
  · -- (n : Int) ≤ 20
    refine LW.value (.yes rfl rfl (kb (bN (dT h3)))) rfl (fun _ r => R.move (r.e rfl)) ?_
    refine LW.op (.yes rfl rfl (kb (bN (dT h3)))) (OW.calls rfl (fun _ r => R.call (vs := [.slice a2 n2 cc2, .int .i64 20]) Try.call9 rfl ⟨r.e rfl, r.e rfl, trivial⟩) (v_small _ _ _ _ _ _ (hO2.frame [] rfl)) ?_)
    rintro _ w4 ⟨rfl, hO5⟩
    replace hO5 := hO5.unframe0
    refine LW.value (.yes rfl rfl (kb (bN (dT h3)))) rfl (fun _ r => R.not (r.e rfl)) ?_
    refine LW.value (.free rfl) rfl (fun _ r => R.pick_no (r.e (kb (bN (dT h3)))) (r.e rfl)) ?_
    refine LW.nil (EW.then (?_))
    by_cases h6 : (n2 : Int) ≤ 20
    · -- (n2 : Int) ≤ 20
      refine CW.no (kb (bN (dT h6))) ?_
      refine CW.skip (EW.then (?_))
      refine CW.seq ?_
      refine CW.region ?_
      refine LW.op (.free rfl) (OW.calls rfl (fun _ r => R.call (vs := []) Try.call11 rfl trivial) (l_new _ _ (hO5.frame [] rfl)) ?_)
      rintro _ w7 ⟨pm9, s10, rfl, hM11, hO8⟩
      replace hO8 := hO8.unframe1
      refine LW.value (.free rfl) rfl (fun _ r => R.assign (r.e rfl)) ?_
      refine LW.nil (EW.then (?_))
      refine CW.seq ?_
      refine CW.seq ?_
      refine CW.region ?_
      refine LW.value (.free rfl) rfl (fun _ r => R.move (r.e rfl)) ?_
      refine LW.value (.free rfl) rfl (fun _ r => R.as (R.isNil (r.e rfl) (r.e rfl) Try.underlying25) rfl) ?_
      refine LW.nil (EW.then (?_))
      refine CW.no rfl ?_
      refine CW.skip (EW.then (?_))
      refine CW.seq ?_
      refine CW.region ?_
      refine LW.value (.free rfl) rfl (fun _ r => R.build (v := .agg #[.slice none 0 0, .slice none 0 0]) (vs := []) trivial (by simp [go_sem])) ?_
      refine LW.op (.free rfl) (OW.box (cs := #[.slice none 0 0, .slice none 0 0]) rfl hO8 rfl rfl ?_)
      intro b12 w13 hO14
      have hO15 := hO14.nil
      refine LW.value (.free rfl) rfl (fun _ r => R.assign (r.e rfl)) ?_
      refine LW.nil (EW.then (?_))
      refine CW.seq ?_
      refine CW.seq ?_
      refine CW.region ?_
      refine LW.value (.free rfl) rfl (fun _ r => R.assign (r.e rfl)) ?_
      refine LW.nil (EW.then (?_))
      refine CW.block ?_
      refine CW.sub (env' := [(5, .pointer (some ⟨pm9, 0, none⟩)), (6, .pointer (some ⟨b12, 0, none⟩)), (7, .int .i64 (0 : Int)), (0, .slice a n cc), (1, .slice a2 n2 cc2)]) ⟨rfl, rfl, rfl, rfl, rfl, trivial⟩ ?_
      refine CW.loop (α := Nat × List PT × List Int × Seg × Seg × Array Value) (fun (x_ : Nat × List PT × List Int × Seg × Seg × Array Value) env_ w_ => ∃ i X T s G cs, x_ = (i, X, T, s, G, cs) ∧ env_ = [(5, .pointer (some ⟨pm9, 0, none⟩)), (6, .pointer (some ⟨b12, 0, none⟩)), (7, .int .i64 (i : Int)), (0, .slice a n cc), (1, .slice a2 n2 cc2)] ∧ Own w_ [s, [(b12, .cells cs 31 (0, 0))], G, F] ∧ (i ≤ sc.length) ∧ (MRef s pm9 X T) ∧ (KRef G cs X T) ∧ (T.length ≤ i)) (fun (x_ : Nat × List PT × List Int × Seg × Seg × Array Value) => sc.length - x_.1) (0, [], [], s10, [], #[.slice none 0 0, .slice none 0 0]) ⟨0, [], [], s10, [], #[.slice none 0 0, .slice none 0 0], rfl, rfl, hO15.pick [2, 1, 0, 0] rfl, Nat.zero_le _, hM11, KRef.empty, by simp⟩ ?_
      rintro _ _ w16 ⟨i, X, T, s, G, cs, rfl, rfl, hO17, hi, hM, hK, hl⟩
      refine CW.seq ?_
      refine CW.seq ?_
      refine CW.region ?_
      refine LW.value (.free rfl) rfl (fun _ r => R.move (r.e rfl)) ?_
      refine LW.value (.free rfl) rfl (fun _ r => R.move (r.e rfl)) ?_
      refine LW.value (.free rfl) rfl (fun _ r => R.len_slice (r.e rfl) Try.runUnderlying22) ?_
      refine LW.value (.free rfl) rfl (fun _ r => R.lss (r.e rfl) (r.e rfl)) ?_
      refine LW.nil (EW.then (?_))
      by_cases h18 : (i : Int) < (n : Int)
      · -- (i : Int) < (n : Int)
        refine CW.yes (kb (dT h18)) ?_
        refine CW.skip (EW.then (?_))
        refine CW.seq ?_
        refine CW.block ?_
        refine CW.seq ?_
        refine CW.region ?_
        refine LW.value (.free rfl) rfl (fun _ r => R.move (r.e rfl)) ?_
        refine LW.value (.free rfl) rfl (fun _ r => R.move (r.e rfl)) ?_
        refine LW.value (.free rfl) rfl (fun _ r => R.move (r.e rfl)) ?_
        obtain ⟨x19, hxx19⟩ : ∃ t, (sc)[i]? = some t := ⟨_, List.getElem?_eq_getElem (by omega)⟩
        obtain ⟨blx19, olx19, hax19, hcx19⟩ := hs.at_ _ _ hxx19
        refine LW.value (.free rfl) rfl (fun _ r => R.indexAddr_o (k := olx19 + i * 7) (r.e rfl) hax19 (r.e rfl) Try.runUnderlying22 Try.sizeOf41 (by omega) (by omega) (by simp)) ?_
        refine LW.value (.free rfl) rfl (fun _ r => R.loadn (vs := [.int .i64 x19.d, .int .i64 x19.h, .int .i64 x19.off, .int .i64 x19.n, .int .i64 x19.code, .int .i64 x19.num, .bool x19.own]) (r.e rfl) Try.isAgg41 Try.sizeOf41 rfl (fun j v hj => hO17.pc (i := 3) rfl (hcx19 j v hj))) ?_
        obtain ⟨tc20, tn21, ht22⟩ : ∃ a m, triedP X x19.d x19.h x19.off x19.n x19.code x19.num x19.own = (a, m) := ⟨_, _, rfl⟩
        refine LW.op (.free rfl) (OW.calls rfl (fun _ r => R.call (vs := [.pointer (some ⟨b12, 0, none⟩), .agg #[.int .i64 x19.d, .int .i64 x19.h, .int .i64 x19.off, .int .i64 x19.n, .int .i64 x19.code, .int .i64 x19.num, .bool x19.own]]) Try.call16 rfl ⟨r.e rfl, r.e rfl, trivial⟩) (r_tried hK (by have := hM.le; first | omega | decide) ht22 (hO17.frame [1, 1] rfl)) ?_)
        rintro _ w23 ⟨rfl, hO24⟩
        replace hO24 := hO24.unframe2
        refine LW.op (.free rfl) (OW.alloc (cs := #[.int .i64 0, .int .i64 0]) rfl hO24 Try.zeroValue35 rfl ?_)
        intro b25 w26 hO27
        refine LW.op (.free rfl) (OW.storen (i := 0) (vs := [.int .i64 tc20, .int .i64 tn21]) rfl hO27 rfl rfl rfl rfl Try.sizeOf35 rfl ?_)
        intro w28 hO29
        refine LW.nil (EW.then (?_))
        refine CW.seq ?_
        refine HP.start (I := fun w' => Own w' [[(b25, .cells #[.int .i64 tc20, .int .i64 tn21] 35 (0, 0))], F]) (.take 0 (.take 1 (.take 2 (.take 3 (.take 4 (.take 5 (.take 6 (.one 7 (.done))))))))) Try.mixed (by intro c d v a w h; cases d <;> exact h) hO29 (by kernel_rfl) ?_
        intro w31 hO32
        have hI33 := hO32.pick [0, 3] rfl
        refine HP.take rfl (.free rfl) rfl hI33 (fun _ r _ hI => R.move (r.e rfl)) ?_
        refine HP.take rfl (.free rfl) rfl hI33 (fun _ r _ hI => R.move (r.e rfl)) ?_
        refine HP.take rfl (.free rfl) rfl hI33 (fun _ r _ hI => R.move (r.e rfl)) ?_
        obtain ⟨blx19_34, olx19_34, hax19_34, hcx19_34⟩ := hs.at_ _ _ hxx19
        refine HP.take rfl (.free rfl) rfl hI33 (fun _ r _ hI => R.indexAddr_o (k := olx19_34 + i * 7) (r.e rfl) hax19_34 (r.e rfl) Try.runUnderlying22 Try.sizeOf41 (by omega) (by omega) (by simp)) ?_
        refine HP.take rfl (.free rfl) rfl hI33 (fun _ r _ hI => R.fieldAddr (k := olx19_34 + i * 7) (r.e rfl) Try.runUnderlying41 rfl Try.sizeOf39 rfl) ?_
        refine HP.take rfl (.free rfl) rfl hI33 (fun _ r _ hI => R.loadn (vs := [.int .i64 x19.d, .int .i64 x19.h, .int .i64 x19.off, .int .i64 x19.n]) (r.e rfl) Try.isAgg39 Try.sizeOf39 rfl (fun j v hj => hI.pc (i := 1) rfl (hcx19_34 j v (take_get0 (m := 4) hj)))) ?_
        refine HP.take rfl (.free rfl) rfl hI33 (fun _ r _ hI => R.loadn (vs := [.int .i64 tc20, .int .i64 tn21]) (r.e rfl) Try.isAgg35 Try.sizeOf35 rfl (hI.cells (i := 0) rfl rfl)) ?_
        obtain ⟨b35, X36, T37, hr38⟩ : ∃ b X' T', tryP (X, T) x19.d x19.h x19.off x19.n tc20 tn21 = (b, X', T') := ⟨_, _, _, rfl⟩
        have hlhr38 := try_len hr38
        refine HP.one rfl (.free rfl) (OW.calls rfl (fun _ r => R.call (vs := [.pointer (some ⟨pm9, 0, none⟩), .agg #[.int .i64 x19.d, .int .i64 x19.h, .int .i64 x19.off, .int .i64 x19.n], .agg #[.int .i64 tc20, .int .i64 tn21]]) Try.call17 rfl ⟨r.e rfl, r.e rfl, r.e rfl, trivial⟩) (l_try hM (by first | omega | decide) hr38 (tried_bounds hM ht22 (hcl _ (List.mem_of_getElem? hxx19))) (hO32.frame [3] rfl)) ?_)
        rintro _ w39 ⟨s41, rfl, hM42, hO40⟩
        replace hO40 := hO40.unframe1
        have hI43 := hO40.pick [1, 3] rfl
        refine ⟨hI43, ?_⟩
        refine HP.done (EW.then (?_))
        refine HP.start (I := fun w' => Own w' [[(b25, .cells #[.int .i64 tc20, .int .i64 tn21] 35 (0, 0))], F]) (.take 0 (.take 1 (.take 2 (.take 3 (.take 4 (.take 5 (.take 6 (.one 7 (.done))))))))) Try.mixed (by intro c d v a w h; cases d <;> exact h) hO40 (by kernel_rfl) ?_
        intro w45 hO46
        have hI47 := hO46.pick [1, 3] rfl
        refine HP.take rfl (.free rfl) rfl hI47 (fun _ r _ hI => R.move (r.e rfl)) ?_
        refine HP.take rfl (.free rfl) rfl hI47 (fun _ r _ hI => R.move (r.e rfl)) ?_
        refine HP.take rfl (.free rfl) rfl hI47 (fun _ r _ hI => R.move (r.e rfl)) ?_
        obtain ⟨blx19_48, olx19_48, hax19_48, hcx19_48⟩ := hs.at_ _ _ hxx19
        refine HP.take rfl (.free rfl) rfl hI47 (fun _ r _ hI => R.indexAddr_o (k := olx19_48 + i * 7) (r.e rfl) hax19_48 (r.e rfl) Try.runUnderlying22 Try.sizeOf41 (by omega) (by omega) (by simp)) ?_
        refine HP.take rfl (.free rfl) rfl hI47 (fun _ r _ hI => R.fieldAddr (k := olx19_48 + i * 7) (r.e rfl) Try.runUnderlying41 rfl Try.sizeOf39 rfl) ?_
        refine HP.take rfl (.free rfl) rfl hI47 (fun _ r _ hI => R.loadn (vs := [.int .i64 x19.d, .int .i64 x19.h, .int .i64 x19.off, .int .i64 x19.n]) (r.e rfl) Try.isAgg39 Try.sizeOf39 rfl (fun j v hj => hI.pc (i := 1) rfl (hcx19_48 j v (take_get0 (m := 4) hj)))) ?_
        refine HP.take rfl (.free rfl) rfl hI47 (fun _ r _ hI => R.loadn (vs := [.int .i64 tc20, .int .i64 tn21]) (r.e rfl) Try.isAgg35 Try.sizeOf35 rfl (hI.cells (i := 0) rfl rfl)) ?_
        refine HP.one rfl (.free rfl) (OW.calls rfl (fun _ r => R.call (vs := [.pointer (some ⟨b12, 0, none⟩), .agg #[.int .i64 x19.d, .int .i64 x19.h, .int .i64 x19.off, .int .i64 x19.n], .agg #[.int .i64 tc20, .int .i64 tn21]]) Try.call18 rfl ⟨r.e rfl, r.e rfl, r.e rfl, trivial⟩) (r_try hK (by have := hM.le; first | omega | decide) (by first | omega | decide) hr38 (hO46.frame [2, 2] rfl)) ?_)
        rintro _ w49 ⟨G51, cs52, rfl, hs53, hK54, hO50⟩
        replace hO50 := hO50.unframe2
        have hI55 := hO50.pick [3, 3] rfl
        refine ⟨hI55, ?_⟩
        refine HP.done (EW.inB_normal (EW.then (?_)))
        refine CW.region ?_
        refine LW.value (.free rfl) rfl (fun _ r => R.move (r.e rfl)) ?_
        refine LW.value (.free rfl) rfl (fun _ r => R.as (R.add (r.e rfl) (r.e rfl)) (congrArg (Value.int .i64) (wrap_i64 (by omega) (by omega)))) ?_
        refine LW.value (.free rfl) rfl (fun _ r => R.assign (r.e rfl)) ?_
        refine LW.nil ?_
        exact EW.sub (env' := [(5, .pointer (some ⟨pm9, 0, none⟩)), (6, .pointer (some ⟨b12, 0, none⟩)), (7, .int .i64 ((i + 1) : Int)), (0, .slice a n cc), (1, .slice a2 n2 cc2)]) ⟨rfl, rfl, rfl, rfl, rfl, trivial⟩ (EW.round (i + 1, X36, T37, s41, G51, cs52) ⟨i + 1, X36, T37, s41, G51, cs52, rfl, rfl, hO50.pick [2, 0, 0, 1] rfl, by omega, hM42, hK54, by omega⟩ (by omega))
      · -- not: (i : Int) < (n : Int)
        refine CW.no (kb (dF h18)) ?_
        refine CW.exit (EW.then_exit (EW.then_exit (EW.inB_same (EW.then (?_)))))
        refine CW.seq ?_
        refine CW.region ?_
        refine LW.value (.free rfl) rfl (fun _ r => R.move (r.e rfl)) ?_
        refine LW.op (.free rfl) (OW.calls rfl (fun _ r => R.call (vs := [.pointer (some ⟨pm9, 0, none⟩)]) Try.call12 rfl ⟨r.e rfl, trivial⟩) (l_copy hM (by first | omega | decide) (hO17.frame [0] rfl)) ?_)
        rintro _ w56 ⟨pm58, s59, rfl, hM60, hO57⟩
        replace hO57 := hO57.unframe2
        refine LW.value (.free rfl) rfl (fun _ r => R.assign (r.e rfl)) ?_
        refine LW.nil (EW.then (?_))
        refine CW.seq ?_
        refine CW.region ?_
        refine LW.value (.free rfl) rfl (fun _ r => R.move (r.e rfl)) ?_
        refine LW.op (.free rfl) (OW.calls rfl (fun _ r => R.call (vs := [.pointer (some ⟨pm9, 0, none⟩)]) Try.call12 rfl ⟨r.e rfl, trivial⟩) (l_copy hM (by first | omega | decide) (hO57.frame [0] rfl)) ?_)
        rintro _ w61 ⟨pm63, s64, rfl, hM65, hO62⟩
        replace hO62 := hO62.unframe2
        refine LW.value (.free rfl) rfl (fun _ r => R.assign (r.e rfl)) ?_
        refine LW.nil (EW.then (?_))
        refine CW.seq ?_
        refine CW.seq ?_
        refine CW.region ?_
        refine LW.value (.free rfl) rfl (fun _ r => R.assign (r.e rfl)) ?_
        refine LW.nil (EW.then (?_))
        refine CW.block ?_
        refine CW.sub (env' := [(1, .slice a2 n2 cc2), (5, .pointer (some ⟨pm9, 0, none⟩)), (6, .pointer (some ⟨b12, 0, none⟩)), (9, .pointer (some ⟨pm58, 0, none⟩)), (10, .pointer (some ⟨pm63, 0, none⟩)), (11, .int .i64 (0 : Int))]) ⟨rfl, rfl, rfl, rfl, rfl, rfl, trivial⟩ ?_
        refine CW.loop (α := Nat × List PT × List Int × Seg) (fun (x_ : Nat × List PT × List Int × Seg) env_ w_ => ∃ i X2 T2 s2, x_ = (i, X2, T2, s2) ∧ env_ = [(1, .slice a2 n2 cc2), (5, .pointer (some ⟨pm9, 0, none⟩)), (6, .pointer (some ⟨b12, 0, none⟩)), (9, .pointer (some ⟨pm58, 0, none⟩)), (10, .pointer (some ⟨pm63, 0, none⟩)), (11, .int .i64 (i : Int))] ∧ Own w_ [s, s59, s2, [(b12, .cells cs 31 (0, 0))], G, F] ∧ (i ≤ sc2.length) ∧ (MRef s2 pm63 X2 T2) ∧ (T2.length ≤ i + 100)) (fun (x_ : Nat × List PT × List Int × Seg) => sc2.length - x_.1) (0, X, T, s64) ⟨0, X, T, s64, rfl, rfl, hO62.pick [0, 1, 0, 0, 0, 0] rfl, Nat.zero_le _, hM65, by omega⟩ ?_
        rintro _ _ w66 ⟨i, X2, T2, s2, rfl, rfl, hO67, hi, hM2, hl2⟩
        refine CW.seq ?_
        refine CW.seq ?_
        refine CW.region ?_
        refine LW.value (.free rfl) rfl (fun _ r => R.move (r.e rfl)) ?_
        refine LW.value (.free rfl) rfl (fun _ r => R.move (r.e rfl)) ?_
        refine LW.value (.free rfl) rfl (fun _ r => R.len_slice (r.e rfl) Try.runUnderlying22) ?_
        refine LW.value (.free rfl) rfl (fun _ r => R.lss (r.e rfl) (r.e rfl)) ?_
        refine LW.nil (EW.then (?_))
        by_cases h68 : (i : Int) < (n2 : Int)
        · -- (i : Int) < (n2 : Int)
          refine CW.yes (kb (dT h68)) ?_
          refine CW.skip (EW.then (?_))
          refine CW.seq ?_
          refine CW.block ?_
          refine HP.start (I := fun w' => Own w' [F]) (.take 0 (.take 1 (.take 2 (.take 3 (.take 4 (.take 5 (.take 6 (.take 7 (.take 8 (.take 9 (.take 10 (.one 11 (.one 12 (.done)))))))))))))) Try.mixed (by intro c d v a w h; cases d <;> exact h) hO67 (by kernel_rfl) ?_
          intro w71 hO72
          have hI73 := hO72.pick [5] rfl
          refine HP.take rfl (.free rfl) rfl hI73 (fun _ r _ hI => R.move (r.e rfl)) ?_
          refine HP.take rfl (.free rfl) rfl hI73 (fun _ r _ hI => R.move (r.e rfl)) ?_
          refine HP.take rfl (.free rfl) rfl hI73 (fun _ r _ hI => R.move (r.e rfl)) ?_
          obtain ⟨x74, hxx74⟩ : ∃ t, (sc2)[i]? = some t := ⟨_, List.getElem?_eq_getElem (by omega)⟩
          obtain ⟨blx74, olx74, hax74, hcx74⟩ := hs2.at_ _ _ hxx74
          refine HP.take rfl (.free rfl) rfl hI73 (fun _ r _ hI => R.indexAddr_o (k := olx74 + i * 7) (r.e rfl) hax74 (r.e rfl) Try.runUnderlying22 Try.sizeOf41 (by omega) (by omega) (by simp)) ?_
          refine HP.take rfl (.free rfl) rfl hI73 (fun _ r _ hI => R.fieldAddr (k := olx74 + i * 7) (r.e rfl) Try.runUnderlying41 rfl Try.sizeOf39 rfl) ?_
          refine HP.take rfl (.free rfl) rfl hI73 (fun _ r _ hI => R.loadn (vs := [.int .i64 x74.d, .int .i64 x74.h, .int .i64 x74.off, .int .i64 x74.n]) (r.e rfl) Try.isAgg39 Try.sizeOf39 rfl (fun j v hj => hI.pc (i := 0) rfl (hcx74 j v (take_get0 (m := 4) hj)))) ?_
          refine HP.take rfl (.free rfl) rfl hI73 (fun _ r _ hI => R.move (r.e rfl)) ?_
          refine HP.take rfl (.free rfl) rfl hI73 (fun _ r _ hI => R.move (r.e rfl)) ?_
          refine HP.take rfl (.free rfl) rfl hI73 (fun _ r _ hI => R.move (r.e rfl)) ?_
          obtain ⟨blx74_75, olx74_75, hax74_75, hcx74_75⟩ := hs2.at_ _ _ hxx74
          refine HP.take rfl (.free rfl) rfl hI73 (fun _ r _ hI => R.indexAddr_o (k := olx74_75 + i * 7) (r.e rfl) hax74_75 (r.e rfl) Try.runUnderlying22 Try.sizeOf41 (by omega) (by omega) (by simp)) ?_
          refine HP.take rfl (.free rfl) rfl hI73 (fun _ r _ hI => R.loadn (vs := [.int .i64 x74.d, .int .i64 x74.h, .int .i64 x74.off, .int .i64 x74.n, .int .i64 x74.code, .int .i64 x74.num, .bool x74.own]) (r.e rfl) Try.isAgg41 Try.sizeOf41 rfl (fun j v hj => hI.pc (i := 0) rfl (hcx74_75 j v hj))) ?_
          obtain ⟨tc76, tn77, ht78⟩ : ∃ a m, triedP X x74.d x74.h x74.off x74.n x74.code x74.num x74.own = (a, m) := ⟨_, _, rfl⟩
          refine HP.one rfl (.free rfl) (OW.calls rfl (fun _ r => R.call (vs := [.pointer (some ⟨b12, 0, none⟩), .agg #[.int .i64 x74.d, .int .i64 x74.h, .int .i64 x74.off, .int .i64 x74.n, .int .i64 x74.code, .int .i64 x74.num, .bool x74.own]]) Try.call16 rfl ⟨r.e rfl, r.e rfl, trivial⟩) (r_tried hK (by have := hM.le; first | omega | decide) ht78 (hO72.frame [3, 3] rfl)) ?_)
          rintro _ w79 ⟨rfl, hO80⟩
          replace hO80 := hO80.unframe2
          have hI81 := hO80.pick [5] rfl
          refine ⟨hI81, ?_⟩
          obtain ⟨b82, X83, T84, hr85⟩ : ∃ b X' T', tryP (X2, T2) x74.d x74.h x74.off x74.n tc76 tn77 = (b, X', T') := ⟨_, _, _, rfl⟩
          have hlhr85 := try_len hr85
          refine HP.one rfl (.free rfl) (OW.calls rfl (fun _ r => R.call (vs := [.pointer (some ⟨pm63, 0, none⟩), .agg #[.int .i64 x74.d, .int .i64 x74.h, .int .i64 x74.off, .int .i64 x74.n], .agg #[.int .i64 tc76, .int .i64 tn77]]) Try.call17 rfl ⟨r.e rfl, r.e rfl, r.e rfl, trivial⟩) (l_try hM2 (by first | omega | decide) hr85 (tried_bounds hM ht78 (hcl2 _ (List.mem_of_getElem? hxx74))) (hO80.frame [4] rfl)) ?_)
          rintro _ w86 ⟨s88, rfl, hM89, hO87⟩
          replace hO87 := hO87.unframe1
          have hI90 := hO87.pick [5] rfl
          refine ⟨hI90, ?_⟩
          refine HP.done (EW.inB_normal (EW.then (?_)))
          refine CW.region ?_
          refine LW.value (.free rfl) rfl (fun _ r => R.move (r.e rfl)) ?_
          refine LW.value (.free rfl) rfl (fun _ r => R.as (R.add (r.e rfl) (r.e rfl)) (congrArg (Value.int .i64) (wrap_i64 (by omega) (by omega)))) ?_
          refine LW.value (.free rfl) rfl (fun _ r => R.assign (r.e rfl)) ?_
          refine LW.nil ?_
          exact EW.sub (env' := [(1, .slice a2 n2 cc2), (5, .pointer (some ⟨pm9, 0, none⟩)), (6, .pointer (some ⟨b12, 0, none⟩)), (9, .pointer (some ⟨pm58, 0, none⟩)), (10, .pointer (some ⟨pm63, 0, none⟩)), (11, .int .i64 ((i + 1) : Int))]) ⟨rfl, rfl, rfl, rfl, rfl, rfl, trivial⟩ (EW.round (i + 1, X83, T84, s88) ⟨i + 1, X83, T84, s88, rfl, rfl, hO87.pick [3, 3, 0, 0, 0, 0] rfl, by omega, hM89, by omega⟩ (by omega))
        · -- not: (i : Int) < (n2 : Int)
          refine CW.no (kb (dF h68)) ?_
          refine CW.exit (EW.then_exit (EW.then_exit (EW.inB_same (EW.then (?_)))))
          refine CW.seq ?_
          refine CW.region ?_
          refine LW.value (.free rfl) rfl (fun _ r => R.move (r.e rfl)) ?_
          refine LW.value (.free rfl) rfl (fun _ r => R.move (r.e rfl)) ?_
          refine LW.op (.free rfl) (OW.calls rfl (fun _ r => R.call (vs := [.pointer (some ⟨pm58, 0, none⟩), .pointer (some ⟨pm9, 0, none⟩)]) Try.call26 rfl ⟨r.e rfl, r.e rfl, trivial⟩) (l_same hM60 (by first | omega | decide) hM (by first | omega | decide) (hO67.frame [1, 0] rfl)) ?_)
          rintro _ w91 ⟨rfl, hO92⟩
          replace hO92 := hO92.unframe2
          refine LW.value (.free rfl) rfl (fun _ r => R.move (r.e rfl)) ?_
          have h93 : X = X ∧ T = T := ⟨rfl, rfl⟩
          refine LW.value (.yes rfl rfl (kb (dT h93))) rfl (fun _ r => R.move (r.e rfl)) ?_
          refine LW.value (.yes rfl rfl (kb (dT h93))) rfl (fun _ r => R.move (r.e rfl)) ?_
          refine LW.op (.yes rfl rfl (kb (dT h93))) (OW.calls rfl (fun _ r => R.call (vs := [.pointer (some ⟨pm9, 0, none⟩), .pointer (some ⟨pm58, 0, none⟩)]) Try.call26 rfl ⟨r.e rfl, r.e rfl, trivial⟩) (l_same hM (by first | omega | decide) hM60 (by first | omega | decide) (hO92.frame [1, 0] rfl)) ?_)
          rintro _ w94 ⟨rfl, hO95⟩
          replace hO95 := hO95.unframe2
          refine LW.value (.free rfl) rfl (fun _ r => R.pick_yes (r.e (kb (dT h93))) (r.e rfl)) ?_
          refine LW.value (.free rfl) rfl (fun _ r => R.move (r.e rfl)) ?_
          refine LW.op (.yes rfl rfl (kb (dT h93))) (OW.calls rfl (fun _ r => R.call (vs := []) Try.call10 rfl trivial) (x_live _ _ (hO95.frame [] rfl)) ?_)
          rintro _ w96 ⟨rfl, hO97⟩
          replace hO97 := hO97.unframe0
          refine LW.value (.free rfl) rfl (fun _ r => R.pick_yes (r.e (kb (dT h93))) (r.e rfl)) ?_
          refine LW.value (.free rfl) rfl (fun _ r => R.assign (r.e rfl)) ?_
          refine LW.nil (EW.then (?_))
          refine CW.ret ?_
          refine EW.ret1 rfl rfl ?_
          exact ⟨rfl, hO97.pick [5] rfl⟩
    · -- not: (n2 : Int) ≤ 20
      refine CW.yes (kb (bN (dF h6))) ?_
      refine CW.seq ?_
      refine CW.region ?_
      refine LW.op (.free rfl) (OW.calls rfl (fun _ r => R.call (vs := []) Try.call10 rfl trivial) (x_live _ _ (hO5.frame [] rfl)) ?_)
      rintro _ w98 ⟨rfl, hO99⟩
      replace hO99 := hO99.unframe0
      refine LW.value (.free rfl) rfl (fun _ r => R.assign (r.e rfl)) ?_
      refine LW.nil (EW.then (?_))
      refine CW.ret (EW.then_ret (?_))
      refine EW.ret1 rfl rfl ?_
      exact ⟨rfl, hO99.pick [0] rfl⟩
  · -- not: (n : Int) ≤ 20
    refine LW.off (.no rfl rfl (kb (bN (dF h3)))) rfl ?_
    refine LW.off (.no rfl rfl (kb (bN (dF h3)))) rfl ?_
    refine LW.off (.no rfl rfl (kb (bN (dF h3)))) rfl ?_
    refine LW.value (.free rfl) rfl (fun _ r => R.pick_yes (r.e (kb (bN (dF h3)))) (r.e rfl)) ?_
    refine LW.nil (EW.then (?_))
    refine CW.yes rfl ?_
    refine CW.seq ?_
    refine CW.region ?_
    refine LW.op (.free rfl) (OW.calls rfl (fun _ r => R.call (vs := []) Try.call10 rfl trivial) (x_live _ _ (hO2.frame [] rfl)) ?_)
    rintro _ w100 ⟨rfl, hO101⟩
    replace hO101 := hO101.unframe0
    refine LW.value (.free rfl) rfl (fun _ r => R.assign (r.e rfl)) ?_
    refine LW.nil (EW.then (?_))
    refine CW.ret (EW.then_ret (?_))
    refine EW.ret1 rfl rfl ?_
    exact ⟨rfl, hO101.pick [0] rfl⟩

set_option maxRecDepth 100000 in
set_option maxHeartbeats 1000000 in
theorem x_counts (F : Seg) (n ct : Int) (hn : -9223372036854775808 ≤ n ∧ n ≤ 9223372036854775807) (hct : -9223372036854775808 ≤ ct ∧ ct ≤ 9223372036854775807) (w : World) (hO : Own w [F]) : Calls Try.prog 7 [.int .i64 n, .int .i64 ct].toArray w (Ret fun v w' => v = .bool true ∧ Own w' [F]) := by
  refine enter (n := 102) Try.func7 rfl rfl rfl ?_
  refine CW.seq ?_
  refine CW.region ?_
  refine LW.value (.free rfl) rfl (fun _ r => R.assign (r.e rfl)) ?_
  refine LW.nil (EW.then (?_))
  refine CW.seq ?_
  refine CW.region ?_
  refine LW.op (.free rfl) (OW.calls rfl (fun _ r => R.call (vs := []) Try.call11 rfl trivial) (l_new _ _ (hO.frame [] rfl)) ?_)
  rintro _ w1 ⟨pm3, s4, rfl, hM5, hO2⟩
  replace hO2 := hO2.unframe1
  refine LW.value (.free rfl) rfl (fun _ r => R.assign (r.e rfl)) ?_
  refine LW.nil (EW.then (?_))
  refine CW.seq ?_
  refine CW.region ?_
  refine LW.op (.free rfl) (OW.calls rfl (fun _ r => R.call (vs := [.int .i64 0, .int .i64 0]) Try.call28 rfl ⟨r.e rfl, r.e rfl, trivial⟩) (l_make0 _ _ (hO2.frame [] rfl)) ?_)
  rintro _ w6 ⟨rfl, hO7⟩
  replace hO7 := hO7.unframe0
  refine LW.value (.free rfl) rfl (fun _ r => R.move (r.e rfl)) ?_
  refine LW.value (.free rfl) rfl (fun _ r => R.extract (r.e rfl) rfl) ?_
  refine LW.value (.free rfl) rfl (fun _ r => R.extract (r.e rfl) rfl) ?_
  refine LW.value (.free rfl) rfl (fun _ r => R.assign (r.e rfl)) ?_
  refine LW.value (.free rfl) rfl (fun _ r => R.assign (r.e rfl)) ?_
  refine LW.nil (EW.then (?_))
  refine CW.seq ?_
  refine CW.seq ?_
  refine CW.region ?_
  refine LW.value (.free rfl) rfl (fun _ r => R.move (r.e rfl)) ?_
  refine LW.value (.free rfl) rfl (fun _ r => R.as (R.isNil (r.e rfl) (r.e rfl) Try.underlying25) rfl) ?_
  refine LW.value (.free rfl) rfl (fun _ r => R.move (r.e rfl)) ?_
  refine LW.value (.yes rfl rfl rfl) rfl (fun _ r => R.move (r.e rfl)) ?_
  refine LW.value (.yes rfl rfl rfl) rfl (fun _ r => R.lss (r.e rfl) (r.e rfl)) ?_
  refine LW.value (.free rfl) rfl (fun _ r => R.pick_no (r.e rfl) (r.e rfl)) ?_
  refine LW.value (.free rfl) rfl (fun _ r => R.move (r.e rfl)) ?_
  by_cases h8 : ct < 0
  · -- ct < 0
    refine LW.off (.no rfl rfl (kb (dT h8))) rfl ?_
    refine LW.off (.no rfl rfl (kb (dT h8))) rfl ?_
    refine LW.value (.free rfl) rfl (fun _ r => R.pick_yes (r.e (kb (dT h8))) (r.e rfl)) ?_
    refine LW.value (.free rfl) rfl (fun _ r => R.move (r.e rfl)) ?_
    refine LW.off (.no rfl rfl rfl) rfl ?_
    refine LW.off (.no rfl rfl rfl) rfl ?_
    refine LW.value (.free rfl) rfl (fun _ r => R.pick_yes (r.e rfl) (r.e rfl)) ?_
    refine LW.value (.free rfl) rfl (fun _ r => R.move (r.e rfl)) ?_
    refine LW.off (.no rfl rfl rfl) rfl ?_
    refine LW.off (.no rfl rfl rfl) rfl ?_
    refine LW.value (.free rfl) rfl (fun _ r => R.pick_yes (r.e rfl) (r.e rfl)) ?_
    refine LW.nil (EW.then (?_))
    refine CW.yes rfl ?_
    refine CW.seq ?_
    refine CW.region ?_
    refine LW.value (.free rfl) rfl (fun _ r => R.move (r.e rfl)) ?_
    refine LW.value (.free rfl) rfl (fun _ r => R.as (R.notNil (r.e rfl) (r.e rfl) Try.underlying25) rfl) ?_
    refine LW.value (.free rfl) rfl (fun _ r => R.move (r.e rfl)) ?_
    refine LW.op (.yes rfl rfl rfl) (OW.calls rfl (fun _ r => R.call (vs := []) Try.call10 rfl trivial) (x_live _ _ (hO7.frame [] rfl)) ?_)
    rintro _ w9 ⟨rfl, hO10⟩
    replace hO10 := hO10.unframe0
    refine LW.value (.free rfl) rfl (fun _ r => R.pick_yes (r.e rfl) (r.e rfl)) ?_
    refine LW.value (.free rfl) rfl (fun _ r => R.assign (r.e rfl)) ?_
    refine LW.nil (EW.then (?_))
    refine CW.ret (EW.then_ret (?_))
    refine EW.ret1 rfl rfl ?_
    exact ⟨rfl, hO10.pick [1] rfl⟩
  · -- not: ct < 0
    refine LW.value (.yes rfl rfl (kb (dF h8))) rfl (fun _ r => R.move (r.e rfl)) ?_
    refine LW.value (.yes rfl rfl (kb (dF h8))) rfl (fun _ r => R.gtr (r.e rfl) (r.e rfl)) ?_
    refine LW.value (.free rfl) rfl (fun _ r => R.pick_no (r.e (kb (dF h8))) (r.e rfl)) ?_
    refine LW.value (.free rfl) rfl (fun _ r => R.move (r.e rfl)) ?_
    by_cases h11 : 20 < ct
    · -- 20 < ct
      refine LW.off (.no rfl rfl (kb (dT h11))) rfl ?_
      refine LW.off (.no rfl rfl (kb (dT h11))) rfl ?_
      refine LW.value (.free rfl) rfl (fun _ r => R.pick_yes (r.e (kb (dT h11))) (r.e rfl)) ?_
      refine LW.value (.free rfl) rfl (fun _ r => R.move (r.e rfl)) ?_
      refine LW.off (.no rfl rfl rfl) rfl ?_
      refine LW.off (.no rfl rfl rfl) rfl ?_
      refine LW.value (.free rfl) rfl (fun _ r => R.pick_yes (r.e rfl) (r.e rfl)) ?_
      refine LW.nil (EW.then (?_))
      refine CW.yes rfl ?_
      refine CW.seq ?_
      refine CW.region ?_
      refine LW.value (.free rfl) rfl (fun _ r => R.move (r.e rfl)) ?_
      refine LW.value (.free rfl) rfl (fun _ r => R.as (R.notNil (r.e rfl) (r.e rfl) Try.underlying25) rfl) ?_
      refine LW.value (.free rfl) rfl (fun _ r => R.move (r.e rfl)) ?_
      refine LW.op (.yes rfl rfl rfl) (OW.calls rfl (fun _ r => R.call (vs := []) Try.call10 rfl trivial) (x_live _ _ (hO7.frame [] rfl)) ?_)
      rintro _ w12 ⟨rfl, hO13⟩
      replace hO13 := hO13.unframe0
      refine LW.value (.free rfl) rfl (fun _ r => R.pick_yes (r.e rfl) (r.e rfl)) ?_
      refine LW.value (.free rfl) rfl (fun _ r => R.assign (r.e rfl)) ?_
      refine LW.nil (EW.then (?_))
      refine CW.ret (EW.then_ret (?_))
      refine EW.ret1 rfl rfl ?_
      exact ⟨rfl, hO13.pick [1] rfl⟩
    · -- not: 20 < ct
      refine LW.value (.yes rfl rfl (kb (dF h11))) rfl (fun _ r => R.move (r.e rfl)) ?_
      refine LW.value (.yes rfl rfl (kb (dF h11))) rfl (fun _ r => R.lss (r.e rfl) (r.e rfl)) ?_
      refine LW.value (.free rfl) rfl (fun _ r => R.pick_no (r.e (kb (dF h11))) (r.e rfl)) ?_
      refine LW.value (.free rfl) rfl (fun _ r => R.move (r.e rfl)) ?_
      by_cases h14 : n < 1
      · -- n < 1
        refine LW.off (.no rfl rfl (kb (dT h14))) rfl ?_
        refine LW.off (.no rfl rfl (kb (dT h14))) rfl ?_
        refine LW.value (.free rfl) rfl (fun _ r => R.pick_yes (r.e (kb (dT h14))) (r.e rfl)) ?_
        refine LW.nil (EW.then (?_))
        refine CW.yes rfl ?_
        refine CW.seq ?_
        refine CW.region ?_
        refine LW.value (.free rfl) rfl (fun _ r => R.move (r.e rfl)) ?_
        refine LW.value (.free rfl) rfl (fun _ r => R.as (R.notNil (r.e rfl) (r.e rfl) Try.underlying25) rfl) ?_
        refine LW.value (.free rfl) rfl (fun _ r => R.move (r.e rfl)) ?_
        refine LW.op (.yes rfl rfl rfl) (OW.calls rfl (fun _ r => R.call (vs := []) Try.call10 rfl trivial) (x_live _ _ (hO7.frame [] rfl)) ?_)
        rintro _ w15 ⟨rfl, hO16⟩
        replace hO16 := hO16.unframe0
        refine LW.value (.free rfl) rfl (fun _ r => R.pick_yes (r.e rfl) (r.e rfl)) ?_
        refine LW.value (.free rfl) rfl (fun _ r => R.assign (r.e rfl)) ?_
        refine LW.nil (EW.then (?_))
        refine CW.ret (EW.then_ret (?_))
        refine EW.ret1 rfl rfl ?_
        exact ⟨rfl, hO16.pick [1] rfl⟩
      · -- not: n < 1
        refine LW.value (.yes rfl rfl (kb (dF h14))) rfl (fun _ r => R.move (r.e rfl)) ?_
        refine LW.value (.yes rfl rfl (kb (dF h14))) rfl (fun _ r => R.gtr (r.e rfl) (r.e rfl)) ?_
        refine LW.value (.free rfl) rfl (fun _ r => R.pick_no (r.e (kb (dF h14))) (r.e rfl)) ?_
        refine LW.nil (EW.then (?_))
        by_cases h17 : 256 < n
        · -- 256 < n
          refine CW.yes (kb (dT h17)) ?_
          refine CW.seq ?_
          refine CW.region ?_
          refine LW.value (.free rfl) rfl (fun _ r => R.move (r.e rfl)) ?_
          refine LW.value (.free rfl) rfl (fun _ r => R.as (R.notNil (r.e rfl) (r.e rfl) Try.underlying25) rfl) ?_
          refine LW.value (.free rfl) rfl (fun _ r => R.move (r.e rfl)) ?_
          refine LW.op (.yes rfl rfl rfl) (OW.calls rfl (fun _ r => R.call (vs := []) Try.call10 rfl trivial) (x_live _ _ (hO7.frame [] rfl)) ?_)
          rintro _ w18 ⟨rfl, hO19⟩
          replace hO19 := hO19.unframe0
          refine LW.value (.free rfl) rfl (fun _ r => R.pick_yes (r.e rfl) (r.e rfl)) ?_
          refine LW.value (.free rfl) rfl (fun _ r => R.assign (r.e rfl)) ?_
          refine LW.nil (EW.then (?_))
          refine CW.ret (EW.then_ret (?_))
          refine EW.ret1 rfl rfl ?_
          exact ⟨rfl, hO19.pick [1] rfl⟩
        · -- not: 256 < n
          refine CW.no (kb (dF h17)) ?_
          refine CW.skip (EW.then (?_))
          refine CW.seq ?_
          refine CW.seq ?_
          refine CW.region ?_
          refine LW.value (.free rfl) rfl (fun _ r => R.move (r.e rfl)) ?_
          refine LW.value (.free rfl) rfl (fun _ r => R.move (r.e rfl)) ?_
          refine LW.value (.free rfl) rfl (fun _ r => R.build (v := .agg #[.int .i64 0, .int .i64 0, .int .i64 0, .int .i64 n]) (vs := [(3, .int .i64 n)]) ⟨⟨r.e rfl, rfl⟩, trivial⟩ (by simp [go_sem])) ?_
          refine LW.value (.free rfl) rfl (fun _ r => R.move (r.e rfl)) ?_
          refine LW.value (.free rfl) rfl (fun _ r => R.build (v := .agg #[.int .i64 0, .int .i64 1099511627776]) (vs := [(1, .int .i64 1099511627776)]) ⟨⟨r.e rfl, rfl⟩, trivial⟩ (by simp [go_sem])) ?_
          refine LW.op (.free rfl) (OW.calls rfl (fun _ r => R.call (vs := [.pointer (some ⟨pm3, 0, none⟩), .agg #[.int .i64 0, .int .i64 0, .int .i64 0, .int .i64 n], .agg #[.int .i64 0, .int .i64 1099511627776]]) Try.call17 rfl ⟨r.e rfl, r.e rfl, r.e rfl, trivial⟩) (l_try hM5 (by first | omega | decide) (count_new (by omega) (by omega)) (by decide) (hO7.frame [0] rfl)) ?_)
          rintro _ w20 ⟨s22, rfl, hM23, hO21⟩
          replace hO21 := hO21.unframe1
          refine LW.value (.free rfl) rfl (fun _ r => R.not (r.e rfl)) ?_
          refine LW.nil (EW.then (?_))
          refine CW.no rfl ?_
          refine CW.skip (EW.then (?_))
          refine CW.seq ?_
          refine CW.seq ?_
          refine CW.region ?_
          refine LW.value (.free rfl) rfl (fun _ r => R.assign (r.e rfl)) ?_
          refine LW.nil (EW.then (?_))
          refine CW.block ?_
          refine CW.sub (env' := [(0, .int .i64 n), (1, .int .i64 ct), (5, .pointer (some ⟨pm3, 0, none⟩)), (6, .int .i64 1099511627776), (8, .int .i64 (0 : Int))]) ⟨rfl, rfl, rfl, rfl, rfl, trivial⟩ ?_
          refine CW.loop (α := Nat × Int × Seg) (fun (x_ : Nat × Int × Seg) env_ w_ => ∃ i p s, x_ = (i, p, s) ∧ env_ = [(0, .int .i64 n), (1, .int .i64 ct), (5, .pointer (some ⟨pm3, 0, none⟩)), (6, .int .i64 1099511627776), (8, .int .i64 (i : Int))] ∧ Own w_ [s, F] ∧ ((i : Int) ≤ ct) ∧ (((i : Int) < 7 → p = i) ∧ (7 ≤ (i : Int) → p = 7)) ∧ (MRef s pm3 (cX n p) [1099511627776])) (fun (x_ : Nat × Int × Seg) => 20 - x_.1) (0, 0, s22) ⟨0, 0, s22, rfl, rfl, hO21.pick [0, 0] rfl, by omega, by omega, hM23⟩ ?_
          rintro _ _ w24 ⟨i, p, s, rfl, rfl, hO25, hi, hp, hM⟩
          refine CW.seq ?_
          refine CW.seq ?_
          refine CW.region ?_
          refine LW.value (.free rfl) rfl (fun _ r => R.move (r.e rfl)) ?_
          refine LW.value (.free rfl) rfl (fun _ r => R.move (r.e rfl)) ?_
          refine LW.value (.free rfl) rfl (fun _ r => R.lss (r.e rfl) (r.e rfl)) ?_
          refine LW.nil (EW.then (?_))
          by_cases h26 : (i : Int) < ct
          · -- (i : Int) < ct
            refine CW.yes (kb (dT h26)) ?_
            refine CW.skip (EW.then (?_))
            refine CW.seq ?_
            refine CW.block ?_
            refine CW.seq ?_
            refine CW.region ?_
            refine LW.value (.free rfl) rfl (fun _ r => R.build (v := .agg #[.int .i64 0, .int .i64 0]) (vs := []) trivial (by simp [go_sem])) ?_
            refine LW.op (.free rfl) (OW.alloc (cs := #[.int .i64 0, .int .i64 0]) rfl hO25 Try.zeroValue35 rfl ?_)
            intro b27 w28 hO29
            refine LW.op (.free rfl) (OW.storen (i := 0) (vs := [.int .i64 0, .int .i64 0]) rfl hO29 rfl rfl rfl rfl Try.sizeOf35 rfl ?_)
            intro w30 hO31
            refine LW.nil (EW.then (?_))
            refine CW.seq ?_
            refine CW.seq ?_
            refine CW.region ?_
            refine LW.value (.free rfl) rfl (fun _ r => R.move (r.e rfl)) ?_
            refine LW.value (.free rfl) rfl (fun _ r => R.geq (r.e rfl) (r.e rfl)) ?_
            refine LW.nil (EW.then (?_))
            by_cases h32 : 7 ≤ (i : Int)
            · -- 7 ≤ (i : Int)
              refine CW.yes (kb (dT h32)) ?_
              refine CW.region ?_
              refine LW.value (.free rfl) rfl (fun _ r => R.fieldAddr (k := 0) (r.e rfl) Try.runUnderlying35 rfl Try.sizeOf33 rfl) ?_
              refine LW.op (.free rfl) (OW.store (i := 0) rfl hO31 rfl rfl rfl rfl Try.sizeOf33 rfl ?_)
              intro w33 hO34
              refine LW.nil (EW.then (?_))
              refine CW.seq ?_
              refine CW.region ?_
              refine LW.value (.free rfl) rfl (fun _ r => R.move (r.e rfl)) ?_
              refine LW.value (.free rfl) rfl (fun _ r => R.move (r.e rfl)) ?_
              refine LW.value (.free rfl) rfl (fun _ r => R.build (v := .agg #[.int .i64 4, .int .i64 1099511627776, .int .i64 0, .int .i64 0]) (vs := [(0, .int .i64 4), (1, .int .i64 1099511627776)]) ⟨⟨r.e rfl, rfl⟩, ⟨r.e rfl, rfl⟩, trivial⟩ (by simp [go_sem])) ?_
              refine LW.value (.free rfl) rfl (fun _ r => R.loadn (vs := [.int .i64 7, .int .i64 0]) (r.e rfl) Try.isAgg35 Try.sizeOf35 rfl (hO34.cells (i := 0) rfl rfl)) ?_
              refine LW.op (.free rfl) (OW.calls rfl (fun _ r => R.call (vs := [.pointer (some ⟨pm3, 0, none⟩), .agg #[.int .i64 4, .int .i64 1099511627776, .int .i64 0, .int .i64 0], .agg #[.int .i64 7, .int .i64 0]]) Try.call17 rfl ⟨r.e rfl, r.e rfl, r.e rfl, trivial⟩) (l_try hM (by first | omega | decide) (count_full (by omega)) (by decide) (hO34.frame [1] rfl)) ?_)
              rintro _ w35 ⟨s37, rfl, hM38, hO36⟩
              replace hO36 := hO36.unframe1
              refine LW.value (.free rfl) rfl (fun _ r => R.not (r.e rfl)) ?_
              refine LW.nil (EW.then (?_))
              refine CW.no rfl ?_
              refine CW.skip (EW.inB_normal (EW.then (?_)))
              refine CW.region ?_
              refine LW.value (.free rfl) rfl (fun _ r => R.move (r.e rfl)) ?_
              refine LW.value (.free rfl) rfl (fun _ r => R.as (R.add (r.e rfl) (r.e rfl)) (congrArg (Value.int .i64) (wrap_i64 (by omega) (by omega)))) ?_
              refine LW.value (.free rfl) rfl (fun _ r => R.assign (r.e rfl)) ?_
              refine LW.nil ?_
              exact EW.sub (env' := [(0, .int .i64 n), (1, .int .i64 ct), (5, .pointer (some ⟨pm3, 0, none⟩)), (6, .int .i64 1099511627776), (8, .int .i64 ((i + 1) : Int))]) ⟨rfl, rfl, rfl, rfl, rfl, trivial⟩ (EW.round (i + 1, p, s37) ⟨i + 1, p, s37, rfl, rfl, hO36.pick [0, 1] rfl, by omega, by omega, hM38⟩ (by omega))
            · -- not: 7 ≤ (i : Int)
              refine CW.no (kb (dF h32)) ?_
              refine CW.skip (EW.then (?_))
              refine CW.seq ?_
              refine CW.region ?_
              refine LW.value (.free rfl) rfl (fun _ r => R.move (r.e rfl)) ?_
              refine LW.value (.free rfl) rfl (fun _ r => R.move (r.e rfl)) ?_
              refine LW.value (.free rfl) rfl (fun _ r => R.build (v := .agg #[.int .i64 4, .int .i64 1099511627776, .int .i64 0, .int .i64 0]) (vs := [(0, .int .i64 4), (1, .int .i64 1099511627776)]) ⟨⟨r.e rfl, rfl⟩, ⟨r.e rfl, rfl⟩, trivial⟩ (by simp [go_sem])) ?_
              refine LW.value (.free rfl) rfl (fun _ r => R.loadn (vs := [.int .i64 0, .int .i64 0]) (r.e rfl) Try.isAgg35 Try.sizeOf35 rfl (hO31.cells (i := 0) rfl rfl)) ?_
              refine LW.op (.free rfl) (OW.calls rfl (fun _ r => R.call (vs := [.pointer (some ⟨pm3, 0, none⟩), .agg #[.int .i64 4, .int .i64 1099511627776, .int .i64 0, .int .i64 0], .agg #[.int .i64 0, .int .i64 0]]) Try.call17 rfl ⟨r.e rfl, r.e rfl, r.e rfl, trivial⟩) (l_try hM (by first | omega | decide) (count_pin (by omega) (by omega)) (by decide) (hO31.frame [1] rfl)) ?_)
              rintro _ w39 ⟨s41, rfl, hM42, hO40⟩
              replace hO40 := hO40.unframe1
              refine LW.value (.free rfl) rfl (fun _ r => R.not (r.e rfl)) ?_
              refine LW.nil (EW.then (?_))
              refine CW.no rfl ?_
              refine CW.skip (EW.inB_normal (EW.then (?_)))
              refine CW.region ?_
              refine LW.value (.free rfl) rfl (fun _ r => R.move (r.e rfl)) ?_
              refine LW.value (.free rfl) rfl (fun _ r => R.as (R.add (r.e rfl) (r.e rfl)) (congrArg (Value.int .i64) (wrap_i64 (by omega) (by omega)))) ?_
              refine LW.value (.free rfl) rfl (fun _ r => R.assign (r.e rfl)) ?_
              refine LW.nil ?_
              exact EW.sub (env' := [(0, .int .i64 n), (1, .int .i64 ct), (5, .pointer (some ⟨pm3, 0, none⟩)), (6, .int .i64 1099511627776), (8, .int .i64 ((i + 1) : Int))]) ⟨rfl, rfl, rfl, rfl, rfl, trivial⟩ (EW.round (i + 1, (p + 1), s41) ⟨i + 1, (p + 1), s41, rfl, rfl, hO40.pick [0, 1] rfl, by omega, by omega, hM42⟩ (by omega))
          · -- not: (i : Int) < ct
            refine CW.no (kb (dF h26)) ?_
            refine CW.exit (EW.then_exit (EW.then_exit (EW.inB_same (EW.then (?_)))))
            refine CW.seq ?_
            refine CW.seq ?_
            refine CW.region ?_
            refine LW.value (.free rfl) rfl (fun _ r => R.assign (r.e rfl)) ?_
            refine LW.nil (EW.then (?_))
            refine CW.block ?_
            refine CW.sub (env' := [(1, .int .i64 ct), (5, .pointer (some ⟨pm3, 0, none⟩)), (6, .int .i64 1099511627776), (10, .int .i64 (0 : Int))]) ⟨rfl, rfl, rfl, rfl, trivial⟩ ?_
            refine CW.loop (α := Nat × Int × Seg) (fun (x_ : Nat × Int × Seg) env_ w_ => ∃ i p s, x_ = (i, p, s) ∧ env_ = [(1, .int .i64 ct), (5, .pointer (some ⟨pm3, 0, none⟩)), (6, .int .i64 1099511627776), (10, .int .i64 (i : Int))] ∧ Own w_ [s, F] ∧ ((i : Int) ≤ ct ∧ i ≤ 7) ∧ ((ct < 7 → p = ct - i) ∧ (7 ≤ ct → p = 7 - i)) ∧ (MRef s pm3 (cX n p) [1099511627776])) (fun (x_ : Nat × Int × Seg) => 20 - x_.1) (0, p, s) ⟨0, p, s, rfl, rfl, hO25.pick [0, 0] rfl, by omega, by omega, hM⟩ ?_
            rintro _ _ w43 ⟨i, p, s, rfl, rfl, hO44, hi, hp, hM⟩
            refine CW.seq ?_
            refine CW.seq ?_
            refine CW.region ?_
            refine LW.value (.free rfl) rfl (fun _ r => R.move (r.e rfl)) ?_
            refine LW.value (.free rfl) rfl (fun _ r => R.move (r.e rfl)) ?_
            refine LW.value (.free rfl) rfl (fun _ r => R.min_int (r.e rfl) (r.e rfl)) ?_
            refine LW.value (.free rfl) rfl (fun _ r => R.lss (r.e rfl) (r.e rfl)) ?_
            refine LW.nil (EW.then (?_))
            by_cases h45 : (i : Int) < (min ct 7)
            · -- (i : Int) < (min ct 7)
              refine CW.yes (kb (dT h45)) ?_
              refine CW.skip (EW.then (?_))
              refine CW.seq ?_
              refine CW.block ?_
              refine CW.seq ?_
              refine CW.region ?_
              refine LW.value (.free rfl) rfl (fun _ r => R.move (r.e rfl)) ?_
              refine LW.value (.free rfl) rfl (fun _ r => R.move (r.e rfl)) ?_
              refine LW.value (.free rfl) rfl (fun _ r => R.build (v := .agg #[.int .i64 1, .int .i64 1099511627776, .int .i64 0, .int .i64 0]) (vs := [(0, .int .i64 1), (1, .int .i64 1099511627776)]) ⟨⟨r.e rfl, rfl⟩, ⟨r.e rfl, rfl⟩, trivial⟩ (by simp [go_sem])) ?_
              refine LW.value (.free rfl) rfl (fun _ r => R.build (v := .agg #[.int .i64 6, .int .i64 0]) (vs := [(0, .int .i64 6)]) ⟨⟨r.e rfl, rfl⟩, trivial⟩ (by simp [go_sem])) ?_
              refine LW.op (.free rfl) (OW.calls rfl (fun _ r => R.call (vs := [.pointer (some ⟨pm3, 0, none⟩), .agg #[.int .i64 1, .int .i64 1099511627776, .int .i64 0, .int .i64 0], .agg #[.int .i64 6, .int .i64 0]]) Try.call17 rfl ⟨r.e rfl, r.e rfl, r.e rfl, trivial⟩) (l_try hM (by first | omega | decide) (count_held (by omega)) (by decide) (hO44.frame [0] rfl)) ?_)
              rintro _ w46 ⟨s48, rfl, hM49, hO47⟩
              replace hO47 := hO47.unframe1
              refine LW.value (.free rfl) rfl (fun _ r => R.not (r.e rfl)) ?_
              refine LW.value (.free rfl) rfl (fun _ r => R.move (r.e rfl)) ?_
              refine LW.value (.yes rfl rfl rfl) rfl (fun _ r => R.move (r.e rfl)) ?_
              refine LW.value (.yes rfl rfl rfl) rfl (fun _ r => R.move (r.e rfl)) ?_
              refine LW.value (.yes rfl rfl rfl) rfl (fun _ r => R.build (v := .agg #[.int .i64 5, .int .i64 1099511627776, .int .i64 0, .int .i64 0]) (vs := [(0, .int .i64 5), (1, .int .i64 1099511627776)]) ⟨⟨r.e rfl, rfl⟩, ⟨r.e rfl, rfl⟩, trivial⟩ (by simp [go_sem])) ?_
              refine LW.value (.yes rfl rfl rfl) rfl (fun _ r => R.build (v := .agg #[.int .i64 0, .int .i64 0]) (vs := []) trivial (by simp [go_sem])) ?_
              refine LW.op (.yes rfl rfl rfl) (OW.calls rfl (fun _ r => R.call (vs := [.pointer (some ⟨pm3, 0, none⟩), .agg #[.int .i64 5, .int .i64 1099511627776, .int .i64 0, .int .i64 0], .agg #[.int .i64 0, .int .i64 0]]) Try.call17 rfl ⟨r.e rfl, r.e rfl, r.e rfl, trivial⟩) (l_try hM49 (by first | omega | decide) (count_un (by omega) (by omega)) (by decide) (hO47.frame [0] rfl)) ?_)
              rintro _ w50 ⟨s52, rfl, hM53, hO51⟩
              replace hO51 := hO51.unframe1
              refine LW.value (.yes rfl rfl rfl) rfl (fun _ r => R.not (r.e rfl)) ?_
              refine LW.value (.free rfl) rfl (fun _ r => R.pick_no (r.e rfl) (r.e rfl)) ?_
              refine LW.nil (EW.then (?_))
              refine CW.no rfl ?_
              refine CW.skip (EW.inB_normal (EW.then (?_)))
              refine CW.region ?_
              refine LW.value (.free rfl) rfl (fun _ r => R.move (r.e rfl)) ?_
              refine LW.value (.free rfl) rfl (fun _ r => R.as (R.add (r.e rfl) (r.e rfl)) (congrArg (Value.int .i64) (wrap_i64 (by omega) (by omega)))) ?_
              refine LW.value (.free rfl) rfl (fun _ r => R.assign (r.e rfl)) ?_
              refine LW.nil ?_
              exact EW.sub (env' := [(1, .int .i64 ct), (5, .pointer (some ⟨pm3, 0, none⟩)), (6, .int .i64 1099511627776), (10, .int .i64 ((i + 1) : Int))]) ⟨rfl, rfl, rfl, rfl, trivial⟩ (EW.round (i + 1, (p - 1), s52) ⟨i + 1, (p - 1), s52, rfl, rfl, hO51.pick [0, 0] rfl, by omega, by omega, hM53⟩ (by omega))
            · -- not: (i : Int) < (min ct 7)
              refine CW.no (kb (dF h45)) ?_
              refine CW.exit (EW.then_exit (EW.then_exit (EW.inB_same (EW.then (?_)))))
              refine CW.seq ?_
              refine CW.region ?_
              refine LW.value (.free rfl) rfl (fun _ r => R.move (r.e rfl)) ?_
              refine LW.value (.free rfl) rfl (fun _ r => R.move (r.e rfl)) ?_
              refine LW.value (.free rfl) rfl (fun _ r => R.build (v := .agg #[.int .i64 5, .int .i64 1099511627776, .int .i64 0, .int .i64 0]) (vs := [(0, .int .i64 5), (1, .int .i64 1099511627776)]) ⟨⟨r.e rfl, rfl⟩, ⟨r.e rfl, rfl⟩, trivial⟩ (by simp [go_sem])) ?_
              refine LW.value (.free rfl) rfl (fun _ r => R.build (v := .agg #[.int .i64 8, .int .i64 0]) (vs := [(0, .int .i64 8)]) ⟨⟨r.e rfl, rfl⟩, trivial⟩ (by simp [go_sem])) ?_
              refine LW.op (.free rfl) (OW.calls rfl (fun _ r => R.call (vs := [.pointer (some ⟨pm3, 0, none⟩), .agg #[.int .i64 5, .int .i64 1099511627776, .int .i64 0, .int .i64 0], .agg #[.int .i64 8, .int .i64 0]]) Try.call17 rfl ⟨r.e rfl, r.e rfl, r.e rfl, trivial⟩) (l_try hM (by first | omega | decide) (count_none (by omega)) (by decide) (hO44.frame [0] rfl)) ?_)
              rintro _ w54 ⟨s56, rfl, hM57, hO55⟩
              replace hO55 := hO55.unframe1
              refine LW.value (.free rfl) rfl (fun _ r => R.move (r.e rfl)) ?_
              refine LW.value (.yes rfl rfl rfl) rfl (fun _ r => R.move (r.e rfl)) ?_
              refine LW.value (.yes rfl rfl rfl) rfl (fun _ r => R.move (r.e rfl)) ?_
              refine LW.value (.yes rfl rfl rfl) rfl (fun _ r => R.build (v := .agg #[.int .i64 1, .int .i64 1099511627776, .int .i64 0, .int .i64 0]) (vs := [(0, .int .i64 1), (1, .int .i64 1099511627776)]) ⟨⟨r.e rfl, rfl⟩, ⟨r.e rfl, rfl⟩, trivial⟩ (by simp [go_sem])) ?_
              refine LW.value (.yes rfl rfl rfl) rfl (fun _ r => R.build (v := .agg #[.int .i64 0, .int .i64 0]) (vs := []) trivial (by simp [go_sem])) ?_
              refine LW.op (.yes rfl rfl rfl) (OW.calls rfl (fun _ r => R.call (vs := [.pointer (some ⟨pm3, 0, none⟩), .agg #[.int .i64 1, .int .i64 1099511627776, .int .i64 0, .int .i64 0], .agg #[.int .i64 0, .int .i64 0]]) Try.call17 rfl ⟨r.e rfl, r.e rfl, r.e rfl, trivial⟩) (l_try hM57 (by first | omega | decide) (count_free (by omega)) (by decide) (hO55.frame [0] rfl)) ?_)
              rintro _ w58 ⟨s60, rfl, hM61, hO59⟩
              replace hO59 := hO59.unframe1
              refine LW.value (.free rfl) rfl (fun _ r => R.pick_yes (r.e rfl) (r.e rfl)) ?_
              refine LW.value (.free rfl) rfl (fun _ r => R.move (r.e rfl)) ?_
              refine LW.value (.yes rfl rfl rfl) rfl (fun _ r => R.move (r.e rfl)) ?_
              refine LW.op (.yes rfl rfl rfl) (OW.calls rfl (fun _ r => R.call (vs := [.pointer (some ⟨pm3, 0, none⟩)]) Try.call20 rfl ⟨r.e rfl, trivial⟩) (l_live hM61 (by first | omega | decide) (hO59.frame [0] rfl)) ?_)
              rintro v62 w65 ⟨g63, hg64, hO66⟩
              replace hO66 := hO66.unframe2
              obtain ⟨a67, n68, c69, rfl, hs70⟩ := Grow.shut (enc := encI) (sz := 1) hg64 (fun _ _ => rfl)
              have hnn68 := hs70.hlen; simp at hnn68
              refine LW.value (.yes rfl rfl rfl) rfl (fun _ r => R.len_slice (r.e rfl) Try.runUnderlying29) ?_
              refine LW.value (.yes rfl rfl rfl) rfl (fun _ r => R.eql (r.e rfl) (r.e rfl)) ?_
              refine LW.value (.free rfl) rfl (fun _ r => R.pick_yes (r.e rfl) (r.e rfl)) ?_
              refine LW.value (.free rfl) rfl (fun _ r => R.move (r.e rfl)) ?_
              have h71 : (n68 : Int) = 0 := by omega
              refine LW.op (.yes rfl rfl (kb (dT h71))) (OW.calls rfl (fun _ r => R.call (vs := []) Try.call10 rfl trivial) (x_live _ _ (hO66.frame [] rfl)) ?_)
              rintro _ w72 ⟨rfl, hO73⟩
              replace hO73 := hO73.unframe0
              refine LW.value (.free rfl) rfl (fun _ r => R.pick_yes (r.e (kb (dT h71))) (r.e rfl)) ?_
              refine LW.value (.free rfl) rfl (fun _ r => R.assign (r.e rfl)) ?_
              refine LW.nil (EW.then (?_))
              refine CW.ret ?_
              refine EW.ret1 rfl rfl ?_
              exact ⟨rfl, hO73.pick [2] rfl⟩

end Go.Sd
