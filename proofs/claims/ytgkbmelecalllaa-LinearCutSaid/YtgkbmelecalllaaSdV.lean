/-
  What the functions of the map under test come to, walked.
-/
import Derived.Test.YtgkbmelecalllaaSdW
import Derived.Test.YtgkbmelecalllaaSdP
set_option linter.unusedSimpArgs false
set_option linter.unusedVariables false
set_option linter.unusedSectionVars false
namespace Go.Sd
open Go Go.Proofs
variable [Str]
theorem ent_no {M : List Ob} {h : Int} (hn : ∀ x ∈ M, x.h ≠ h) : ∀ e ∈ M.map Ob.ent, e.1 ≠ h := fun e he => by
  obtain ⟨x, hx, rfl⟩ := List.mem_map.1 he
  exact hn x hx
theorem obs_mid (A : List Ob) (x : Ob) (B : List Ob) : obs (A ++ x :: B) = obs A ++ ([(x.p, .cells #[.slice (some ⟨x.bb, 0, none⟩) x.b.length x.cap, .int .i64 x.pins] 111 (0, 0))] ++ ([(x.bb, .cells (x.b.flatMap encU ++ x.rest).toArray 5 (0, 0))] ++ obs B)) := by
  simp [obs, Ob.st, Ob.by_]
theorem obs_app (A B : List Ob) : obs (A ++ B) = obs A ++ obs B := by simp [obs]
theorem obs_one (x : Ob) : obs [x] = x.st ++ x.by_ := by simp [obs]
theorem byte_at {b : List Int} {rest : List Value} {i : Nat} (h : i < b.length) : ((b.flatMap encU ++ rest).toArray)[i]? = some (.int .u8 (b.getD i 0)) := by
  have h1 := flat_at (enc := encU) (sz := 1) (xs := b) (i := i) (x := b.getD i 0) (j := 0) (v := .int .u8 (b.getD i 0)) (fun _ _ => rfl) (by simp [List.getElem?_eq_getElem h]) rfl
  have h2 := (List.getElem?_eq_some_iff.1 h1).1
  simp only [Nat.mul_one, Nat.add_zero] at h1 h2
  simp only [List.getElem?_toArray]
  rw [List.getElem?_append_left h2]; exact h1
theorem getD_mem {b : List Int} {i : Nat} (h : i < b.length) : b.getD i 0 ∈ b := by
  rw [List.getD_eq_getElem?_getD, List.getElem?_eq_getElem h]
  exact List.getElem_mem h
theorem set_byte {b : List Int} {rest : List Value} {i : Nat} {y : Int} (h : i < b.length) : (b.flatMap encU ++ rest).toArray.setIfInBounds i (.int .u8 y) = ((b.set i y).flatMap encU ++ rest).toArray := by
  rw [List.setIfInBounds_toArray, flat1_set b i y h rest]
theorem elem63 : ElemT Try.prog 109 5 1 1 (.int .u8 0) := ⟨Try.underlying109, ⟨Try.t5, by kernel_rfl, rfl, rfl, rfl⟩, by decide, rfl⟩

theorem shr_lit {m : Int} (x : Int) {k : Int} (h0 : 0 ≤ k) (h1 : k ≤ 64) (hm : (2 : Int) ^ k.toNat = m) : x.fdiv (2 ^ (min k.toNat IntKind.i64.bits)) = x / m := by
  have h2 : min k.toNat IntKind.i64.bits = k.toNat := Nat.min_eq_left (by simp [IntKind.bits]; omega)
  rw [h2, ← hm]
  exact Int.fdiv_eq_ediv_of_nonneg x (Int.le_of_lt (Int.pow_pos (by decide)))
theorem wrap_low {h : Int} (h1 : h < -9223372036854775808 + 1099511627776) (h2 : -9223372036854775808 ≤ h) : IntKind.i64.wrap (h - 1099511627776) = h + 18446742974197923840 := by
  simp only [IntKind.wrap, IntKind.bits, IntKind.signed]
  simp
  omega
theorem hsplit_low {h : Int} (hl : h < 1099511627776) : splitH h = (0, 0, false) := by
  have : isHandle h = false := by simp only [isHandle, decide_eq_false_iff_not]; omega
  simp [splitH, this]
theorem hsplit_bad {h : Int} (hl : 0 ≤ h - 1099511627776) (hm : ¬ (makeH ((h - 1099511627776) % 1048576) ((h - 1099511627776) / 1048576)).2 = 0) : splitH h = (0, 0, false) := by
  have : isHandle h = false := by
    simp only [isHandle, decide_eq_false_iff_not]
    intro hh
    apply hm
    unfold makeH
    rw [if_neg (by omega)]
  simp [splitH, this]
theorem hsplit_good {h : Int} (hl : 0 ≤ h - 1099511627776) (hm : (makeH ((h - 1099511627776) % 1048576) ((h - 1099511627776) / 1048576)).2 = 0) : splitH h = ((h - 1099511627776) % 1048576, (h - 1099511627776) / 1048576, true) := by
  have : isHandle h = true := by
    simp only [isHandle, decide_eq_true_eq]
    unfold makeH at hm
    split at hm
    · simp at hm
    · omega
  simp [splitH, this]
theorem make_far {s g : Int} (hg : 1000 < g) : ¬ (makeH s g).2 = 0 := by
  unfold makeH
  rw [if_pos (by omega)]
  simp
theorem handle_of_split {h : Int} (hs : (splitH h).2.2 = true) : isHandle h = true := by
  unfold splitH at hs
  split at hs
  · assumption
  · simp at hs
theorem handle_not {h : Int} (hs : (splitH h).2.2 = false) : isHandle h = false := by
  unfold splitH at hs
  split at hs
  · simp at hs
  · rename_i h1; simpa using h1
theorem flat_rep (k : Nat) : (List.replicate k (0 : Int)).flatMap encU = List.replicate k (.int .u8 0) := by
  induction k with
  | zero => rfl
  | succ k ih => rw [List.replicate_succ, List.flatMap_cons, ih]; rfl
def allocP (K : List PT × List Int) (n code num : Int) : Bool × (List PT × List Int) :=
  if code = 10 ∨ code = 11 then (decide (num = 0), K)
  else if code = 0 ∧ isHandle num = true ∧ num ∉ K.2 then (true, (putP ⟨num, List.replicate n.toNat 0, 0⟩ K.1, tellT num K.2))
  else (false, K)
theorem MOk.fresh {M : List Ob} {c : Nat} {U : List Ent} {cu : Nat} {X : List PT} {T : List Int} (hM : MOk M c U cu X T) {h : Int} (hn : ∀ e ∈ U, e.1 ≠ h) : ∀ x ∈ M, x.h ≠ h := fun x hx e => by
  have h1 := hM.XT x.q (hM.q_.mem_iff.1 (List.mem_map_of_mem hx))
  obtain ⟨u, hu, e1⟩ := List.mem_map.1 (hM.u_.mem_iff.2 h1)
  exact hn u hu (e1.trans e)

theorem ansP_none {L : List PT} {d h off n : Int} (hf : findP L h = none) (hi : (ansP L d h off n).2.2 = true) : (ansP L d h off n).1 ≠ 0 := by
  unfold ansP at *
  simp only [hf] at *
  by_cases h1 : d = 0
  · simp only [h1, if_true] at hi ⊢
    by_cases h2 : n < 1 ∨ 256 < n
    · simp [h2]
    · simp [h2] at hi
  · by_cases h2 : d < 0 ∨ 5 < d
    · simp [h1, h2]
    · simp [h1, h2]
theorem ansP_some {L : List PT} {d h off n : Int} {x : PT} (hf : findP L h = some x) (hi : (ansP L d h off n).2.2 = true) (h0 : (ansP L d h off n).1 = 0) :
    1 ≤ d ∧ d ≤ 5 ∧ (d = 1 → x.pins ≤ 0) ∧ (d = 2 ∨ d = 3 → 0 ≤ off ∧ off < x.b.length) ∧ (d = 4 → x.pins ≠ 7) ∧ (d = 5 → x.pins ≠ 0) := by
  unfold ansP at *
  simp only [hf] at *
  repeat' split at hi
  all_goals simp_all
  all_goals omega
theorem ansP_fresh {L : List PT} {d h off n : Int} (hi : (ansP L d h off n).2.2 = false) : d = 0 ∧ 1 ≤ n ∧ n ≤ 256 := by
  unfold ansP at hi
  repeat' split at hi
  all_goals simp_all
theorem tryQ_ok {X : List PT} {T : List Int} {d h off n code num : Int} {x : PT} (hi : (ansP X d h off n).2.2 = true) (he : (ansP X d h off n).1 = code ∧ (ansP X d h off n).2.1 = num) (h0 : code = 0) (hf : findP X h = some x) :
    tryP (X, T) d h off n code num = (true, (putP (chgP d off n x) X, T)) := by
  unfold tryP
  simp only [hi, he, h0, and_self, if_true, hf, Bool.true_eq_false, if_false]
theorem tryP_alloc {X : List PT} {T : List Int} {d h off n code num : Int} (hi : (ansP X d h off n).2.2 = false) : tryP (X, T) d h off n code num = allocP (X, T) n code num := by
  unfold tryP allocP
  simp [hi]
theorem eq_of_getD {a b : List Int} (hl : a.length = b.length) (h : ∀ j, j < a.length → a.getD j 0 = b.getD j 0) : a = b := by
  apply List.ext_getElem hl
  intro j h1 h2
  have := h j h1
  rwa [List.getD_eq_getElem?_getD, List.getD_eq_getElem?_getD, List.getElem?_eq_getElem h1, List.getElem?_eq_getElem h2] at this
theorem nodup_snoc {α : Type} {D : List α} {x : α} (h : D.Nodup) (hx : x ∉ D) : (D ++ [x]).Nodup :=
  List.nodup_append.2 ⟨h, by simp, fun a ha b hb e => hx (by rw [List.mem_singleton] at hb; subst hb; exact e ▸ ha)⟩
theorem mem_snoc {α : Type} {D M : List α} {x : α} (h : ∀ y ∈ D, y ∈ M) (hx : x ∈ M) : ∀ y ∈ D ++ [x], y ∈ M := fun y hy => by
  rcases List.mem_append.1 hy with h1 | h1
  · exact h y h1
  · rw [List.mem_singleton] at h1; subst h1; exact hx
theorem left_lt {α : Type} {D M : List α} {x : α} (hn : D.Nodup) (h : ∀ y ∈ D, y ∈ M) (hx : x ∈ M) (hD : x ∉ D) : D.length < M.length := by
  have := List.Nodup.length_le_of_subset (l₁ := x :: D) (l₂ := M) (List.nodup_cons.2 ⟨hD, hn⟩) (fun y hy => by rcases List.mem_cons.1 hy with rfl | hy; exact hx; exact h y hy)
  simp at this
  omega
theorem Grow.made0 {E b : Nat} : Grow E 1 encU (.slice (some ⟨b, 0, none⟩) 0 0) [(b, .cells #[] E (0, 0))] ([] : List Int) := .inr ⟨b, 0, [], rfl, rfl, rfl, Nat.le_refl _⟩
theorem byte_src {b : List Int} {rest : List Value} {j : Nat} {u : Value} (hj : (b.flatMap encU)[j]? = some u) : ((b.flatMap encU ++ rest).toArray)[0 + j]? = some u := by
  have h2 := (List.getElem?_eq_some_iff.1 hj).1
  simp only [List.getElem?_toArray, Nat.zero_add]
  rw [List.getElem?_append_left h2]; exact hj
theorem flat_len (l : List Int) : (l.flatMap encU).length = l.length := by rw [flat_length (sz := 1) (fun _ _ => rfl), Nat.mul_one]
theorem copy_fresh {M : List Ob} {c : Nat} {U : List Ent} {cu : Nat} {X : List PT} {T : List Int} (hM : MOk M c U cu X T) {D N : List Ob} {x : Ob} (hx : x ∈ M) (hDM : ∀ y ∈ D, y ∈ M) (hD : x ∉ D) (hN : N.map Ob.q = D.map Ob.q) : ∀ y ∈ N, y.h ≠ x.h := fun y hy e => by
  have h1 : y.q ∈ D.map Ob.q := hN ▸ List.mem_map_of_mem hy
  obtain ⟨z, hz, e2⟩ := List.mem_map.1 h1
  have h2 : z.h = x.h := (congrArg PT.h e2).trans e
  have := nodup_inj hM.ndM (hDM z hz) hx h2
  exact hD (this ▸ hz)
theorem MOk.copied {M : List Ob} {c : Nat} {U : List Ent} {cu : Nat} {X : List PT} {T : List Int} (hM : MOk M c U cu X T) {D N : List Ob} (hDn : D.Nodup) (hDM : ∀ y ∈ D, y ∈ M) (hall : ∀ x ∈ M, x ∈ D) (hN : N.map Ob.q = D.map Ob.q) (hNo : ∀ x ∈ N, ObOk x) (hNb : ∀ x ∈ N, x.n < N.length) (hNn : (N.map (·.n)).Nodup) : MOk N N.length U cu X T := by
  have hMn : M.Nodup := (List.pairwise_map.1 hM.ndM).imp (fun h e => h (congrArg Ob.h e))
  have hp : D.Perm M := perm_of_sub hDn hMn hDM (List.Nodup.length_le_of_subset hMn hall)
  exact ⟨by rw [hN]; exact (hp.map _).trans hM.q_, hM.u_, hM.X_, hM.T_, hM.XT, hM.hd, hNb, hNn, hM.bU, hM.nU, hNo⟩
def triedP (X : List PT) (d h off n code num : Int) (own : Bool) : Int × Int := if (ansP X d h off n).2.2 = true ∧ own = true then ((ansP X d h off n).1, (ansP X d h off n).2.1) else (code, num)

set_option maxRecDepth 100000 in
set_option maxHeartbeats 400000 in
theorem v_code (e : Int) (F : Seg) (w : World) (hO : Own w [F]) : Calls Try.prog 64 [.int .i64 e].toArray w (Ret fun v w' => v = .tuple #[.agg #[.int .i64 e, .int .i64 0], .bool true] ∧ Own w' [F]) := by
  refine enter (n := 6) Try.func64 rfl rfl rfl ?_
  refine CW.seq ?_
  refine CW.region ?_
  refine LW.op (.free rfl) (OW.alloc (cs := #[.int .i64 0, .int .i64 0]) rfl hO Try.zeroValue39 rfl ?_)
  intro b1 w2 hO3
  refine LW.value (.free rfl) rfl (fun _ r => R.assign (r.e rfl)) ?_
  refine LW.nil (EW.then (?_))
  refine CW.seq ?_
  refine CW.region ?_
  refine LW.value (.free rfl) rfl (fun _ r => R.move (r.e rfl)) ?_
  refine LW.value (.free rfl) rfl (fun _ r => R.build (v := .agg #[.int .i64 e, .int .i64 0]) (vs := [(0, .int .i64 e)]) ⟨⟨r.e rfl, rfl⟩, trivial⟩ (by simp [go_sem])) ?_
  refine LW.op (.free rfl) (OW.storeall (i := 0) (vs := [.int .i64 e, .int .i64 0]) rfl hO3 rfl rfl rfl rfl Try.sizeOf39 rfl ?_)
  intro w4 hO5
  refine LW.value (.free rfl) rfl (fun _ r => R.assign (r.e rfl)) ?_
  refine LW.nil (EW.then (?_))
  refine CW.ret ?_
  refine EW.retct (vs := [.int .i64 e, .int .i64 0]) rfl rfl rfl Try.isAgg39 Try.sizeOf39 (hO5.cells (i := 0) rfl rfl) ?_
  exact ⟨rfl, hO5.pick [1] rfl⟩

set_option maxRecDepth 100000 in
set_option maxHeartbeats 400000 in
theorem v_new (F : Seg) (w : World) (hO : Own w [F]) : Calls Try.prog 22 [].toArray w (Ret fun v w' => ∃ pm bo bt, v = .pointer (some ⟨pm, 0, none⟩) ∧ Own w' [mseg pm bo bt 0 0 [] [], F]) := by
  refine enter (n := 5) Try.func22 rfl rfl rfl ?_
  refine CW.seq ?_
  refine CW.region ?_
  refine LW.value (.free rfl) rfl (fun _ r => R.assign (r.e rfl)) ?_
  refine LW.nil (EW.then (?_))
  refine CW.seq ?_
  refine CW.region ?_
  refine LW.op (.free rfl) (OW.makeMap rfl hO ?_)
  intro b1 w2 hO3
  refine LW.op (.free rfl) (OW.makeMap rfl hO3 ?_)
  intro b4 w5 hO6
  refine LW.value (.free rfl) rfl (fun _ r => R.build (v := .agg #[.map (some b1), .map (some b4)]) (vs := [(0, .map (some b1)), (1, .map (some b4))]) ⟨⟨r.e rfl, rfl⟩, ⟨r.e rfl, rfl⟩, trivial⟩ (by simp [go_sem])) ?_
  refine LW.op (.free rfl) (OW.box (cs := #[.map (some b1), .map (some b4)]) rfl hO6 rfl rfl ?_)
  intro b7 w8 hO9
  refine LW.value (.free rfl) rfl (fun _ r => R.assign (r.e rfl)) ?_
  refine LW.nil (EW.then (?_))
  refine CW.ret ?_
  refine EW.ret1 rfl rfl ?_
  exact ⟨b7, b1, b4, rfl, ((hO9.pick [0, 1, 0, 0] rfl).perm' (List.Perm.of_eq (by simp [mseg, obs_mid, obs_app, obs_one, Ob.st, Ob.by_, Ob.ent, obs])))⟩

set_option maxRecDepth 100000 in
set_option maxHeartbeats 400000 in
theorem v_answer (pm bo bt c cu : Nat) (M : List Ob) (U : List Ent) (X : List PT) (T : List Int) (F : Seg) (d h off n : Int) (w : World) (hM : MOk M c U cu X T) (hT : T.length ≤ 1000000) (hO : Own w [mseg pm bo bt c cu M U, F]) : Calls Try.prog 52 [.pointer (some ⟨pm, 0, none⟩), .agg #[.int .i64 d, .int .i64 h, .int .i64 off, .int .i64 n]].toArray w (Ret fun v w' => v = .tuple #[.agg #[.int .i64 (ansP X d h off n).1, .int .i64 (ansP X d h off n).2.1], .bool (ansP X d h off n).2.2] ∧ Own w' [mseg pm bo bt c cu M U, F]) := by
  have hO1 : Own _ [mseg pm bo bt c cu M U, F] := hO
  have hO2 : Own _ [[(pm, .cells #[.map (some bo), .map (some bt)] 95 (0, 0))], [(bo, mobj (M.map Ob.ent) c)], [(bt, mobj U cu)], obs M, F] := hO1.perm' (List.Perm.of_eq (by simp only [mseg, List.flatten_cons, List.append_assoc, List.cons_append, List.nil_append, List.flatten_nil, List.append_nil]))
  refine enter (n := 151) Try.func52 rfl rfl rfl ?_
  refine CW.seq ?_
  refine CW.region ?_
  refine LW.op (.free rfl) (OW.box (cs := #[.int .i64 d, .int .i64 h, .int .i64 off, .int .i64 n]) rfl hO2 rfl rfl ?_)
  intro b3 w4 hO5
  refine LW.op (.free rfl) (OW.alloc (cs := #[.int .i64 0, .int .i64 0]) rfl hO5 Try.zeroValue39 rfl ?_)
  intro b6 w7 hO8
  refine LW.value (.free rfl) rfl (fun _ r => R.assign (r.e rfl)) ?_
  refine LW.nil (EW.then (?_))
  refine CW.seq ?_
  refine CW.block ?_
  refine CW.seq ?_
  refine CW.region ?_
  refine LW.value (.free rfl) rfl (fun _ r => R.move (r.e rfl)) ?_
  refine LW.value (.free rfl) rfl (fun _ r => R.as (R.isNil (r.e rfl) (r.e rfl) Try.underlying61) rfl) ?_
  refine LW.value (.free rfl) rfl (fun _ r => R.move (r.e rfl)) ?_
  refine LW.value (.yes rfl rfl rfl) rfl (fun _ r => R.fieldAddr (k := 0) (r.e rfl) Try.runUnderlying36 rfl Try.sizeOf3 rfl) ?_
  refine LW.value (.yes rfl rfl rfl) rfl (fun _ r => R.load1 (r.e rfl) Try.isAgg3 (hO8.cell (i := 1) rfl rfl)) ?_
  refine LW.value (.yes rfl rfl rfl) rfl (fun _ r => R.lss (r.e rfl) (r.e rfl)) ?_
  refine LW.value (.free rfl) rfl (fun _ r => R.pick_no (r.e rfl) (r.e rfl)) ?_
  refine LW.value (.free rfl) rfl (fun _ r => R.move (r.e rfl)) ?_
  by_cases h9 : d < 0
  · -- d < 0
    refine LW.off (.no rfl rfl (kb (dT h9))) rfl ?_
    refine LW.off (.no rfl rfl (kb (dT h9))) rfl ?_
    refine LW.off (.no rfl rfl (kb (dT h9))) rfl ?_
    refine LW.value (.free rfl) rfl (fun _ r => R.pick_yes (r.e (kb (dT h9))) (r.e rfl)) ?_
    refine LW.value (.free rfl) rfl (fun _ r => R.assign (r.e rfl)) ?_
    refine LW.nil (EW.then (?_))
    refine CW.yes rfl ?_
    refine CW.seq ?_
    refine CW.region ?_
    refine LW.op (.free rfl) (OW.calls rfl (fun _ r => R.call (vs := [.int .i64 1]) Try.call64 rfl ⟨r.e rfl, trivial⟩) (v_code 1 _ _ (hO8.frame [] rfl)) ?_)
    rintro _ w10 ⟨rfl, hO11⟩
    replace hO11 := hO11.unframe0
    refine LW.value (.free rfl) rfl (fun _ r => R.extract (r.e rfl) rfl) ?_
    refine LW.value (.free rfl) rfl (fun _ r => R.extract (r.e rfl) rfl) ?_
    refine LW.op (.free rfl) (OW.storeall (i := 0) (vs := [.int .i64 1, .int .i64 0]) rfl hO11 rfl rfl rfl rfl Try.sizeOf39 rfl ?_)
    intro w12 hO13
    refine LW.value (.free rfl) rfl (fun _ r => R.assign (r.e rfl)) ?_
    refine LW.nil (EW.then (?_))
    refine CW.ret (EW.inB_ret (EW.then_ret (?_)))
    refine EW.retct (vs := [.int .i64 1, .int .i64 0]) rfl rfl rfl Try.isAgg39 Try.sizeOf39 (hO13.cells (i := 0) rfl rfl) ?_
    exact ⟨by simp [ansP, h9, show ¬ (d = 0) from by omega, show (d < 0) from by omega, show ¬ (5 < d) from by omega, show ¬ (d = 1) from by omega, show ¬ (d = 2) from by omega, show ¬ (d = 3) from by omega, show ¬ (d = 4) from by omega, show ¬ (d = 5) from by omega, Ob.q], ((hO13.pick [2, 2, 2, 2, 2] rfl).perm' (List.Perm.of_eq (by simp [mseg, obs_mid, obs_app, obs_one, Ob.st, Ob.by_, Ob.ent, obs])))⟩
  · -- not: d < 0
    refine LW.value (.yes rfl rfl (kb (dF h9))) rfl (fun _ r => R.fieldAddr (k := 0) (r.e rfl) Try.runUnderlying36 rfl Try.sizeOf3 rfl) ?_
    refine LW.value (.yes rfl rfl (kb (dF h9))) rfl (fun _ r => R.load1 (r.e rfl) Try.isAgg3 (hO8.cell (i := 1) rfl rfl)) ?_
    refine LW.value (.yes rfl rfl (kb (dF h9))) rfl (fun _ r => R.gtr (r.e rfl) (r.e rfl)) ?_
    refine LW.value (.free rfl) rfl (fun _ r => R.pick_no (r.e (kb (dF h9))) (r.e rfl)) ?_
    refine LW.value (.free rfl) rfl (fun _ r => R.assign (r.e rfl)) ?_
    refine LW.nil (EW.then (?_))
    by_cases h14 : 5 < d
    · -- 5 < d
      refine CW.yes (kb (dT h14)) ?_
      refine CW.seq ?_
      refine CW.region ?_
      refine LW.op (.free rfl) (OW.calls rfl (fun _ r => R.call (vs := [.int .i64 1]) Try.call64 rfl ⟨r.e rfl, trivial⟩) (v_code 1 _ _ (hO8.frame [] rfl)) ?_)
      rintro _ w15 ⟨rfl, hO16⟩
      replace hO16 := hO16.unframe0
      refine LW.value (.free rfl) rfl (fun _ r => R.extract (r.e rfl) rfl) ?_
      refine LW.value (.free rfl) rfl (fun _ r => R.extract (r.e rfl) rfl) ?_
      refine LW.op (.free rfl) (OW.storeall (i := 0) (vs := [.int .i64 1, .int .i64 0]) rfl hO16 rfl rfl rfl rfl Try.sizeOf39 rfl ?_)
      intro w17 hO18
      refine LW.value (.free rfl) rfl (fun _ r => R.assign (r.e rfl)) ?_
      refine LW.nil (EW.then (?_))
      refine CW.ret (EW.inB_ret (EW.then_ret (?_)))
      refine EW.retct (vs := [.int .i64 1, .int .i64 0]) rfl rfl rfl Try.isAgg39 Try.sizeOf39 (hO18.cells (i := 0) rfl rfl) ?_
      exact ⟨by simp [ansP, h9, h14, show ¬ (d = 0) from by omega, show ¬ (d < 0) from by omega, show (5 < d) from by omega, show ¬ (d = 1) from by omega, show ¬ (d = 2) from by omega, show ¬ (d = 3) from by omega, show ¬ (d = 4) from by omega, show ¬ (d = 5) from by omega, Ob.q], ((hO18.pick [2, 2, 2, 2, 2] rfl).perm' (List.Perm.of_eq (by simp [mseg, obs_mid, obs_app, obs_one, Ob.st, Ob.by_, Ob.ent, obs])))⟩
    · -- not: 5 < d
      refine CW.no (kb (dF h14)) ?_
      refine CW.seq ?_
      refine CW.region ?_
      refine LW.value (.free rfl) rfl (fun _ r => R.fieldAddr (k := 0) (r.e rfl) Try.runUnderlying36 rfl Try.sizeOf3 rfl) ?_
      refine LW.value (.free rfl) rfl (fun _ r => R.load1 (r.e rfl) Try.isAgg3 (hO8.cell (i := 1) rfl rfl)) ?_
      refine LW.value (.free rfl) rfl (fun _ r => R.eql (r.e rfl) (r.e rfl)) ?_
      refine LW.value (.free rfl) rfl (fun _ r => R.move (r.e rfl)) ?_
      by_cases h19 : d = 0
      · -- d = 0
        refine LW.value (.yes rfl rfl (kb (dT h19))) rfl (fun _ r => R.fieldAddr (k := 3) (r.e rfl) Try.runUnderlying36 rfl Try.sizeOf3 rfl) ?_
        refine LW.value (.yes rfl rfl (kb (dT h19))) rfl (fun _ r => R.load1 (r.e rfl) Try.isAgg3 (hO8.cell (i := 1) rfl rfl)) ?_
        refine LW.value (.yes rfl rfl (kb (dT h19))) rfl (fun _ r => R.geq (r.e rfl) (r.e rfl)) ?_
        refine LW.value (.free rfl) rfl (fun _ r => R.pick_yes (r.e (kb (dT h19))) (r.e rfl)) ?_
        refine LW.value (.free rfl) rfl (fun _ r => R.move (r.e rfl)) ?_
        by_cases h20 : 1 ≤ n
        · -- 1 ≤ n
          refine LW.value (.yes rfl rfl (kb (dT h20))) rfl (fun _ r => R.fieldAddr (k := 3) (r.e rfl) Try.runUnderlying36 rfl Try.sizeOf3 rfl) ?_
          refine LW.value (.yes rfl rfl (kb (dT h20))) rfl (fun _ r => R.load1 (r.e rfl) Try.isAgg3 (hO8.cell (i := 1) rfl rfl)) ?_
          refine LW.value (.yes rfl rfl (kb (dT h20))) rfl (fun _ r => R.leq (r.e rfl) (r.e rfl)) ?_
          refine LW.value (.free rfl) rfl (fun _ r => R.pick_yes (r.e (kb (dT h20))) (r.e rfl)) ?_
          refine LW.value (.free rfl) rfl (fun _ r => R.assign (r.e rfl)) ?_
          refine LW.nil (EW.then (?_))
          by_cases h21 : n ≤ 256
          · -- n ≤ 256
            refine CW.yes (kb (dT h21)) ?_
            refine CW.seq ?_
            refine CW.region ?_
            refine LW.value (.free rfl) rfl (fun _ r => R.build (v := .agg #[.int .i64 0, .int .i64 0]) (vs := []) trivial (by simp [go_sem])) ?_
            refine LW.op (.free rfl) (OW.storeall (i := 0) (vs := [.int .i64 0, .int .i64 0]) rfl hO8 rfl rfl rfl rfl Try.sizeOf39 rfl ?_)
            intro w22 hO23
            refine LW.value (.free rfl) rfl (fun _ r => R.assign (r.e rfl)) ?_
            refine LW.nil (EW.then (?_))
            refine CW.ret (EW.inB_ret (EW.then_ret (?_)))
            refine EW.retct (vs := [.int .i64 0, .int .i64 0]) rfl rfl rfl Try.isAgg39 Try.sizeOf39 (hO23.cells (i := 0) rfl rfl) ?_
            exact ⟨by simp [ansP, h9, h14, h19, h20, h21, show (d = 0) from by omega, show ¬ (d < 0) from by omega, show ¬ (5 < d) from by omega, show ¬ (d = 1) from by omega, show ¬ (d = 2) from by omega, show ¬ (d = 3) from by omega, show ¬ (d = 4) from by omega, show ¬ (d = 5) from by omega, show ¬ (n < 1) from by omega, show ¬ (256 < n) from by omega, Ob.q], ((hO23.pick [2, 2, 2, 2, 2] rfl).perm' (List.Perm.of_eq (by simp [mseg, obs_mid, obs_app, obs_one, Ob.st, Ob.by_, Ob.ent, obs])))⟩
          · -- not: n ≤ 256
            refine CW.no (kb (dF h21)) ?_
            refine CW.seq ?_
            refine CW.region ?_
            refine LW.value (.free rfl) rfl (fun _ r => R.fieldAddr (k := 0) (r.e rfl) Try.runUnderlying36 rfl Try.sizeOf3 rfl) ?_
            refine LW.value (.free rfl) rfl (fun _ r => R.load1 (r.e rfl) Try.isAgg3 (hO8.cell (i := 1) rfl rfl)) ?_
            refine LW.value (.free rfl) rfl (fun _ r => R.eql (r.e rfl) (r.e rfl)) ?_
            refine LW.value (.free rfl) rfl (fun _ r => R.assign (r.e rfl)) ?_
            refine LW.nil (EW.then (?_))
            refine CW.yes (kb (dT h19)) ?_
            refine CW.seq ?_
            refine CW.region ?_
            refine LW.op (.free rfl) (OW.calls rfl (fun _ r => R.call (vs := [.int .i64 9]) Try.call64 rfl ⟨r.e rfl, trivial⟩) (v_code 9 _ _ (hO8.frame [] rfl)) ?_)
            rintro _ w24 ⟨rfl, hO25⟩
            replace hO25 := hO25.unframe0
            refine LW.value (.free rfl) rfl (fun _ r => R.extract (r.e rfl) rfl) ?_
            refine LW.value (.free rfl) rfl (fun _ r => R.extract (r.e rfl) rfl) ?_
            refine LW.op (.free rfl) (OW.storeall (i := 0) (vs := [.int .i64 9, .int .i64 0]) rfl hO25 rfl rfl rfl rfl Try.sizeOf39 rfl ?_)
            intro w26 hO27
            refine LW.value (.free rfl) rfl (fun _ r => R.assign (r.e rfl)) ?_
            refine LW.nil (EW.then (?_))
            refine CW.ret (EW.inB_ret (EW.then_ret (?_)))
            refine EW.retct (vs := [.int .i64 9, .int .i64 0]) rfl rfl rfl Try.isAgg39 Try.sizeOf39 (hO27.cells (i := 0) rfl rfl) ?_
            exact ⟨by simp [ansP, h9, h14, h19, h20, h21, show (d = 0) from by omega, show ¬ (d < 0) from by omega, show ¬ (5 < d) from by omega, show ¬ (d = 1) from by omega, show ¬ (d = 2) from by omega, show ¬ (d = 3) from by omega, show ¬ (d = 4) from by omega, show ¬ (d = 5) from by omega, show ¬ (n < 1) from by omega, show (256 < n) from by omega, Ob.q], ((hO27.pick [2, 2, 2, 2, 2] rfl).perm' (List.Perm.of_eq (by simp [mseg, obs_mid, obs_app, obs_one, Ob.st, Ob.by_, Ob.ent, obs])))⟩
        · -- not: 1 ≤ n
          refine LW.off (.no rfl rfl (kb (dF h20))) rfl ?_
          refine LW.off (.no rfl rfl (kb (dF h20))) rfl ?_
          refine LW.off (.no rfl rfl (kb (dF h20))) rfl ?_
          refine LW.value (.free rfl) rfl (fun _ r => R.pick_no (r.e (kb (dF h20))) (r.e rfl)) ?_
          refine LW.value (.free rfl) rfl (fun _ r => R.assign (r.e rfl)) ?_
          refine LW.nil (EW.then (?_))
          refine CW.no rfl ?_
          refine CW.seq ?_
          refine CW.region ?_
          refine LW.value (.free rfl) rfl (fun _ r => R.fieldAddr (k := 0) (r.e rfl) Try.runUnderlying36 rfl Try.sizeOf3 rfl) ?_
          refine LW.value (.free rfl) rfl (fun _ r => R.load1 (r.e rfl) Try.isAgg3 (hO8.cell (i := 1) rfl rfl)) ?_
          refine LW.value (.free rfl) rfl (fun _ r => R.eql (r.e rfl) (r.e rfl)) ?_
          refine LW.value (.free rfl) rfl (fun _ r => R.assign (r.e rfl)) ?_
          refine LW.nil (EW.then (?_))
          refine CW.yes (kb (dT h19)) ?_
          refine CW.seq ?_
          refine CW.region ?_
          refine LW.op (.free rfl) (OW.calls rfl (fun _ r => R.call (vs := [.int .i64 9]) Try.call64 rfl ⟨r.e rfl, trivial⟩) (v_code 9 _ _ (hO8.frame [] rfl)) ?_)
          rintro _ w28 ⟨rfl, hO29⟩
          replace hO29 := hO29.unframe0
          refine LW.value (.free rfl) rfl (fun _ r => R.extract (r.e rfl) rfl) ?_
          refine LW.value (.free rfl) rfl (fun _ r => R.extract (r.e rfl) rfl) ?_
          refine LW.op (.free rfl) (OW.storeall (i := 0) (vs := [.int .i64 9, .int .i64 0]) rfl hO29 rfl rfl rfl rfl Try.sizeOf39 rfl ?_)
          intro w30 hO31
          refine LW.value (.free rfl) rfl (fun _ r => R.assign (r.e rfl)) ?_
          refine LW.nil (EW.then (?_))
          refine CW.ret (EW.inB_ret (EW.then_ret (?_)))
          refine EW.retct (vs := [.int .i64 9, .int .i64 0]) rfl rfl rfl Try.isAgg39 Try.sizeOf39 (hO31.cells (i := 0) rfl rfl) ?_
          exact ⟨by simp [ansP, h9, h14, h19, h20, show (d = 0) from by omega, show ¬ (d < 0) from by omega, show ¬ (5 < d) from by omega, show ¬ (d = 1) from by omega, show ¬ (d = 2) from by omega, show ¬ (d = 3) from by omega, show ¬ (d = 4) from by omega, show ¬ (d = 5) from by omega, show (n < 1) from by omega, show ¬ (256 < n) from by omega, Ob.q], ((hO31.pick [2, 2, 2, 2, 2] rfl).perm' (List.Perm.of_eq (by simp [mseg, obs_mid, obs_app, obs_one, Ob.st, Ob.by_, Ob.ent, obs])))⟩
      · -- not: d = 0
        refine LW.off (.no rfl rfl (kb (dF h19))) rfl ?_
        refine LW.off (.no rfl rfl (kb (dF h19))) rfl ?_
        refine LW.off (.no rfl rfl (kb (dF h19))) rfl ?_
        refine LW.value (.free rfl) rfl (fun _ r => R.pick_no (r.e (kb (dF h19))) (r.e rfl)) ?_
        refine LW.value (.free rfl) rfl (fun _ r => R.move (r.e rfl)) ?_
        refine LW.off (.no rfl rfl rfl) rfl ?_
        refine LW.off (.no rfl rfl rfl) rfl ?_
        refine LW.off (.no rfl rfl rfl) rfl ?_
        refine LW.value (.free rfl) rfl (fun _ r => R.pick_no (r.e rfl) (r.e rfl)) ?_
        refine LW.value (.free rfl) rfl (fun _ r => R.assign (r.e rfl)) ?_
        refine LW.nil (EW.then (?_))
        refine CW.no rfl ?_
        refine CW.seq ?_
        refine CW.region ?_
        refine LW.value (.free rfl) rfl (fun _ r => R.fieldAddr (k := 0) (r.e rfl) Try.runUnderlying36 rfl Try.sizeOf3 rfl) ?_
        refine LW.value (.free rfl) rfl (fun _ r => R.load1 (r.e rfl) Try.isAgg3 (hO8.cell (i := 1) rfl rfl)) ?_
        refine LW.value (.free rfl) rfl (fun _ r => R.eql (r.e rfl) (r.e rfl)) ?_
        refine LW.value (.free rfl) rfl (fun _ r => R.assign (r.e rfl)) ?_
        refine LW.nil (EW.then (?_))
        refine CW.no (kb (dF h19)) ?_
        refine CW.skip (EW.inB_normal (EW.then (?_)))
        refine CW.seq ?_
        refine HP.start (I := fun w' => Own w' [[(b6, .cells #[.int .i64 0, .int .i64 0] 39 (0, 0))], [(b3, .cells #[.int .i64 d, .int .i64 h, .int .i64 off, .int .i64 n] 36 (0, 0))], [(pm, .cells #[.map (some bo), .map (some bt)] 95 (0, 0))], [(bo, mobj (M.map Ob.ent) c)], [(bt, mobj U cu)], obs M, F]) (.take 0 (.take 1 (.take 2 (.take 3 (.take 4 (.take 5 (.take 6 (.take 7 (.take 8 (.take 9 (.take 10 (.take 11 (.done))))))))))))) Try.mixed (by intro c d v a w h; cases d <;> exact h) hO8 (by kernel_rfl) ?_
        intro w32 hO33
        have hI34 := hO33.pick [0, 0, 0, 0, 0, 0, 0] rfl
        refine HP.take rfl (.free rfl) rfl hI34 (fun _ r _ hI => R.move (r.e rfl)) ?_
        refine HP.take rfl (.free rfl) rfl hI34 (fun _ r _ hI => R.nilCheck (r.e rfl)) ?_
        refine HP.take rfl (.free rfl) rfl hI34 (fun _ r _ hI => R.fieldAddr (k := 0) (r.e rfl) Try.runUnderlying95 rfl Try.sizeOf92 rfl) ?_
        refine HP.take rfl (.free rfl) rfl hI34 (fun _ r _ hI => R.load1 (r.e rfl) Try.isAgg92 (hI.cell (i := 2) rfl rfl)) ?_
        refine HP.take rfl (.free rfl) rfl hI34 (fun _ r _ hI => R.fieldAddr (k := 1) (r.e rfl) Try.runUnderlying36 rfl Try.sizeOf3 rfl) ?_
        refine HP.take rfl (.free rfl) rfl hI34 (fun _ r _ hI => R.load1 (r.e rfl) Try.isAgg3 (hI.cell (i := 1) rfl rfl)) ?_
        rcases find_ob M h with hn35 | ⟨A36, x37, B38, hMx37, hx39, hA40⟩
        · -- no such object
          refine HP.take rfl (.free rfl) rfl hI34 (fun _ r _ hI => R.lookup_no2 (r.e rfl) (r.e rfl) Try.underlying92 Try.underlying3 Try.zeroValue108 (hI.get (i := 3) rfl) (ent_no hn35)) ?_
          refine HP.take rfl (.free rfl) rfl hI34 (fun _ r _ hI => R.move (r.e rfl)) ?_
          refine HP.take rfl (.free rfl) rfl hI34 (fun _ r _ hI => R.extract (r.e rfl) rfl) ?_
          refine HP.take rfl (.free rfl) rfl hI34 (fun _ r _ hI => R.extract (r.e rfl) rfl) ?_
          refine HP.take rfl (.free rfl) rfl hI34 (fun _ r _ hI => R.assign (r.e rfl)) ?_
          refine HP.take rfl (.free rfl) rfl hI34 (fun _ r _ hI => R.assign (r.e rfl)) ?_
          refine HP.done (EW.then (?_))
          refine CW.seq ?_
          refine HP.start (I := fun w' => Own w' [[(b6, .cells #[.int .i64 0, .int .i64 0] 39 (0, 0))], [(b3, .cells #[.int .i64 d, .int .i64 h, .int .i64 off, .int .i64 n] 36 (0, 0))], [(pm, .cells #[.map (some bo), .map (some bt)] 95 (0, 0))], [(bo, mobj (M.map Ob.ent) c)], [(bt, mobj U cu)], obs M, F]) (.take 0 (.take 1 (.take 2 (.take 3 (.take 4 (.take 5 (.take 6 (.take 7 (.take 8 (.take 9 (.take 10 (.take 11 (.take 12 (.take 13 (.take 14 (.take 15 (.take 16 (.done)))))))))))))))))) Try.mixed (by intro c d v a w h; cases d <;> exact h) hO33 (by kernel_rfl) ?_
          intro w41 hO42
          have hI43 := hO42.pick [0, 0, 0, 0, 0, 0, 0] rfl
          refine HP.take rfl (.free rfl) rfl hI43 (fun _ r _ hI => R.move (r.e rfl)) ?_
          refine HP.take rfl (.free rfl) rfl hI43 (fun _ r _ hI => R.move (r.e rfl)) ?_
          refine HP.takeOff rfl (.no rfl rfl rfl) rfl hI43 ?_
          refine HP.takeOff rfl (.no rfl rfl rfl) rfl hI43 ?_
          refine HP.takeOff rfl (.no rfl rfl rfl) rfl hI43 ?_
          refine HP.takeOff rfl (.no rfl rfl rfl) rfl hI43 ?_
          refine HP.takeOff rfl (.un rfl rfl rfl) rfl hI43 ?_
          refine HP.takeOff rfl (.un rfl rfl rfl) rfl hI43 ?_
          refine HP.takeOff rfl (.un rfl rfl rfl) rfl hI43 ?_
          refine HP.takeOff rfl (.un rfl rfl rfl) rfl hI43 ?_
          refine HP.takeOff rfl (.un rfl rfl rfl) rfl hI43 ?_
          refine HP.takeOff rfl (.un rfl rfl rfl) rfl hI43 ?_
          refine HP.takeOff rfl (.un rfl rfl rfl) rfl hI43 ?_
          refine HP.takeOff rfl (.un rfl rfl rfl) rfl hI43 ?_
          refine HP.takeOff rfl (.no rfl rfl rfl) rfl hI43 ?_
          refine HP.take rfl (.free rfl) rfl hI43 (fun _ r _ hI => R.pick_no (r.e rfl) (r.e rfl)) ?_
          refine HP.take rfl (.free rfl) rfl hI43 (fun _ r _ hI => R.assign (r.e rfl)) ?_
          refine HP.done (EW.then (?_))
          refine CW.seq ?_
          refine CW.block ?_
          refine CW.seq ?_
          refine CW.region ?_
          refine LW.value (.free rfl) rfl (fun _ r => R.move (r.e rfl)) ?_
          refine LW.value (.free rfl) rfl (fun _ r => R.not (r.e rfl)) ?_
          refine LW.value (.free rfl) rfl (fun _ r => R.assign (r.e rfl)) ?_
          refine LW.nil (EW.then (?_))
          refine CW.yes rfl ?_
          refine CW.seq ?_
          refine CW.region ?_
          refine LW.op (.free rfl) (OW.calls rfl (fun _ r => R.call (vs := [.int .i64 4]) Try.call64 rfl ⟨r.e rfl, trivial⟩) (v_code 4 _ _ (hO42.frame [] rfl)) ?_)
          rintro _ w44 ⟨rfl, hO45⟩
          replace hO45 := hO45.unframe0
          refine LW.value (.free rfl) rfl (fun _ r => R.extract (r.e rfl) rfl) ?_
          refine LW.value (.free rfl) rfl (fun _ r => R.extract (r.e rfl) rfl) ?_
          refine LW.op (.free rfl) (OW.storeall (i := 0) (vs := [.int .i64 4, .int .i64 0]) rfl hO45 rfl rfl rfl rfl Try.sizeOf39 rfl ?_)
          intro w46 hO47
          refine LW.value (.free rfl) rfl (fun _ r => R.assign (r.e rfl)) ?_
          refine LW.nil (EW.then (?_))
          refine CW.ret (EW.inB_ret (EW.then_ret (?_)))
          refine EW.retct (vs := [.int .i64 4, .int .i64 0]) rfl rfl rfl Try.isAgg39 Try.sizeOf39 (hO47.cells (i := 0) rfl rfl) ?_
          exact ⟨by simp [ansP, h9, h14, h19, show ¬ (d = 0) from by omega, show ¬ (d < 0) from by omega, show ¬ (5 < d) from by omega, hM.none hn35, Ob.q], ((hO47.pick [2, 2, 2, 2, 2] rfl).perm' (List.Perm.of_eq (by simp [mseg, obs_mid, obs_app, obs_one, Ob.st, Ob.by_, Ob.ent, obs])))⟩
        · -- an object
          subst hMx37
          have hOb := hM.ob x37 (by simp)
          obtain ⟨ho1, ho2, ho3, ho4, ho5⟩ := hOb
          refine HP.take rfl (.free rfl) rfl hI34 (fun _ r _ hI => R.lookup_yes2 (f := Ob.ent) (r.e rfl) (r.e rfl) Try.underlying92 Try.underlying3 (hI.get (i := 3) rfl) hx39 hA40 rfl) ?_
          refine HP.take rfl (.free rfl) rfl hI34 (fun _ r _ hI => R.move (r.e rfl)) ?_
          refine HP.take rfl (.free rfl) rfl hI34 (fun _ r _ hI => R.extract (r.e rfl) rfl) ?_
          refine HP.take rfl (.free rfl) rfl hI34 (fun _ r _ hI => R.extract (r.e rfl) rfl) ?_
          refine HP.take rfl (.free rfl) rfl hI34 (fun _ r _ hI => R.assign (r.e rfl)) ?_
          refine HP.take rfl (.free rfl) rfl hI34 (fun _ r _ hI => R.assign (r.e rfl)) ?_
          refine HP.done (EW.then (?_))
          refine CW.seq ?_
          have hO48 : Own _ [[(b6, .cells #[.int .i64 0, .int .i64 0] 39 (0, 0))], [(b3, .cells #[.int .i64 d, .int .i64 h, .int .i64 off, .int .i64 n] 36 (0, 0))], [(pm, .cells #[.map (some bo), .map (some bt)] 95 (0, 0))], [(bo, mobj ((A36 ++ x37 :: B38).map Ob.ent) c)], [(bt, mobj U cu)], obs (A36 ++ x37 :: B38), F] := hO33
          have hO49 : Own _ [[(b6, .cells #[.int .i64 0, .int .i64 0] 39 (0, 0))], [(b3, .cells #[.int .i64 d, .int .i64 h, .int .i64 off, .int .i64 n] 36 (0, 0))], [(pm, .cells #[.map (some bo), .map (some bt)] 95 (0, 0))], [(bo, mobj ((A36 ++ x37 :: B38).map Ob.ent) c)], [(bt, mobj U cu)], obs A36, [(x37.p, .cells #[.slice (some ⟨x37.bb, 0, none⟩) x37.b.length x37.cap, .int .i64 x37.pins] 111 (0, 0))], [(x37.bb, .cells (x37.b.flatMap encU ++ x37.rest).toArray 5 (0, 0))], obs B38, F] := hO48.perm' (List.Perm.of_eq (by simp only [obs_mid, List.flatten_cons, List.append_assoc, List.cons_append, List.nil_append, List.flatten_nil, List.append_nil]))
          refine HP.start (I := fun w' => Own w' [[(b6, .cells #[.int .i64 0, .int .i64 0] 39 (0, 0))], [(b3, .cells #[.int .i64 d, .int .i64 h, .int .i64 off, .int .i64 n] 36 (0, 0))], [(pm, .cells #[.map (some bo), .map (some bt)] 95 (0, 0))], [(bo, mobj ((A36 ++ x37 :: B38).map Ob.ent) c)], [(bt, mobj U cu)], obs A36, [(x37.p, .cells #[.slice (some ⟨x37.bb, 0, none⟩) x37.b.length x37.cap, .int .i64 x37.pins] 111 (0, 0))], [(x37.bb, .cells (x37.b.flatMap encU ++ x37.rest).toArray 5 (0, 0))], obs B38, F]) (.take 0 (.take 1 (.take 2 (.take 3 (.take 4 (.take 5 (.take 6 (.take 7 (.take 8 (.take 9 (.take 10 (.take 11 (.take 12 (.take 13 (.take 14 (.take 15 (.take 16 (.done)))))))))))))))))) Try.mixed (by intro c d v a w h; cases d <;> exact h) hO49 (by kernel_rfl) ?_
          intro w50 hO51
          have hI52 := hO51.pick [0, 0, 0, 0, 0, 0, 0, 0, 0, 0] rfl
          refine HP.take rfl (.free rfl) rfl hI52 (fun _ r _ hI => R.move (r.e rfl)) ?_
          refine HP.take rfl (.free rfl) rfl hI52 (fun _ r _ hI => R.move (r.e rfl)) ?_
          refine HP.take rfl (.yes rfl rfl rfl) rfl hI52 (fun _ r _ hI => R.fieldAddr (k := 2) (r.e rfl) Try.runUnderlying36 rfl Try.sizeOf3 rfl) ?_
          refine HP.take rfl (.yes rfl rfl rfl) rfl hI52 (fun _ r _ hI => R.load1 (r.e rfl) Try.isAgg3 (hI.cell (i := 1) rfl rfl)) ?_
          refine HP.take rfl (.yes rfl rfl rfl) rfl hI52 (fun _ r _ hI => R.lss (r.e rfl) (r.e rfl)) ?_
          refine HP.take rfl (.yes rfl rfl rfl) rfl hI52 (fun _ r _ hI => R.move (r.e rfl)) ?_
          by_cases h53 : off < 0
          · -- off < 0
            refine HP.takeOff rfl (.no rfl rfl (kb (dT h53))) rfl hI52 ?_
            refine HP.takeOff rfl (.no rfl rfl (kb (dT h53))) rfl hI52 ?_
            refine HP.takeOff rfl (.no rfl rfl (kb (dT h53))) rfl hI52 ?_
            refine HP.takeOff rfl (.no rfl rfl (kb (dT h53))) rfl hI52 ?_
            refine HP.takeOff rfl (.no rfl rfl (kb (dT h53))) rfl hI52 ?_
            refine HP.takeOff rfl (.no rfl rfl (kb (dT h53))) rfl hI52 ?_
            refine HP.takeOff rfl (.no rfl rfl (kb (dT h53))) rfl hI52 ?_
            refine HP.takeOff rfl (.no rfl rfl (kb (dT h53))) rfl hI52 ?_
            refine HP.take rfl (.yes rfl rfl rfl) rfl hI52 (fun _ r _ hI => R.pick_yes (r.e (kb (dT h53))) (r.e rfl)) ?_
            refine HP.take rfl (.free rfl) rfl hI52 (fun _ r _ hI => R.pick_yes (r.e rfl) (r.e rfl)) ?_
            refine HP.take rfl (.free rfl) rfl hI52 (fun _ r _ hI => R.assign (r.e rfl)) ?_
            refine HP.done (EW.then (?_))
            refine CW.seq ?_
            refine CW.block ?_
            refine CW.seq ?_
            refine CW.region ?_
            refine LW.value (.free rfl) rfl (fun _ r => R.move (r.e rfl)) ?_
            refine LW.value (.free rfl) rfl (fun _ r => R.not (r.e rfl)) ?_
            refine LW.value (.free rfl) rfl (fun _ r => R.assign (r.e rfl)) ?_
            refine LW.nil (EW.then (?_))
            refine CW.no rfl ?_
            refine CW.seq ?_
            refine CW.region ?_
            refine LW.value (.free rfl) rfl (fun _ r => R.fieldAddr (k := 0) (r.e rfl) Try.runUnderlying36 rfl Try.sizeOf3 rfl) ?_
            refine LW.value (.free rfl) rfl (fun _ r => R.load1 (r.e rfl) Try.isAgg3 (hO51.cell (i := 1) rfl rfl)) ?_
            refine LW.value (.free rfl) rfl (fun _ r => R.eql (r.e rfl) (r.e rfl)) ?_
            refine LW.value (.free rfl) rfl (fun _ r => R.move (r.e rfl)) ?_
            by_cases h54 : d = 1
            · -- d = 1
              refine LW.value (.yes rfl rfl (kb (dT h54))) rfl (fun _ r => R.move (r.e rfl)) ?_
              refine LW.value (.yes rfl rfl (kb (dT h54))) rfl (fun _ r => R.nilCheck (r.e rfl)) ?_
              refine LW.value (.yes rfl rfl (kb (dT h54))) rfl (fun _ r => R.fieldAddr (k := 1) (r.e rfl) Try.runUnderlying111 rfl Try.sizeOf3 rfl) ?_
              refine LW.value (.yes rfl rfl (kb (dT h54))) rfl (fun _ r => R.load1 (r.e rfl) Try.isAgg3 (hO51.cell (i := 6) rfl rfl)) ?_
              refine LW.value (.yes rfl rfl (kb (dT h54))) rfl (fun _ r => R.gtr (r.e rfl) (r.e rfl)) ?_
              refine LW.value (.free rfl) rfl (fun _ r => R.pick_yes (r.e (kb (dT h54))) (r.e rfl)) ?_
              refine LW.value (.free rfl) rfl (fun _ r => R.assign (r.e rfl)) ?_
              refine LW.nil (EW.then (?_))
              by_cases h55 : 0 < x37.pins
              · -- 0 < x37.pins
                refine CW.yes (kb (dT h55)) ?_
                refine CW.seq ?_
                refine CW.region ?_
                refine LW.op (.free rfl) (OW.calls rfl (fun _ r => R.call (vs := [.int .i64 6]) Try.call64 rfl ⟨r.e rfl, trivial⟩) (v_code 6 _ _ (hO51.frame [] rfl)) ?_)
                rintro _ w56 ⟨rfl, hO57⟩
                replace hO57 := hO57.unframe0
                refine LW.value (.free rfl) rfl (fun _ r => R.extract (r.e rfl) rfl) ?_
                refine LW.value (.free rfl) rfl (fun _ r => R.extract (r.e rfl) rfl) ?_
                refine LW.op (.free rfl) (OW.storeall (i := 0) (vs := [.int .i64 6, .int .i64 0]) rfl hO57 rfl rfl rfl rfl Try.sizeOf39 rfl ?_)
                intro w58 hO59
                refine LW.value (.free rfl) rfl (fun _ r => R.assign (r.e rfl)) ?_
                refine LW.nil (EW.then (?_))
                refine CW.ret (EW.inB_ret (EW.then_ret (?_)))
                refine EW.retct (vs := [.int .i64 6, .int .i64 0]) rfl rfl rfl Try.isAgg39 Try.sizeOf39 (hO59.cells (i := 0) rfl rfl) ?_
                exact ⟨by simp [ansP, h9, h14, h19, h53, h54, h55, show ¬ (d = 0) from by omega, show ¬ (d < 0) from by omega, show ¬ (5 < d) from by omega, show (d = 1) from by omega, show ¬ (d = 2) from by omega, show ¬ (d = 3) from by omega, show ¬ (d = 4) from by omega, show ¬ (d = 5) from by omega, show (off < 0) from by omega, show findP X h = some x37.q from by rw [← hx39]; exact hM.some (by simp), Ob.q], ((hO59.pick [2, 2, 2, 2, 2, 2, 2, 2] rfl).perm' (List.Perm.of_eq (by simp [mseg, obs_mid, obs_app, obs_one, Ob.st, Ob.by_, Ob.ent, obs])))⟩
              · -- not: 0 < x37.pins
                refine CW.no (kb (dF h55)) ?_
                refine CW.seq ?_
                refine CW.region ?_
                refine LW.value (.free rfl) rfl (fun _ r => R.fieldAddr (k := 0) (r.e rfl) Try.runUnderlying36 rfl Try.sizeOf3 rfl) ?_
                refine LW.value (.free rfl) rfl (fun _ r => R.load1 (r.e rfl) Try.isAgg3 (hO51.cell (i := 1) rfl rfl)) ?_
                refine LW.value (.free rfl) rfl (fun _ r => R.eql (r.e rfl) (r.e rfl)) ?_
                refine LW.value (.free rfl) rfl (fun _ r => R.move (r.e rfl)) ?_
                have h60 : ¬ (d = 2) := by omega
                refine LW.value (.yes rfl rfl (kb (dF h60))) rfl (fun _ r => R.fieldAddr (k := 0) (r.e rfl) Try.runUnderlying36 rfl Try.sizeOf3 rfl) ?_
                refine LW.value (.yes rfl rfl (kb (dF h60))) rfl (fun _ r => R.load1 (r.e rfl) Try.isAgg3 (hO51.cell (i := 1) rfl rfl)) ?_
                refine LW.value (.yes rfl rfl (kb (dF h60))) rfl (fun _ r => R.eql (r.e rfl) (r.e rfl)) ?_
                refine LW.value (.free rfl) rfl (fun _ r => R.pick_no (r.e (kb (dF h60))) (r.e rfl)) ?_
                refine LW.value (.free rfl) rfl (fun _ r => R.move (r.e rfl)) ?_
                have h61 : ¬ (d = 3) := by omega
                refine LW.off (.no rfl rfl (kb (dF h61))) rfl ?_
                refine LW.value (.free rfl) rfl (fun _ r => R.pick_no (r.e (kb (dF h61))) (r.e rfl)) ?_
                refine LW.value (.free rfl) rfl (fun _ r => R.assign (r.e rfl)) ?_
                refine LW.nil (EW.then (?_))
                refine CW.no rfl ?_
                refine CW.seq ?_
                refine CW.region ?_
                refine LW.value (.free rfl) rfl (fun _ r => R.fieldAddr (k := 0) (r.e rfl) Try.runUnderlying36 rfl Try.sizeOf3 rfl) ?_
                refine LW.value (.free rfl) rfl (fun _ r => R.load1 (r.e rfl) Try.isAgg3 (hO51.cell (i := 1) rfl rfl)) ?_
                refine LW.value (.free rfl) rfl (fun _ r => R.eql (r.e rfl) (r.e rfl)) ?_
                refine LW.value (.free rfl) rfl (fun _ r => R.assign (r.e rfl)) ?_
                refine LW.nil (EW.then (?_))
                refine CW.no (kb (dF h60)) ?_
                refine CW.seq ?_
                refine CW.region ?_
                refine LW.value (.free rfl) rfl (fun _ r => R.fieldAddr (k := 0) (r.e rfl) Try.runUnderlying36 rfl Try.sizeOf3 rfl) ?_
                refine LW.value (.free rfl) rfl (fun _ r => R.load1 (r.e rfl) Try.isAgg3 (hO51.cell (i := 1) rfl rfl)) ?_
                refine LW.value (.free rfl) rfl (fun _ r => R.eql (r.e rfl) (r.e rfl)) ?_
                refine LW.value (.free rfl) rfl (fun _ r => R.move (r.e rfl)) ?_
                have h62 : ¬ (d = 4) := by omega
                refine LW.off (.no rfl rfl (kb (dF h62))) rfl ?_
                refine LW.off (.no rfl rfl (kb (dF h62))) rfl ?_
                refine LW.off (.no rfl rfl (kb (dF h62))) rfl ?_
                refine LW.off (.no rfl rfl (kb (dF h62))) rfl ?_
                refine LW.off (.no rfl rfl (kb (dF h62))) rfl ?_
                refine LW.value (.free rfl) rfl (fun _ r => R.pick_no (r.e (kb (dF h62))) (r.e rfl)) ?_
                refine LW.value (.free rfl) rfl (fun _ r => R.assign (r.e rfl)) ?_
                refine LW.nil (EW.then (?_))
                refine CW.no rfl ?_
                refine CW.seq ?_
                refine CW.region ?_
                refine LW.value (.free rfl) rfl (fun _ r => R.fieldAddr (k := 0) (r.e rfl) Try.runUnderlying36 rfl Try.sizeOf3 rfl) ?_
                refine LW.value (.free rfl) rfl (fun _ r => R.load1 (r.e rfl) Try.isAgg3 (hO51.cell (i := 1) rfl rfl)) ?_
                refine LW.value (.free rfl) rfl (fun _ r => R.eql (r.e rfl) (r.e rfl)) ?_
                refine LW.value (.free rfl) rfl (fun _ r => R.move (r.e rfl)) ?_
                have h63 : ¬ (d = 5) := by omega
                refine LW.off (.no rfl rfl (kb (dF h63))) rfl ?_
                refine LW.off (.no rfl rfl (kb (dF h63))) rfl ?_
                refine LW.off (.no rfl rfl (kb (dF h63))) rfl ?_
                refine LW.off (.no rfl rfl (kb (dF h63))) rfl ?_
                refine LW.off (.no rfl rfl (kb (dF h63))) rfl ?_
                refine LW.value (.free rfl) rfl (fun _ r => R.pick_no (r.e (kb (dF h63))) (r.e rfl)) ?_
                refine LW.value (.free rfl) rfl (fun _ r => R.assign (r.e rfl)) ?_
                refine LW.nil (EW.then (?_))
                refine CW.no rfl ?_
                refine CW.skip (EW.inB_normal (EW.then (?_)))
                refine CW.seq ?_
                refine CW.region ?_
                refine LW.value (.free rfl) rfl (fun _ r => R.build (v := .agg #[.int .i64 0, .int .i64 0]) (vs := []) trivial (by simp [go_sem])) ?_
                refine LW.op (.free rfl) (OW.storeall (i := 0) (vs := [.int .i64 0, .int .i64 0]) rfl hO51 rfl rfl rfl rfl Try.sizeOf39 rfl ?_)
                intro w64 hO65
                refine LW.value (.free rfl) rfl (fun _ r => R.assign (r.e rfl)) ?_
                refine LW.nil (EW.then (?_))
                refine CW.ret ?_
                refine EW.retct (vs := [.int .i64 0, .int .i64 0]) rfl rfl rfl Try.isAgg39 Try.sizeOf39 (hO65.cells (i := 0) rfl rfl) ?_
                exact ⟨by simp [ansP, h9, h14, h19, h53, h54, h55, h60, h61, h62, h63, show ¬ (d = 0) from by omega, show ¬ (d < 0) from by omega, show ¬ (5 < d) from by omega, show (d = 1) from by omega, show ¬ (d = 2) from by omega, show ¬ (d = 3) from by omega, show ¬ (d = 4) from by omega, show ¬ (d = 5) from by omega, show (off < 0) from by omega, show findP X h = some x37.q from by rw [← hx39]; exact hM.some (by simp), Ob.q], ((hO65.pick [2, 2, 2, 2, 2, 2, 2, 2] rfl).perm' (List.Perm.of_eq (by simp [mseg, obs_mid, obs_app, obs_one, Ob.st, Ob.by_, Ob.ent, obs])))⟩
            · -- not: d = 1
              refine LW.off (.no rfl rfl (kb (dF h54))) rfl ?_
              refine LW.off (.no rfl rfl (kb (dF h54))) rfl ?_
              refine LW.off (.no rfl rfl (kb (dF h54))) rfl ?_
              refine LW.off (.no rfl rfl (kb (dF h54))) rfl ?_
              refine LW.off (.no rfl rfl (kb (dF h54))) rfl ?_
              refine LW.value (.free rfl) rfl (fun _ r => R.pick_no (r.e (kb (dF h54))) (r.e rfl)) ?_
              refine LW.value (.free rfl) rfl (fun _ r => R.assign (r.e rfl)) ?_
              refine LW.nil (EW.then (?_))
              refine CW.no rfl ?_
              refine CW.seq ?_
              refine CW.region ?_
              refine LW.value (.free rfl) rfl (fun _ r => R.fieldAddr (k := 0) (r.e rfl) Try.runUnderlying36 rfl Try.sizeOf3 rfl) ?_
              refine LW.value (.free rfl) rfl (fun _ r => R.load1 (r.e rfl) Try.isAgg3 (hO51.cell (i := 1) rfl rfl)) ?_
              refine LW.value (.free rfl) rfl (fun _ r => R.eql (r.e rfl) (r.e rfl)) ?_
              refine LW.value (.free rfl) rfl (fun _ r => R.move (r.e rfl)) ?_
              by_cases h66 : d = 2
              · -- d = 2
                refine LW.off (.no rfl rfl (kb (dT h66))) rfl ?_
                refine LW.off (.no rfl rfl (kb (dT h66))) rfl ?_
                refine LW.off (.no rfl rfl (kb (dT h66))) rfl ?_
                refine LW.value (.free rfl) rfl (fun _ r => R.pick_yes (r.e (kb (dT h66))) (r.e rfl)) ?_
                refine LW.value (.free rfl) rfl (fun _ r => R.move (r.e rfl)) ?_
                refine LW.value (.yes rfl rfl rfl) rfl (fun _ r => R.move (r.e rfl)) ?_
                refine LW.value (.free rfl) rfl (fun _ r => R.pick_yes (r.e rfl) (r.e rfl)) ?_
                refine LW.value (.free rfl) rfl (fun _ r => R.assign (r.e rfl)) ?_
                refine LW.nil (EW.then (?_))
                refine CW.yes rfl ?_
                refine CW.seq ?_
                refine CW.region ?_
                refine LW.op (.free rfl) (OW.calls rfl (fun _ r => R.call (vs := [.int .i64 5]) Try.call64 rfl ⟨r.e rfl, trivial⟩) (v_code 5 _ _ (hO51.frame [] rfl)) ?_)
                rintro _ w67 ⟨rfl, hO68⟩
                replace hO68 := hO68.unframe0
                refine LW.value (.free rfl) rfl (fun _ r => R.extract (r.e rfl) rfl) ?_
                refine LW.value (.free rfl) rfl (fun _ r => R.extract (r.e rfl) rfl) ?_
                refine LW.op (.free rfl) (OW.storeall (i := 0) (vs := [.int .i64 5, .int .i64 0]) rfl hO68 rfl rfl rfl rfl Try.sizeOf39 rfl ?_)
                intro w69 hO70
                refine LW.value (.free rfl) rfl (fun _ r => R.assign (r.e rfl)) ?_
                refine LW.nil (EW.then (?_))
                refine CW.ret (EW.inB_ret (EW.then_ret (?_)))
                refine EW.retct (vs := [.int .i64 5, .int .i64 0]) rfl rfl rfl Try.isAgg39 Try.sizeOf39 (hO70.cells (i := 0) rfl rfl) ?_
                exact ⟨by simp [ansP, h9, h14, h19, h53, h54, h66, show ¬ (d = 0) from by omega, show ¬ (d < 0) from by omega, show ¬ (5 < d) from by omega, show ¬ (d = 1) from by omega, show (d = 2) from by omega, show ¬ (d = 3) from by omega, show ¬ (d = 4) from by omega, show ¬ (d = 5) from by omega, show (off < 0) from by omega, show findP X h = some x37.q from by rw [← hx39]; exact hM.some (by simp), Ob.q], ((hO70.pick [2, 2, 2, 2, 2, 2, 2, 2] rfl).perm' (List.Perm.of_eq (by simp [mseg, obs_mid, obs_app, obs_one, Ob.st, Ob.by_, Ob.ent, obs])))⟩
              · -- not: d = 2
                refine LW.value (.yes rfl rfl (kb (dF h66))) rfl (fun _ r => R.fieldAddr (k := 0) (r.e rfl) Try.runUnderlying36 rfl Try.sizeOf3 rfl) ?_
                refine LW.value (.yes rfl rfl (kb (dF h66))) rfl (fun _ r => R.load1 (r.e rfl) Try.isAgg3 (hO51.cell (i := 1) rfl rfl)) ?_
                refine LW.value (.yes rfl rfl (kb (dF h66))) rfl (fun _ r => R.eql (r.e rfl) (r.e rfl)) ?_
                refine LW.value (.free rfl) rfl (fun _ r => R.pick_no (r.e (kb (dF h66))) (r.e rfl)) ?_
                refine LW.value (.free rfl) rfl (fun _ r => R.move (r.e rfl)) ?_
                by_cases h71 : d = 3
                · -- d = 3
                  refine LW.value (.yes rfl rfl (kb (dT h71))) rfl (fun _ r => R.move (r.e rfl)) ?_
                  refine LW.value (.free rfl) rfl (fun _ r => R.pick_yes (r.e (kb (dT h71))) (r.e rfl)) ?_
                  refine LW.value (.free rfl) rfl (fun _ r => R.assign (r.e rfl)) ?_
                  refine LW.nil (EW.then (?_))
                  refine CW.yes rfl ?_
                  refine CW.seq ?_
                  refine CW.region ?_
                  refine LW.op (.free rfl) (OW.calls rfl (fun _ r => R.call (vs := [.int .i64 5]) Try.call64 rfl ⟨r.e rfl, trivial⟩) (v_code 5 _ _ (hO51.frame [] rfl)) ?_)
                  rintro _ w72 ⟨rfl, hO73⟩
                  replace hO73 := hO73.unframe0
                  refine LW.value (.free rfl) rfl (fun _ r => R.extract (r.e rfl) rfl) ?_
                  refine LW.value (.free rfl) rfl (fun _ r => R.extract (r.e rfl) rfl) ?_
                  refine LW.op (.free rfl) (OW.storeall (i := 0) (vs := [.int .i64 5, .int .i64 0]) rfl hO73 rfl rfl rfl rfl Try.sizeOf39 rfl ?_)
                  intro w74 hO75
                  refine LW.value (.free rfl) rfl (fun _ r => R.assign (r.e rfl)) ?_
                  refine LW.nil (EW.then (?_))
                  refine CW.ret (EW.inB_ret (EW.then_ret (?_)))
                  refine EW.retct (vs := [.int .i64 5, .int .i64 0]) rfl rfl rfl Try.isAgg39 Try.sizeOf39 (hO75.cells (i := 0) rfl rfl) ?_
                  exact ⟨by simp [ansP, h9, h14, h19, h53, h54, h66, h71, show ¬ (d = 0) from by omega, show ¬ (d < 0) from by omega, show ¬ (5 < d) from by omega, show ¬ (d = 1) from by omega, show ¬ (d = 2) from by omega, show (d = 3) from by omega, show ¬ (d = 4) from by omega, show ¬ (d = 5) from by omega, show (off < 0) from by omega, show findP X h = some x37.q from by rw [← hx39]; exact hM.some (by simp), Ob.q], ((hO75.pick [2, 2, 2, 2, 2, 2, 2, 2] rfl).perm' (List.Perm.of_eq (by simp [mseg, obs_mid, obs_app, obs_one, Ob.st, Ob.by_, Ob.ent, obs])))⟩
                · -- not: d = 3
                  refine LW.off (.no rfl rfl (kb (dF h71))) rfl ?_
                  refine LW.value (.free rfl) rfl (fun _ r => R.pick_no (r.e (kb (dF h71))) (r.e rfl)) ?_
                  refine LW.value (.free rfl) rfl (fun _ r => R.assign (r.e rfl)) ?_
                  refine LW.nil (EW.then (?_))
                  refine CW.no rfl ?_
                  refine CW.seq ?_
                  refine CW.region ?_
                  refine LW.value (.free rfl) rfl (fun _ r => R.fieldAddr (k := 0) (r.e rfl) Try.runUnderlying36 rfl Try.sizeOf3 rfl) ?_
                  refine LW.value (.free rfl) rfl (fun _ r => R.load1 (r.e rfl) Try.isAgg3 (hO51.cell (i := 1) rfl rfl)) ?_
                  refine LW.value (.free rfl) rfl (fun _ r => R.eql (r.e rfl) (r.e rfl)) ?_
                  refine LW.value (.free rfl) rfl (fun _ r => R.assign (r.e rfl)) ?_
                  refine LW.nil (EW.then (?_))
                  refine CW.no (kb (dF h66)) ?_
                  refine CW.seq ?_
                  refine CW.region ?_
                  refine LW.value (.free rfl) rfl (fun _ r => R.fieldAddr (k := 0) (r.e rfl) Try.runUnderlying36 rfl Try.sizeOf3 rfl) ?_
                  refine LW.value (.free rfl) rfl (fun _ r => R.load1 (r.e rfl) Try.isAgg3 (hO51.cell (i := 1) rfl rfl)) ?_
                  refine LW.value (.free rfl) rfl (fun _ r => R.eql (r.e rfl) (r.e rfl)) ?_
                  refine LW.value (.free rfl) rfl (fun _ r => R.move (r.e rfl)) ?_
                  by_cases h76 : d = 4
                  · -- d = 4
                    refine LW.value (.yes rfl rfl (kb (dT h76))) rfl (fun _ r => R.move (r.e rfl)) ?_
                    refine LW.value (.yes rfl rfl (kb (dT h76))) rfl (fun _ r => R.nilCheck (r.e rfl)) ?_
                    refine LW.value (.yes rfl rfl (kb (dT h76))) rfl (fun _ r => R.fieldAddr (k := 1) (r.e rfl) Try.runUnderlying111 rfl Try.sizeOf3 rfl) ?_
                    refine LW.value (.yes rfl rfl (kb (dT h76))) rfl (fun _ r => R.load1 (r.e rfl) Try.isAgg3 (hO51.cell (i := 6) rfl rfl)) ?_
                    refine LW.value (.yes rfl rfl (kb (dT h76))) rfl (fun _ r => R.eql (r.e rfl) (r.e rfl)) ?_
                    refine LW.value (.free rfl) rfl (fun _ r => R.pick_yes (r.e (kb (dT h76))) (r.e rfl)) ?_
                    refine LW.value (.free rfl) rfl (fun _ r => R.assign (r.e rfl)) ?_
                    refine LW.nil (EW.then (?_))
                    by_cases h77 : x37.pins = 7
                    · -- x37.pins = 7
                      refine CW.yes (kb (dT h77)) ?_
                      refine CW.seq ?_
                      refine CW.region ?_
                      refine LW.op (.free rfl) (OW.calls rfl (fun _ r => R.call (vs := [.int .i64 7]) Try.call64 rfl ⟨r.e rfl, trivial⟩) (v_code 7 _ _ (hO51.frame [] rfl)) ?_)
                      rintro _ w78 ⟨rfl, hO79⟩
                      replace hO79 := hO79.unframe0
                      refine LW.value (.free rfl) rfl (fun _ r => R.extract (r.e rfl) rfl) ?_
                      refine LW.value (.free rfl) rfl (fun _ r => R.extract (r.e rfl) rfl) ?_
                      refine LW.op (.free rfl) (OW.storeall (i := 0) (vs := [.int .i64 7, .int .i64 0]) rfl hO79 rfl rfl rfl rfl Try.sizeOf39 rfl ?_)
                      intro w80 hO81
                      refine LW.value (.free rfl) rfl (fun _ r => R.assign (r.e rfl)) ?_
                      refine LW.nil (EW.then (?_))
                      refine CW.ret (EW.inB_ret (EW.then_ret (?_)))
                      refine EW.retct (vs := [.int .i64 7, .int .i64 0]) rfl rfl rfl Try.isAgg39 Try.sizeOf39 (hO81.cells (i := 0) rfl rfl) ?_
                      exact ⟨by simp [ansP, h9, h14, h19, h53, h54, h66, h71, h76, h77, show ¬ (d = 0) from by omega, show ¬ (d < 0) from by omega, show ¬ (5 < d) from by omega, show ¬ (d = 1) from by omega, show ¬ (d = 2) from by omega, show ¬ (d = 3) from by omega, show (d = 4) from by omega, show ¬ (d = 5) from by omega, show (off < 0) from by omega, show findP X h = some x37.q from by rw [← hx39]; exact hM.some (by simp), Ob.q], ((hO81.pick [2, 2, 2, 2, 2, 2, 2, 2] rfl).perm' (List.Perm.of_eq (by simp [mseg, obs_mid, obs_app, obs_one, Ob.st, Ob.by_, Ob.ent, obs])))⟩
                    · -- not: x37.pins = 7
                      refine CW.no (kb (dF h77)) ?_
                      refine CW.seq ?_
                      refine CW.region ?_
                      refine LW.value (.free rfl) rfl (fun _ r => R.fieldAddr (k := 0) (r.e rfl) Try.runUnderlying36 rfl Try.sizeOf3 rfl) ?_
                      refine LW.value (.free rfl) rfl (fun _ r => R.load1 (r.e rfl) Try.isAgg3 (hO51.cell (i := 1) rfl rfl)) ?_
                      refine LW.value (.free rfl) rfl (fun _ r => R.eql (r.e rfl) (r.e rfl)) ?_
                      refine LW.value (.free rfl) rfl (fun _ r => R.move (r.e rfl)) ?_
                      have h82 : ¬ (d = 5) := by omega
                      refine LW.off (.no rfl rfl (kb (dF h82))) rfl ?_
                      refine LW.off (.no rfl rfl (kb (dF h82))) rfl ?_
                      refine LW.off (.no rfl rfl (kb (dF h82))) rfl ?_
                      refine LW.off (.no rfl rfl (kb (dF h82))) rfl ?_
                      refine LW.off (.no rfl rfl (kb (dF h82))) rfl ?_
                      refine LW.value (.free rfl) rfl (fun _ r => R.pick_no (r.e (kb (dF h82))) (r.e rfl)) ?_
                      refine LW.value (.free rfl) rfl (fun _ r => R.assign (r.e rfl)) ?_
                      refine LW.nil (EW.then (?_))
                      refine CW.no rfl ?_
                      refine CW.skip (EW.inB_normal (EW.then (?_)))
                      refine CW.seq ?_
                      refine CW.region ?_
                      refine LW.value (.free rfl) rfl (fun _ r => R.build (v := .agg #[.int .i64 0, .int .i64 0]) (vs := []) trivial (by simp [go_sem])) ?_
                      refine LW.op (.free rfl) (OW.storeall (i := 0) (vs := [.int .i64 0, .int .i64 0]) rfl hO51 rfl rfl rfl rfl Try.sizeOf39 rfl ?_)
                      intro w83 hO84
                      refine LW.value (.free rfl) rfl (fun _ r => R.assign (r.e rfl)) ?_
                      refine LW.nil (EW.then (?_))
                      refine CW.ret ?_
                      refine EW.retct (vs := [.int .i64 0, .int .i64 0]) rfl rfl rfl Try.isAgg39 Try.sizeOf39 (hO84.cells (i := 0) rfl rfl) ?_
                      exact ⟨by simp [ansP, h9, h14, h19, h53, h54, h66, h71, h76, h77, h82, show ¬ (d = 0) from by omega, show ¬ (d < 0) from by omega, show ¬ (5 < d) from by omega, show ¬ (d = 1) from by omega, show ¬ (d = 2) from by omega, show ¬ (d = 3) from by omega, show (d = 4) from by omega, show ¬ (d = 5) from by omega, show (off < 0) from by omega, show findP X h = some x37.q from by rw [← hx39]; exact hM.some (by simp), Ob.q], ((hO84.pick [2, 2, 2, 2, 2, 2, 2, 2] rfl).perm' (List.Perm.of_eq (by simp [mseg, obs_mid, obs_app, obs_one, Ob.st, Ob.by_, Ob.ent, obs])))⟩
                  · -- not: d = 4
                    refine LW.off (.no rfl rfl (kb (dF h76))) rfl ?_
                    refine LW.off (.no rfl rfl (kb (dF h76))) rfl ?_
                    refine LW.off (.no rfl rfl (kb (dF h76))) rfl ?_
                    refine LW.off (.no rfl rfl (kb (dF h76))) rfl ?_
                    refine LW.off (.no rfl rfl (kb (dF h76))) rfl ?_
                    refine LW.value (.free rfl) rfl (fun _ r => R.pick_no (r.e (kb (dF h76))) (r.e rfl)) ?_
                    refine LW.value (.free rfl) rfl (fun _ r => R.assign (r.e rfl)) ?_
                    refine LW.nil (EW.then (?_))
                    refine CW.no rfl ?_
                    refine CW.seq ?_
                    refine CW.region ?_
                    refine LW.value (.free rfl) rfl (fun _ r => R.fieldAddr (k := 0) (r.e rfl) Try.runUnderlying36 rfl Try.sizeOf3 rfl) ?_
                    refine LW.value (.free rfl) rfl (fun _ r => R.load1 (r.e rfl) Try.isAgg3 (hO51.cell (i := 1) rfl rfl)) ?_
                    refine LW.value (.free rfl) rfl (fun _ r => R.eql (r.e rfl) (r.e rfl)) ?_
                    refine LW.value (.free rfl) rfl (fun _ r => R.move (r.e rfl)) ?_
                    have h85 : d = 5 := by omega
                    refine LW.value (.yes rfl rfl (kb (dT h85))) rfl (fun _ r => R.move (r.e rfl)) ?_
                    refine LW.value (.yes rfl rfl (kb (dT h85))) rfl (fun _ r => R.nilCheck (r.e rfl)) ?_
                    refine LW.value (.yes rfl rfl (kb (dT h85))) rfl (fun _ r => R.fieldAddr (k := 1) (r.e rfl) Try.runUnderlying111 rfl Try.sizeOf3 rfl) ?_
                    refine LW.value (.yes rfl rfl (kb (dT h85))) rfl (fun _ r => R.load1 (r.e rfl) Try.isAgg3 (hO51.cell (i := 6) rfl rfl)) ?_
                    refine LW.value (.yes rfl rfl (kb (dT h85))) rfl (fun _ r => R.eql (r.e rfl) (r.e rfl)) ?_
                    refine LW.value (.free rfl) rfl (fun _ r => R.pick_yes (r.e (kb (dT h85))) (r.e rfl)) ?_
                    refine LW.value (.free rfl) rfl (fun _ r => R.assign (r.e rfl)) ?_
                    refine LW.nil (EW.then (?_))
                    by_cases h86 : x37.pins = 0
                    · -- x37.pins = 0
                      refine CW.yes (kb (dT h86)) ?_
                      refine CW.seq ?_
                      refine CW.region ?_
                      refine LW.op (.free rfl) (OW.calls rfl (fun _ r => R.call (vs := [.int .i64 8]) Try.call64 rfl ⟨r.e rfl, trivial⟩) (v_code 8 _ _ (hO51.frame [] rfl)) ?_)
                      rintro _ w87 ⟨rfl, hO88⟩
                      replace hO88 := hO88.unframe0
                      refine LW.value (.free rfl) rfl (fun _ r => R.extract (r.e rfl) rfl) ?_
                      refine LW.value (.free rfl) rfl (fun _ r => R.extract (r.e rfl) rfl) ?_
                      refine LW.op (.free rfl) (OW.storeall (i := 0) (vs := [.int .i64 8, .int .i64 0]) rfl hO88 rfl rfl rfl rfl Try.sizeOf39 rfl ?_)
                      intro w89 hO90
                      refine LW.value (.free rfl) rfl (fun _ r => R.assign (r.e rfl)) ?_
                      refine LW.nil (EW.then (?_))
                      refine CW.ret (EW.inB_ret (EW.then_ret (?_)))
                      refine EW.retct (vs := [.int .i64 8, .int .i64 0]) rfl rfl rfl Try.isAgg39 Try.sizeOf39 (hO90.cells (i := 0) rfl rfl) ?_
                      exact ⟨by simp [ansP, h9, h14, h19, h53, h54, h66, h71, h76, h85, h86, show ¬ (d = 0) from by omega, show ¬ (d < 0) from by omega, show ¬ (5 < d) from by omega, show ¬ (d = 1) from by omega, show ¬ (d = 2) from by omega, show ¬ (d = 3) from by omega, show ¬ (d = 4) from by omega, show (d = 5) from by omega, show (off < 0) from by omega, show findP X h = some x37.q from by rw [← hx39]; exact hM.some (by simp), Ob.q], ((hO90.pick [2, 2, 2, 2, 2, 2, 2, 2] rfl).perm' (List.Perm.of_eq (by simp [mseg, obs_mid, obs_app, obs_one, Ob.st, Ob.by_, Ob.ent, obs])))⟩
                    · -- not: x37.pins = 0
                      refine CW.no (kb (dF h86)) ?_
                      refine CW.skip (EW.inB_normal (EW.then (?_)))
                      refine CW.seq ?_
                      refine CW.region ?_
                      refine LW.value (.free rfl) rfl (fun _ r => R.build (v := .agg #[.int .i64 0, .int .i64 0]) (vs := []) trivial (by simp [go_sem])) ?_
                      refine LW.op (.free rfl) (OW.storeall (i := 0) (vs := [.int .i64 0, .int .i64 0]) rfl hO51 rfl rfl rfl rfl Try.sizeOf39 rfl ?_)
                      intro w91 hO92
                      refine LW.value (.free rfl) rfl (fun _ r => R.assign (r.e rfl)) ?_
                      refine LW.nil (EW.then (?_))
                      refine CW.ret ?_
                      refine EW.retct (vs := [.int .i64 0, .int .i64 0]) rfl rfl rfl Try.isAgg39 Try.sizeOf39 (hO92.cells (i := 0) rfl rfl) ?_
                      exact ⟨by simp [ansP, h9, h14, h19, h53, h54, h66, h71, h76, h85, h86, show ¬ (d = 0) from by omega, show ¬ (d < 0) from by omega, show ¬ (5 < d) from by omega, show ¬ (d = 1) from by omega, show ¬ (d = 2) from by omega, show ¬ (d = 3) from by omega, show ¬ (d = 4) from by omega, show (d = 5) from by omega, show (off < 0) from by omega, show findP X h = some x37.q from by rw [← hx39]; exact hM.some (by simp), Ob.q], ((hO92.pick [2, 2, 2, 2, 2, 2, 2, 2] rfl).perm' (List.Perm.of_eq (by simp [mseg, obs_mid, obs_app, obs_one, Ob.st, Ob.by_, Ob.ent, obs])))⟩
          · -- not: off < 0
            refine HP.take rfl (.yes rfl rfl (kb (dF h53))) rfl hI52 (fun _ r _ hI => R.fieldAddr (k := 2) (r.e rfl) Try.runUnderlying36 rfl Try.sizeOf3 rfl) ?_
            refine HP.take rfl (.yes rfl rfl (kb (dF h53))) rfl hI52 (fun _ r _ hI => R.load1 (r.e rfl) Try.isAgg3 (hI.cell (i := 1) rfl rfl)) ?_
            refine HP.take rfl (.yes rfl rfl (kb (dF h53))) rfl hI52 (fun _ r _ hI => R.move (r.e rfl)) ?_
            refine HP.take rfl (.yes rfl rfl (kb (dF h53))) rfl hI52 (fun _ r _ hI => R.nilCheck (r.e rfl)) ?_
            refine HP.take rfl (.yes rfl rfl (kb (dF h53))) rfl hI52 (fun _ r _ hI => R.fieldAddr (k := 0) (r.e rfl) Try.runUnderlying111 rfl Try.sizeOf109 rfl) ?_
            refine HP.take rfl (.yes rfl rfl (kb (dF h53))) rfl hI52 (fun _ r _ hI => R.load1 (r.e rfl) Try.isAgg109 (hI.cell (i := 6) rfl rfl)) ?_
            refine HP.take rfl (.yes rfl rfl (kb (dF h53))) rfl hI52 (fun _ r _ hI => R.len_slice (r.e rfl) Try.runUnderlying109) ?_
            refine HP.take rfl (.yes rfl rfl (kb (dF h53))) rfl hI52 (fun _ r _ hI => R.geq (r.e rfl) (r.e rfl)) ?_
            refine HP.take rfl (.yes rfl rfl rfl) rfl hI52 (fun _ r _ hI => R.pick_no (r.e (kb (dF h53))) (r.e rfl)) ?_
            refine HP.take rfl (.free rfl) rfl hI52 (fun _ r _ hI => R.pick_yes (r.e rfl) (r.e rfl)) ?_
            refine HP.take rfl (.free rfl) rfl hI52 (fun _ r _ hI => R.assign (r.e rfl)) ?_
            refine HP.done (EW.then (?_))
            refine CW.seq ?_
            refine CW.block ?_
            refine CW.seq ?_
            refine CW.region ?_
            refine LW.value (.free rfl) rfl (fun _ r => R.move (r.e rfl)) ?_
            refine LW.value (.free rfl) rfl (fun _ r => R.not (r.e rfl)) ?_
            refine LW.value (.free rfl) rfl (fun _ r => R.assign (r.e rfl)) ?_
            refine LW.nil (EW.then (?_))
            refine CW.no rfl ?_
            refine CW.seq ?_
            refine CW.region ?_
            refine LW.value (.free rfl) rfl (fun _ r => R.fieldAddr (k := 0) (r.e rfl) Try.runUnderlying36 rfl Try.sizeOf3 rfl) ?_
            refine LW.value (.free rfl) rfl (fun _ r => R.load1 (r.e rfl) Try.isAgg3 (hO51.cell (i := 1) rfl rfl)) ?_
            refine LW.value (.free rfl) rfl (fun _ r => R.eql (r.e rfl) (r.e rfl)) ?_
            refine LW.value (.free rfl) rfl (fun _ r => R.move (r.e rfl)) ?_
            by_cases h93 : d = 1
            · -- d = 1
              refine LW.value (.yes rfl rfl (kb (dT h93))) rfl (fun _ r => R.move (r.e rfl)) ?_
              refine LW.value (.yes rfl rfl (kb (dT h93))) rfl (fun _ r => R.nilCheck (r.e rfl)) ?_
              refine LW.value (.yes rfl rfl (kb (dT h93))) rfl (fun _ r => R.fieldAddr (k := 1) (r.e rfl) Try.runUnderlying111 rfl Try.sizeOf3 rfl) ?_
              refine LW.value (.yes rfl rfl (kb (dT h93))) rfl (fun _ r => R.load1 (r.e rfl) Try.isAgg3 (hO51.cell (i := 6) rfl rfl)) ?_
              refine LW.value (.yes rfl rfl (kb (dT h93))) rfl (fun _ r => R.gtr (r.e rfl) (r.e rfl)) ?_
              refine LW.value (.free rfl) rfl (fun _ r => R.pick_yes (r.e (kb (dT h93))) (r.e rfl)) ?_
              refine LW.value (.free rfl) rfl (fun _ r => R.assign (r.e rfl)) ?_
              refine LW.nil (EW.then (?_))
              by_cases h94 : 0 < x37.pins
              · -- 0 < x37.pins
                refine CW.yes (kb (dT h94)) ?_
                refine CW.seq ?_
                refine CW.region ?_
                refine LW.op (.free rfl) (OW.calls rfl (fun _ r => R.call (vs := [.int .i64 6]) Try.call64 rfl ⟨r.e rfl, trivial⟩) (v_code 6 _ _ (hO51.frame [] rfl)) ?_)
                rintro _ w95 ⟨rfl, hO96⟩
                replace hO96 := hO96.unframe0
                refine LW.value (.free rfl) rfl (fun _ r => R.extract (r.e rfl) rfl) ?_
                refine LW.value (.free rfl) rfl (fun _ r => R.extract (r.e rfl) rfl) ?_
                refine LW.op (.free rfl) (OW.storeall (i := 0) (vs := [.int .i64 6, .int .i64 0]) rfl hO96 rfl rfl rfl rfl Try.sizeOf39 rfl ?_)
                intro w97 hO98
                refine LW.value (.free rfl) rfl (fun _ r => R.assign (r.e rfl)) ?_
                refine LW.nil (EW.then (?_))
                refine CW.ret (EW.inB_ret (EW.then_ret (?_)))
                refine EW.retct (vs := [.int .i64 6, .int .i64 0]) rfl rfl rfl Try.isAgg39 Try.sizeOf39 (hO98.cells (i := 0) rfl rfl) ?_
                exact ⟨by simp [ansP, h9, h14, h19, h53, h93, h94, show ¬ (d = 0) from by omega, show ¬ (d < 0) from by omega, show ¬ (5 < d) from by omega, show (d = 1) from by omega, show ¬ (d = 2) from by omega, show ¬ (d = 3) from by omega, show ¬ (d = 4) from by omega, show ¬ (d = 5) from by omega, show ¬ (off < 0) from by omega, show findP X h = some x37.q from by rw [← hx39]; exact hM.some (by simp), Ob.q], ((hO98.pick [2, 2, 2, 2, 2, 2, 2, 2] rfl).perm' (List.Perm.of_eq (by simp [mseg, obs_mid, obs_app, obs_one, Ob.st, Ob.by_, Ob.ent, obs])))⟩
              · -- not: 0 < x37.pins
                refine CW.no (kb (dF h94)) ?_
                refine CW.seq ?_
                refine CW.region ?_
                refine LW.value (.free rfl) rfl (fun _ r => R.fieldAddr (k := 0) (r.e rfl) Try.runUnderlying36 rfl Try.sizeOf3 rfl) ?_
                refine LW.value (.free rfl) rfl (fun _ r => R.load1 (r.e rfl) Try.isAgg3 (hO51.cell (i := 1) rfl rfl)) ?_
                refine LW.value (.free rfl) rfl (fun _ r => R.eql (r.e rfl) (r.e rfl)) ?_
                refine LW.value (.free rfl) rfl (fun _ r => R.move (r.e rfl)) ?_
                have h99 : ¬ (d = 2) := by omega
                refine LW.value (.yes rfl rfl (kb (dF h99))) rfl (fun _ r => R.fieldAddr (k := 0) (r.e rfl) Try.runUnderlying36 rfl Try.sizeOf3 rfl) ?_
                refine LW.value (.yes rfl rfl (kb (dF h99))) rfl (fun _ r => R.load1 (r.e rfl) Try.isAgg3 (hO51.cell (i := 1) rfl rfl)) ?_
                refine LW.value (.yes rfl rfl (kb (dF h99))) rfl (fun _ r => R.eql (r.e rfl) (r.e rfl)) ?_
                refine LW.value (.free rfl) rfl (fun _ r => R.pick_no (r.e (kb (dF h99))) (r.e rfl)) ?_
                refine LW.value (.free rfl) rfl (fun _ r => R.move (r.e rfl)) ?_
                have h100 : ¬ (d = 3) := by omega
                refine LW.off (.no rfl rfl (kb (dF h100))) rfl ?_
                refine LW.value (.free rfl) rfl (fun _ r => R.pick_no (r.e (kb (dF h100))) (r.e rfl)) ?_
                refine LW.value (.free rfl) rfl (fun _ r => R.assign (r.e rfl)) ?_
                refine LW.nil (EW.then (?_))
                refine CW.no rfl ?_
                refine CW.seq ?_
                refine CW.region ?_
                refine LW.value (.free rfl) rfl (fun _ r => R.fieldAddr (k := 0) (r.e rfl) Try.runUnderlying36 rfl Try.sizeOf3 rfl) ?_
                refine LW.value (.free rfl) rfl (fun _ r => R.load1 (r.e rfl) Try.isAgg3 (hO51.cell (i := 1) rfl rfl)) ?_
                refine LW.value (.free rfl) rfl (fun _ r => R.eql (r.e rfl) (r.e rfl)) ?_
                refine LW.value (.free rfl) rfl (fun _ r => R.assign (r.e rfl)) ?_
                refine LW.nil (EW.then (?_))
                refine CW.no (kb (dF h99)) ?_
                refine CW.seq ?_
                refine CW.region ?_
                refine LW.value (.free rfl) rfl (fun _ r => R.fieldAddr (k := 0) (r.e rfl) Try.runUnderlying36 rfl Try.sizeOf3 rfl) ?_
                refine LW.value (.free rfl) rfl (fun _ r => R.load1 (r.e rfl) Try.isAgg3 (hO51.cell (i := 1) rfl rfl)) ?_
                refine LW.value (.free rfl) rfl (fun _ r => R.eql (r.e rfl) (r.e rfl)) ?_
                refine LW.value (.free rfl) rfl (fun _ r => R.move (r.e rfl)) ?_
                have h101 : ¬ (d = 4) := by omega
                refine LW.off (.no rfl rfl (kb (dF h101))) rfl ?_
                refine LW.off (.no rfl rfl (kb (dF h101))) rfl ?_
                refine LW.off (.no rfl rfl (kb (dF h101))) rfl ?_
                refine LW.off (.no rfl rfl (kb (dF h101))) rfl ?_
                refine LW.off (.no rfl rfl (kb (dF h101))) rfl ?_
                refine LW.value (.free rfl) rfl (fun _ r => R.pick_no (r.e (kb (dF h101))) (r.e rfl)) ?_
                refine LW.value (.free rfl) rfl (fun _ r => R.assign (r.e rfl)) ?_
                refine LW.nil (EW.then (?_))
                refine CW.no rfl ?_
                refine CW.seq ?_
                refine CW.region ?_
                refine LW.value (.free rfl) rfl (fun _ r => R.fieldAddr (k := 0) (r.e rfl) Try.runUnderlying36 rfl Try.sizeOf3 rfl) ?_
                refine LW.value (.free rfl) rfl (fun _ r => R.load1 (r.e rfl) Try.isAgg3 (hO51.cell (i := 1) rfl rfl)) ?_
                refine LW.value (.free rfl) rfl (fun _ r => R.eql (r.e rfl) (r.e rfl)) ?_
                refine LW.value (.free rfl) rfl (fun _ r => R.move (r.e rfl)) ?_
                have h102 : ¬ (d = 5) := by omega
                refine LW.off (.no rfl rfl (kb (dF h102))) rfl ?_
                refine LW.off (.no rfl rfl (kb (dF h102))) rfl ?_
                refine LW.off (.no rfl rfl (kb (dF h102))) rfl ?_
                refine LW.off (.no rfl rfl (kb (dF h102))) rfl ?_
                refine LW.off (.no rfl rfl (kb (dF h102))) rfl ?_
                refine LW.value (.free rfl) rfl (fun _ r => R.pick_no (r.e (kb (dF h102))) (r.e rfl)) ?_
                refine LW.value (.free rfl) rfl (fun _ r => R.assign (r.e rfl)) ?_
                refine LW.nil (EW.then (?_))
                refine CW.no rfl ?_
                refine CW.skip (EW.inB_normal (EW.then (?_)))
                refine CW.seq ?_
                refine CW.region ?_
                refine LW.value (.free rfl) rfl (fun _ r => R.build (v := .agg #[.int .i64 0, .int .i64 0]) (vs := []) trivial (by simp [go_sem])) ?_
                refine LW.op (.free rfl) (OW.storeall (i := 0) (vs := [.int .i64 0, .int .i64 0]) rfl hO51 rfl rfl rfl rfl Try.sizeOf39 rfl ?_)
                intro w103 hO104
                refine LW.value (.free rfl) rfl (fun _ r => R.assign (r.e rfl)) ?_
                refine LW.nil (EW.then (?_))
                refine CW.ret ?_
                refine EW.retct (vs := [.int .i64 0, .int .i64 0]) rfl rfl rfl Try.isAgg39 Try.sizeOf39 (hO104.cells (i := 0) rfl rfl) ?_
                exact ⟨by simp [ansP, h9, h14, h19, h53, h93, h94, h99, h100, h101, h102, show ¬ (d = 0) from by omega, show ¬ (d < 0) from by omega, show ¬ (5 < d) from by omega, show (d = 1) from by omega, show ¬ (d = 2) from by omega, show ¬ (d = 3) from by omega, show ¬ (d = 4) from by omega, show ¬ (d = 5) from by omega, show ¬ (off < 0) from by omega, show findP X h = some x37.q from by rw [← hx39]; exact hM.some (by simp), Ob.q], ((hO104.pick [2, 2, 2, 2, 2, 2, 2, 2] rfl).perm' (List.Perm.of_eq (by simp [mseg, obs_mid, obs_app, obs_one, Ob.st, Ob.by_, Ob.ent, obs])))⟩
            · -- not: d = 1
              refine LW.off (.no rfl rfl (kb (dF h93))) rfl ?_
              refine LW.off (.no rfl rfl (kb (dF h93))) rfl ?_
              refine LW.off (.no rfl rfl (kb (dF h93))) rfl ?_
              refine LW.off (.no rfl rfl (kb (dF h93))) rfl ?_
              refine LW.off (.no rfl rfl (kb (dF h93))) rfl ?_
              refine LW.value (.free rfl) rfl (fun _ r => R.pick_no (r.e (kb (dF h93))) (r.e rfl)) ?_
              refine LW.value (.free rfl) rfl (fun _ r => R.assign (r.e rfl)) ?_
              refine LW.nil (EW.then (?_))
              refine CW.no rfl ?_
              refine CW.seq ?_
              refine CW.region ?_
              refine LW.value (.free rfl) rfl (fun _ r => R.fieldAddr (k := 0) (r.e rfl) Try.runUnderlying36 rfl Try.sizeOf3 rfl) ?_
              refine LW.value (.free rfl) rfl (fun _ r => R.load1 (r.e rfl) Try.isAgg3 (hO51.cell (i := 1) rfl rfl)) ?_
              refine LW.value (.free rfl) rfl (fun _ r => R.eql (r.e rfl) (r.e rfl)) ?_
              refine LW.value (.free rfl) rfl (fun _ r => R.move (r.e rfl)) ?_
              by_cases h105 : d = 2
              · -- d = 2
                refine LW.off (.no rfl rfl (kb (dT h105))) rfl ?_
                refine LW.off (.no rfl rfl (kb (dT h105))) rfl ?_
                refine LW.off (.no rfl rfl (kb (dT h105))) rfl ?_
                refine LW.value (.free rfl) rfl (fun _ r => R.pick_yes (r.e (kb (dT h105))) (r.e rfl)) ?_
                refine LW.value (.free rfl) rfl (fun _ r => R.move (r.e rfl)) ?_
                refine LW.value (.yes rfl rfl rfl) rfl (fun _ r => R.move (r.e rfl)) ?_
                refine LW.value (.free rfl) rfl (fun _ r => R.pick_yes (r.e rfl) (r.e rfl)) ?_
                refine LW.value (.free rfl) rfl (fun _ r => R.assign (r.e rfl)) ?_
                refine LW.nil (EW.then (?_))
                by_cases h106 : (x37.b.length : Int) ≤ off
                · -- (x37.b.length : Int) ≤ off
                  refine CW.yes (kb (dT h106)) ?_
                  refine CW.seq ?_
                  refine CW.region ?_
                  refine LW.op (.free rfl) (OW.calls rfl (fun _ r => R.call (vs := [.int .i64 5]) Try.call64 rfl ⟨r.e rfl, trivial⟩) (v_code 5 _ _ (hO51.frame [] rfl)) ?_)
                  rintro _ w107 ⟨rfl, hO108⟩
                  replace hO108 := hO108.unframe0
                  refine LW.value (.free rfl) rfl (fun _ r => R.extract (r.e rfl) rfl) ?_
                  refine LW.value (.free rfl) rfl (fun _ r => R.extract (r.e rfl) rfl) ?_
                  refine LW.op (.free rfl) (OW.storeall (i := 0) (vs := [.int .i64 5, .int .i64 0]) rfl hO108 rfl rfl rfl rfl Try.sizeOf39 rfl ?_)
                  intro w109 hO110
                  refine LW.value (.free rfl) rfl (fun _ r => R.assign (r.e rfl)) ?_
                  refine LW.nil (EW.then (?_))
                  refine CW.ret (EW.inB_ret (EW.then_ret (?_)))
                  refine EW.retct (vs := [.int .i64 5, .int .i64 0]) rfl rfl rfl Try.isAgg39 Try.sizeOf39 (hO110.cells (i := 0) rfl rfl) ?_
                  exact ⟨by simp [ansP, h9, h14, h19, h53, h93, h105, h106, show ¬ (d = 0) from by omega, show ¬ (d < 0) from by omega, show ¬ (5 < d) from by omega, show ¬ (d = 1) from by omega, show (d = 2) from by omega, show ¬ (d = 3) from by omega, show ¬ (d = 4) from by omega, show ¬ (d = 5) from by omega, show ¬ (off < 0) from by omega, show findP X h = some x37.q from by rw [← hx39]; exact hM.some (by simp), Ob.q], ((hO110.pick [2, 2, 2, 2, 2, 2, 2, 2] rfl).perm' (List.Perm.of_eq (by simp [mseg, obs_mid, obs_app, obs_one, Ob.st, Ob.by_, Ob.ent, obs])))⟩
                · -- not: (x37.b.length : Int) ≤ off
                  refine CW.no (kb (dF h106)) ?_
                  refine CW.seq ?_
                  refine CW.region ?_
                  refine LW.value (.free rfl) rfl (fun _ r => R.fieldAddr (k := 0) (r.e rfl) Try.runUnderlying36 rfl Try.sizeOf3 rfl) ?_
                  refine LW.value (.free rfl) rfl (fun _ r => R.load1 (r.e rfl) Try.isAgg3 (hO51.cell (i := 1) rfl rfl)) ?_
                  refine LW.value (.free rfl) rfl (fun _ r => R.eql (r.e rfl) (r.e rfl)) ?_
                  refine LW.value (.free rfl) rfl (fun _ r => R.assign (r.e rfl)) ?_
                  refine LW.nil (EW.then (?_))
                  refine CW.yes (kb (dT h105)) ?_
                  refine CW.seq ?_
                  refine HP.start (I := fun w' => Own w' [[(b3, .cells #[.int .i64 d, .int .i64 h, .int .i64 off, .int .i64 n] 36 (0, 0))], [(pm, .cells #[.map (some bo), .map (some bt)] 95 (0, 0))], [(bo, mobj ((A36 ++ x37 :: B38).map Ob.ent) c)], [(bt, mobj U cu)], obs A36, [(x37.p, .cells #[.slice (some ⟨x37.bb, 0, none⟩) x37.b.length x37.cap, .int .i64 x37.pins] 111 (0, 0))], [(x37.bb, .cells (x37.b.flatMap encU ++ x37.rest).toArray 5 (0, 0))], obs B38, F]) (.take 0 (.take 1 (.take 2 (.take 3 (.take 4 (.take 5 (.take 6 (.take 7 (.take 8 (.take 9 (.one 10 (.take 11 (.done))))))))))))) Try.mixed (by intro c d v a w h; cases d <;> exact h) hO51 (by kernel_rfl) ?_
                  intro w112 hO113
                  have hI114 := hO113.pick [1, 1, 1, 1, 1, 1, 1, 1, 1] rfl
                  refine HP.take rfl (.free rfl) rfl hI114 (fun _ r _ hI => R.move (r.e rfl)) ?_
                  refine HP.take rfl (.free rfl) rfl hI114 (fun _ r _ hI => R.nilCheck (r.e rfl)) ?_
                  refine HP.take rfl (.free rfl) rfl hI114 (fun _ r _ hI => R.fieldAddr (k := 0) (r.e rfl) Try.runUnderlying111 rfl Try.sizeOf109 rfl) ?_
                  refine HP.take rfl (.free rfl) rfl hI114 (fun _ r _ hI => R.load1 (r.e rfl) Try.isAgg109 (hI.cell (i := 5) rfl rfl)) ?_
                  refine HP.take rfl (.free rfl) rfl hI114 (fun _ r _ hI => R.fieldAddr (k := 2) (r.e rfl) Try.runUnderlying36 rfl Try.sizeOf3 rfl) ?_
                  refine HP.take rfl (.free rfl) rfl hI114 (fun _ r _ hI => R.load1 (r.e rfl) Try.isAgg3 (hI.cell (i := 0) rfl rfl)) ?_
                  have hl115 : off.toNat < x37.b.length := by omega
                  refine HP.take rfl (.free rfl) rfl hI114 (fun _ r _ hI => R.indexAddr (k := off.toNat) (r.e rfl) (r.e rfl) Try.runUnderlying109 Try.sizeOf5 (by omega) (by omega) (by simp)) ?_
                  have hbhl115 := ho5 _ (getD_mem hl115)
                  refine HP.take rfl (.free rfl) rfl hI114 (fun _ r _ hI => R.load1 (r.e rfl) Try.isAgg5 (hI.cell (i := 6) rfl (byte_at hl115))) ?_
                  refine HP.take rfl (.free rfl) rfl hI114 (fun _ r _ hI => R.as (R.convert_int (r.e rfl) Try.runUnderlying5 Try.runUnderlying3) (congrArg (Value.int .i64) (wrap_i64 (by omega) (by omega)))) ?_
                  refine HP.take rfl (.free rfl) rfl hI114 (fun _ r _ hI => R.build (v := .agg #[.int .i64 0, .int .i64 (x37.b.getD off.toNat 0)]) (vs := [(1, .int .i64 (x37.b.getD off.toNat 0))]) ⟨⟨r.e rfl, rfl⟩, trivial⟩ (by simp [go_sem])) ?_
                  refine HP.one rfl (.free rfl) (OW.storeall (i := 0) (vs := [.int .i64 0, .int .i64 (x37.b.getD off.toNat 0)]) rfl hO113 rfl rfl rfl rfl Try.sizeOf39 rfl ?_)
                  intro w116 hO117
                  have hI118 := hO117.pick [1, 1, 1, 1, 1, 1, 1, 1, 1] rfl
                  refine ⟨hI118, ?_⟩
                  refine HP.take rfl (.free rfl) rfl hI118 (fun _ r _ hI => R.assign (r.e rfl)) ?_
                  refine HP.done (EW.then (?_))
                  refine CW.ret (EW.inB_ret (EW.then_ret (?_)))
                  refine EW.retct (vs := [.int .i64 0, .int .i64 (x37.b.getD off.toNat 0)]) rfl rfl rfl Try.isAgg39 Try.sizeOf39 (hO117.cells (i := 0) rfl rfl) ?_
                  exact ⟨by simp [ansP, h9, h14, h19, h53, h93, h105, h106, show ¬ (d = 0) from by omega, show ¬ (d < 0) from by omega, show ¬ (5 < d) from by omega, show ¬ (d = 1) from by omega, show (d = 2) from by omega, show ¬ (d = 3) from by omega, show ¬ (d = 4) from by omega, show ¬ (d = 5) from by omega, show ¬ (off < 0) from by omega, show findP X h = some x37.q from by rw [← hx39]; exact hM.some (by simp), Ob.q], ((hO117.pick [2, 2, 2, 2, 2, 2, 2, 2] rfl).perm' (List.Perm.of_eq (by simp [mseg, obs_mid, obs_app, obs_one, Ob.st, Ob.by_, Ob.ent, obs])))⟩
              · -- not: d = 2
                refine LW.value (.yes rfl rfl (kb (dF h105))) rfl (fun _ r => R.fieldAddr (k := 0) (r.e rfl) Try.runUnderlying36 rfl Try.sizeOf3 rfl) ?_
                refine LW.value (.yes rfl rfl (kb (dF h105))) rfl (fun _ r => R.load1 (r.e rfl) Try.isAgg3 (hO51.cell (i := 1) rfl rfl)) ?_
                refine LW.value (.yes rfl rfl (kb (dF h105))) rfl (fun _ r => R.eql (r.e rfl) (r.e rfl)) ?_
                refine LW.value (.free rfl) rfl (fun _ r => R.pick_no (r.e (kb (dF h105))) (r.e rfl)) ?_
                refine LW.value (.free rfl) rfl (fun _ r => R.move (r.e rfl)) ?_
                by_cases h119 : d = 3
                · -- d = 3
                  refine LW.value (.yes rfl rfl (kb (dT h119))) rfl (fun _ r => R.move (r.e rfl)) ?_
                  refine LW.value (.free rfl) rfl (fun _ r => R.pick_yes (r.e (kb (dT h119))) (r.e rfl)) ?_
                  refine LW.value (.free rfl) rfl (fun _ r => R.assign (r.e rfl)) ?_
                  refine LW.nil (EW.then (?_))
                  by_cases h120 : (x37.b.length : Int) ≤ off
                  · -- (x37.b.length : Int) ≤ off
                    refine CW.yes (kb (dT h120)) ?_
                    refine CW.seq ?_
                    refine CW.region ?_
                    refine LW.op (.free rfl) (OW.calls rfl (fun _ r => R.call (vs := [.int .i64 5]) Try.call64 rfl ⟨r.e rfl, trivial⟩) (v_code 5 _ _ (hO51.frame [] rfl)) ?_)
                    rintro _ w121 ⟨rfl, hO122⟩
                    replace hO122 := hO122.unframe0
                    refine LW.value (.free rfl) rfl (fun _ r => R.extract (r.e rfl) rfl) ?_
                    refine LW.value (.free rfl) rfl (fun _ r => R.extract (r.e rfl) rfl) ?_
                    refine LW.op (.free rfl) (OW.storeall (i := 0) (vs := [.int .i64 5, .int .i64 0]) rfl hO122 rfl rfl rfl rfl Try.sizeOf39 rfl ?_)
                    intro w123 hO124
                    refine LW.value (.free rfl) rfl (fun _ r => R.assign (r.e rfl)) ?_
                    refine LW.nil (EW.then (?_))
                    refine CW.ret (EW.inB_ret (EW.then_ret (?_)))
                    refine EW.retct (vs := [.int .i64 5, .int .i64 0]) rfl rfl rfl Try.isAgg39 Try.sizeOf39 (hO124.cells (i := 0) rfl rfl) ?_
                    exact ⟨by simp [ansP, h9, h14, h19, h53, h93, h105, h119, h120, show ¬ (d = 0) from by omega, show ¬ (d < 0) from by omega, show ¬ (5 < d) from by omega, show ¬ (d = 1) from by omega, show ¬ (d = 2) from by omega, show (d = 3) from by omega, show ¬ (d = 4) from by omega, show ¬ (d = 5) from by omega, show ¬ (off < 0) from by omega, show findP X h = some x37.q from by rw [← hx39]; exact hM.some (by simp), Ob.q], ((hO124.pick [2, 2, 2, 2, 2, 2, 2, 2] rfl).perm' (List.Perm.of_eq (by simp [mseg, obs_mid, obs_app, obs_one, Ob.st, Ob.by_, Ob.ent, obs])))⟩
                  · -- not: (x37.b.length : Int) ≤ off
                    refine CW.no (kb (dF h120)) ?_
                    refine CW.seq ?_
                    refine CW.region ?_
                    refine LW.value (.free rfl) rfl (fun _ r => R.fieldAddr (k := 0) (r.e rfl) Try.runUnderlying36 rfl Try.sizeOf3 rfl) ?_
                    refine LW.value (.free rfl) rfl (fun _ r => R.load1 (r.e rfl) Try.isAgg3 (hO51.cell (i := 1) rfl rfl)) ?_
                    refine LW.value (.free rfl) rfl (fun _ r => R.eql (r.e rfl) (r.e rfl)) ?_
                    refine LW.value (.free rfl) rfl (fun _ r => R.assign (r.e rfl)) ?_
                    refine LW.nil (EW.then (?_))
                    refine CW.no (kb (dF h105)) ?_
                    refine CW.seq ?_
                    refine CW.region ?_
                    refine LW.value (.free rfl) rfl (fun _ r => R.fieldAddr (k := 0) (r.e rfl) Try.runUnderlying36 rfl Try.sizeOf3 rfl) ?_
                    refine LW.value (.free rfl) rfl (fun _ r => R.load1 (r.e rfl) Try.isAgg3 (hO51.cell (i := 1) rfl rfl)) ?_
                    refine LW.value (.free rfl) rfl (fun _ r => R.eql (r.e rfl) (r.e rfl)) ?_
                    refine LW.value (.free rfl) rfl (fun _ r => R.move (r.e rfl)) ?_
                    have h125 : ¬ (d = 4) := by omega
                    refine LW.off (.no rfl rfl (kb (dF h125))) rfl ?_
                    refine LW.off (.no rfl rfl (kb (dF h125))) rfl ?_
                    refine LW.off (.no rfl rfl (kb (dF h125))) rfl ?_
                    refine LW.off (.no rfl rfl (kb (dF h125))) rfl ?_
                    refine LW.off (.no rfl rfl (kb (dF h125))) rfl ?_
                    refine LW.value (.free rfl) rfl (fun _ r => R.pick_no (r.e (kb (dF h125))) (r.e rfl)) ?_
                    refine LW.value (.free rfl) rfl (fun _ r => R.assign (r.e rfl)) ?_
                    refine LW.nil (EW.then (?_))
                    refine CW.no rfl ?_
                    refine CW.seq ?_
                    refine CW.region ?_
                    refine LW.value (.free rfl) rfl (fun _ r => R.fieldAddr (k := 0) (r.e rfl) Try.runUnderlying36 rfl Try.sizeOf3 rfl) ?_
                    refine LW.value (.free rfl) rfl (fun _ r => R.load1 (r.e rfl) Try.isAgg3 (hO51.cell (i := 1) rfl rfl)) ?_
                    refine LW.value (.free rfl) rfl (fun _ r => R.eql (r.e rfl) (r.e rfl)) ?_
                    refine LW.value (.free rfl) rfl (fun _ r => R.move (r.e rfl)) ?_
                    have h126 : ¬ (d = 5) := by omega
                    refine LW.off (.no rfl rfl (kb (dF h126))) rfl ?_
                    refine LW.off (.no rfl rfl (kb (dF h126))) rfl ?_
                    refine LW.off (.no rfl rfl (kb (dF h126))) rfl ?_
                    refine LW.off (.no rfl rfl (kb (dF h126))) rfl ?_
                    refine LW.off (.no rfl rfl (kb (dF h126))) rfl ?_
                    refine LW.value (.free rfl) rfl (fun _ r => R.pick_no (r.e (kb (dF h126))) (r.e rfl)) ?_
                    refine LW.value (.free rfl) rfl (fun _ r => R.assign (r.e rfl)) ?_
                    refine LW.nil (EW.then (?_))
                    refine CW.no rfl ?_
                    refine CW.skip (EW.inB_normal (EW.then (?_)))
                    refine CW.seq ?_
                    refine CW.region ?_
                    refine LW.value (.free rfl) rfl (fun _ r => R.build (v := .agg #[.int .i64 0, .int .i64 0]) (vs := []) trivial (by simp [go_sem])) ?_
                    refine LW.op (.free rfl) (OW.storeall (i := 0) (vs := [.int .i64 0, .int .i64 0]) rfl hO51 rfl rfl rfl rfl Try.sizeOf39 rfl ?_)
                    intro w127 hO128
                    refine LW.value (.free rfl) rfl (fun _ r => R.assign (r.e rfl)) ?_
                    refine LW.nil (EW.then (?_))
                    refine CW.ret ?_
                    refine EW.retct (vs := [.int .i64 0, .int .i64 0]) rfl rfl rfl Try.isAgg39 Try.sizeOf39 (hO128.cells (i := 0) rfl rfl) ?_
                    exact ⟨by simp [ansP, h9, h14, h19, h53, h93, h105, h119, h120, h125, h126, show ¬ (d = 0) from by omega, show ¬ (d < 0) from by omega, show ¬ (5 < d) from by omega, show ¬ (d = 1) from by omega, show ¬ (d = 2) from by omega, show (d = 3) from by omega, show ¬ (d = 4) from by omega, show ¬ (d = 5) from by omega, show ¬ (off < 0) from by omega, show findP X h = some x37.q from by rw [← hx39]; exact hM.some (by simp), Ob.q], ((hO128.pick [2, 2, 2, 2, 2, 2, 2, 2] rfl).perm' (List.Perm.of_eq (by simp [mseg, obs_mid, obs_app, obs_one, Ob.st, Ob.by_, Ob.ent, obs])))⟩
                · -- not: d = 3
                  refine LW.off (.no rfl rfl (kb (dF h119))) rfl ?_
                  refine LW.value (.free rfl) rfl (fun _ r => R.pick_no (r.e (kb (dF h119))) (r.e rfl)) ?_
                  refine LW.value (.free rfl) rfl (fun _ r => R.assign (r.e rfl)) ?_
                  refine LW.nil (EW.then (?_))
                  refine CW.no rfl ?_
                  refine CW.seq ?_
                  refine CW.region ?_
                  refine LW.value (.free rfl) rfl (fun _ r => R.fieldAddr (k := 0) (r.e rfl) Try.runUnderlying36 rfl Try.sizeOf3 rfl) ?_
                  refine LW.value (.free rfl) rfl (fun _ r => R.load1 (r.e rfl) Try.isAgg3 (hO51.cell (i := 1) rfl rfl)) ?_
                  refine LW.value (.free rfl) rfl (fun _ r => R.eql (r.e rfl) (r.e rfl)) ?_
                  refine LW.value (.free rfl) rfl (fun _ r => R.assign (r.e rfl)) ?_
                  refine LW.nil (EW.then (?_))
                  refine CW.no (kb (dF h105)) ?_
                  refine CW.seq ?_
                  refine CW.region ?_
                  refine LW.value (.free rfl) rfl (fun _ r => R.fieldAddr (k := 0) (r.e rfl) Try.runUnderlying36 rfl Try.sizeOf3 rfl) ?_
                  refine LW.value (.free rfl) rfl (fun _ r => R.load1 (r.e rfl) Try.isAgg3 (hO51.cell (i := 1) rfl rfl)) ?_
                  refine LW.value (.free rfl) rfl (fun _ r => R.eql (r.e rfl) (r.e rfl)) ?_
                  refine LW.value (.free rfl) rfl (fun _ r => R.move (r.e rfl)) ?_
                  by_cases h129 : d = 4
                  · -- d = 4
                    refine LW.value (.yes rfl rfl (kb (dT h129))) rfl (fun _ r => R.move (r.e rfl)) ?_
                    refine LW.value (.yes rfl rfl (kb (dT h129))) rfl (fun _ r => R.nilCheck (r.e rfl)) ?_
                    refine LW.value (.yes rfl rfl (kb (dT h129))) rfl (fun _ r => R.fieldAddr (k := 1) (r.e rfl) Try.runUnderlying111 rfl Try.sizeOf3 rfl) ?_
                    refine LW.value (.yes rfl rfl (kb (dT h129))) rfl (fun _ r => R.load1 (r.e rfl) Try.isAgg3 (hO51.cell (i := 6) rfl rfl)) ?_
                    refine LW.value (.yes rfl rfl (kb (dT h129))) rfl (fun _ r => R.eql (r.e rfl) (r.e rfl)) ?_
                    refine LW.value (.free rfl) rfl (fun _ r => R.pick_yes (r.e (kb (dT h129))) (r.e rfl)) ?_
                    refine LW.value (.free rfl) rfl (fun _ r => R.assign (r.e rfl)) ?_
                    refine LW.nil (EW.then (?_))
                    by_cases h130 : x37.pins = 7
                    · -- x37.pins = 7
                      refine CW.yes (kb (dT h130)) ?_
                      refine CW.seq ?_
                      refine CW.region ?_
                      refine LW.op (.free rfl) (OW.calls rfl (fun _ r => R.call (vs := [.int .i64 7]) Try.call64 rfl ⟨r.e rfl, trivial⟩) (v_code 7 _ _ (hO51.frame [] rfl)) ?_)
                      rintro _ w131 ⟨rfl, hO132⟩
                      replace hO132 := hO132.unframe0
                      refine LW.value (.free rfl) rfl (fun _ r => R.extract (r.e rfl) rfl) ?_
                      refine LW.value (.free rfl) rfl (fun _ r => R.extract (r.e rfl) rfl) ?_
                      refine LW.op (.free rfl) (OW.storeall (i := 0) (vs := [.int .i64 7, .int .i64 0]) rfl hO132 rfl rfl rfl rfl Try.sizeOf39 rfl ?_)
                      intro w133 hO134
                      refine LW.value (.free rfl) rfl (fun _ r => R.assign (r.e rfl)) ?_
                      refine LW.nil (EW.then (?_))
                      refine CW.ret (EW.inB_ret (EW.then_ret (?_)))
                      refine EW.retct (vs := [.int .i64 7, .int .i64 0]) rfl rfl rfl Try.isAgg39 Try.sizeOf39 (hO134.cells (i := 0) rfl rfl) ?_
                      exact ⟨by simp [ansP, h9, h14, h19, h53, h93, h105, h119, h129, h130, show ¬ (d = 0) from by omega, show ¬ (d < 0) from by omega, show ¬ (5 < d) from by omega, show ¬ (d = 1) from by omega, show ¬ (d = 2) from by omega, show ¬ (d = 3) from by omega, show (d = 4) from by omega, show ¬ (d = 5) from by omega, show ¬ (off < 0) from by omega, show findP X h = some x37.q from by rw [← hx39]; exact hM.some (by simp), Ob.q], ((hO134.pick [2, 2, 2, 2, 2, 2, 2, 2] rfl).perm' (List.Perm.of_eq (by simp [mseg, obs_mid, obs_app, obs_one, Ob.st, Ob.by_, Ob.ent, obs])))⟩
                    · -- not: x37.pins = 7
                      refine CW.no (kb (dF h130)) ?_
                      refine CW.seq ?_
                      refine CW.region ?_
                      refine LW.value (.free rfl) rfl (fun _ r => R.fieldAddr (k := 0) (r.e rfl) Try.runUnderlying36 rfl Try.sizeOf3 rfl) ?_
                      refine LW.value (.free rfl) rfl (fun _ r => R.load1 (r.e rfl) Try.isAgg3 (hO51.cell (i := 1) rfl rfl)) ?_
                      refine LW.value (.free rfl) rfl (fun _ r => R.eql (r.e rfl) (r.e rfl)) ?_
                      refine LW.value (.free rfl) rfl (fun _ r => R.move (r.e rfl)) ?_
                      have h135 : ¬ (d = 5) := by omega
                      refine LW.off (.no rfl rfl (kb (dF h135))) rfl ?_
                      refine LW.off (.no rfl rfl (kb (dF h135))) rfl ?_
                      refine LW.off (.no rfl rfl (kb (dF h135))) rfl ?_
                      refine LW.off (.no rfl rfl (kb (dF h135))) rfl ?_
                      refine LW.off (.no rfl rfl (kb (dF h135))) rfl ?_
                      refine LW.value (.free rfl) rfl (fun _ r => R.pick_no (r.e (kb (dF h135))) (r.e rfl)) ?_
                      refine LW.value (.free rfl) rfl (fun _ r => R.assign (r.e rfl)) ?_
                      refine LW.nil (EW.then (?_))
                      refine CW.no rfl ?_
                      refine CW.skip (EW.inB_normal (EW.then (?_)))
                      refine CW.seq ?_
                      refine CW.region ?_
                      refine LW.value (.free rfl) rfl (fun _ r => R.build (v := .agg #[.int .i64 0, .int .i64 0]) (vs := []) trivial (by simp [go_sem])) ?_
                      refine LW.op (.free rfl) (OW.storeall (i := 0) (vs := [.int .i64 0, .int .i64 0]) rfl hO51 rfl rfl rfl rfl Try.sizeOf39 rfl ?_)
                      intro w136 hO137
                      refine LW.value (.free rfl) rfl (fun _ r => R.assign (r.e rfl)) ?_
                      refine LW.nil (EW.then (?_))
                      refine CW.ret ?_
                      refine EW.retct (vs := [.int .i64 0, .int .i64 0]) rfl rfl rfl Try.isAgg39 Try.sizeOf39 (hO137.cells (i := 0) rfl rfl) ?_
                      exact ⟨by simp [ansP, h9, h14, h19, h53, h93, h105, h119, h129, h130, h135, show ¬ (d = 0) from by omega, show ¬ (d < 0) from by omega, show ¬ (5 < d) from by omega, show ¬ (d = 1) from by omega, show ¬ (d = 2) from by omega, show ¬ (d = 3) from by omega, show (d = 4) from by omega, show ¬ (d = 5) from by omega, show ¬ (off < 0) from by omega, show findP X h = some x37.q from by rw [← hx39]; exact hM.some (by simp), Ob.q], ((hO137.pick [2, 2, 2, 2, 2, 2, 2, 2] rfl).perm' (List.Perm.of_eq (by simp [mseg, obs_mid, obs_app, obs_one, Ob.st, Ob.by_, Ob.ent, obs])))⟩
                  · -- not: d = 4
                    refine LW.off (.no rfl rfl (kb (dF h129))) rfl ?_
                    refine LW.off (.no rfl rfl (kb (dF h129))) rfl ?_
                    refine LW.off (.no rfl rfl (kb (dF h129))) rfl ?_
                    refine LW.off (.no rfl rfl (kb (dF h129))) rfl ?_
                    refine LW.off (.no rfl rfl (kb (dF h129))) rfl ?_
                    refine LW.value (.free rfl) rfl (fun _ r => R.pick_no (r.e (kb (dF h129))) (r.e rfl)) ?_
                    refine LW.value (.free rfl) rfl (fun _ r => R.assign (r.e rfl)) ?_
                    refine LW.nil (EW.then (?_))
                    refine CW.no rfl ?_
                    refine CW.seq ?_
                    refine CW.region ?_
                    refine LW.value (.free rfl) rfl (fun _ r => R.fieldAddr (k := 0) (r.e rfl) Try.runUnderlying36 rfl Try.sizeOf3 rfl) ?_
                    refine LW.value (.free rfl) rfl (fun _ r => R.load1 (r.e rfl) Try.isAgg3 (hO51.cell (i := 1) rfl rfl)) ?_
                    refine LW.value (.free rfl) rfl (fun _ r => R.eql (r.e rfl) (r.e rfl)) ?_
                    refine LW.value (.free rfl) rfl (fun _ r => R.move (r.e rfl)) ?_
                    have h138 : d = 5 := by omega
                    refine LW.value (.yes rfl rfl (kb (dT h138))) rfl (fun _ r => R.move (r.e rfl)) ?_
                    refine LW.value (.yes rfl rfl (kb (dT h138))) rfl (fun _ r => R.nilCheck (r.e rfl)) ?_
                    refine LW.value (.yes rfl rfl (kb (dT h138))) rfl (fun _ r => R.fieldAddr (k := 1) (r.e rfl) Try.runUnderlying111 rfl Try.sizeOf3 rfl) ?_
                    refine LW.value (.yes rfl rfl (kb (dT h138))) rfl (fun _ r => R.load1 (r.e rfl) Try.isAgg3 (hO51.cell (i := 6) rfl rfl)) ?_
                    refine LW.value (.yes rfl rfl (kb (dT h138))) rfl (fun _ r => R.eql (r.e rfl) (r.e rfl)) ?_
                    refine LW.value (.free rfl) rfl (fun _ r => R.pick_yes (r.e (kb (dT h138))) (r.e rfl)) ?_
                    refine LW.value (.free rfl) rfl (fun _ r => R.assign (r.e rfl)) ?_
                    refine LW.nil (EW.then (?_))
                    by_cases h139 : x37.pins = 0
                    · -- x37.pins = 0
                      refine CW.yes (kb (dT h139)) ?_
                      refine CW.seq ?_
                      refine CW.region ?_
                      refine LW.op (.free rfl) (OW.calls rfl (fun _ r => R.call (vs := [.int .i64 8]) Try.call64 rfl ⟨r.e rfl, trivial⟩) (v_code 8 _ _ (hO51.frame [] rfl)) ?_)
                      rintro _ w140 ⟨rfl, hO141⟩
                      replace hO141 := hO141.unframe0
                      refine LW.value (.free rfl) rfl (fun _ r => R.extract (r.e rfl) rfl) ?_
                      refine LW.value (.free rfl) rfl (fun _ r => R.extract (r.e rfl) rfl) ?_
                      refine LW.op (.free rfl) (OW.storeall (i := 0) (vs := [.int .i64 8, .int .i64 0]) rfl hO141 rfl rfl rfl rfl Try.sizeOf39 rfl ?_)
                      intro w142 hO143
                      refine LW.value (.free rfl) rfl (fun _ r => R.assign (r.e rfl)) ?_
                      refine LW.nil (EW.then (?_))
                      refine CW.ret (EW.inB_ret (EW.then_ret (?_)))
                      refine EW.retct (vs := [.int .i64 8, .int .i64 0]) rfl rfl rfl Try.isAgg39 Try.sizeOf39 (hO143.cells (i := 0) rfl rfl) ?_
                      exact ⟨by simp [ansP, h9, h14, h19, h53, h93, h105, h119, h129, h138, h139, show ¬ (d = 0) from by omega, show ¬ (d < 0) from by omega, show ¬ (5 < d) from by omega, show ¬ (d = 1) from by omega, show ¬ (d = 2) from by omega, show ¬ (d = 3) from by omega, show ¬ (d = 4) from by omega, show (d = 5) from by omega, show ¬ (off < 0) from by omega, show findP X h = some x37.q from by rw [← hx39]; exact hM.some (by simp), Ob.q], ((hO143.pick [2, 2, 2, 2, 2, 2, 2, 2] rfl).perm' (List.Perm.of_eq (by simp [mseg, obs_mid, obs_app, obs_one, Ob.st, Ob.by_, Ob.ent, obs])))⟩
                    · -- not: x37.pins = 0
                      refine CW.no (kb (dF h139)) ?_
                      refine CW.skip (EW.inB_normal (EW.then (?_)))
                      refine CW.seq ?_
                      refine CW.region ?_
                      refine LW.value (.free rfl) rfl (fun _ r => R.build (v := .agg #[.int .i64 0, .int .i64 0]) (vs := []) trivial (by simp [go_sem])) ?_
                      refine LW.op (.free rfl) (OW.storeall (i := 0) (vs := [.int .i64 0, .int .i64 0]) rfl hO51 rfl rfl rfl rfl Try.sizeOf39 rfl ?_)
                      intro w144 hO145
                      refine LW.value (.free rfl) rfl (fun _ r => R.assign (r.e rfl)) ?_
                      refine LW.nil (EW.then (?_))
                      refine CW.ret ?_
                      refine EW.retct (vs := [.int .i64 0, .int .i64 0]) rfl rfl rfl Try.isAgg39 Try.sizeOf39 (hO145.cells (i := 0) rfl rfl) ?_
                      exact ⟨by simp [ansP, h9, h14, h19, h53, h93, h105, h119, h129, h138, h139, show ¬ (d = 0) from by omega, show ¬ (d < 0) from by omega, show ¬ (5 < d) from by omega, show ¬ (d = 1) from by omega, show ¬ (d = 2) from by omega, show ¬ (d = 3) from by omega, show ¬ (d = 4) from by omega, show (d = 5) from by omega, show ¬ (off < 0) from by omega, show findP X h = some x37.q from by rw [← hx39]; exact hM.some (by simp), Ob.q], ((hO145.pick [2, 2, 2, 2, 2, 2, 2, 2] rfl).perm' (List.Perm.of_eq (by simp [mseg, obs_mid, obs_app, obs_one, Ob.st, Ob.by_, Ob.ent, obs])))⟩

set_option maxRecDepth 100000 in
set_option maxHeartbeats 400000 in
theorem v_hmake (s g : Int) (F : Seg) (w : World) (hO : Own w [F]) : Calls Try.prog 78 [.int .i64 s, .int .i64 g].toArray w (Ret fun v w' => ∃ z, v = .tuple #[.int .i64 z, .int .i64 (makeH s g).2] ∧ Own w' [F]) := by
  refine enter (n := 25) Try.func78 rfl rfl rfl ?_
  refine CW.seq ?_
  refine CW.region ?_
  refine LW.value (.free rfl) rfl (fun _ r => R.assign (r.e rfl)) ?_
  refine LW.value (.free rfl) rfl (fun _ r => R.assign (r.e rfl)) ?_
  refine LW.nil (EW.then (?_))
  refine CW.seq ?_
  refine CW.seq ?_
  refine CW.region ?_
  refine LW.value (.free rfl) rfl (fun _ r => R.move (r.e rfl)) ?_
  refine LW.value (.free rfl) rfl (fun _ r => R.lss (r.e rfl) (r.e rfl)) ?_
  refine LW.value (.free rfl) rfl (fun _ r => R.move (r.e rfl)) ?_
  by_cases h1 : s < 0
  · -- s < 0
    refine LW.off (.no rfl rfl (kb (dT h1))) rfl ?_
    refine LW.off (.no rfl rfl (kb (dT h1))) rfl ?_
    refine LW.value (.free rfl) rfl (fun _ r => R.pick_yes (r.e (kb (dT h1))) (r.e rfl)) ?_
    refine LW.value (.free rfl) rfl (fun _ r => R.move (r.e rfl)) ?_
    refine LW.off (.no rfl rfl rfl) rfl ?_
    refine LW.off (.no rfl rfl rfl) rfl ?_
    refine LW.value (.free rfl) rfl (fun _ r => R.pick_yes (r.e rfl) (r.e rfl)) ?_
    refine LW.value (.free rfl) rfl (fun _ r => R.move (r.e rfl)) ?_
    refine LW.off (.no rfl rfl rfl) rfl ?_
    refine LW.off (.no rfl rfl rfl) rfl ?_
    refine LW.value (.free rfl) rfl (fun _ r => R.pick_yes (r.e rfl) (r.e rfl)) ?_
    refine LW.nil (EW.then (?_))
    refine CW.yes rfl ?_
    refine CW.seq ?_
    refine CW.region ?_
    refine LW.value (.free rfl) rfl (fun _ r => R.assign (r.e rfl)) ?_
    refine LW.value (.free rfl) rfl (fun _ r => R.assign (r.e rfl)) ?_
    refine LW.nil (EW.then (?_))
    refine CW.ret (EW.then_ret (?_))
    refine EW.ret2 rfl rfl rfl ?_
    exact ⟨0, by rw [show (makeH s g).2 = 1 from by simp [makeH, show (s < 0) from by omega, show ¬ (63 < s) from by omega]], hO⟩
  · -- not: s < 0
    refine LW.value (.yes rfl rfl (kb (dF h1))) rfl (fun _ r => R.move (r.e rfl)) ?_
    refine LW.value (.yes rfl rfl (kb (dF h1))) rfl (fun _ r => R.geq (r.e rfl) (r.e rfl)) ?_
    refine LW.value (.free rfl) rfl (fun _ r => R.pick_no (r.e (kb (dF h1))) (r.e rfl)) ?_
    refine LW.value (.free rfl) rfl (fun _ r => R.move (r.e rfl)) ?_
    by_cases h2 : 64 ≤ s
    · -- 64 ≤ s
      refine LW.off (.no rfl rfl (kb (dT h2))) rfl ?_
      refine LW.off (.no rfl rfl (kb (dT h2))) rfl ?_
      refine LW.value (.free rfl) rfl (fun _ r => R.pick_yes (r.e (kb (dT h2))) (r.e rfl)) ?_
      refine LW.value (.free rfl) rfl (fun _ r => R.move (r.e rfl)) ?_
      refine LW.off (.no rfl rfl rfl) rfl ?_
      refine LW.off (.no rfl rfl rfl) rfl ?_
      refine LW.value (.free rfl) rfl (fun _ r => R.pick_yes (r.e rfl) (r.e rfl)) ?_
      refine LW.nil (EW.then (?_))
      refine CW.yes rfl ?_
      refine CW.seq ?_
      refine CW.region ?_
      refine LW.value (.free rfl) rfl (fun _ r => R.assign (r.e rfl)) ?_
      refine LW.value (.free rfl) rfl (fun _ r => R.assign (r.e rfl)) ?_
      refine LW.nil (EW.then (?_))
      refine CW.ret (EW.then_ret (?_))
      refine EW.ret2 rfl rfl rfl ?_
      exact ⟨0, by rw [show (makeH s g).2 = 1 from by simp [makeH, show ¬ (s < 0) from by omega, show (63 < s) from by omega]], hO⟩
    · -- not: 64 ≤ s
      refine LW.value (.yes rfl rfl (kb (dF h2))) rfl (fun _ r => R.move (r.e rfl)) ?_
      refine LW.value (.yes rfl rfl (kb (dF h2))) rfl (fun _ r => R.lss (r.e rfl) (r.e rfl)) ?_
      refine LW.value (.free rfl) rfl (fun _ r => R.pick_no (r.e (kb (dF h2))) (r.e rfl)) ?_
      refine LW.value (.free rfl) rfl (fun _ r => R.move (r.e rfl)) ?_
      by_cases h3 : g < 0
      · -- g < 0
        refine LW.off (.no rfl rfl (kb (dT h3))) rfl ?_
        refine LW.off (.no rfl rfl (kb (dT h3))) rfl ?_
        refine LW.value (.free rfl) rfl (fun _ r => R.pick_yes (r.e (kb (dT h3))) (r.e rfl)) ?_
        refine LW.nil (EW.then (?_))
        refine CW.yes rfl ?_
        refine CW.seq ?_
        refine CW.region ?_
        refine LW.value (.free rfl) rfl (fun _ r => R.assign (r.e rfl)) ?_
        refine LW.value (.free rfl) rfl (fun _ r => R.assign (r.e rfl)) ?_
        refine LW.nil (EW.then (?_))
        refine CW.ret (EW.then_ret (?_))
        refine EW.ret2 rfl rfl rfl ?_
        exact ⟨0, by rw [show (makeH s g).2 = 1 from by simp [makeH, show ¬ (s < 0) from by omega, show ¬ (63 < s) from by omega, show (g < 0) from by omega, show ¬ (1000 < g) from by omega]], hO⟩
      · -- not: g < 0
        refine LW.value (.yes rfl rfl (kb (dF h3))) rfl (fun _ r => R.move (r.e rfl)) ?_
        refine LW.value (.yes rfl rfl (kb (dF h3))) rfl (fun _ r => R.gtr (r.e rfl) (r.e rfl)) ?_
        refine LW.value (.free rfl) rfl (fun _ r => R.pick_no (r.e (kb (dF h3))) (r.e rfl)) ?_
        refine LW.nil (EW.then (?_))
        by_cases h4 : 1000 < g
        · -- 1000 < g
          refine CW.yes (kb (dT h4)) ?_
          refine CW.seq ?_
          refine CW.region ?_
          refine LW.value (.free rfl) rfl (fun _ r => R.assign (r.e rfl)) ?_
          refine LW.value (.free rfl) rfl (fun _ r => R.assign (r.e rfl)) ?_
          refine LW.nil (EW.then (?_))
          refine CW.ret (EW.then_ret (?_))
          refine EW.ret2 rfl rfl rfl ?_
          exact ⟨0, by rw [show (makeH s g).2 = 1 from by simp [makeH, show ¬ (s < 0) from by omega, show ¬ (63 < s) from by omega, show ¬ (g < 0) from by omega, show (1000 < g) from by omega]], hO⟩
        · -- not: 1000 < g
          refine CW.no (kb (dF h4)) ?_
          refine CW.skip (EW.then (?_))
          refine CW.seq ?_
          refine CW.region ?_
          refine LW.value (.free rfl) rfl (fun _ r => R.move (r.e rfl)) ?_
          refine LW.value (.free rfl) rfl (fun _ r => R.shl (r.e rfl) (r.e rfl) (by decide)) ?_
          refine LW.value (.free rfl) rfl (fun _ r => R.or (r.e rfl) (r.e rfl)) ?_
          refine LW.value (.free rfl) rfl (fun _ r => R.move (r.e rfl)) ?_
          refine LW.value (.free rfl) rfl (fun _ r => R.or (r.e rfl) (r.e rfl)) ?_
          refine LW.value (.free rfl) rfl (fun _ r => R.assign (r.e rfl)) ?_
          refine LW.value (.free rfl) rfl (fun _ r => R.assign (r.e rfl)) ?_
          refine LW.nil (EW.then (?_))
          refine CW.ret ?_
          refine EW.ret2 rfl rfl rfl ?_
          exact ⟨IntKind.i64.wrap (BitVec.ofInt IntKind.i64.bits (IntKind.i64.wrap (BitVec.ofInt IntKind.i64.bits 1099511627776 ||| BitVec.ofInt IntKind.i64.bits (IntKind.i64.wrap (g * 2 ^ (min (20 : Int).toNat IntKind.i64.bits)))).toNat) ||| BitVec.ofInt IntKind.i64.bits s).toNat, by rw [show (makeH s g).2 = 0 from by simp [makeH, show ¬ (s < 0) from by omega, show ¬ (63 < s) from by omega, show ¬ (g < 0) from by omega, show ¬ (1000 < g) from by omega]], hO⟩

set_option maxRecDepth 100000 in
set_option maxHeartbeats 400000 in
theorem v_hsplit1 (h : Int) (F : Seg) (w : World) (h1 : -9223372036854775808 + 1099511627776 ≤ h) (h2 : h ≤ 9223372036854775807) (hO : Own w [F]) : Calls Try.prog 65 [.int .i64 h].toArray w (Ret fun v w' => v = .tuple #[.int .i64 (splitH h).1, .int .i64 (splitH h).2.1, .bool (splitH h).2.2] ∧ Own w' [F]) := by
  refine enter (n := 28) Try.func65 rfl rfl rfl ?_
  refine CW.seq ?_
  refine CW.region ?_
  refine LW.value (.free rfl) rfl (fun _ r => R.assign (r.e rfl)) ?_
  refine LW.value (.free rfl) rfl (fun _ r => R.assign (r.e rfl)) ?_
  refine LW.value (.free rfl) rfl (fun _ r => R.assign (r.e rfl)) ?_
  refine LW.nil (EW.then (?_))
  refine CW.seq ?_
  refine CW.region ?_
  refine LW.value (.free rfl) rfl (fun _ r => R.move (r.e rfl)) ?_
  refine LW.value (.free rfl) rfl (fun _ r => R.as (R.sub (r.e rfl) (r.e rfl)) (congrArg (Value.int .i64) (wrap_i64 (by omega) (by omega)))) ?_
  refine LW.value (.free rfl) rfl (fun _ r => R.assign (r.e rfl)) ?_
  refine LW.nil (EW.then (?_))
  refine CW.seq ?_
  refine CW.seq ?_
  refine CW.region ?_
  refine LW.value (.free rfl) rfl (fun _ r => R.move (r.e rfl)) ?_
  refine LW.value (.free rfl) rfl (fun _ r => R.lss (r.e rfl) (r.e rfl)) ?_
  refine LW.nil (EW.then (?_))
  by_cases h1 : h - 1099511627776 < 0
  · -- h - 1099511627776 < 0
    refine CW.yes (kb (dT h1)) ?_
    refine CW.seq ?_
    refine CW.region ?_
    refine LW.value (.free rfl) rfl (fun _ r => R.assign (r.e rfl)) ?_
    refine LW.value (.free rfl) rfl (fun _ r => R.assign (r.e rfl)) ?_
    refine LW.value (.free rfl) rfl (fun _ r => R.assign (r.e rfl)) ?_
    refine LW.nil (EW.then (?_))
    refine CW.ret (EW.then_ret (?_))
    refine EW.ret3 rfl rfl rfl rfl ?_
    exact ⟨by rw [hsplit_low (by omega)], hO.pick [0] rfl⟩
  · -- not: h - 1099511627776 < 0
    refine CW.no (kb (dF h1)) ?_
    refine CW.skip (EW.then (?_))
    refine CW.seq ?_
    refine CW.region ?_
    refine LW.value (.free rfl) rfl (fun _ r => R.move (r.e rfl)) ?_
    refine LW.value (.free rfl) rfl (fun _ r => R.as (R.rem (r.e rfl) (r.e rfl) (by omega)) (congrArg (Value.int .i64) (Int.tmod_eq_emod_of_nonneg (by omega)))) ?_
    refine LW.value (.free rfl) rfl (fun _ r => R.move (r.e rfl)) ?_
    refine LW.value (.free rfl) rfl (fun _ r => R.as (R.shr (r.e rfl) (r.e rfl) (by decide)) (congrArg (Value.int .i64) (shr_lit (m := 1048576) (h - 1099511627776) (by decide) (by decide) (by decide)))) ?_
    refine LW.value (.free rfl) rfl (fun _ r => R.assign (r.e rfl)) ?_
    refine LW.value (.free rfl) rfl (fun _ r => R.assign (r.e rfl)) ?_
    refine LW.nil (EW.then (?_))
    refine CW.seq ?_
    refine CW.seq ?_
    refine CW.region ?_
    refine LW.value (.free rfl) rfl (fun _ r => R.move (r.e rfl)) ?_
    refine LW.value (.free rfl) rfl (fun _ r => R.move (r.e rfl)) ?_
    refine LW.op (.free rfl) (OW.calls rfl (fun _ r => R.call (vs := [.int .i64 ((h - 1099511627776) % 1048576), .int .i64 ((h - 1099511627776) / 1048576)]) Try.call78 rfl ⟨r.e rfl, r.e rfl, trivial⟩) (v_hmake ((h - 1099511627776) % 1048576) ((h - 1099511627776) / 1048576) _ _ (hO.frame [] rfl)) ?_)
    rintro _ w2 ⟨z4, rfl, hO3⟩
    replace hO3 := hO3.unframe0
    refine LW.value (.free rfl) rfl (fun _ r => R.move (r.e rfl)) ?_
    refine LW.value (.free rfl) rfl (fun _ r => R.extract (r.e rfl) rfl) ?_
    refine LW.value (.free rfl) rfl (fun _ r => R.extract (r.e rfl) rfl) ?_
    refine LW.value (.free rfl) rfl (fun _ r => R.assign (r.e rfl)) ?_
    refine LW.value (.free rfl) rfl (fun _ r => R.assign (r.e rfl)) ?_
    refine LW.nil (EW.then (?_))
    refine CW.seq ?_
    refine CW.region ?_
    refine LW.value (.free rfl) rfl (fun _ r => R.move (r.e rfl)) ?_
    refine LW.value (.free rfl) rfl (fun _ r => R.neq (r.e rfl) (r.e rfl)) ?_
    refine LW.nil (EW.then (?_))
    by_cases h5 : (makeH ((h - 1099511627776) % 1048576) ((h - 1099511627776) / 1048576)).2 = 0
    · -- (makeH ((h - 1099511627776) % 1048576) ((h - 1099511627776) / 1048576)).2 = 0
      refine CW.no (kb (bN (dT h5))) ?_
      refine CW.skip (EW.then (?_))
      refine CW.seq ?_
      refine CW.region ?_
      refine LW.value (.free rfl) rfl (fun _ r => R.move (r.e rfl)) ?_
      refine LW.value (.free rfl) rfl (fun _ r => R.move (r.e rfl)) ?_
      refine LW.value (.free rfl) rfl (fun _ r => R.assign (r.e rfl)) ?_
      refine LW.value (.free rfl) rfl (fun _ r => R.assign (r.e rfl)) ?_
      refine LW.value (.free rfl) rfl (fun _ r => R.assign (r.e rfl)) ?_
      refine LW.nil (EW.then (?_))
      refine CW.ret ?_
      refine EW.ret3 rfl rfl rfl rfl ?_
      exact ⟨by rw [hsplit_good (by omega) h5], hO3.pick [0] rfl⟩
    · -- not: (makeH ((h - 1099511627776) % 1048576) ((h - 1099511627776) / 1048576)).2 = 0
      refine CW.yes (kb (bN (dF h5))) ?_
      refine CW.seq ?_
      refine CW.region ?_
      refine LW.value (.free rfl) rfl (fun _ r => R.assign (r.e rfl)) ?_
      refine LW.value (.free rfl) rfl (fun _ r => R.assign (r.e rfl)) ?_
      refine LW.value (.free rfl) rfl (fun _ r => R.assign (r.e rfl)) ?_
      refine LW.nil (EW.then (?_))
      refine CW.ret (EW.then_ret (?_))
      refine EW.ret3 rfl rfl rfl rfl ?_
      exact ⟨by rw [hsplit_bad (by omega) h5], hO3.pick [0] rfl⟩

set_option maxRecDepth 100000 in
set_option maxHeartbeats 400000 in
theorem v_hsplit2 (h : Int) (F : Seg) (w : World) (h1 : h < -9223372036854775808 + 1099511627776) (h2 : -9223372036854775808 ≤ h) (hO : Own w [F]) : Calls Try.prog 65 [.int .i64 h].toArray w (Ret fun v w' => v = .tuple #[.int .i64 (splitH h).1, .int .i64 (splitH h).2.1, .bool (splitH h).2.2] ∧ Own w' [F]) := by
  refine enter (n := 28) Try.func65 rfl rfl rfl ?_
  refine CW.seq ?_
  refine CW.region ?_
  refine LW.value (.free rfl) rfl (fun _ r => R.assign (r.e rfl)) ?_
  refine LW.value (.free rfl) rfl (fun _ r => R.assign (r.e rfl)) ?_
  refine LW.value (.free rfl) rfl (fun _ r => R.assign (r.e rfl)) ?_
  refine LW.nil (EW.then (?_))
  refine CW.seq ?_
  refine CW.region ?_
  refine LW.value (.free rfl) rfl (fun _ r => R.move (r.e rfl)) ?_
  refine LW.value (.free rfl) rfl (fun _ r => R.as (R.sub (r.e rfl) (r.e rfl)) (congrArg (Value.int .i64) (wrap_low h1 h2))) ?_
  refine LW.value (.free rfl) rfl (fun _ r => R.assign (r.e rfl)) ?_
  refine LW.nil (EW.then (?_))
  refine CW.seq ?_
  refine CW.seq ?_
  refine CW.region ?_
  refine LW.value (.free rfl) rfl (fun _ r => R.move (r.e rfl)) ?_
  refine LW.value (.free rfl) rfl (fun _ r => R.lss (r.e rfl) (r.e rfl)) ?_
  refine LW.nil (EW.then (?_))
  by_cases h1 : h + 18446742974197923840 < 0
  · -- h + 18446742974197923840 < 0
    refine CW.yes (kb (dT h1)) ?_
    refine CW.seq ?_
    refine CW.region ?_
    refine LW.value (.free rfl) rfl (fun _ r => R.assign (r.e rfl)) ?_
    refine LW.value (.free rfl) rfl (fun _ r => R.assign (r.e rfl)) ?_
    refine LW.value (.free rfl) rfl (fun _ r => R.assign (r.e rfl)) ?_
    refine LW.nil (EW.then (?_))
    refine CW.ret (EW.then_ret (?_))
    refine EW.ret3 rfl rfl rfl rfl ?_
    omega
  · -- not: h + 18446742974197923840 < 0
    refine CW.no (kb (dF h1)) ?_
    refine CW.skip (EW.then (?_))
    refine CW.seq ?_
    refine CW.region ?_
    refine LW.value (.free rfl) rfl (fun _ r => R.move (r.e rfl)) ?_
    refine LW.value (.free rfl) rfl (fun _ r => R.as (R.rem (r.e rfl) (r.e rfl) (by omega)) (congrArg (Value.int .i64) (Int.tmod_eq_emod_of_nonneg (by omega)))) ?_
    refine LW.value (.free rfl) rfl (fun _ r => R.move (r.e rfl)) ?_
    refine LW.value (.free rfl) rfl (fun _ r => R.as (R.shr (r.e rfl) (r.e rfl) (by decide)) (congrArg (Value.int .i64) (shr_lit (m := 1048576) (h + 18446742974197923840) (by decide) (by decide) (by decide)))) ?_
    refine LW.value (.free rfl) rfl (fun _ r => R.assign (r.e rfl)) ?_
    refine LW.value (.free rfl) rfl (fun _ r => R.assign (r.e rfl)) ?_
    refine LW.nil (EW.then (?_))
    refine CW.seq ?_
    refine CW.seq ?_
    refine CW.region ?_
    refine LW.value (.free rfl) rfl (fun _ r => R.move (r.e rfl)) ?_
    refine LW.value (.free rfl) rfl (fun _ r => R.move (r.e rfl)) ?_
    refine LW.op (.free rfl) (OW.calls rfl (fun _ r => R.call (vs := [.int .i64 ((h + 18446742974197923840) % 1048576), .int .i64 ((h + 18446742974197923840) / 1048576)]) Try.call78 rfl ⟨r.e rfl, r.e rfl, trivial⟩) (v_hmake ((h + 18446742974197923840) % 1048576) ((h + 18446742974197923840) / 1048576) _ _ (hO.frame [] rfl)) ?_)
    rintro _ w2 ⟨z4, rfl, hO3⟩
    replace hO3 := hO3.unframe0
    refine LW.value (.free rfl) rfl (fun _ r => R.move (r.e rfl)) ?_
    refine LW.value (.free rfl) rfl (fun _ r => R.extract (r.e rfl) rfl) ?_
    refine LW.value (.free rfl) rfl (fun _ r => R.extract (r.e rfl) rfl) ?_
    refine LW.value (.free rfl) rfl (fun _ r => R.assign (r.e rfl)) ?_
    refine LW.value (.free rfl) rfl (fun _ r => R.assign (r.e rfl)) ?_
    refine LW.nil (EW.then (?_))
    refine CW.seq ?_
    refine CW.region ?_
    refine LW.value (.free rfl) rfl (fun _ r => R.move (r.e rfl)) ?_
    refine LW.value (.free rfl) rfl (fun _ r => R.neq (r.e rfl) (r.e rfl)) ?_
    refine LW.nil (EW.then (?_))
    by_cases h5 : (makeH ((h + 18446742974197923840) % 1048576) ((h + 18446742974197923840) / 1048576)).2 = 0
    · -- (makeH ((h + 18446742974197923840) % 1048576) ((h + 18446742974197923840) / 1048576)).2 = 0
      refine CW.no (kb (bN (dT h5))) ?_
      refine CW.skip (EW.then (?_))
      refine CW.seq ?_
      refine CW.region ?_
      refine LW.value (.free rfl) rfl (fun _ r => R.move (r.e rfl)) ?_
      refine LW.value (.free rfl) rfl (fun _ r => R.move (r.e rfl)) ?_
      refine LW.value (.free rfl) rfl (fun _ r => R.assign (r.e rfl)) ?_
      refine LW.value (.free rfl) rfl (fun _ r => R.assign (r.e rfl)) ?_
      refine LW.value (.free rfl) rfl (fun _ r => R.assign (r.e rfl)) ?_
      refine LW.nil (EW.then (?_))
      refine CW.ret ?_
      refine EW.ret3 rfl rfl rfl rfl ?_
      exact absurd h5 (make_far (by omega))
    · -- not: (makeH ((h + 18446742974197923840) % 1048576) ((h + 18446742974197923840) / 1048576)).2 = 0
      refine CW.yes (kb (bN (dF h5))) ?_
      refine CW.seq ?_
      refine CW.region ?_
      refine LW.value (.free rfl) rfl (fun _ r => R.assign (r.e rfl)) ?_
      refine LW.value (.free rfl) rfl (fun _ r => R.assign (r.e rfl)) ?_
      refine LW.value (.free rfl) rfl (fun _ r => R.assign (r.e rfl)) ?_
      refine LW.nil (EW.then (?_))
      refine CW.ret (EW.then_ret (?_))
      refine EW.ret3 rfl rfl rfl rfl ?_
      exact ⟨by rw [hsplit_low (by omega)], hO3.pick [0] rfl⟩

theorem v_hsplit (h : Int) (F : Seg) (w : World) (hb : -9223372036854775808 ≤ h ∧ h ≤ 9223372036854775807) (hO : Own w [F]) : Calls Try.prog 65 [.int .i64 h].toArray w (Ret fun v w' => v = .tuple #[.int .i64 (splitH h).1, .int .i64 (splitH h).2.1, .bool (splitH h).2.2] ∧ Own w' [F]) := by
  by_cases h1 : -9223372036854775808 + 1099511627776 ≤ h
  · exact v_hsplit1 h F w h1 hb.2 hO
  · exact v_hsplit2 h F w (by omega) hb.1 hO

set_option maxRecDepth 100000 in
set_option maxHeartbeats 400000 in
theorem v_alloc (pm bo bt c cu : Nat) (M : List Ob) (U : List Ent) (X : List PT) (T : List Int) (F : Seg) (n code num : Int) (w : World) (hM : MOk M c U cu X T) (hT : T.length ≤ 1000000) (hn : 1 ≤ n ∧ n ≤ 256) (hnum : -9223372036854775808 ≤ num ∧ num ≤ 9223372036854775807) (hO : Own w [mseg pm bo bt c cu M U, F]) : Calls Try.prog 53 [.pointer (some ⟨pm, 0, none⟩), .int .i64 n, .agg #[.int .i64 code, .int .i64 num]].toArray w (Ret fun v w' => ∃ c' cu' M' U', v = .bool (allocP (X, T) n code num).1 ∧ MOk M' c' U' cu' (allocP (X, T) n code num).2.1 (allocP (X, T) n code num).2.2 ∧ Own w' [mseg pm bo bt c' cu' M' U', F]) := by
  have hO1 : Own _ [mseg pm bo bt c cu M U, F] := hO
  have hO2 : Own _ [[(pm, .cells #[.map (some bo), .map (some bt)] 95 (0, 0))], [(bo, mobj (M.map Ob.ent) c)], [(bt, mobj U cu)], obs M, F] := hO1.perm' (List.Perm.of_eq (by simp only [mseg, List.flatten_cons, List.append_assoc, List.cons_append, List.nil_append, List.flatten_nil, List.append_nil]))
  refine enter (n := 65) Try.func53 rfl rfl rfl ?_
  refine CW.seq ?_
  refine CW.region ?_
  refine LW.op (.free rfl) (OW.box (cs := #[.int .i64 code, .int .i64 num]) rfl hO2 rfl rfl ?_)
  intro b3 w4 hO5
  refine LW.value (.free rfl) rfl (fun _ r => R.assign (r.e rfl)) ?_
  refine LW.nil (EW.then (?_))
  refine CW.seq ?_
  refine CW.seq ?_
  refine CW.region ?_
  refine LW.value (.free rfl) rfl (fun _ r => R.fieldAddr (k := 0) (r.e rfl) Try.runUnderlying39 rfl Try.sizeOf37 rfl) ?_
  refine LW.value (.free rfl) rfl (fun _ r => R.load1 (r.e rfl) Try.isAgg37 (hO5.cell (i := 0) rfl rfl)) ?_
  refine LW.nil (EW.then (?_))
  refine CW.block ?_
  refine CW.seq ?_
  refine CW.seq ?_
  refine CW.region ?_
  refine LW.value (.free rfl) rfl (fun _ r => R.eql (r.e rfl) (r.e rfl)) ?_
  refine LW.value (.free rfl) rfl (fun _ r => R.assign (r.e rfl)) ?_
  refine LW.nil (EW.then (?_))
  by_cases h6 : code = 10
  · -- code = 10
    refine CW.yes (kb (dT h6)) ?_
    refine CW.skip (EW.then (?_))
    refine CW.yes (kb (dT h6)) ?_
    refine CW.seq ?_
    refine CW.region ?_
    refine LW.value (.free rfl) rfl (fun _ r => R.fieldAddr (k := 1) (r.e rfl) Try.runUnderlying39 rfl Try.sizeOf3 rfl) ?_
    refine LW.value (.free rfl) rfl (fun _ r => R.load1 (r.e rfl) Try.isAgg3 (hO5.cell (i := 0) rfl rfl)) ?_
    refine LW.value (.free rfl) rfl (fun _ r => R.eql (r.e rfl) (r.e rfl)) ?_
    refine LW.value (.free rfl) rfl (fun _ r => R.assign (r.e rfl)) ?_
    refine LW.nil (EW.then (?_))
    refine CW.ret (EW.inB_ret (EW.then_ret (?_)))
    refine EW.ret1 rfl rfl ?_
    have hA : allocP (X, T) n code num = (decide (num = 0), (X, T)) := by simp [allocP, show (code = 10) from by omega, show ¬ (code = 11) from by omega, show ¬ (code = 0) from by omega]
    exact ⟨_, _, _, _, by rw [hA], by rw [hA]; exact hM, ((hO5.pick [1, 1, 1, 1, 1] rfl).perm' (List.Perm.of_eq (by simp [mseg, obs_mid, obs_app, obs_one, Ob.st, Ob.by_, Ob.ent, obs])))⟩
  · -- not: code = 10
    refine CW.no (kb (dF h6)) ?_
    refine CW.region ?_
    refine LW.value (.free rfl) rfl (fun _ r => R.eql (r.e rfl) (r.e rfl)) ?_
    refine LW.value (.free rfl) rfl (fun _ r => R.assign (r.e rfl)) ?_
    refine LW.nil (EW.then (?_))
    by_cases h7 : code = 11
    · -- code = 11
      refine CW.yes (kb (dT h7)) ?_
      refine CW.seq ?_
      refine CW.region ?_
      refine LW.value (.free rfl) rfl (fun _ r => R.fieldAddr (k := 1) (r.e rfl) Try.runUnderlying39 rfl Try.sizeOf3 rfl) ?_
      refine LW.value (.free rfl) rfl (fun _ r => R.load1 (r.e rfl) Try.isAgg3 (hO5.cell (i := 0) rfl rfl)) ?_
      refine LW.value (.free rfl) rfl (fun _ r => R.eql (r.e rfl) (r.e rfl)) ?_
      refine LW.value (.free rfl) rfl (fun _ r => R.assign (r.e rfl)) ?_
      refine LW.nil (EW.then (?_))
      refine CW.ret (EW.inB_ret (EW.then_ret (?_)))
      refine EW.ret1 rfl rfl ?_
      have hA : allocP (X, T) n code num = (decide (num = 0), (X, T)) := by simp [allocP, show ¬ (code = 10) from by omega, show (code = 11) from by omega, show ¬ (code = 0) from by omega]
      exact ⟨_, _, _, _, by rw [hA], by rw [hA]; exact hM, ((hO5.pick [1, 1, 1, 1, 1] rfl).perm' (List.Perm.of_eq (by simp [mseg, obs_mid, obs_app, obs_one, Ob.st, Ob.by_, Ob.ent, obs])))⟩
    · -- not: code = 11
      refine CW.no (kb (dF h7)) ?_
      refine CW.seq ?_
      refine CW.region ?_
      refine LW.value (.free rfl) rfl (fun _ r => R.eql (r.e rfl) (r.e rfl)) ?_
      refine LW.value (.free rfl) rfl (fun _ r => R.assign (r.e rfl)) ?_
      refine LW.nil (EW.then (?_))
      by_cases h8 : code = 0
      · -- code = 0
        refine CW.yes (kb (dT h8)) ?_
        refine CW.skip (EW.inB_normal (EW.then (?_)))
        refine CW.seq ?_
        refine HP.start (I := fun w' => Own w' [[(b3, .cells #[.int .i64 code, .int .i64 num] 39 (0, 0))], [(pm, .cells #[.map (some bo), .map (some bt)] 95 (0, 0))], [(bo, mobj (M.map Ob.ent) c)], [(bt, mobj U cu)], obs M, F]) (.take 0 (.take 1 (.take 2 (.take 3 (.take 4 (.take 5 (.take 6 (.take 7 (.take 8 (.take 9 (.take 10 (.take 11 (.done))))))))))))) Try.mixed (by intro c d v a w h; cases d <;> exact h) hO5 (by kernel_rfl) ?_
        intro w9 hO10
        have hI11 := hO10.pick [0, 0, 0, 0, 0, 0] rfl
        refine HP.take rfl (.free rfl) rfl hI11 (fun _ r _ hI => R.move (r.e rfl)) ?_
        refine HP.take rfl (.free rfl) rfl hI11 (fun _ r _ hI => R.nilCheck (r.e rfl)) ?_
        refine HP.take rfl (.free rfl) rfl hI11 (fun _ r _ hI => R.fieldAddr (k := 1) (r.e rfl) Try.runUnderlying95 rfl Try.sizeOf93 rfl) ?_
        refine HP.take rfl (.free rfl) rfl hI11 (fun _ r _ hI => R.load1 (r.e rfl) Try.isAgg93 (hI.cell (i := 1) rfl rfl)) ?_
        refine HP.take rfl (.free rfl) rfl hI11 (fun _ r _ hI => R.fieldAddr (k := 1) (r.e rfl) Try.runUnderlying39 rfl Try.sizeOf3 rfl) ?_
        refine HP.take rfl (.free rfl) rfl hI11 (fun _ r _ hI => R.load1 (r.e rfl) Try.isAgg3 (hI.cell (i := 0) rfl rfl)) ?_
        rcases find_ent U num with hn12 | ⟨A13, e14, B15, hU16, hx17, hA18⟩
        · -- not told
          refine HP.take rfl (.free rfl) rfl hI11 (fun _ r _ hI => R.lookup_no2 (r.e rfl) (r.e rfl) Try.underlying93 Try.underlying3 Try.zeroValue3 (hI.get (i := 3) rfl) hn12) ?_
          refine HP.take rfl (.free rfl) rfl hI11 (fun _ r _ hI => R.move (r.e rfl)) ?_
          refine HP.take rfl (.free rfl) rfl hI11 (fun _ r _ hI => R.extract (r.e rfl) rfl) ?_
          refine HP.take rfl (.free rfl) rfl hI11 (fun _ r _ hI => R.extract (r.e rfl) rfl) ?_
          refine HP.take rfl (.free rfl) rfl hI11 (fun _ r _ hI => R.assign (r.e rfl)) ?_
          refine HP.take rfl (.free rfl) rfl hI11 (fun _ r _ hI => R.assign (r.e rfl)) ?_
          refine HP.done (EW.then (?_))
          refine CW.seq ?_
          refine CW.seq ?_
          refine CW.region ?_
          refine LW.value (.free rfl) rfl (fun _ r => R.fieldAddr (k := 1) (r.e rfl) Try.runUnderlying39 rfl Try.sizeOf3 rfl) ?_
          refine LW.value (.free rfl) rfl (fun _ r => R.load1 (r.e rfl) Try.isAgg3 (hO10.cell (i := 0) rfl rfl)) ?_
          refine LW.op (.free rfl) (OW.calls rfl (fun _ r => R.call (vs := [.int .i64 num]) Try.call65 rfl ⟨r.e rfl, trivial⟩) (v_hsplit num _ _ hnum (hO10.frame [] rfl)) ?_)
          rintro _ w19 ⟨rfl, hO20⟩
          replace hO20 := hO20.unframe0
          refine LW.value (.free rfl) rfl (fun _ r => R.move (r.e rfl)) ?_
          refine LW.value (.free rfl) rfl (fun _ r => R.extract (r.e rfl) rfl) ?_
          refine LW.value (.free rfl) rfl (fun _ r => R.extract (r.e rfl) rfl) ?_
          refine LW.value (.free rfl) rfl (fun _ r => R.extract (r.e rfl) rfl) ?_
          refine LW.value (.free rfl) rfl (fun _ r => R.assign (r.e rfl)) ?_
          refine LW.value (.free rfl) rfl (fun _ r => R.assign (r.e rfl)) ?_
          refine LW.value (.free rfl) rfl (fun _ r => R.assign (r.e rfl)) ?_
          refine LW.nil (EW.then (?_))
          refine CW.seq ?_
          refine CW.region ?_
          refine LW.value (.free rfl) rfl (fun _ r => R.move (r.e rfl)) ?_
          refine LW.value (.free rfl) rfl (fun _ r => R.not (r.e rfl)) ?_
          refine LW.value (.free rfl) rfl (fun _ r => R.move (r.e rfl)) ?_
          rcases Bool.eq_false_or_eq_true ((splitH num).2.2) with h21 | h21
          · -- (splitH num).2.2
            refine LW.value (.yes rfl rfl (kb (bN h21))) rfl (fun _ r => R.move (r.e rfl)) ?_
            refine LW.value (.free rfl) rfl (fun _ r => R.pick_no (r.e (kb (bN h21))) (r.e rfl)) ?_
            refine LW.nil (EW.then (?_))
            refine CW.no rfl ?_
            refine CW.skip (EW.then (?_))
            refine CW.seq ?_
            refine HP.start (I := fun w' => Own w' [[(b3, .cells #[.int .i64 code, .int .i64 num] 39 (0, 0))], [(pm, .cells #[.map (some bo), .map (some bt)] 95 (0, 0))], [(bo, mobj (M.map Ob.ent) c)], obs M, F]) (.take 0 (.take 1 (.take 2 (.take 3 (.take 4 (.take 5 (.take 6 (.take 7 (.take 8 (.take 9 (.one 10 (.one 11 (.done))))))))))))) Try.mixed (by intro c d v a w h; cases d <;> exact h) hO20 (by kernel_rfl) ?_
            intro w22 hO23
            have hI24 := hO23.pick [0, 0, 0, 1, 1] rfl
            refine HP.take rfl (.free rfl) rfl hI24 (fun _ r _ hI => R.move (r.e rfl)) ?_
            refine HP.take rfl (.free rfl) rfl hI24 (fun _ r _ hI => R.nilCheck (r.e rfl)) ?_
            refine HP.take rfl (.free rfl) rfl hI24 (fun _ r _ hI => R.fieldAddr (k := 1) (r.e rfl) Try.runUnderlying95 rfl Try.sizeOf93 rfl) ?_
            refine HP.take rfl (.free rfl) rfl hI24 (fun _ r _ hI => R.load1 (r.e rfl) Try.isAgg93 (hI.cell (i := 1) rfl rfl)) ?_
            refine HP.take rfl (.free rfl) rfl hI24 (fun _ r _ hI => R.fieldAddr (k := 1) (r.e rfl) Try.runUnderlying39 rfl Try.sizeOf3 rfl) ?_
            refine HP.take rfl (.free rfl) rfl hI24 (fun _ r _ hI => R.load1 (r.e rfl) Try.isAgg3 (hI.cell (i := 0) rfl rfl)) ?_
            refine HP.take rfl (.free rfl) rfl hI24 (fun _ r _ hI => R.move (r.e rfl)) ?_
            refine HP.take rfl (.free rfl) rfl hI24 (fun _ r _ hI => R.nilCheck (r.e rfl)) ?_
            refine HP.take rfl (.free rfl) rfl hI24 (fun _ r _ hI => R.fieldAddr (k := 1) (r.e rfl) Try.runUnderlying95 rfl Try.sizeOf93 rfl) ?_
            refine HP.take rfl (.free rfl) rfl hI24 (fun _ r _ hI => R.load1 (r.e rfl) Try.isAgg93 (hI.cell (i := 1) rfl rfl)) ?_
            refine HP.one rfl (.free rfl) (OW.value rfl (fun _ r => R.len_map (r.e rfl) Try.underlying93 (hO23.get (i := 3) rfl)) ⟨hI24, ?_⟩)
            refine HP.one rfl (.free rfl) (OW.mapPush (i := 3) rfl hO23 rfl rfl rfl Try.underlying93 Try.underlying3 rfl hn12 ?_)
            intro w25 hO26
            have hI27 := hO26.pick [0, 0, 0, 1, 1] rfl
            refine ⟨hI27, ?_⟩
            refine HP.done (EW.then (?_))
            refine CW.seq ?_
            refine HP.start (I := fun w' => Own w' [[(b3, .cells #[.int .i64 code, .int .i64 num] 39 (0, 0))], [(pm, .cells #[.map (some bo), .map (some bt)] 95 (0, 0))], [(bt, mobj (U ++ [(num, .int .i64 (U.length : Int), cu)]) (cu + 1))], obs M, F]) (.take 0 (.take 1 (.take 2 (.take 3 (.take 4 (.take 5 (.take 6 (.one 7 (.take 8 (.one 9 (.one 10 (.done)))))))))))) Try.mixed (by intro c d v a w h; cases d <;> exact h) hO26 (by kernel_rfl) ?_
            intro w28 hO29
            have hI30 := hO29.pick [0, 0, 1, 1, 1] rfl
            refine HP.take rfl (.free rfl) rfl hI30 (fun _ r _ hI => R.move (r.e rfl)) ?_
            refine HP.take rfl (.free rfl) rfl hI30 (fun _ r _ hI => R.nilCheck (r.e rfl)) ?_
            refine HP.take rfl (.free rfl) rfl hI30 (fun _ r _ hI => R.fieldAddr (k := 0) (r.e rfl) Try.runUnderlying95 rfl Try.sizeOf92 rfl) ?_
            refine HP.take rfl (.free rfl) rfl hI30 (fun _ r _ hI => R.load1 (r.e rfl) Try.isAgg92 (hI.cell (i := 1) rfl rfl)) ?_
            refine HP.take rfl (.free rfl) rfl hI30 (fun _ r _ hI => R.fieldAddr (k := 1) (r.e rfl) Try.runUnderlying39 rfl Try.sizeOf3 rfl) ?_
            refine HP.take rfl (.free rfl) rfl hI30 (fun _ r _ hI => R.load1 (r.e rfl) Try.isAgg3 (hI.cell (i := 0) rfl rfl)) ?_
            refine HP.take rfl (.free rfl) rfl hI30 (fun _ r _ hI => R.move (r.e rfl)) ?_
            refine HP.one rfl (.free rfl) (OW.makeSlice (u := .int .u8 0) rfl hO29 elem63 rfl rfl (by omega) (by omega) (by omega) ?_)
            intro b31 w32 hO33
            have hI34 := hO33.pick [1, 1, 2, 2, 2] rfl
            refine ⟨hI34, ?_⟩
            refine HP.take rfl (.free rfl) rfl hI34 (fun _ r _ hI => R.build (v := .agg #[.slice (some ⟨b31, 0, none⟩) n.toNat n.toNat, .int .i64 0]) (vs := [(0, .slice (some ⟨b31, 0, none⟩) n.toNat n.toNat)]) ⟨⟨r.e rfl, rfl⟩, trivial⟩ (by simp [go_sem])) ?_
            refine HP.one rfl (.free rfl) (OW.box (cs := #[.slice (some ⟨b31, 0, none⟩) n.toNat n.toNat, .int .i64 0]) rfl hO33 rfl rfl ?_)
            intro b35 w36 hO37
            have hI38 := hO37.pick [2, 2, 3, 3, 3] rfl
            refine ⟨hI38, ?_⟩
            refine HP.one rfl (.free rfl) (OW.mapPush (i := 4) rfl hO37 rfl rfl rfl Try.underlying92 Try.underlying3 rfl (ent_no (hM.fresh hn12)) ?_)
            intro w39 hO40
            have hI41 := hO40.pick [2, 2, 3, 3, 3] rfl
            refine ⟨hI41, ?_⟩
            refine HP.done (EW.then (?_))
            refine CW.seq ?_
            refine CW.region ?_
            refine LW.value (.free rfl) rfl (fun _ r => R.assign (r.e rfl)) ?_
            refine LW.nil (EW.then (?_))
            refine CW.ret ?_
            refine EW.ret1 rfl rfl ?_
            have hh : isHandle num = true := handle_of_split h21
            have hf : num ∉ T := fun h => by obtain ⟨e, he, e1⟩ := List.mem_map.1 (hM.u_.mem_iff.2 h); exact hn12 e he e1
            refine ⟨c + 1, cu + 1, M ++ [⟨num, b35, c, b31, n.toNat, List.replicate n.toNat 0, [], 0⟩], U ++ [(num, .int .i64 U.length, cu)], ?_, ?_, ((hO40.pick [3, 3, 3, 3, 0, 0, 1] rfl).perm' (List.Perm.of_eq (by simp [mseg, obs_mid, obs_app, obs_one, Ob.st, Ob.by_, Ob.ent, obs, flat_rep])))⟩
            · simp [allocP, hh, hf, show ¬ (code = 10) from by omega, show ¬ (code = 11) from by omega, show (code = 0) from by omega]
            · rw [show allocP (X, T) n code num = (true, (putP ⟨num, List.replicate n.toNat 0, 0⟩ X, tellT num T)) from by simp [allocP, hh, hf, show ¬ (code = 10) from by omega, show ¬ (code = 11) from by omega, show (code = 0) from by omega]]
              exact hM.new (y := ⟨num, b35, c, b31, n.toNat, List.replicate n.toNat 0, [], 0⟩) hh hf rfl ⟨by simp, by simp; omega, by simp; omega, by simp, by simp⟩
          · -- not: (splitH num).2.2
            refine LW.off (.no rfl rfl (kb (bN h21))) rfl ?_
            refine LW.value (.free rfl) rfl (fun _ r => R.pick_yes (r.e (kb (bN h21))) (r.e rfl)) ?_
            refine LW.nil (EW.then (?_))
            refine CW.yes rfl ?_
            refine CW.seq ?_
            refine CW.region ?_
            refine LW.value (.free rfl) rfl (fun _ r => R.assign (r.e rfl)) ?_
            refine LW.nil (EW.then (?_))
            refine CW.ret (EW.then_ret (?_))
            refine EW.ret1 rfl rfl ?_
            have hA : allocP (X, T) n code num = (false, (X, T)) := by simp [allocP, show ¬ (code = 10) from by omega, show ¬ (code = 11) from by omega, show (code = 0) from by omega, show isHandle num = false from handle_not h21]
            exact ⟨_, _, _, _, by rw [hA], by rw [hA]; exact hM, ((hO20.pick [1, 1, 1, 1, 1] rfl).perm' (List.Perm.of_eq (by simp [mseg, obs_mid, obs_app, obs_one, Ob.st, Ob.by_, Ob.ent, obs])))⟩
        · -- told
          refine HP.take rfl (.free rfl) rfl hI11 (fun _ r _ hI => R.lookup_e2 (A := A13) (e := e14) (B := B15) (r.e rfl) (r.e rfl) Try.underlying93 Try.underlying3 (by rw [← hU16]; exact hI.get (i := 3) rfl) hx17 hA18) ?_
          refine HP.take rfl (.free rfl) rfl hI11 (fun _ r _ hI => R.move (r.e rfl)) ?_
          refine HP.take rfl (.free rfl) rfl hI11 (fun _ r _ hI => R.extract (r.e rfl) rfl) ?_
          refine HP.take rfl (.free rfl) rfl hI11 (fun _ r _ hI => R.extract (r.e rfl) rfl) ?_
          refine HP.take rfl (.free rfl) rfl hI11 (fun _ r _ hI => R.assign (r.e rfl)) ?_
          refine HP.take rfl (.free rfl) rfl hI11 (fun _ r _ hI => R.assign (r.e rfl)) ?_
          refine HP.done (EW.then (?_))
          refine CW.seq ?_
          refine CW.seq ?_
          refine CW.region ?_
          refine LW.value (.free rfl) rfl (fun _ r => R.fieldAddr (k := 1) (r.e rfl) Try.runUnderlying39 rfl Try.sizeOf3 rfl) ?_
          refine LW.value (.free rfl) rfl (fun _ r => R.load1 (r.e rfl) Try.isAgg3 (hO10.cell (i := 0) rfl rfl)) ?_
          refine LW.op (.free rfl) (OW.calls rfl (fun _ r => R.call (vs := [.int .i64 num]) Try.call65 rfl ⟨r.e rfl, trivial⟩) (v_hsplit num _ _ hnum (hO10.frame [] rfl)) ?_)
          rintro _ w42 ⟨rfl, hO43⟩
          replace hO43 := hO43.unframe0
          refine LW.value (.free rfl) rfl (fun _ r => R.move (r.e rfl)) ?_
          refine LW.value (.free rfl) rfl (fun _ r => R.extract (r.e rfl) rfl) ?_
          refine LW.value (.free rfl) rfl (fun _ r => R.extract (r.e rfl) rfl) ?_
          refine LW.value (.free rfl) rfl (fun _ r => R.extract (r.e rfl) rfl) ?_
          refine LW.value (.free rfl) rfl (fun _ r => R.assign (r.e rfl)) ?_
          refine LW.value (.free rfl) rfl (fun _ r => R.assign (r.e rfl)) ?_
          refine LW.value (.free rfl) rfl (fun _ r => R.assign (r.e rfl)) ?_
          refine LW.nil (EW.then (?_))
          refine CW.seq ?_
          refine CW.region ?_
          refine LW.value (.free rfl) rfl (fun _ r => R.move (r.e rfl)) ?_
          refine LW.value (.free rfl) rfl (fun _ r => R.not (r.e rfl)) ?_
          refine LW.value (.free rfl) rfl (fun _ r => R.move (r.e rfl)) ?_
          rcases Bool.eq_false_or_eq_true ((splitH num).2.2) with h44 | h44
          · -- (splitH num).2.2
            refine LW.value (.yes rfl rfl (kb (bN h44))) rfl (fun _ r => R.move (r.e rfl)) ?_
            refine LW.value (.free rfl) rfl (fun _ r => R.pick_no (r.e (kb (bN h44))) (r.e rfl)) ?_
            refine LW.nil (EW.then (?_))
            refine CW.yes rfl ?_
            refine CW.seq ?_
            refine CW.region ?_
            refine LW.value (.free rfl) rfl (fun _ r => R.assign (r.e rfl)) ?_
            refine LW.nil (EW.then (?_))
            refine CW.ret (EW.then_ret (?_))
            refine EW.ret1 rfl rfl ?_
            have hA : allocP (X, T) n code num = (false, (X, T)) := by simp [allocP, show ¬ (code = 10) from by omega, show ¬ (code = 11) from by omega, show (code = 0) from by omega, show num ∈ T from hM.u_.mem_iff.1 (List.mem_map.2 ⟨e14, by rw [hU16]; simp, hx17⟩)]
            exact ⟨_, _, _, _, by rw [hA], by rw [hA]; exact hM, ((hO43.pick [1, 1, 1, 1, 1] rfl).perm' (List.Perm.of_eq (by simp [mseg, obs_mid, obs_app, obs_one, Ob.st, Ob.by_, Ob.ent, obs])))⟩
          · -- not: (splitH num).2.2
            refine LW.off (.no rfl rfl (kb (bN h44))) rfl ?_
            refine LW.value (.free rfl) rfl (fun _ r => R.pick_yes (r.e (kb (bN h44))) (r.e rfl)) ?_
            refine LW.nil (EW.then (?_))
            refine CW.yes rfl ?_
            refine CW.seq ?_
            refine CW.region ?_
            refine LW.value (.free rfl) rfl (fun _ r => R.assign (r.e rfl)) ?_
            refine LW.nil (EW.then (?_))
            refine CW.ret (EW.then_ret (?_))
            refine EW.ret1 rfl rfl ?_
            have hA : allocP (X, T) n code num = (false, (X, T)) := by simp [allocP, show ¬ (code = 10) from by omega, show ¬ (code = 11) from by omega, show (code = 0) from by omega, show num ∈ T from hM.u_.mem_iff.1 (List.mem_map.2 ⟨e14, by rw [hU16]; simp, hx17⟩)]
            exact ⟨_, _, _, _, by rw [hA], by rw [hA]; exact hM, ((hO43.pick [1, 1, 1, 1, 1] rfl).perm' (List.Perm.of_eq (by simp [mseg, obs_mid, obs_app, obs_one, Ob.st, Ob.by_, Ob.ent, obs])))⟩
      · -- not: code = 0
        refine CW.no (kb (dF h8)) ?_
        refine CW.seq ?_
        refine CW.region ?_
        refine LW.value (.free rfl) rfl (fun _ r => R.assign (r.e rfl)) ?_
        refine LW.nil (EW.then (?_))
        refine CW.ret (EW.inB_ret (EW.then_ret (?_)))
        refine EW.ret1 rfl rfl ?_
        have hA : allocP (X, T) n code num = (false, (X, T)) := by simp [allocP, show ¬ (code = 10) from by omega, show ¬ (code = 11) from by omega, show ¬ (code = 0) from by omega]
        exact ⟨_, _, _, _, by rw [hA], by rw [hA]; exact hM, ((hO5.pick [1, 1, 1, 1, 1] rfl).perm' (List.Perm.of_eq (by simp [mseg, obs_mid, obs_app, obs_one, Ob.st, Ob.by_, Ob.ent, obs])))⟩

set_option maxRecDepth 100000 in
set_option maxHeartbeats 1000000 in
theorem v_try (pm bo bt c cu : Nat) (M : List Ob) (U : List Ent) (X : List PT) (T : List Int) (F : Seg) (d h off n code num : Int) (w : World) (hM : MOk M c U cu X T) (hT : T.length ≤ 1000000) (hnum : -9223372036854775808 ≤ num ∧ num ≤ 9223372036854775807) (hO : Own w [mseg pm bo bt c cu M U, F]) : Calls Try.prog 29 [.pointer (some ⟨pm, 0, none⟩), .agg #[.int .i64 d, .int .i64 h, .int .i64 off, .int .i64 n], .agg #[.int .i64 code, .int .i64 num]].toArray w (Ret fun v w' => ∃ c' cu' M' U', v = .bool (tryP (X, T) d h off n code num).1 ∧ MOk M' c' U' cu' (tryP (X, T) d h off n code num).2.1 (tryP (X, T) d h off n code num).2.2 ∧ Own w' [mseg pm bo bt c' cu' M' U', F]) := by
  refine enter (n := 81) Try.func29 rfl rfl rfl ?_
  refine CW.seq ?_
  refine CW.region ?_
  refine LW.op (.free rfl) (OW.box (cs := #[.int .i64 d, .int .i64 h, .int .i64 off, .int .i64 n]) rfl hO rfl rfl ?_)
  intro b1 w2 hO3
  refine LW.op (.free rfl) (OW.box (cs := #[.int .i64 code, .int .i64 num]) rfl hO3 rfl rfl ?_)
  intro b4 w5 hO6
  refine LW.value (.free rfl) rfl (fun _ r => R.assign (r.e rfl)) ?_
  refine LW.nil (EW.then (?_))
  refine CW.seq ?_
  refine CW.seq ?_
  refine CW.region ?_
  refine LW.value (.free rfl) rfl (fun _ r => R.move (r.e rfl)) ?_
  refine LW.value (.free rfl) rfl (fun _ r => R.as (R.isNil (r.e rfl) (r.e rfl) Try.underlying61) rfl) ?_
  refine LW.nil (EW.then (?_))
  refine CW.no rfl ?_
  refine CW.skip (EW.then (?_))
  refine CW.seq ?_
  refine CW.region ?_
  refine LW.value (.free rfl) rfl (fun _ r => R.move (r.e rfl)) ?_
  refine LW.value (.free rfl) rfl (fun _ r => R.loadn (vs := [.int .i64 d, .int .i64 h, .int .i64 off, .int .i64 n]) (r.e rfl) Try.isAgg36 Try.sizeOf36 rfl (hO6.cells (i := 1) rfl rfl)) ?_
  refine LW.op (.free rfl) (OW.calls rfl (fun _ r => R.call (vs := [.pointer (some ⟨pm, 0, none⟩), .agg #[.int .i64 d, .int .i64 h, .int .i64 off, .int .i64 n]]) Try.call52 rfl ⟨r.e rfl, r.e rfl, trivial⟩) (v_answer _ _ _ _ _ _ _ X _ _ d h off n _ hM hT (hO6.frame [2] rfl)) ?_)
  rintro _ w7 ⟨rfl, hO8⟩
  replace hO8 := hO8.unframe1
  refine LW.value (.free rfl) rfl (fun _ r => R.move (r.e rfl)) ?_
  refine LW.value (.free rfl) rfl (fun _ r => R.extract (r.e rfl) rfl) ?_
  refine LW.value (.free rfl) rfl (fun _ r => R.extract (r.e rfl) rfl) ?_
  refine LW.op (.free rfl) (OW.alloc (cs := #[.int .i64 0, .int .i64 0]) rfl hO8 Try.zeroValue39 rfl ?_)
  intro b9 w10 hO11
  refine LW.op (.free rfl) (OW.storeall (i := 0) (vs := [.int .i64 ((ansP X d h off n).1), .int .i64 ((ansP X d h off n).2.1)]) rfl hO11 rfl rfl rfl rfl Try.sizeOf39 rfl ?_)
  intro w12 hO13
  refine LW.value (.free rfl) rfl (fun _ r => R.assign (r.e rfl)) ?_
  refine LW.nil (EW.then (?_))
  refine CW.seq ?_
  refine CW.block ?_
  refine CW.seq ?_
  refine CW.region ?_
  refine LW.value (.free rfl) rfl (fun _ r => R.move (r.e rfl)) ?_
  refine LW.value (.free rfl) rfl (fun _ r => R.not (r.e rfl)) ?_
  refine LW.value (.free rfl) rfl (fun _ r => R.assign (r.e rfl)) ?_
  refine LW.nil (EW.then (?_))
  rcases Bool.eq_false_or_eq_true ((ansP X d h off n).2.2) with h14 | h14
  · -- (ansP X d h off n).2.2
    refine CW.no (kb (bN h14)) ?_
    refine CW.seq ?_
    refine CW.region ?_
    refine LW.value (.free rfl) rfl (fun _ r => R.loadn (vs := [.int .i64 ((ansP X d h off n).1), .int .i64 ((ansP X d h off n).2.1)]) (r.e rfl) Try.isAgg39 Try.sizeOf39 rfl (hO13.cells (i := 0) rfl rfl)) ?_
    refine LW.value (.free rfl) rfl (fun _ r => R.loadn (vs := [.int .i64 code, .int .i64 num]) (r.e rfl) Try.isAgg39 Try.sizeOf39 rfl (hO13.cells (i := 2) rfl rfl)) ?_
    refine LW.value (.free rfl) rfl (fun _ r => eq39_neq (r.e rfl) (r.e rfl)) ?_
    refine LW.value (.free rfl) rfl (fun _ r => R.assign (r.e rfl)) ?_
    refine LW.nil (EW.then (?_))
    by_cases h15 : (ansP X d h off n).1 = code ∧ (ansP X d h off n).2.1 = num
    · -- (ansP X d h off n).1 = code ∧ (ansP X d h off n).2.1 = num
      refine CW.no (kb (bN (dT h15))) ?_
      refine CW.seq ?_
      refine CW.region ?_
      refine LW.value (.free rfl) rfl (fun _ r => R.fieldAddr (k := 0) (r.e rfl) Try.runUnderlying39 rfl Try.sizeOf37 rfl) ?_
      refine LW.value (.free rfl) rfl (fun _ r => R.load1 (r.e rfl) Try.isAgg37 (hO13.cell (i := 2) rfl rfl)) ?_
      refine LW.value (.free rfl) rfl (fun _ r => R.neq (r.e rfl) (r.e rfl)) ?_
      refine LW.value (.free rfl) rfl (fun _ r => R.assign (r.e rfl)) ?_
      refine LW.nil (EW.then (?_))
      by_cases h16 : code = 0
      · -- code = 0
        refine CW.no (kb (bN (dT h16))) ?_
        refine CW.skip (EW.inB_normal (EW.then (?_)))
        refine CW.seq ?_
        have hO17 : Own _ [[(b9, .cells #[.int .i64 ((ansP X d h off n).1), .int .i64 ((ansP X d h off n).2.1)] 39 (0, 0))], mseg pm bo bt c cu M U, [(b4, .cells #[.int .i64 code, .int .i64 num] 39 (0, 0))], [(b1, .cells #[.int .i64 d, .int .i64 h, .int .i64 off, .int .i64 n] 36 (0, 0))], F] := hO13
        have hO18 : Own _ [[(b9, .cells #[.int .i64 ((ansP X d h off n).1), .int .i64 ((ansP X d h off n).2.1)] 39 (0, 0))], [(pm, .cells #[.map (some bo), .map (some bt)] 95 (0, 0))], [(bo, mobj (M.map Ob.ent) c)], [(bt, mobj U cu)], obs M, [(b4, .cells #[.int .i64 code, .int .i64 num] 39 (0, 0))], [(b1, .cells #[.int .i64 d, .int .i64 h, .int .i64 off, .int .i64 n] 36 (0, 0))], F] := hO17.perm' (List.Perm.of_eq (by simp only [mseg, List.flatten_cons, List.append_assoc, List.cons_append, List.nil_append, List.flatten_nil, List.append_nil]))
        refine HP.start (I := fun w' => Own w' [[(b9, .cells #[.int .i64 ((ansP X d h off n).1), .int .i64 ((ansP X d h off n).2.1)] 39 (0, 0))], [(pm, .cells #[.map (some bo), .map (some bt)] 95 (0, 0))], [(bo, mobj (M.map Ob.ent) c)], [(bt, mobj U cu)], obs M, [(b4, .cells #[.int .i64 code, .int .i64 num] 39 (0, 0))], [(b1, .cells #[.int .i64 d, .int .i64 h, .int .i64 off, .int .i64 n] 36 (0, 0))], F]) (.take 0 (.take 1 (.take 2 (.take 3 (.take 4 (.take 5 (.take 6 (.take 7 (.done))))))))) Try.mixed (by intro c d v a w h; cases d <;> exact h) hO18 (by kernel_rfl) ?_
        intro w19 hO20
        have hI21 := hO20.pick [0, 0, 0, 0, 0, 0, 0, 0] rfl
        refine HP.take rfl (.free rfl) rfl hI21 (fun _ r _ hI => R.move (r.e rfl)) ?_
        refine HP.take rfl (.free rfl) rfl hI21 (fun _ r _ hI => R.nilCheck (r.e rfl)) ?_
        refine HP.take rfl (.free rfl) rfl hI21 (fun _ r _ hI => R.fieldAddr (k := 0) (r.e rfl) Try.runUnderlying95 rfl Try.sizeOf92 rfl) ?_
        refine HP.take rfl (.free rfl) rfl hI21 (fun _ r _ hI => R.load1 (r.e rfl) Try.isAgg92 (hI.cell (i := 1) rfl rfl)) ?_
        refine HP.take rfl (.free rfl) rfl hI21 (fun _ r _ hI => R.fieldAddr (k := 1) (r.e rfl) Try.runUnderlying36 rfl Try.sizeOf3 rfl) ?_
        refine HP.take rfl (.free rfl) rfl hI21 (fun _ r _ hI => R.load1 (r.e rfl) Try.isAgg3 (hI.cell (i := 6) rfl rfl)) ?_
        rcases find_ob M h with hn22 | ⟨A23, x24, B25, hMx24, hx26, hA27⟩
        · -- no such object
          exact absurd (by rw [h15.1]; exact h16) (ansP_none (hM.none hn22) h14)
        · -- an object
          subst hMx24
          have hOb := hM.ob x24 (by simp)
          obtain ⟨ho1, ho2, ho3, ho4, ho5⟩ := hOb
          obtain ⟨d1, d2, d3, d4, d5, d6⟩ := ansP_some (show findP X h = some x24.q from by rw [← hx26]; exact hM.some (by simp)) h14 (by rw [h15.1]; exact h16); simp only [Ob.q] at d3 d4 d5 d6
          refine HP.take rfl (.free rfl) rfl hI21 (fun _ r _ hI => R.lookup_yes1 (f := Ob.ent) (r.e rfl) (r.e rfl) Try.underlying92 Try.underlying3 (hI.get (i := 2) rfl) hx26 hA27 rfl) ?_
          refine HP.take rfl (.free rfl) rfl hI21 (fun _ r _ hI => R.assign (r.e rfl)) ?_
          refine HP.done (EW.then (?_))
          refine CW.seq ?_
          refine CW.seq ?_
          have hO28 : Own _ [[(b9, .cells #[.int .i64 ((ansP X d h off n).1), .int .i64 ((ansP X d h off n).2.1)] 39 (0, 0))], [(pm, .cells #[.map (some bo), .map (some bt)] 95 (0, 0))], [(bo, mobj ((A23 ++ x24 :: B25).map Ob.ent) c)], [(bt, mobj U cu)], obs (A23 ++ x24 :: B25), [(b4, .cells #[.int .i64 code, .int .i64 num] 39 (0, 0))], [(b1, .cells #[.int .i64 d, .int .i64 h, .int .i64 off, .int .i64 n] 36 (0, 0))], F] := hO20
          have hO29 : Own _ [[(b9, .cells #[.int .i64 ((ansP X d h off n).1), .int .i64 ((ansP X d h off n).2.1)] 39 (0, 0))], [(pm, .cells #[.map (some bo), .map (some bt)] 95 (0, 0))], [(bo, mobj ((A23 ++ x24 :: B25).map Ob.ent) c)], [(bt, mobj U cu)], obs A23, [(x24.p, .cells #[.slice (some ⟨x24.bb, 0, none⟩) x24.b.length x24.cap, .int .i64 x24.pins] 111 (0, 0))], [(x24.bb, .cells (x24.b.flatMap encU ++ x24.rest).toArray 5 (0, 0))], obs B25, [(b4, .cells #[.int .i64 code, .int .i64 num] 39 (0, 0))], [(b1, .cells #[.int .i64 d, .int .i64 h, .int .i64 off, .int .i64 n] 36 (0, 0))], F] := hO28.perm' (List.Perm.of_eq (by simp only [obs_mid, List.flatten_cons, List.append_assoc, List.cons_append, List.nil_append, List.flatten_nil, List.append_nil]))
          refine CW.region ?_
          refine LW.value (.free rfl) rfl (fun _ r => R.fieldAddr (k := 0) (r.e rfl) Try.runUnderlying36 rfl Try.sizeOf3 rfl) ?_
          refine LW.value (.free rfl) rfl (fun _ r => R.load1 (r.e rfl) Try.isAgg3 (hO29.cell (i := 9) rfl rfl)) ?_
          refine LW.nil (EW.then (?_))
          refine CW.block ?_
          refine CW.seq ?_
          refine CW.region ?_
          refine LW.value (.free rfl) rfl (fun _ r => R.eql (r.e rfl) (r.e rfl)) ?_
          refine LW.value (.free rfl) rfl (fun _ r => R.assign (r.e rfl)) ?_
          refine LW.nil (EW.then (?_))
          by_cases h30 : d = 1
          · -- d = 1
            refine CW.yes (kb (dT h30)) ?_
            refine HP.start (I := fun w' => Own w' [[(b9, .cells #[.int .i64 ((ansP X d h off n).1), .int .i64 ((ansP X d h off n).2.1)] 39 (0, 0))], [(pm, .cells #[.map (some bo), .map (some bt)] 95 (0, 0))], [(bt, mobj U cu)], obs A23, [(x24.p, .cells #[.slice (some ⟨x24.bb, 0, none⟩) x24.b.length x24.cap, .int .i64 x24.pins] 111 (0, 0))], [(x24.bb, .cells (x24.b.flatMap encU ++ x24.rest).toArray 5 (0, 0))], obs B25, [(b4, .cells #[.int .i64 code, .int .i64 num] 39 (0, 0))], [(b1, .cells #[.int .i64 d, .int .i64 h, .int .i64 off, .int .i64 n] 36 (0, 0))], F]) (.take 0 (.take 1 (.take 2 (.take 3 (.take 4 (.take 5 (.one 6 (.done)))))))) Try.mixed (by intro c d v a w h; cases d <;> exact h) hO29 (by kernel_rfl) ?_
            intro w31 hO32
            have hI33 := hO32.pick [0, 0, 1, 1, 1, 1, 1, 1, 1, 1] rfl
            refine HP.take rfl (.free rfl) rfl hI33 (fun _ r _ hI => R.move (r.e rfl)) ?_
            refine HP.take rfl (.free rfl) rfl hI33 (fun _ r _ hI => R.nilCheck (r.e rfl)) ?_
            refine HP.take rfl (.free rfl) rfl hI33 (fun _ r _ hI => R.fieldAddr (k := 0) (r.e rfl) Try.runUnderlying95 rfl Try.sizeOf92 rfl) ?_
            refine HP.take rfl (.free rfl) rfl hI33 (fun _ r _ hI => R.load1 (r.e rfl) Try.isAgg92 (hI.cell (i := 1) rfl rfl)) ?_
            refine HP.take rfl (.free rfl) rfl hI33 (fun _ r _ hI => R.fieldAddr (k := 1) (r.e rfl) Try.runUnderlying36 rfl Try.sizeOf3 rfl) ?_
            refine HP.take rfl (.free rfl) rfl hI33 (fun _ r _ hI => R.load1 (r.e rfl) Try.isAgg3 (hI.cell (i := 8) rfl rfl)) ?_
            refine HP.one rfl (.free rfl) (OW.mapDrop (f := Ob.ent) (i := 2) rfl hO32 rfl rfl Try.underlying92 Try.underlying3 rfl hx26 hA27 ?_)
            intro w34 hO35
            have hI36 := hO35.pick [0, 0, 1, 1, 1, 1, 1, 1, 1, 1] rfl
            refine ⟨hI36, ?_⟩
            refine HP.done (EW.inB_normal (EW.then (?_)))
            refine CW.seq ?_
            refine CW.region ?_
            refine LW.value (.free rfl) rfl (fun _ r => R.assign (r.e rfl)) ?_
            refine LW.nil (EW.then (?_))
            refine CW.ret ?_
            refine EW.ret1 rfl rfl ?_
            have hA : tryP (X, T) d h off n code num = (true, (putP (chgP d off n x24.q) X, T)) := tryQ_ok h14 h15 h16 (by rw [← hx26]; exact hM.some (by simp))
            exact ⟨_, _, A23 ++ B25, _, by rw [hA], by rw [hA]; exact hM.drop (by simp [chgP, Ob.q, h30]) (by simp [chgP, h30]), ((hO35.pick [1, 1, 1, 1, 3, 5] rfl).perm' (List.Perm.of_eq (by simp [mseg, obs_mid, obs_app, obs_one, Ob.st, Ob.by_, Ob.ent, obs])))⟩
          · -- not: d = 1
            refine CW.no (kb (dF h30)) ?_
            refine CW.seq ?_
            refine CW.region ?_
            refine LW.value (.free rfl) rfl (fun _ r => R.eql (r.e rfl) (r.e rfl)) ?_
            refine LW.value (.free rfl) rfl (fun _ r => R.assign (r.e rfl)) ?_
            refine LW.nil (EW.then (?_))
            by_cases h37 : d = 3
            · -- d = 3
              refine CW.yes (kb (dT h37)) ?_
              refine HP.start (I := fun w' => Own w' [[(b9, .cells #[.int .i64 ((ansP X d h off n).1), .int .i64 ((ansP X d h off n).2.1)] 39 (0, 0))], [(pm, .cells #[.map (some bo), .map (some bt)] 95 (0, 0))], [(bo, mobj ((A23 ++ x24 :: B25).map Ob.ent) c)], [(bt, mobj U cu)], obs A23, [(x24.p, .cells #[.slice (some ⟨x24.bb, 0, none⟩) x24.b.length x24.cap, .int .i64 x24.pins] 111 (0, 0))], obs B25, [(b4, .cells #[.int .i64 code, .int .i64 num] 39 (0, 0))], [(b1, .cells #[.int .i64 d, .int .i64 h, .int .i64 off, .int .i64 n] 36 (0, 0))], F]) (.take 0 (.take 1 (.take 2 (.take 3 (.take 4 (.take 5 (.take 6 (.take 7 (.take 8 (.take 9 (.one 10 (.done)))))))))))) Try.mixed (by intro c d v a w h; cases d <;> exact h) hO29 (by kernel_rfl) ?_
              intro w39 hO40
              have hI41 := hO40.pick [0, 0, 0, 0, 0, 0, 1, 1, 1, 1] rfl
              refine HP.take rfl (.free rfl) rfl hI41 (fun _ r _ hI => R.move (r.e rfl)) ?_
              refine HP.take rfl (.free rfl) rfl hI41 (fun _ r _ hI => R.nilCheck (r.e rfl)) ?_
              refine HP.take rfl (.free rfl) rfl hI41 (fun _ r _ hI => R.fieldAddr (k := 0) (r.e rfl) Try.runUnderlying111 rfl Try.sizeOf109 rfl) ?_
              refine HP.take rfl (.free rfl) rfl hI41 (fun _ r _ hI => R.load1 (r.e rfl) Try.isAgg109 (hI.cell (i := 5) rfl rfl)) ?_
              refine HP.take rfl (.free rfl) rfl hI41 (fun _ r _ hI => R.fieldAddr (k := 2) (r.e rfl) Try.runUnderlying36 rfl Try.sizeOf3 rfl) ?_
              refine HP.take rfl (.free rfl) rfl hI41 (fun _ r _ hI => R.load1 (r.e rfl) Try.isAgg3 (hI.cell (i := 8) rfl rfl)) ?_
              refine HP.take rfl (.free rfl) rfl hI41 (fun _ r _ hI => R.fieldAddr (k := 3) (r.e rfl) Try.runUnderlying36 rfl Try.sizeOf3 rfl) ?_
              refine HP.take rfl (.free rfl) rfl hI41 (fun _ r _ hI => R.load1 (r.e rfl) Try.isAgg3 (hI.cell (i := 8) rfl rfl)) ?_
              refine HP.take rfl (.free rfl) rfl hI41 (fun _ r _ hI => R.as (R.convert_int (r.e rfl) Try.runUnderlying3 Try.runUnderlying5) (congrArg (Value.int .u8) (wrap_u8 n))) ?_
              have hl42 : off.toNat < x24.b.length := by omega
              refine HP.take rfl (.free rfl) rfl hI41 (fun _ r _ hI => R.indexAddr (k := off.toNat) (r.e rfl) (r.e rfl) Try.runUnderlying109 Try.sizeOf5 (by omega) (by omega) (by simp)) ?_
              refine HP.one rfl (.free rfl) (OW.store (i := 6) rfl hO40 rfl rfl rfl rfl Try.sizeOf5 (by rw [Nat.blt_eq]; simp only [List.size_toArray, List.length_append, flat_length (enc := encU) (sz := 1) (fun _ _ => rfl)]; omega) ?_)
              intro w43 hO44
              simp only [List.set_cons_succ, List.set_cons_zero] at hO44
              rw [set_byte hl42] at hO44
              have hI45 := hO44.pick [0, 0, 0, 0, 0, 0, 1, 1, 1, 1] rfl
              refine ⟨hI45, ?_⟩
              refine HP.done (EW.inB_normal (EW.then (?_)))
              refine CW.seq ?_
              refine CW.region ?_
              refine LW.value (.free rfl) rfl (fun _ r => R.assign (r.e rfl)) ?_
              refine LW.nil (EW.then (?_))
              refine CW.ret ?_
              refine EW.ret1 rfl rfl ?_
              have hA : tryP (X, T) d h off n code num = (true, (putP (chgP d off n x24.q) X, T)) := tryQ_ok h14 h15 h16 (by rw [← hx26]; exact hM.some (by simp))
              obtain ⟨y, hy⟩ : ∃ y : Ob, y = { x24 with b := x24.b.set off.toNat (n % 256) } := ⟨_, rfl⟩
              have hq : chgP d off n x24.q = y.q := by subst hy; simp [chgP, Ob.q, show ¬ (d = 1) from by omega, show (d = 3) from by omega, show ¬ (d = 4) from by omega, show ¬ (d = 5) from by omega]
              have hk : ObOk y := by subst hy; exact ⟨by simpa using ho1, by simpa using ho2, by simpa using ho3, ho4, fun z hz => by rcases List.mem_or_eq_of_mem_set hz with h | rfl; exact ho5 z h; omega⟩
              refine ⟨_, _, A23 ++ y :: B25, _, by rw [hA], by rw [hA]; dsimp only; rw [hq]; exact hM.turn (by subst hy; rfl) (by subst hy; rfl) hk, ?_⟩
              subst hy
              exact ((hO44.pick [1, 1, 1, 1, 1, 1, 1, 3] rfl).perm' (List.Perm.of_eq (by simp [mseg, obs_mid, obs_app, obs_one, Ob.st, Ob.by_, Ob.ent, obs, List.length_set])))
            · -- not: d = 3
              refine CW.no (kb (dF h37)) ?_
              refine CW.seq ?_
              refine CW.region ?_
              refine LW.value (.free rfl) rfl (fun _ r => R.eql (r.e rfl) (r.e rfl)) ?_
              refine LW.value (.free rfl) rfl (fun _ r => R.assign (r.e rfl)) ?_
              refine LW.nil (EW.then (?_))
              by_cases h46 : d = 4
              · -- d = 4
                refine CW.yes (kb (dT h46)) ?_
                refine CW.region ?_
                refine LW.value (.free rfl) rfl (fun _ r => R.move (r.e rfl)) ?_
                refine LW.value (.free rfl) rfl (fun _ r => R.nilCheck (r.e rfl)) ?_
                refine LW.value (.free rfl) rfl (fun _ r => R.fieldAddr (k := 1) (r.e rfl) Try.runUnderlying111 rfl Try.sizeOf3 rfl) ?_
                refine LW.value (.free rfl) rfl (fun _ r => R.load1 (r.e rfl) Try.isAgg3 (hO29.cell (i := 5) rfl rfl)) ?_
                refine LW.value (.free rfl) rfl (fun _ r => R.as (R.add (r.e rfl) (r.e rfl)) (congrArg (Value.int .i64) (wrap_i64 (by omega) (by omega)))) ?_
                refine LW.value (.free rfl) rfl (fun _ r => R.nilCheck (r.e rfl)) ?_
                refine LW.value (.free rfl) rfl (fun _ r => R.fieldAddr (k := 1) (r.e rfl) Try.runUnderlying111 rfl Try.sizeOf3 rfl) ?_
                refine LW.op (.free rfl) (OW.store (i := 5) rfl hO29 rfl rfl rfl rfl Try.sizeOf3 rfl ?_)
                intro w47 hO48
                refine LW.nil (EW.inB_normal (EW.then (?_)))
                refine CW.seq ?_
                refine CW.region ?_
                refine LW.value (.free rfl) rfl (fun _ r => R.assign (r.e rfl)) ?_
                refine LW.nil (EW.then (?_))
                refine CW.ret ?_
                refine EW.ret1 rfl rfl ?_
                have hA : tryP (X, T) d h off n code num = (true, (putP (chgP d off n x24.q) X, T)) := tryQ_ok h14 h15 h16 (by rw [← hx26]; exact hM.some (by simp))
                obtain ⟨y, hy⟩ : ∃ y : Ob, y = { x24 with pins := x24.pins + 1 } := ⟨_, rfl⟩
                have hq : chgP d off n x24.q = y.q := by subst hy; simp [chgP, Ob.q, show ¬ (d = 1) from by omega, show ¬ (d = 3) from by omega, show (d = 4) from by omega, show ¬ (d = 5) from by omega]
                have hk : ObOk y := by subst hy; exact ⟨ho1, ho2, ho3, by dsimp only; omega, ho5⟩
                refine ⟨_, _, A23 ++ y :: B25, _, by rw [hA], by rw [hA]; dsimp only; rw [hq]; exact hM.turn (by subst hy; rfl) (by subst hy; rfl) hk, ?_⟩
                subst hy
                exact ((hO48.pick [1, 1, 1, 1, 1, 1, 1, 3] rfl).perm' (List.Perm.of_eq (by simp [mseg, obs_mid, obs_app, obs_one, Ob.st, Ob.by_, Ob.ent, obs, List.length_set])))
              · -- not: d = 4
                refine CW.no (kb (dF h46)) ?_
                refine CW.seq ?_
                refine CW.region ?_
                refine LW.value (.free rfl) rfl (fun _ r => R.eql (r.e rfl) (r.e rfl)) ?_
                refine LW.value (.free rfl) rfl (fun _ r => R.assign (r.e rfl)) ?_
                refine LW.nil (EW.then (?_))
                by_cases h49 : d = 5
                · -- d = 5
                  refine CW.yes (kb (dT h49)) ?_
                  refine CW.region ?_
                  refine LW.value (.free rfl) rfl (fun _ r => R.move (r.e rfl)) ?_
                  refine LW.value (.free rfl) rfl (fun _ r => R.nilCheck (r.e rfl)) ?_
                  refine LW.value (.free rfl) rfl (fun _ r => R.fieldAddr (k := 1) (r.e rfl) Try.runUnderlying111 rfl Try.sizeOf3 rfl) ?_
                  refine LW.value (.free rfl) rfl (fun _ r => R.load1 (r.e rfl) Try.isAgg3 (hO29.cell (i := 5) rfl rfl)) ?_
                  refine LW.value (.free rfl) rfl (fun _ r => R.as (R.sub (r.e rfl) (r.e rfl)) (congrArg (Value.int .i64) (wrap_i64 (by omega) (by omega)))) ?_
                  refine LW.value (.free rfl) rfl (fun _ r => R.nilCheck (r.e rfl)) ?_
                  refine LW.value (.free rfl) rfl (fun _ r => R.fieldAddr (k := 1) (r.e rfl) Try.runUnderlying111 rfl Try.sizeOf3 rfl) ?_
                  refine LW.op (.free rfl) (OW.store (i := 5) rfl hO29 rfl rfl rfl rfl Try.sizeOf3 rfl ?_)
                  intro w50 hO51
                  refine LW.nil (EW.inB_normal (EW.then (?_)))
                  refine CW.seq ?_
                  refine CW.region ?_
                  refine LW.value (.free rfl) rfl (fun _ r => R.assign (r.e rfl)) ?_
                  refine LW.nil (EW.then (?_))
                  refine CW.ret ?_
                  refine EW.ret1 rfl rfl ?_
                  have hA : tryP (X, T) d h off n code num = (true, (putP (chgP d off n x24.q) X, T)) := tryQ_ok h14 h15 h16 (by rw [← hx26]; exact hM.some (by simp))
                  obtain ⟨y, hy⟩ : ∃ y : Ob, y = { x24 with pins := x24.pins - 1 } := ⟨_, rfl⟩
                  have hq : chgP d off n x24.q = y.q := by subst hy; simp [chgP, Ob.q, show ¬ (d = 1) from by omega, show ¬ (d = 3) from by omega, show ¬ (d = 4) from by omega, show (d = 5) from by omega]
                  have hk : ObOk y := by subst hy; exact ⟨ho1, ho2, ho3, by dsimp only; omega, ho5⟩
                  refine ⟨_, _, A23 ++ y :: B25, _, by rw [hA], by rw [hA]; dsimp only; rw [hq]; exact hM.turn (by subst hy; rfl) (by subst hy; rfl) hk, ?_⟩
                  subst hy
                  exact ((hO51.pick [1, 1, 1, 1, 1, 1, 1, 3] rfl).perm' (List.Perm.of_eq (by simp [mseg, obs_mid, obs_app, obs_one, Ob.st, Ob.by_, Ob.ent, obs, List.length_set])))
                · -- not: d = 5
                  refine CW.no (kb (dF h49)) ?_
                  refine CW.skip (EW.inB_normal (EW.then (?_)))
                  refine CW.seq ?_
                  refine CW.region ?_
                  refine LW.value (.free rfl) rfl (fun _ r => R.assign (r.e rfl)) ?_
                  refine LW.nil (EW.then (?_))
                  refine CW.ret ?_
                  refine EW.ret1 rfl rfl ?_
                  have hA : tryP (X, T) d h off n code num = (true, (putP (chgP d off n x24.q) X, T)) := tryQ_ok h14 h15 h16 (by rw [← hx26]; exact hM.some (by simp))
                  obtain ⟨y, hy⟩ : ∃ y : Ob, y = x24 := ⟨_, rfl⟩
                  have hq : chgP d off n x24.q = y.q := by subst hy; simp [chgP, Ob.q, show ¬ (d = 1) from by omega, show ¬ (d = 3) from by omega, show ¬ (d = 4) from by omega, show ¬ (d = 5) from by omega]
                  have hk : ObOk y := by subst hy; exact ⟨ho1, ho2, ho3, ho4, ho5⟩
                  refine ⟨_, _, A23 ++ y :: B25, _, by rw [hA], by rw [hA]; dsimp only; rw [hq]; exact hM.turn (by subst hy; rfl) (by subst hy; rfl) hk, ?_⟩
                  subst hy
                  exact ((hO29.pick [1, 1, 1, 1, 1, 1, 1, 3] rfl).perm' (List.Perm.of_eq (by simp [mseg, obs_mid, obs_app, obs_one, Ob.st, Ob.by_, Ob.ent, obs, List.length_set])))
      · -- not: code = 0
        refine CW.yes (kb (bN (dF h16))) ?_
        refine CW.seq ?_
        refine CW.region ?_
        refine LW.value (.free rfl) rfl (fun _ r => R.assign (r.e rfl)) ?_
        refine LW.nil (EW.then (?_))
        refine CW.ret (EW.inB_ret (EW.then_ret (?_)))
        refine EW.ret1 rfl rfl ?_
        have hA : tryP (X, T) d h off n code num = (true, (X, T)) := by simp [tryP, h14, h15, h16]
        exact ⟨_, _, _, _, by rw [hA], by rw [hA]; exact hM, (hO13.pick [1, 3] rfl)⟩
    · -- not: (ansP X d h off n).1 = code ∧ (ansP X d h off n).2.1 = num
      refine CW.yes (kb (bN (dF h15))) ?_
      refine CW.seq ?_
      refine CW.region ?_
      refine LW.value (.free rfl) rfl (fun _ r => R.assign (r.e rfl)) ?_
      refine LW.nil (EW.then (?_))
      refine CW.ret (EW.inB_ret (EW.then_ret (?_)))
      refine EW.ret1 rfl rfl ?_
      have hA : tryP (X, T) d h off n code num = (false, (X, T)) := by simp [tryP, h14, h15]
      exact ⟨_, _, _, _, by rw [hA], by rw [hA]; exact hM, (hO13.pick [1, 3] rfl)⟩
  · -- not: (ansP X d h off n).2.2
    have hfr := (ansP_fresh h14).2
    refine CW.yes (kb (bN h14)) ?_
    refine CW.seq ?_
    refine CW.region ?_
    refine LW.value (.free rfl) rfl (fun _ r => R.move (r.e rfl)) ?_
    refine LW.value (.free rfl) rfl (fun _ r => R.fieldAddr (k := 3) (r.e rfl) Try.runUnderlying36 rfl Try.sizeOf3 rfl) ?_
    refine LW.value (.free rfl) rfl (fun _ r => R.load1 (r.e rfl) Try.isAgg3 (hO13.cell (i := 3) rfl rfl)) ?_
    refine LW.value (.free rfl) rfl (fun _ r => R.loadn (vs := [.int .i64 code, .int .i64 num]) (r.e rfl) Try.isAgg39 Try.sizeOf39 rfl (hO13.cells (i := 2) rfl rfl)) ?_
    refine LW.op (.free rfl) (OW.calls rfl (fun _ r => R.call (vs := [.pointer (some ⟨pm, 0, none⟩), .int .i64 n, .agg #[.int .i64 code, .int .i64 num]]) Try.call53 rfl ⟨r.e rfl, r.e rfl, r.e rfl, trivial⟩) (v_alloc _ _ _ _ _ _ _ X T _ n code num _ hM hT hfr hnum (hO13.frame [1] rfl)) ?_)
    rintro _ w52 (⟨c53, cu54, M55, U56, rfl, hM57, hO58⟩)
    replace hO58 := hO58.unframe1
    refine LW.value (.free rfl) rfl (fun _ r => R.assign (r.e rfl)) ?_
    refine LW.nil (EW.then (?_))
    refine CW.ret (EW.inB_ret (EW.then_ret (?_)))
    refine EW.ret1 rfl rfl ?_
    exact ⟨c53, cu54, M55, U56, by rw [tryP_alloc h14], by rw [tryP_alloc h14]; exact hM57, (hO58.pick [0, 3] rfl)⟩

set_option maxRecDepth 100000 in
set_option maxHeartbeats 400000 in
theorem v_clb (x : Ob) (F : Seg) (w : World) (hx : x.b.length ≤ 256) (hO : Own w [[(x.bb, .cells (x.b.flatMap encU ++ x.rest).toArray 5 (0, 0))], F]) : Calls Try.prog 63 [.slice (some ⟨x.bb, 0, none⟩) x.b.length x.cap].toArray w (Ret fun v w' => ∃ s, Grow 5 1 encU v s x.b ∧ Own w' [s, [(x.bb, .cells (x.b.flatMap encU ++ x.rest).toArray 5 (0, 0))], F]) := by
  refine enter (n := 8) Try.func63 rfl rfl rfl ?_
  refine CW.seq ?_
  refine CW.region ?_
  refine LW.value (.free rfl) rfl (fun _ r => R.assign (r.e rfl)) ?_
  refine LW.nil (EW.then (?_))
  refine CW.seq ?_
  refine CW.seq ?_
  refine CW.region ?_
  refine LW.value (.free rfl) rfl (fun _ r => R.move (r.e rfl)) ?_
  refine LW.value (.free rfl) rfl (fun _ r => R.as (R.nilSlice (r.e rfl) (r.e rfl) Try.underlying109) rfl) ?_
  refine LW.nil (EW.then (?_))
  refine CW.no rfl ?_
  refine CW.skip (EW.then (?_))
  refine CW.seq ?_
  refine CW.region ?_
  refine LW.op (.free rfl) (OW.buildSlice (cs := #[]) (e := 5) (vs := []) rfl hO (fun _ r => trivial) (fun _ => by simp [go_sem, Instr.buildSlice, newRow]) ?_)
  intro b1 w2 hO3
  refine LW.value (.free rfl) rfl (fun _ r => R.move (r.e rfl)) ?_
  have hO4 := hO3.move [0] rfl
  refine LW.op (.free rfl) (OW.append (xs := []) (ys := x.b) elem63 rfl hO4 rfl rfl Grow.made0 (fun _ _ => rfl) (fun _ _ => rfl) rfl (fun _ => ⟨x.bb, 0, rfl, fun j u hj => hO4.cell (i := 1) rfl (byte_src hj)⟩) (by simp; omega) (by simp; omega) (by decide) ?_)
  intro v5 s6 w7 hO8 hg9
  change Grow _ _ _ _ _ x.b at hg9
  refine LW.value (.free rfl) rfl (fun _ r => R.assign (r.e rfl)) ?_
  refine LW.nil (EW.then (?_))
  refine CW.ret ?_
  refine EW.ret1 rfl rfl ?_
  exact ⟨s6, hg9, hO8.pick [0, 0, 0] rfl⟩

set_option maxRecDepth 100000 in
set_option maxHeartbeats 400000 in
theorem v_clm (bt cu : Nat) (U : List Ent) (F : Seg) (w : World) (hO : Own w [[(bt, mobj U cu)], F]) : Calls Try.prog 62 [.map (some bt)].toArray w (Ret fun v w' => ∃ b, v = .map (some b) ∧ Own w' [[(b, mobj U cu)], [(bt, mobj U cu)], F]) := by
  refine enter (n := 9) Try.func62 rfl rfl rfl ?_
  refine CW.seq ?_
  refine CW.region ?_
  refine LW.value (.free rfl) rfl (fun _ r => R.assign (r.e rfl)) ?_
  refine LW.nil (EW.then (?_))
  refine CW.seq ?_
  refine CW.seq ?_
  refine CW.region ?_
  refine LW.value (.free rfl) rfl (fun _ r => R.move (r.e rfl)) ?_
  refine LW.value (.free rfl) rfl (fun _ r => R.as (R.nilMap (r.e rfl) (r.e rfl) Try.underlying93) rfl) ?_
  refine LW.nil (EW.then (?_))
  refine CW.no rfl ?_
  refine CW.skip (EW.then (?_))
  refine CW.seq ?_
  refine CW.region ?_
  refine LW.value (.free rfl) rfl (fun _ r => R.move (r.e rfl)) ?_
  refine LW.value (.free rfl) rfl (fun _ r => R.makeInterface (r.e rfl) (by simp [Instr.makeInterface, go_sem])) ?_
  refine LW.op (.free rfl) (OW.mapsClone (i := 0) rfl hO rfl Try.func77 (by kernel_rfl) (by kernel_rfl) (by kernel_rfl) (by kernel_rfl) rfl ?_)
  intro b1 w2 hO3
  refine LW.value (.free rfl) rfl (fun _ r => R.assertMap (r.e rfl) Try.underlying93) ?_
  refine LW.value (.free rfl) rfl (fun _ r => R.assign (r.e rfl)) ?_
  refine LW.nil (EW.then (?_))
  refine CW.ret ?_
  refine EW.ret1 rfl rfl ?_
  exact ⟨b1, rfl, hO3.pick [0, 0, 0] rfl⟩

set_option maxRecDepth 100000 in
set_option maxHeartbeats 400000 in
theorem v_copy (pm bo bt c cu : Nat) (M : List Ob) (U : List Ent) (X : List PT) (T : List Int) (F : Seg) (w : World) (hM : MOk M c U cu X T) (hT : T.length ≤ 1000000) (hO : Own w [mseg pm bo bt c cu M U, F]) : Calls Try.prog 44 [.pointer (some ⟨pm, 0, none⟩)].toArray w (Ret fun v w' => ∃ pm' bo' bt' c' M', v = .pointer (some ⟨pm', 0, none⟩) ∧ MOk M' c' U cu X T ∧ Own w' [mseg pm bo bt c cu M U, mseg pm' bo' bt' c' cu M' U, F]) := by
  have hO1 : Own _ [mseg pm bo bt c cu M U, F] := hO
  have hO2 : Own _ [[(pm, .cells #[.map (some bo), .map (some bt)] 95 (0, 0))], [(bo, mobj (M.map Ob.ent) c)], [(bt, mobj U cu)], obs M, F] := hO1.perm' (List.Perm.of_eq (by simp only [mseg, List.flatten_cons, List.append_assoc, List.cons_append, List.nil_append, List.flatten_nil, List.append_nil]))
  refine enter (n := 43) Try.func44 rfl rfl rfl ?_
  refine CW.seq ?_
  refine CW.region ?_
  refine LW.value (.free rfl) rfl (fun _ r => R.assign (r.e rfl)) ?_
  refine LW.nil (EW.then (?_))
  refine CW.seq ?_
  refine CW.seq ?_
  refine CW.region ?_
  refine LW.value (.free rfl) rfl (fun _ r => R.move (r.e rfl)) ?_
  refine LW.value (.free rfl) rfl (fun _ r => R.as (R.isNil (r.e rfl) (r.e rfl) Try.underlying61) rfl) ?_
  refine LW.nil (EW.then (?_))
  refine CW.no rfl ?_
  refine CW.skip (EW.then (?_))
  refine CW.seq ?_
  refine CW.region ?_
  refine LW.op (.free rfl) (OW.makeMap rfl hO2 ?_)
  intro b3 w4 hO5
  refine LW.value (.free rfl) rfl (fun _ r => R.move (r.e rfl)) ?_
  refine LW.value (.free rfl) rfl (fun _ r => R.nilCheck (r.e rfl)) ?_
  refine LW.value (.free rfl) rfl (fun _ r => R.fieldAddr (k := 1) (r.e rfl) Try.runUnderlying95 rfl Try.sizeOf93 rfl) ?_
  refine LW.value (.free rfl) rfl (fun _ r => R.load1 (r.e rfl) Try.isAgg93 (hO5.cell (i := 1) rfl rfl)) ?_
  refine LW.op (.free rfl) (OW.calls rfl (fun _ r => R.call (vs := [.map (some bt)]) Try.call62 rfl ⟨r.e rfl, trivial⟩) (v_clm bt _ _ _ _ (hO5.frame [3] rfl)) ?_)
  rintro _ w7 ⟨b6, rfl, hO8⟩
  replace hO8 := hO8.unframe2
  refine LW.value (.free rfl) rfl (fun _ r => R.build (v := .agg #[.map (some b3), .map (some b6)]) (vs := [(0, .map (some b3)), (1, .map (some b6))]) ⟨⟨r.e rfl, rfl⟩, ⟨r.e rfl, rfl⟩, trivial⟩ (by simp [go_sem])) ?_
  refine LW.op (.free rfl) (OW.box (cs := #[.map (some b3), .map (some b6)]) rfl hO8 rfl rfl ?_)
  intro b9 w10 hO11
  refine LW.value (.free rfl) rfl (fun _ r => R.assign (r.e rfl)) ?_
  refine LW.nil (EW.then (?_))
  refine CW.seq ?_
  refine CW.seq ?_
  refine CW.region ?_
  refine LW.value (.free rfl) rfl (fun _ r => R.move (r.e rfl)) ?_
  refine LW.value (.free rfl) rfl (fun _ r => R.nilCheck (r.e rfl)) ?_
  refine LW.value (.free rfl) rfl (fun _ r => R.fieldAddr (k := 0) (r.e rfl) Try.runUnderlying95 rfl Try.sizeOf92 rfl) ?_
  refine LW.value (.free rfl) rfl (fun _ r => R.load1 (r.e rfl) Try.isAgg92 (hO11.cell (i := 4) rfl rfl)) ?_
  refine LW.op (.free rfl) (OW.range (f := Ob.ent) (j := 5) rfl hO11 rfl Try.underlying92 rfl ?_)
  intro r12 w13 hO14
  refine LW.nil (EW.then (?_))
  refine CW.block ?_
  refine CW.sub (env' := [(3, .pointer (some ⟨b9, 0, none⟩)), (20, .pointer (some ⟨r12, 0, none⟩))]) ⟨rfl, rfl, trivial⟩ ?_
  refine CW.loop (α := List Ob × List Ob) (fun (x_ : List Ob × List Ob) env_ w_ => ∃ D N, x_ = (D, N) ∧ env_ = [(3, .pointer (some ⟨b9, 0, none⟩)), (20, .pointer (some ⟨r12, 0, none⟩))] ∧ Own w_ [[(r12, miter Ob.ent bo c D)], [(b9, .cells #[.map (some b3), .map (some b6)] 95 (0, 0))], [(b3, mobj (N.map Ob.ent) N.length)], [(b6, mobj U cu)], obs N, [(pm, .cells #[.map (some bo), .map (some bt)] 95 (0, 0))], [(bo, mobj (M.map Ob.ent) c)], [(bt, mobj U cu)], obs M, F] ∧ (D.Nodup) ∧ (∀ x ∈ D, x ∈ M) ∧ (N.map Ob.q = D.map Ob.q) ∧ (∀ x ∈ N, ObOk x) ∧ (∀ x ∈ N, x.n < N.length) ∧ ((N.map (·.n)).Nodup)) (fun (x_ : List Ob × List Ob) => M.length - x_.1.length) ([], []) ⟨[], [], rfl, rfl, ((hO14.pick [0, 0, 2, 0, 1, 1, 0, 0, 0] rfl).perm' (List.Perm.of_eq (by simp [obs]))), List.nodup_nil, by simp, rfl, by simp, by simp, by simp⟩ ?_
  rintro _ _ w15 ⟨D, N, rfl, rfl, hO16, hDn, hDM, hN, hNo, hNb, hNn⟩
  refine CW.seq ?_
  refine CW.region ?_
  refine LW.op (.free rfl) (OW.next (f := Ob.ent) (M := M) (i := 0) (j := 6) rfl hO16 rfl rfl rfl hM.bM (by simpa [Ob.ent] using hM.nM) hDM ?_ ?_)
  ·
    intro hall17
    refine LW.value (.free rfl) rfl (fun _ r => R.extract (r.e rfl) rfl) ?_
    refine LW.nil (EW.then (?_))
    refine CW.seq ?_
    refine CW.no rfl ?_
    refine CW.exit (EW.then_exit (EW.then_exit (EW.inB_same (EW.then (?_)))))
    refine CW.seq ?_
    refine CW.region ?_
    refine LW.value (.free rfl) rfl (fun _ r => R.move (r.e rfl)) ?_
    refine LW.value (.free rfl) rfl (fun _ r => R.assign (r.e rfl)) ?_
    refine LW.nil (EW.then (?_))
    refine CW.ret ?_
    refine EW.ret1 rfl rfl ?_
    exact ⟨b9, b3, b6, N.length, N, rfl, hM.copied hDn hDM hall17 hN hNo hNb hNn, ((hO16.pick [5, 5, 5, 5, 1, 1, 1, 1, 1] rfl).perm' (List.Perm.of_eq (by simp [mseg])))⟩
  ·
    intro x18 w19 hx20 hD21 hO22
    refine LW.value (.free rfl) rfl (fun _ r => R.extract (r.e rfl) rfl) ?_
    refine LW.nil (EW.then (?_))
    refine CW.seq ?_
    refine CW.yes rfl ?_
    refine CW.skip (EW.then (?_))
    refine CW.block ?_
    refine CW.seq ?_
    refine CW.region ?_
    refine LW.value (.free rfl) rfl (fun _ r => R.entry1 (f := Ob.ent) (D := D) (e := x18) (k := x18.h) (v := .pointer (some ⟨x18.p, 0, none⟩)) (r.e rfl) (hO22.get (i := 0) rfl) (hO22.get (i := 6) rfl) hx20 (by simpa [Ob.ent] using hM.nM) rfl rfl) ?_
    refine LW.value (.free rfl) rfl (fun _ r => R.extract (r.e rfl) rfl) ?_
    refine LW.value (.free rfl) rfl (fun _ r => R.extract (r.e rfl) rfl) ?_
    refine LW.value (.free rfl) rfl (fun _ r => R.assign (r.e rfl)) ?_
    refine LW.value (.free rfl) rfl (fun _ r => R.assign (r.e rfl)) ?_
    refine LW.nil (EW.then (?_))
    obtain ⟨A23, B24, hMx18⟩ := List.append_of_mem hx20
    subst hMx18
    have hO25 : Own _ [[(r12, miter Ob.ent bo c (D ++ [x18]))], [(b9, .cells #[.map (some b3), .map (some b6)] 95 (0, 0))], [(b3, mobj (N.map Ob.ent) N.length)], [(b6, mobj U cu)], obs N, [(pm, .cells #[.map (some bo), .map (some bt)] 95 (0, 0))], [(bo, mobj ((A23 ++ x18 :: B24).map Ob.ent) c)], [(bt, mobj U cu)], obs (A23 ++ x18 :: B24), F] := hO22
    have hO26 : Own _ [[(r12, miter Ob.ent bo c (D ++ [x18]))], [(b9, .cells #[.map (some b3), .map (some b6)] 95 (0, 0))], [(b3, mobj (N.map Ob.ent) N.length)], [(b6, mobj U cu)], obs N, [(pm, .cells #[.map (some bo), .map (some bt)] 95 (0, 0))], [(bo, mobj ((A23 ++ x18 :: B24).map Ob.ent) c)], [(bt, mobj U cu)], obs A23, [(x18.p, .cells #[.slice (some ⟨x18.bb, 0, none⟩) x18.b.length x18.cap, .int .i64 x18.pins] 111 (0, 0))], [(x18.bb, .cells (x18.b.flatMap encU ++ x18.rest).toArray 5 (0, 0))], obs B24, F] := hO25.perm' (List.Perm.of_eq (by simp only [obs_mid, List.flatten_cons, List.append_assoc, List.cons_append, List.nil_append, List.flatten_nil, List.append_nil]))
    refine HP.start (I := fun w' => Own w' [[(r12, miter Ob.ent bo c (D ++ [x18]))], [(b9, .cells #[.map (some b3), .map (some b6)] 95 (0, 0))], [(b6, mobj U cu)], obs N, [(pm, .cells #[.map (some bo), .map (some bt)] 95 (0, 0))], [(bo, mobj ((A23 ++ x18 :: B24).map Ob.ent) c)], [(bt, mobj U cu)], obs A23, [(x18.p, .cells #[.slice (some ⟨x18.bb, 0, none⟩) x18.b.length x18.cap, .int .i64 x18.pins] 111 (0, 0))], [(x18.bb, .cells (x18.b.flatMap encU ++ x18.rest).toArray 5 (0, 0))], obs B24, F]) (.take 0 (.take 1 (.take 2 (.take 3 (.take 4 (.take 5 (.take 6 (.take 7 (.take 8 (.take 10 (.take 11 (.take 12 (.take 13 (.one 9 (.take 14 (.one 15 (.one 16 (.done)))))))))))))))))) Try.mixed (by intro c d v a w h; cases d <;> exact h) hO26 (by kernel_rfl) ?_
    intro w27 hO28
    have hI29 := hO28.pick [0, 0, 1, 1, 1, 1, 1, 1, 1, 1, 1, 1] rfl
    refine HP.take rfl (.free rfl) rfl hI29 (fun _ r _ hI => R.move (r.e rfl)) ?_
    refine HP.take rfl (.free rfl) rfl hI29 (fun _ r _ hI => R.nilCheck (r.e rfl)) ?_
    refine HP.take rfl (.free rfl) rfl hI29 (fun _ r _ hI => R.fieldAddr (k := 0) (r.e rfl) Try.runUnderlying95 rfl Try.sizeOf92 rfl) ?_
    refine HP.take rfl (.free rfl) rfl hI29 (fun _ r _ hI => R.load1 (r.e rfl) Try.isAgg92 (hI.cell (i := 1) rfl rfl)) ?_
    refine HP.take rfl (.free rfl) rfl hI29 (fun _ r _ hI => R.move (r.e rfl)) ?_
    refine HP.take rfl (.free rfl) rfl hI29 (fun _ r _ hI => R.move (r.e rfl)) ?_
    refine HP.take rfl (.free rfl) rfl hI29 (fun _ r _ hI => R.nilCheck (r.e rfl)) ?_
    refine HP.take rfl (.free rfl) rfl hI29 (fun _ r _ hI => R.fieldAddr (k := 0) (r.e rfl) Try.runUnderlying111 rfl Try.sizeOf109 rfl) ?_
    refine HP.take rfl (.free rfl) rfl hI29 (fun _ r _ hI => R.load1 (r.e rfl) Try.isAgg109 (hI.cell (i := 8) rfl rfl)) ?_
    refine HP.take rfl (.free rfl) rfl hI29 (fun _ r _ hI => R.move (r.e rfl)) ?_
    refine HP.take rfl (.free rfl) rfl hI29 (fun _ r _ hI => R.nilCheck (r.e rfl)) ?_
    refine HP.take rfl (.free rfl) rfl hI29 (fun _ r _ hI => R.fieldAddr (k := 1) (r.e rfl) Try.runUnderlying111 rfl Try.sizeOf3 rfl) ?_
    refine HP.take rfl (.free rfl) rfl hI29 (fun _ r _ hI => R.load1 (r.e rfl) Try.isAgg3 (hI.cell (i := 8) rfl rfl)) ?_
    refine HP.one rfl (.free rfl) (OW.calls rfl (fun _ r => R.call (vs := [.slice (some ⟨x18.bb, 0, none⟩) x18.b.length x18.cap]) Try.call63 rfl ⟨r.e rfl, trivial⟩) (v_clb x18 _ _ (hM.ob x18 (by simp)).le (hO28.frame [10] rfl)) ?_)
    rintro v30 w33 ⟨s31, hg32, hO34⟩
    replace hO34 := hO34.unframe2
    obtain ⟨bb35, cap36, rest37, rfl, rfl, hc38, hc39⟩ := Grow.got hg32 (hM.ob x18 (by simp)).ne
    have hI40 := hO34.pick [2, 2, 3, 3, 3, 3, 3, 3, 3, 1, 2, 2] rfl
    refine ⟨hI40, ?_⟩
    refine HP.take rfl (.free rfl) rfl hI40 (fun _ r _ hI => R.build (v := .agg #[.slice (some ⟨bb35, 0, none⟩) x18.b.length cap36, .int .i64 x18.pins]) (vs := [(0, .slice (some ⟨bb35, 0, none⟩) x18.b.length cap36), (1, .int .i64 x18.pins)]) ⟨⟨r.e rfl, rfl⟩, ⟨r.e rfl, rfl⟩, trivial⟩ (by simp [go_sem])) ?_
    refine HP.one rfl (.free rfl) (OW.box (cs := #[.slice (some ⟨bb35, 0, none⟩) x18.b.length cap36, .int .i64 x18.pins]) rfl hO34 rfl rfl ?_)
    intro b41 w42 hO43
    have hI44 := hO43.pick [3, 3, 4, 4, 4, 4, 4, 4, 4, 2, 3, 3] rfl
    refine ⟨hI44, ?_⟩
    refine HP.one rfl (.free rfl) (OW.mapPush (i := 5) rfl hO43 rfl rfl rfl Try.underlying92 Try.underlying3 rfl (ent_no (copy_fresh hM (by simp) hDM hD21 hN)) ?_)
    intro w45 hO46
    have hI47 := hO46.pick [3, 3, 4, 4, 4, 4, 4, 4, 4, 2, 3, 3] rfl
    refine ⟨hI47, ?_⟩
    refine HP.done (EW.inB_normal (?_))
    exact EW.sub (env' := [(3, .pointer (some ⟨b9, 0, none⟩)), (20, .pointer (some ⟨r12, 0, none⟩))]) ⟨rfl, rfl, trivial⟩ (EW.round (D ++ [x18], N ++ [⟨x18.h, b41, N.length, bb35, cap36, x18.b, rest37, x18.pins⟩]) ⟨D ++ [x18], N ++ [⟨x18.h, b41, N.length, bb35, cap36, x18.b, rest37, x18.pins⟩], rfl, rfl, ((hO46.pick [3, 3, 3, 3, 3, 0, 0, 1, 1, 1, 1, 1, 0, 0, 0] rfl).perm' (List.Perm.of_eq (by simp [mseg, obs_mid, obs_app, obs_one, Ob.st, Ob.by_, Ob.ent, obs]))), nodup_snoc hDn hD21, mem_snoc hDM (by simp), by simp [hN, Ob.q], fun z hz => by rcases List.mem_append.1 hz with h | h; exact hNo z h; obtain rfl := List.mem_singleton.1 h; exact ⟨by have h := hc38; rw [flat_len, Nat.mul_one] at h; exact h, (hM.ob x18 (by simp)).ne, (hM.ob x18 (by simp)).le, (hM.ob x18 (by simp)).pins, (hM.ob x18 (by simp)).by_⟩, by simp only [List.length_append, List.length_singleton]; intro z hz; rcases List.mem_append.1 hz with h | h; (have := hNb z h; omega); obtain rfl := List.mem_singleton.1 h; dsimp only; omega, by simpa using nodup_snoc hNn (fun h => by obtain ⟨z, hz, e⟩ := List.mem_map.1 h; have := hNb z hz; omega)⟩ (by have := left_lt hDn hDM (show x18 ∈ _ by simp) hD21; simp at this ⊢; omega))

end Go.Sd
