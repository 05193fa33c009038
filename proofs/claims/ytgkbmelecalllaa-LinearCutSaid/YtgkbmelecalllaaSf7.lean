/-
  The search for an order by a stack of states, in plain words.
-/
import Derived.Test.YtgkbmelecalllaaSf3
import Derived.Test.YtgkbmelecalllaaSeS
set_option linter.unusedSectionVars false
set_option linter.unusedSimpArgs false
set_option linter.unusedVariables false
namespace Go.Sd
open Go Go.Proofs
variable [Str]

/-- A state: where its parts lie, and what they are. -/
structure St where
  aL : Option Addr
  nL : Nat
  cL : Nat
  pm : Nat
  aT : Option Addr
  nT : Nat
  cT : Nat
  left : List Bool
  X : List PT
  T : List Int
  told : List Ev
def encS (x : St) : List Value := [.slice x.aL x.nL x.cL, .pointer (some ⟨x.pm, 0, none⟩), .slice x.aT x.nT x.cT]
/-- A map that nobody writes any more. -/
def MIn (G : Seg) (pm : Nat) (X : List PT) (T : List Int) : Prop := ∃ s, (∀ p ∈ s, p ∈ G) ∧ (s.map (·.1)).Nodup ∧ MRef s pm X T
theorem MIn.mono {G G' : Seg} {pm : Nat} {X : List PT} {T : List Int} (h : MIn G pm X T) (hs : ∀ p ∈ G, p ∈ G') : MIn G' pm X T := by
  obtain ⟨s, h1, h2, h3⟩ := h
  exact ⟨s, fun p hp => hs p (h1 p hp), h2, h3⟩
theorem MIn.le {G : Seg} {pm : Nat} {X : List PT} {T : List Int} (h : MIn G pm X T) : X.length ≤ T.length := by
  obtain ⟨s, _, _, h3⟩ := h; exact h3.le
theorem nodup_of_map {α β : Type} {f : α → β} {l : List α} (h : (l.map f).Nodup) : l.Nodup := (List.pairwise_map.1 h).imp fun h e => h (by rw [e])
theorem sub_perm {s G : Seg} (hs : s.Nodup) (h : ∀ p ∈ s, p ∈ G) : ∃ G', G.Perm (s ++ G') := by
  induction s generalizing G with
  | nil => exact ⟨G, by simp⟩
  | cons p s ih =>
    obtain ⟨hp, hs'⟩ := List.nodup_cons.1 hs
    obtain ⟨A, B, rfl⟩ := List.append_of_mem (h p (by simp))
    obtain ⟨G', hG⟩ := ih (G := A ++ B) hs' (fun q hq => by
      have := h q (by simp [hq])
      simp only [List.mem_append, List.mem_cons] at this ⊢
      rcases this with h1 | rfl | h1
      · exact .inl h1
      · exact absurd hq hp
      · exact .inr h1)
    exact ⟨G', (List.perm_middle).trans (by simpa using hG.cons p)⟩
/-- The map taken out of what nobody writes. -/
theorem Own.takeM {w : World} {s G : Seg} {S : List Seg} (hO : Own w (G :: S)) (hn : (s.map (·.1)).Nodup) (h : ∀ p ∈ s, p ∈ G) : ∃ G', G.Perm (s ++ G') ∧ Own w (s :: G' :: S) := by
  obtain ⟨G', hp⟩ := sub_perm (nodup_of_map hn) h
  exact ⟨G', hp, hO.perm' (by simp only [List.flatten_cons, ← List.append_assoc]; exact hp.append_right _)⟩
theorem Own.putM {w : World} {s G G' : Seg} {S : List Seg} (hp : G.Perm (s ++ G')) (hO : Own w (s :: G' :: S)) : Own w (G :: S) := hO.perm' (by simp only [List.flatten_cons, ← List.append_assoc]; exact (hp.symm).append_right _)
theorem Own.nodup0 {w : World} {s : Seg} {S : List Seg} (h : Own w (s :: S)) : (s.map (·.1)).Nodup := by
  have := h.1
  simp only [List.flatten_cons, List.map_append] at this
  exact (List.nodup_append.1 this).1
theorem MIn.own {w : World} {s G : Seg} {S : List Seg} {pm : Nat} {X : List PT} {T : List Int} (hM : MRef s pm X T) (hO : Own w (s :: S)) (h : ∀ p ∈ s, p ∈ G) : MIn G pm X T := ⟨s, h, hO.nodup0, hM⟩
section
variable {F G : Seg} {w : World} {pm : Nat} {X : List PT} {T : List Int}
theorem g_answer (hM : MIn G pm X T) (hT : T.length ≤ 1000000) {d h off n a m : Int} {t : Bool} (ha : ansP X d h off n = (a, m, t)) (hO : Own w [G, F]) : Calls Try.prog 52 [.pointer (some ⟨pm, 0, none⟩), .agg #[.int .i64 d, .int .i64 h, .int .i64 off, .int .i64 n]].toArray w (Ret fun v w' => v = .tuple #[.agg #[.int .i64 a, .int .i64 m], .bool t] ∧ Own w' [G, F]) := by
  obtain ⟨s, h1, h2, h3⟩ := hM
  obtain ⟨G', hp, hO'⟩ := hO.takeM h2 h1
  refine Ret.mono (l_answer (F := G' ++ F) h3 hT ha (hO'.perm' (by simp))) fun v w' h => ⟨h.1, Own.putM hp (h.2.perm' (by simp))⟩
theorem g_copy (hM : MIn G pm X T) (hT : T.length ≤ 1000000) (hO : Own w [G, F]) : Calls Try.prog 44 [.pointer (some ⟨pm, 0, none⟩)].toArray w (Ret fun v w' => ∃ pm' s', v = .pointer (some ⟨pm', 0, none⟩) ∧ MRef s' pm' X T ∧ Own w' [s', G, F]) := by
  obtain ⟨s, h1, h2, h3⟩ := hM
  obtain ⟨G', hp, hO'⟩ := hO.takeM h2 h1
  refine Ret.mono (l_copy (F := G' ++ F) h3 hT (hO'.perm' (by simp))) fun v w' h => ?_
  obtain ⟨pm', s', hv, hM', hO''⟩ := h
  refine ⟨pm', s', hv, hM', ?_⟩
  have : Own w' (s :: G' :: [s', F]) := hO''.perm' (by simp only [List.flatten_cons, List.flatten_nil, List.append_nil, ← List.append_assoc]; exact (List.perm_append_comm_assoc s s' (G' ++ F) |> fun h => by simpa using (List.Perm.append_left s (List.perm_append_comm_assoc s' G' F))))
  exact (Own.putM hp this).perm (.swap _ _ _)
end
/-- Each number is an int's. -/
def IntB (x : Int) : Prop := -9223372036854775808 ≤ x ∧ x ≤ 9223372036854775807
theorem resP_bounds {X : List PT} {c : Cal} {hs : List Int} {r : Int × Int} (hX : ∀ x ∈ X, ∀ y ∈ x.b, 0 ≤ y ∧ y < 256) (hc : IntB c.num) (hh : ∀ h ∈ hs, IntB h) (hr : r ∈ resP X c hs) : IntB r.2 := by
  unfold resP at hr
  split at hr
  · simp at hr; subst hr; exact hc
  · split at hr
    · simp at hr
      subst hr
      dsimp only
      have : 0 ≤ (ansP X c.d c.h c.off c.n).2.1 ∧ (ansP X c.d c.h c.off c.n).2.1 < 256 := by
        unfold ansP
        cases hf : findP X c.h with
        | none =>
          dsimp only
          repeat' split
          all_goals (dsimp only; omega)
        | some x =>
          have hx : x ∈ X := List.mem_of_find?_eq_some hf
          dsimp only
          repeat' split
          all_goals (try (dsimp only; omega))
          refine hX x hx _ ?_
          exact getD_mem (by omega)
      unfold IntB
      omega
    · obtain ⟨y, hy, rfl⟩ := List.mem_map.1 hr
      exact hh y hy
theorem calls_num {l : List Ev} (hb : EvB l) : ∀ c ∈ callsI l l.length, IntB c.num := by
  intro c hc
  obtain ⟨k, hk, rfl⟩ := List.getElem_of_mem hc
  obtain ⟨j, e, h1, h2, h3, _⟩ := callsI_at (List.getElem?_eq_getElem hk) (Nat.le_refl _)
  rw [h3]
  unfold callOf
  split
  · rename_i r hr
    exact (hb r (List.mem_of_getElem? hr)).1
  · exact (show IntB 0 from ⟨by decide, by decide⟩)
theorem hand_num {l : List Ev} (hb : EvB l) : ∀ h ∈ handV l, IntB h := by
  intro h hh
  rw [(handV_mem l).1] at hh
  obtain ⟨e, he, rfl⟩ := List.mem_map.1 hh
  unfold hOf
  split
  · exact (hb e he).1
  · exact (hb e he).2

/-- A state is one that the calls lead to. -/
structure StOk (G : Seg) (cs : List Cal) (x : St) : Prop where
  l_ : Sl G 1 encB x.aL x.nL x.cL x.left
  m_ : MIn G x.pm x.X x.T
  t_ : Sl G 8 encE x.aT x.nT x.cT x.told
  p_ : holdI cs x.told x.told.length = some (x.left, x.X, x.T)
  b_ : EvB x.told
  n_ : x.told.length + cntL x.left = cs.length
theorem StOk.mono {G G' : Seg} {cs : List Cal} {x : St} (h : StOk G cs x) (hs : ∀ p ∈ G, p ∈ G') : StOk G' cs x := ⟨h.l_.mono hs, h.m_.mono hs, h.t_.mono hs, h.p_, h.b_, h.n_⟩
theorem StOk.lens {G : Seg} {cs : List Cal} {x : St} (h : StOk G cs x) : x.left.length = cs.length ∧ x.X.length ≤ x.told.length ∧ x.T.length ≤ x.told.length := holdI_len h.p_
/-- Behind one more call. -/
theorem holdI_append {cs : List Cal} {a b : List Ev} : ∀ i, i ≤ a.length → holdI cs (a ++ b) i = holdI cs a i
  | 0, _ => rfl
  | i + 1, h => by
    rw [holdI, holdI, holdI_append i (by omega), List.getElem?_append_left (by omega)]
def evOf (c : Cal) (r : Int × Int) : Ev := ⟨c.th, false, c.d, c.h, c.off, c.n, r.1, r.2⟩
theorem first_of_may {cs : List Cal} {left : List Bool} {i : Nat} {c : Cal} (hm : May cs left i) (hc : cs[i]? = some c) : ∀ (m k : Nat), i - k ≤ m → k ≤ i → firstAt cs left c.th k = some i
  | 0, k, h, hk => by
    have : k = i := by omega
    subst this
    exact firstAt_here hc hm.1 rfl
  | m + 1, k, h, hk => by
    by_cases hki : k = i
    · subst hki; exact firstAt_here hc hm.1 rfl
    · have hl := (List.getElem?_eq_some_iff.1 hc).1
      obtain ⟨d, hd⟩ : ∃ d, cs[k]? = some d := ⟨_, List.getElem?_eq_getElem (by omega)⟩
      rw [firstAt_on hd ?_]
      · exact first_of_may hm hc m (k + 1) (by omega) (by omega)
      · by_cases ht : d.th = c.th
        · left
          have h1 := hm.2 k d c (by omega) hd hc
          cases e : left[k]? with
          | none =>
            have h2 := (List.getElem?_eq_some_iff.1 hm.1).1
            have h3 := List.getElem?_eq_none_iff.1 e
            omega
          | some b =>
            cases b
            · rfl
            · have := h1 e hki
              simp [keeps, ht] at this
              omega
        · exact .inr ht
theorem path_step {cs : List Cal} {told : List Ev} {left : List Bool} {X X' : List PT} {T T' : List Int} {i : Nat} {c : Cal} {hs : List Int} {r : Int × Int} (hp : holdI cs told told.length = some (left, X, T)) (hm : May cs left i) (hc : cs[i]? = some c) (hr : r ∈ resP X c hs) (ht : tryP (X, T) c.d c.h c.off c.n r.1 r.2 = (true, X', T')) :
    holdI cs (told ++ [evOf c r]) (told ++ [evOf c r]).length = some (left.set i false, X', T') := by
  rw [List.length_append, List.length_singleton, holdI_succ (st := (left, X, T)) (o := evOf c r) (by rw [holdI_append _ (Nat.le_refl _)]; exact hp) (by simp)]
  refine hStep_yes (k := i) (c := c) (first_of_may hm hc _ 0 (Nat.le_refl _) (by omega)) hc ?_ hm ht
  cases hd : c.done
  · simp [isP, evOf, hd]
  · rw [resP_done hd] at hr
    simp at hr
    subst hr
    simp [isP, evOf, hd]
theorem evB_snoc {told : List Ev} {e : Ev} (h : EvB told) (h1 : IntB e.num) (h2 : IntB e.h) : EvB (told ++ [e]) := by
  intro x hx
  rcases List.mem_append.1 hx with hx | hx
  · exact h x hx
  · simp at hx; subst hx; exact ⟨h1, h2⟩

/-! ### what is laid to the states that wait -/
structure Child (cs : List Cal) (hs : List Int) (x y : St) (i : Nat) : Prop where
  ex : ∃ c r, May cs x.left i ∧ cs[i]? = some c ∧ r ∈ resP x.X c hs ∧ tryP (x.X, x.T) c.d c.h c.off c.n r.1 r.2 = (true, y.X, y.T) ∧ y.left = x.left.set i false
theorem Child.cnt {cs : List Cal} {hs : List Int} {x y : St} {i : Nat} (h : Child cs hs x y i) : cntL y.left + 1 = cntL x.left := by
  obtain ⟨c, r, h1, _, _, _, h5⟩ := h.ex
  rw [h5]; exact cnt_set h1.1
theorem Child.ok {cs : List Cal} {hs : List Int} {x y : St} {i : Nat} (h : Child cs hs x y i) (hk : Ok cs hs y.left y.X y.T) : Ok cs hs x.left x.X x.T := by
  obtain ⟨c, r, h1, h2, h3, h4, h5⟩ := h.ex
  rw [h5] at hk
  exact .step h1 h2 h3 h4 hk
/-- Of the calls from a place on (of that place's, the answers ahead of j) all are laid. -/
structure Ext (cs : List Cal) (hs : List Int) (x : St) (k j : Nat) (A : List St) : Prop where
  sound : ∀ y ∈ A, ∃ i, Child cs hs x y i
  all : ∀ i c (m : Nat) r X' T', cs[i]? = some c → May cs x.left i → (resP x.X c hs)[m]? = some r → tryP (x.X, x.T) c.d c.h c.off c.n r.1 r.2 = (true, X', T') → (k < i ∨ (k = i ∧ m < j)) → ∃ y ∈ A, y.left = x.left.set i false ∧ y.X = X' ∧ y.T = T'
  len : A.length ≤ (cs.length - (k + 1)) * (hs.length + 1) + j
theorem Ext.start {cs : List Cal} {hs : List Int} {x : St} {k : Nat} (hk : cs.length ≤ k + 1) : Ext cs hs x k 0 [] :=
  ⟨fun y h => by simp at h, fun i c m r X' T' hc _ _ _ h => by have := (List.getElem?_eq_some_iff.1 hc).1; omega, by simp⟩
section
variable {cs : List Cal} {hs : List Int} {x y : St} {k j : Nat} {A : List St} {c : Cal} {r : Int × Int} {X' : List PT} {T' : List Int}
theorem Ext.skip (h : Ext cs hs x k j A) (hc : cs[k]? = some c) (hr : (resP x.X c hs)[j]? = some r) (hn : (tryP (x.X, x.T) c.d c.h c.off c.n r.1 r.2).1 = false) : Ext cs hs x k (j + 1) A :=
  ⟨h.sound, fun i c' m r' X' T' hc' hM hr' ht hk => by
    by_cases hm : k = i ∧ m = j
    · obtain ⟨rfl, rfl⟩ := hm
      rw [hc] at hc'; cases hc'; rw [hr] at hr'; cases hr'
      rw [ht] at hn; cases hn
    · exact h.all i c' m r' X' T' hc' hM hr' ht (by omega), Nat.le_succ_of_le h.len⟩
theorem Ext.add (h : Ext cs hs x k j A) (hc : cs[k]? = some c) (hM : May cs x.left k) (hr : (resP x.X c hs)[j]? = some r) (ht : tryP (x.X, x.T) c.d c.h c.off c.n r.1 r.2 = (true, y.X, y.T)) (hy : y.left = x.left.set k false) : Ext cs hs x k (j + 1) (A ++ [y]) :=
  ⟨fun z hz => by
    rcases List.mem_append.1 hz with hz | hz
    · exact h.sound z hz
    · simp at hz; subst hz; exact ⟨k, ⟨c, r, hM, hc, List.mem_of_getElem? hr, ht, hy⟩⟩,
   fun i c' m r' X' T' hc' hM' hr' ht' hk => by
    by_cases hm : k = i ∧ m = j
    · obtain ⟨rfl, rfl⟩ := hm
      rw [hc] at hc'; cases hc'; rw [hr] at hr'; cases hr'
      rw [ht] at ht'; cases ht'
      exact ⟨y, by simp, hy, rfl, rfl⟩
    · obtain ⟨z, hz, h1⟩ := h.all i c' m r' X' T' hc' hM' hr' ht' (by omega)
      exact ⟨z, by simp [hz], h1⟩, by rw [List.length_append, List.length_singleton]; have := h.len; omega⟩
theorem Ext.next (h : Ext cs hs x k j A) (hc : cs[k]? = some c) (hj : j = (resP x.X c hs).length) : Ext cs hs x (k - 1) 0 A ∨ k = 0 := by
  by_cases hk : k = 0
  · exact .inr hk
  · refine .inl ⟨h.sound, fun i c' m r' X' T' hc' hM hr' ht hi => ?_, ?_⟩
    · rcases Nat.lt_trichotomy k i with hlt | rfl | hgt
      · exact h.all i c' m r' X' T' hc' hM hr' ht (.inl hlt)
      · rw [hc] at hc'; cases hc'
        exact h.all k c m r' X' T' hc hM hr' ht (.inr ⟨rfl, by have := (List.getElem?_eq_some_iff.1 hr').1; omega⟩)
      · omega
    · have h1 := h.len
      have h2 := resP_len x.X c hs
      have h3 := (List.getElem?_eq_some_iff.1 hc).1
      have h4 : cs.length - (k - 1 + 1) = (cs.length - (k + 1)) + 1 := by omega
      rw [h4, Nat.succ_mul]
      omega
end
/-- From call number k on (k = number of those that are left ahead) all are laid. -/
def ExtD (cs : List Cal) (hs : List Int) (x : St) (k : Nat) (A : List St) : Prop :=
  (∀ y ∈ A, ∃ i, Child cs hs x y i) ∧ (∀ i c (m : Nat) r X' T', cs[i]? = some c → May cs x.left i → (resP x.X c hs)[m]? = some r → tryP (x.X, x.T) c.d c.h c.off c.n r.1 r.2 = (true, X', T') → k ≤ i → ∃ y ∈ A, y.left = x.left.set i false ∧ y.X = X' ∧ y.T = T') ∧ A.length ≤ (cs.length - k) * (hs.length + 1)
theorem ExtD.start {cs : List Cal} {hs : List Int} {x : St} : ExtD cs hs x cs.length [] := ⟨fun y h => by simp at h, fun i c m r X' T' hc _ _ _ h => by have := (List.getElem?_eq_some_iff.1 hc).1; omega, by simp⟩
section
variable {cs : List Cal} {hs : List Int} {x y : St} {k j : Nat} {A : List St} {c : Cal}
theorem ExtD.begin_ (h : ExtD cs hs x (k + 1) A) : Ext cs hs x k 0 A := ⟨h.1, fun i c' m r X' T' hc' hM hr ht hi => h.2.1 i c' m r X' T' hc' hM hr ht (by omega), by simpa using h.2.2⟩
theorem ExtD.not (h : ExtD cs hs x (k + 1) A) (hm : ¬ May cs x.left k) : ExtD cs hs x k A := ⟨h.1, fun i c' m r X' T' hc' hM hr ht hi => by
    by_cases hk : i = k
    · subst hk; exact absurd hM hm
    · exact h.2.1 i c' m r X' T' hc' hM hr ht (by omega), Nat.le_trans h.2.2 (Nat.mul_le_mul_right _ (by omega))⟩
theorem Ext.end_ (h : Ext cs hs x k j A) (hc : cs[k]? = some c) (hj : j = (resP x.X c hs).length) : ExtD cs hs x k A := by
  refine ⟨h.sound, fun i c' m r' X' T' hc' hM hr' ht hi => ?_, ?_⟩
  · rcases Nat.lt_or_eq_of_le hi with hlt | rfl
    · exact h.all i c' m r' X' T' hc' hM hr' ht (.inl hlt)
    · rw [hc] at hc'; cases hc'
      exact h.all k c m r' X' T' hc hM hr' ht (.inr ⟨rfl, by have := (List.getElem?_eq_some_iff.1 hr').1; omega⟩)
  · have h1 := h.len
    have h2 := resP_len x.X c hs
    have h3 := (List.getElem?_eq_some_iff.1 hc).1
    have h4 : cs.length - k = (cs.length - (k + 1)) + 1 := by omega
    rw [h4, Nat.succ_mul]
    omega
/-- All are laid: there is an order from here on just if there is one from one of them on. -/
theorem ExtD.ok (h : ExtD cs hs x 0 A) (hd : ¬ AllDone cs x.left) : Ok cs hs x.left x.X x.T ↔ ∃ y ∈ A, Ok cs hs y.left y.X y.T := by
  constructor
  · intro hk
    cases hk with
    | done h1 => exact absurd h1 hd
    | @step _ _ X' _ T' i c r h1 h2 h3 h4 h5 =>
      obtain ⟨m, hm, rfl⟩ := List.getElem_of_mem h3
      obtain ⟨y, hy, e1, e2, e3⟩ := h.2.1 i c m _ X' T' h2 h1 (List.getElem?_eq_getElem hm) h4 (Nat.zero_le _)
      exact ⟨y, hy, by rw [e1, e2, e3]; exact h5⟩
  · rintro ⟨y, hy, hk⟩
    obtain ⟨i, hi⟩ := h.1 y hy
    exact hi.ok hk
end

/-! ### the stack -/
def wgt (B : Nat) (x : St) : Nat := (B + 1) ^ cntL x.left
def wgts (B : Nat) (l : List St) : Nat := (l.map (wgt B)).sum
theorem wgts_append (B : Nat) (a b : List St) : wgts B (a ++ b) = wgts B a + wgts B b := by simp [wgts]
theorem wgts_kids {cs : List Cal} {hs : List Int} {x : St} {B : Nat} : ∀ {A : List St}, (∀ y ∈ A, ∃ i, Child cs hs x y i) → A.length ≤ B → wgts B A < wgt B x
  | [], _, _ => by simp only [wgts, List.map_nil, List.sum_nil, wgt]; exact Nat.pow_pos (by omega)
  | y :: A, h, hl => by
    have h1 : ∀ z ∈ y :: A, wgt B z = (B + 1) ^ (cntL x.left - 1) := fun z hz => by
      obtain ⟨i, hi⟩ := h z hz
      have := hi.cnt
      unfold wgt; congr 1; omega
    have h2 : wgts B (y :: A) = (y :: A).length * (B + 1) ^ (cntL x.left - 1) := by
      clear h hl
      unfold wgts
      generalize y :: A = L at h1
      induction L with
      | nil => simp
      | cons z L ih =>
        simp only [List.map_cons, List.sum_cons, List.length_cons, Nat.succ_mul]
        rw [h1 z (by simp), ih (fun u hu => h1 u (by simp [hu]))]
        omega
    obtain ⟨i, hi⟩ := h y (by simp)
    have h3 := hi.cnt
    obtain ⟨c, hc⟩ : ∃ c, cntL x.left = c + 1 := ⟨cntL x.left - 1, by omega⟩
    rw [h2]
    unfold wgt
    rw [hc, Nat.pow_succ]
    simp only [Nat.add_sub_cancel]
    have h4 : 0 < (B + 1) ^ c := Nat.pow_pos (by omega)
    have h5 := Nat.mul_le_mul_right ((B + 1) ^ c) hl
    rw [Nat.mul_comm ((B + 1) ^ c) (B + 1), Nat.add_mul]
    omega
/-- How high the stack is. -/
structure Stk (cs : List Cal) (B : Nat) (x : St) (ws : List St) : Prop where
  top : ws.length ≤ (cs.length - cntL x.left) * B
  at_ : ∀ p y, ws[p]? = some y → p ≤ (cs.length - cntL y.left) * B ∧ cntL y.left ≤ cs.length
  cx : cntL x.left ≤ cs.length
theorem Stk.pop {cs : List Cal} {hs : List Int} {B : Nat} {x y : St} {ws A : List St} {n : Nat} (h : Stk cs B x ws) (hA : ∀ y ∈ A, ∃ i, Child cs hs x y i) (hB : A.length ≤ B) (hy : (ws ++ A)[n]? = some y) (hn : n + 1 = (ws ++ A).length) : Stk cs B y ((ws ++ A).take n) := by
  have key : ∀ p z, (ws ++ A)[p]? = some z → p ≤ (cs.length - cntL z.left) * B ∧ cntL z.left ≤ cs.length := by
    intro p z hz
    rcases Nat.lt_or_ge p ws.length with hp | hp
    · rw [List.getElem?_append_left hp] at hz; exact h.at_ p z hz
    · rw [List.getElem?_append_right hp] at hz
      obtain ⟨i, hi⟩ := hA z (List.mem_of_getElem? hz)
      have h1 := hi.cnt
      have h2 := h.cx
      have h3 := (List.getElem?_eq_some_iff.1 hz).1
      have h4 := h.top
      have h5 : cs.length - cntL z.left = (cs.length - cntL x.left) + 1 := by omega
      rw [h5, Nat.succ_mul]
      omega
  have h6 := key n y hy
  refine ⟨by rw [List.length_take]; omega, fun p z hz => ?_, h6.2⟩
  rw [List.getElem?_take] at hz; split at hz; exact key p z hz; cases hz
theorem MIn.bytes {G : Seg} {pm : Nat} {X : List PT} {T : List Int} (h : MIn G pm X T) : ∀ x ∈ X, ∀ y ∈ x.b, 0 ≤ y ∧ y < 256 := by
  obtain ⟨s, _, _, h3⟩ := h; exact h3.bytes
theorem calls_h {l : List Ev} (hb : EvB l) : ∀ c ∈ callsI l l.length, IntB c.h := by
  intro c hc
  obtain ⟨k, hk, rfl⟩ := List.getElem_of_mem hc
  obtain ⟨j, e, h1, h2, h3, _⟩ := callsI_at (List.getElem?_eq_getElem hk) (Nat.le_refl _)
  rw [h3, callOf_to.2.2.2.2.2.1]
  exact (hb e (List.mem_of_getElem? h2)).2
theorem take_last {α : Type} {L : List α} {m : Nat} {q : α} (hq : L[m]? = some q) (hm : L.length = m + 1) : L = L.take m ++ [q] := by
  have h1 : L.take (m + 1) = L := List.take_of_length_le (by omega)
  rw [List.take_add_one, hq] at h1
  exact h1.symm
theorem pop_all {cs : List Cal} {hs : List Int} {x q : St} {ws A : List St} {m B : Nat} {P0 : Prop} (hE : ExtD cs hs x 0 A) (hnd : ¬ AllDone cs x.left) (hok : P0 ↔ Ok cs hs x.left x.X x.T ∨ ∃ y ∈ ws, Ok cs hs y.left y.X y.T) (hstk : Stk cs B x ws) (hB : B = cs.length * (hs.length + 1)) (hq : (ws ++ A)[m]? = some q) (hm : (ws ++ A).length = m + 1) :
    (P0 ↔ Ok cs hs q.left q.X q.T ∨ ∃ y ∈ (ws ++ A).take m, Ok cs hs y.left y.X y.T) ∧ Stk cs B q ((ws ++ A).take m) ∧ wgts B (q :: (ws ++ A).take m) < wgts B (x :: ws) := by
  have hAB : A.length ≤ B := by have := hE.2.2; simpa [hB] using this
  have hL := take_last hq hm
  refine ⟨?_, hstk.pop hE.1 hAB hq (by omega), ?_⟩
  · rw [hok, hE.ok hnd]
    have : (∃ y ∈ ws ++ A, Ok cs hs y.left y.X y.T) ↔ Ok cs hs q.left q.X q.T ∨ ∃ y ∈ (ws ++ A).take m, Ok cs hs y.left y.X y.T := by
      conv => lhs; rw [hL]
      constructor
      · rintro ⟨y, hy, hk⟩
        rcases List.mem_append.1 hy with hy | hy
        · exact .inr ⟨y, hy, hk⟩
        · rw [List.mem_singleton.1 hy] at hk; exact .inl hk
      · rintro (hk | ⟨y, hy, hk⟩)
        · exact ⟨q, by simp, hk⟩
        · exact ⟨y, List.mem_append_left _ hy, hk⟩
    rw [← this]
    constructor
    · rintro (⟨y, hy, hk⟩ | ⟨y, hy, hk⟩)
      · exact ⟨y, List.mem_append_right _ hy, hk⟩
      · exact ⟨y, List.mem_append_left _ hy, hk⟩
    · rintro ⟨y, hy, hk⟩
      rcases List.mem_append.1 hy with hy | hy
      · exact .inr ⟨y, hy, hk⟩
      · exact .inl ⟨y, hy, hk⟩
  · have h1 := wgts_kids hE.1 hAB
    have h2 : wgts B (ws ++ A) = wgts B ((ws ++ A).take m) + wgt B q := by
      conv => lhs; rw [hL]
      rw [wgts_append]; simp [wgts]
    rw [wgts_append] at h2
    have h3 : ∀ (z : St) (L : List St), wgts B (z :: L) = wgt B z + wgts B L := fun z L => by simp [wgts]
    rw [h3, h3]
    omega
theorem acc_iff (l : List Ev) : AccP l ↔ checkL l = 0 ∧ Ok (callsI l l.length) (handV l) (List.replicate (callsI l l.length).length true) [] [] :=
  ⟨fun h => ⟨h.1, ok_hs (fun x hx => (hand_same l x).2 hx) h.2⟩, fun h => ⟨h.1, ok_hs (fun x hx => (hand_same l x).1 hx) h.2⟩⟩
end Go.Sd
