/-
  A history that is cut off is accepted, if the whole one is.
-/
import Derived.Test.YtgkbmelecalllaaSfA
import Derived.Test.YtgkbmelecalllaaSe3
import Derived.Test.YtgkbmelecalllaaSdP
set_option linter.unusedSectionVars false
set_option linter.unusedSimpArgs false
set_option linter.unusedVariables false
namespace Go.Sd
open Go Go.Proofs
variable [Str]

/-! ### two maps that are alike at some handles -/
theorem find_append (a b : List PT) (h : Int) : findP (a ++ b) h = (findP a h).or (findP b h) := by simp [findP, List.find?_append]
theorem find_one (x : PT) (h : Int) : findP [x] h = if x.h = h then some x else none := by
  by_cases e : x.h = h <;> simp [findP, e]
theorem putSP_eq (x t : PT) (o : List PT) (l : Bool) : putSP x (o, l) t = ((if t.h = x.h then (if l = false ∧ x.h ≤ t.h then o ++ [x] else o) else (if l = false ∧ x.h ≤ t.h then o ++ [x] else o) ++ [t]), l || decide (x.h ≤ t.h)) := rfl
theorem tellS_eq (h t : Int) (o : List Int) (l : Bool) : tellS h (o, l) t = ((if l = false ∧ h < t then o ++ [h] else o) ++ [t], l || decide (h < t)) := rfl
theorem putF_other {x : PT} {h : Int} (hne : x.h ≠ h) : ∀ (L : List PT) (o : List PT) (l : Bool), findP (L.foldl (putSP x) (o, l)).1 h = (findP o h).or (findP L h)
  | [], o, l => by simp [findP]
  | t :: L, o, l => by
    have h0 : ∀ o' : List PT, findP (if l = false ∧ x.h ≤ t.h then o' ++ [x] else o') h = findP o' h := fun o' => by
      split
      · rw [find_append, find_one, if_neg hne, Option.or_none]
      · rfl
    have h1 : findP (t :: L) h = (if t.h = h then some t else none).or (findP L h) := by
      rw [← find_one]
      exact find_append [t] L h
    rw [List.foldl_cons, putSP_eq, putF_other hne L, h1]
    split
    · rename_i e
      rw [h0, if_neg (by rw [e]; exact hne), Option.none_or]
    · rw [find_append, h0, find_one, Option.or_assoc]
theorem put_other {x : PT} {h : Int} (hne : x.h ≠ h) (L : List PT) : findP (putP x L) h = findP L h := by
  unfold putP
  dsimp only
  split
  · rw [putF_other hne]; simp [findP]
  · rw [find_append, putF_other hne, find_one, if_neg hne, Option.or_none]; simp [findP]
theorem putF_laid {x : PT} : ∀ (L : List PT) (o : List PT), (findP (L.foldl (putSP x) (o, true)).1 x.h = findP o x.h) ∧ (L.foldl (putSP x) (o, true)).2 = true
  | [], o => ⟨rfl, rfl⟩
  | t :: L, o => by
    rw [List.foldl_cons, putSP_eq]
    simp only [Bool.true_eq_false, false_and, if_false, Bool.true_or]
    split
    · exact putF_laid L o
    · rename_i e
      have := putF_laid L (o ++ [t]) (x := x)
      rw [find_append, find_one, if_neg e, Option.or_none] at this
      exact this
theorem putF_not {x : PT} : ∀ (L : List PT) (o : List PT), findP o x.h = none → (findP (if (L.foldl (putSP x) (o, false)).2 then (L.foldl (putSP x) (o, false)).1 else (L.foldl (putSP x) (o, false)).1 ++ [x]) x.h = some x)
  | [], o, ho => by simp [find_append, ho, find_one]
  | t :: L, o, ho => by
    rw [List.foldl_cons]
    have e0 : putSP x (o, false) t = ((if t.h = x.h then (if x.h ≤ t.h then o ++ [x] else o) else (if x.h ≤ t.h then o ++ [x] else o) ++ [t]), decide (x.h ≤ t.h)) := by simp [putSP]
    rw [e0]
    by_cases h1 : x.h ≤ t.h
    · rw [decide_eq_true h1]
      simp only [h1, if_true]
      have h2 : ∀ o', findP o' x.h = some x → (findP (if (L.foldl (putSP x) (o', true)).2 then (L.foldl (putSP x) (o', true)).1 else (L.foldl (putSP x) (o', true)).1 ++ [x]) x.h = some x) := fun o' h => by
        have := putF_laid L o' (x := x)
        rw [if_pos this.2, this.1, h]
      split
      · exact h2 _ (by rw [find_append, ho, find_one, if_pos rfl]; rfl)
      · exact h2 _ (by rw [find_append, find_append, ho, find_one, if_pos rfl]; rfl)
    · rw [decide_eq_false h1]
      simp only [h1, if_false]
      have h3 : ¬ t.h = x.h := by omega
      rw [if_neg h3]
      exact putF_not L _ (by rw [find_append, ho, find_one, if_neg h3]; rfl)
theorem put_same {x : PT} (L : List PT) : findP (putP x L) x.h = if x.b = [] then none else some x := by
  unfold putP
  dsimp only
  by_cases hb : x.b = []
  · rw [if_pos hb]
    have h1 := putF_laid L [] (x := x)
    have h2 : (decide ((x.b.length : Int) = 0)) = true := by simp [hb]
    rw [h2, if_pos h1.2, h1.1]
    rfl
  · rw [if_neg hb]
    have h2 : (decide ((x.b.length : Int) = 0)) = false := by simpa using hb
    rw [h2]
    exact putF_not L [] rfl
theorem tell_mem {h : Int} : ∀ (T o : List Int) (l : Bool) (z : Int), z ∈ (T.foldl (tellS h) (o, l)).1 ∨ (z = h ∧ (T.foldl (tellS h) (o, l)).2 = false) ↔ z ∈ o ∨ z ∈ T ∨ (z = h ∧ l = false)
  | [], o, l, z => by simp
  | t :: T, o, l, z => by
    rw [List.foldl_cons, tellS_eq, tell_mem T]
    by_cases h1 : h < t <;> cases l <;> simp [h1] <;> grind
theorem tellT_mem {h : Int} {T : List Int} (z : Int) : z ∈ tellT h T ↔ z = h ∨ z ∈ T := by
  have h0 := tell_mem (h := h) T [] false z
  unfold tellT tellI
  rw [List.take_length]
  split
  · rename_i h1
    simp [h1] at h0
    rw [h0]
    exact Or.comm
  · rename_i h1
    simp [h1] at h0
    rw [List.mem_append, List.mem_singleton, h0]
    exact Or.comm
structure Rel (p : Int → Prop) (X : List PT) (T : List Int) (X' : List PT) (T' : List Int) : Prop where
  f : ∀ h, p h → findP X h = findP X' h
  t : ∀ h, p h → (h ∈ T ↔ h ∈ T')
theorem ans_rel {p : Int → Prop} {X X' : List PT} {T T' : List Int} (hR : Rel p X T X' T') {d h off n : Int} (hp : p h) : ansP X d h off n = ansP X' d h off n := by
  unfold ansP
  rw [hR.f h hp]
theorem find_h {X : List PT} {h : Int} {x : PT} (hf : findP X h = some x) : x.h = h := by simpa using List.find?_some hf
theorem put_rel {p : Int → Prop} {X X' : List PT} {T T' : List Int} (hR : Rel p X T X' T') (x : PT) : Rel p (putP x X) T (putP x X') T' :=
  ⟨fun h hp => by
    by_cases e : x.h = h
    · subst e; rw [put_same, put_same]
    · rw [put_other e, put_other e]; exact hR.f h hp, hR.t⟩
theorem try_sim {p : Int → Prop} {X X2 X' : List PT} {T T2 T' : List Int} (hR : Rel p X T X' T') {d h off n code num : Int} (hp : p h) (ht : tryP (X, T) d h off n code num = (true, X2, T2)) :
    (p num → ∃ Y U, tryP (X', T') d h off n code num = (true, Y, U) ∧ Rel p X2 T2 Y U) ∧
    ((ansP X' d h off n).2.2 = true → (ansP X' d h off n).1 = code ∧ (ansP X' d h off n).2.1 = num ∧ ∃ Y U, tryP (X', T') d h off n code num = (true, Y, U) ∧ Rel p X2 T2 Y U) ∧
    ((ansP X' d h off n).2.2 = false → (code = 0 ∧ p num) ∨ Rel p X2 T2 X' T') := by
  have ha := ans_rel hR (d := d) (off := off) (n := n) hp
  unfold tryP at ht ⊢
  dsimp only at ht ⊢
  rw [ha] at ht
  by_cases h1 : (ansP X' d h off n).2.2 = false
  · rw [if_pos h1] at ht
    by_cases h2 : code = 10 ∨ code = 11
    · rw [if_pos h2] at ht
      have e1 := congrArg Prod.fst ht
      have e2 := congrArg Prod.snd ht
      dsimp only at e1 e2
      cases e2
      refine ⟨fun _ => ⟨X', T', ?_, hR⟩, fun h => (by rw [h1] at h; cases h), fun _ => .inr hR⟩
      rw [if_pos h1, if_pos h2, e1]
    · rw [if_neg h2] at ht
      by_cases h3 : code = 0 ∧ isHandle num = true ∧ num ∉ T
      · rw [if_pos h3] at ht
        have e2 := congrArg Prod.snd ht
        dsimp only at e2
        cases e2
        have hrel : p num → Rel p (putP ⟨num, List.replicate n.toNat 0, 0⟩ X) (tellT num T) (putP ⟨num, List.replicate n.toNat 0, 0⟩ X') (tellT num T') := fun hn =>
          ⟨(put_rel hR _).f, fun z hz => by rw [tellT_mem, tellT_mem, hR.t z hz]⟩
        refine ⟨fun hn => ⟨_, _, ?_, hrel hn⟩, fun h => (by rw [h1] at h; cases h), fun _ => ?_⟩
        · rw [if_pos h1, if_neg h2, if_pos ⟨h3.1, h3.2.1, fun h => h3.2.2 ((hR.t _ hn).2 h)⟩]
        · by_cases hn : p num
          · exact .inl ⟨h3.1, hn⟩
          · refine .inr ⟨fun z hz => ?_, fun z hz => ?_⟩
            · have hne : num ≠ z := fun e => hn (by rw [e]; exact hz)
              rw [put_other (show (⟨num, List.replicate n.toNat 0, 0⟩ : PT).h ≠ z from hne)]
              exact hR.f z hz
            · have hne : z ≠ num := fun e => hn (by rw [← e]; exact hz)
              rw [tellT_mem, ← hR.t z hz]
              simp [hne]
      · rw [if_neg h3] at ht
        cases congrArg Prod.fst ht
  · rw [if_neg h1] at ht
    have h1' : (ansP X' d h off n).2.2 = true := by simpa using h1
    by_cases h2 : (ansP X' d h off n).1 = code ∧ (ansP X' d h off n).2.1 = num
    · rw [if_pos h2] at ht
      have key : ∃ Y U, (if code = 0 then (true, ((match findP X' h with | some x => putP (chgP d off n x) X' | none => X'), T')) else (true, (X', T'))) = (true, (Y, U)) ∧ Rel p X2 T2 Y U := by
        by_cases h3 : code = 0
        · rw [if_pos h3] at ht ⊢
          have e2 := congrArg Prod.snd ht
          dsimp only at e2
          have e3 := congrArg Prod.fst e2
          have e4 := congrArg Prod.snd e2
          dsimp only at e3 e4
          subst e3 e4
          refine ⟨_, _, rfl, ?_⟩
          rw [hR.f h hp]
          cases findP X' h with
          | some x => exact put_rel hR _
          | none => exact hR
        · rw [if_neg h3] at ht ⊢
          have e2 := congrArg Prod.snd ht
          dsimp only at e2
          cases e2
          exact ⟨_, _, rfl, hR⟩
      rw [if_neg h1, if_pos h2]
      exact ⟨fun _ => key, fun _ => ⟨h2.1, h2.2, key⟩, fun h => absurd h h1⟩
    · rw [if_neg h2] at ht
      cases congrArg Prod.fst ht

/-! ### the cut's calls -/
def cutM (m : Nat) (c : Cal) : Cal := if c.to_ < m then c else ⟨c.th, c.d, c.h, c.off, c.n, 0, 0, false, c.frm, m⟩
structure Cuts (p : Int → Prop) (m : Nat) (cs cs' : List Cal) : Prop where
  at_ : ∀ k, k < cs'.length → ∃ c : Cal, cs[k]? = some c ∧ cs'[k]? = some (cutM m c) ∧ c.frm < m ∧ p c.h ∧ (c.to_ < m → p c.num ∧ c.done = true)
  behind : ∀ (k : Nat) (c : Cal), cs'.length ≤ k → cs[k]? = some c → (m : Int) ≤ c.frm
  seq : ∀ (k k' : Nat) (c c' : Cal), k < k' → cs[k]? = some c → cs[k']? = some c' → c.th = c'.th → c.to_ ≤ c'.frm
structure LRel (m : Nat) (cs : List Cal) (left left' : List Bool) (n' : Nat) : Prop where
  len : left'.length = n'
  up : ∀ k, k < n' → left[k]? = some true → left'[k]? = some true
  dn : ∀ (k : Nat) (c : Cal), k < n' → left'[k]? = some true → cs[k]? = some c → left[k]? = some true ∨ (m : Int) ≤ c.to_
theorem cutM_f (m : Nat) (c : Cal) : (cutM m c).th = c.th ∧ (cutM m c).frm = c.frm ∧ (cutM m c).d = c.d ∧ (cutM m c).h = c.h ∧ (cutM m c).off = c.off ∧ (cutM m c).n = c.n := by
  unfold cutM; split <;> exact ⟨rfl, rfl, rfl, rfl, rfl, rfl⟩
theorem cut_sim {p : Int → Prop} {m : Nat} {cs cs' : List Cal} {hs hs' : List Int} (hC : Cuts p m cs cs') (hh : ∀ x, p x → x ∈ hs') {left : List Bool} {X : List PT} {T : List Int} (hk : Ok cs hs left X T) :
    ∀ (left' : List Bool) (X' : List PT) (T' : List Int), LRel m cs left left' cs'.length → Rel p X T X' T' → Ok cs' hs' left' X' T' := by
  induction hk with
  | @done left X T hd =>
    intro left' X' T' hL hR
    refine .done fun k c' hk hc' hl' => ?_
    obtain ⟨c, hc, hcc, h1, h2, h3⟩ := hC.at_ k hk
    rw [hcc] at hc'
    cases hc'
    unfold cutM
    split
    · rename_i hto
      rcases hL.dn k c hk hl' hc with h | h
      · exact hd k c (List.getElem?_eq_some_iff.1 hc).1 hc h
      · omega
    · rfl
  | @step left X X2 T T2 i c r hM hc hr ht _ ih =>
    intro left' X' T' hL hR
    by_cases hi : i < cs'.length
    · obtain ⟨c1, hc1, hcc, h1, h2, h3⟩ := hC.at_ i hi
      rw [hc] at hc1
      cases hc1
      have hMay : May cs' left' i := by
        refine ⟨hL.up i hi hM.1, fun k c' x' hk hc' hx' hlk hne => ?_⟩
        obtain ⟨c2, hc2, hcc2, g1, g2, g3⟩ := hC.at_ k hk
        rw [hcc2] at hc'; rw [hcc] at hx'
        cases hc'; cases hx'
        have e1 := cutM_f m c2
        have e2 := cutM_f m c
        unfold keeps
        rw [e1.1, e2.1, e2.2.1]
        rcases hL.dn k c2 hk hlk hc2 with h | h
        · have h4 := hM.2 k c2 c (List.getElem?_eq_some_iff.1 hc2).1 hc2 hc h hne
          unfold keeps at h4
          unfold cutM
          split
          · exact h4
          · simp only [Bool.false_and, Bool.false_or]
            simp only [Bool.or_eq_false_iff] at h4
            exact h4.2
        · have h5 : ¬ c2.to_ < m := by omega
          have h6 : (cutM m c2).done = false := by unfold cutM; rw [if_neg h5]
          rw [h6]
          simp only [Bool.false_and, Bool.false_or, Bool.and_eq_false_iff, decide_eq_false_iff_not]
          by_cases h7 : c2.th = c.th
          · right
            intro h8
            have := hC.seq k i c2 c h8 hc2 hc h7
            omega
          · exact .inl h7
      have e := cutM_f m c
      have hset : LRel m cs (left.set i false) (left'.set i false) cs'.length := by
        refine ⟨by simp [hL.len], fun k hk h => ?_, fun k c2 hk h hc2 => ?_⟩
        · rw [List.getElem?_set] at h ⊢
          split at h
          · split at h
            · cases h
            · cases h
          · rename_i hne; rw [if_neg hne]; exact hL.up k hk h
        · rw [List.getElem?_set] at h ⊢
          split at h
          · split at h
            · cases h
            · cases h
          · rename_i hne; rw [if_neg hne]; exact hL.dn k c2 hk h hc2
      obtain ⟨s1, s2, s3⟩ := try_sim hR h2 ht
      by_cases hto : c.to_ < m
      · obtain ⟨hp, hdn⟩ := h3 hto
        have ec : cutM m c = c := by unfold cutM; rw [if_pos hto]
        rw [resP_done hdn, List.mem_singleton] at hr
        subst hr
        obtain ⟨Y, U, hY, hRY⟩ := s1 hp
        refine .step hMay hcc (r := (c.code, c.num)) ?_ ?_ (ih _ _ _ hset hRY)
        · rw [ec, resP_done hdn]; exact List.mem_singleton.2 rfl
        · rw [ec]; exact hY
      · have hpend : (cutM m c).done = false := by unfold cutM; rw [if_neg hto]
        have hskip : LRel m cs (left.set i false) left' cs'.length := by
          refine ⟨hL.len, fun k hk h => ?_, fun k c2 hk h hc2 => ?_⟩
          · rw [List.getElem?_set] at h
            split at h
            · split at h
              · cases h
              · cases h
            · exact hL.up k hk h
          · by_cases hne : i = k
            · subst hne
              rw [hc] at hc2
              cases hc2
              exact .inr (by omega)
            · rw [List.getElem?_set, if_neg hne]
              exact hL.dn k c2 hk h hc2
        cases ht2 : (ansP X' c.d c.h c.off c.n).2.2 with
        | true =>
          obtain ⟨q1, q2, Y, U, hY, hRY⟩ := s2 ht2
          refine .step hMay hcc (r := r) ?_ ?_ (ih _ _ _ hset hRY)
          · rw [resP_ans (a := r.1) (m := r.2) hpend (by rw [e.2.2.1, e.2.2.2.1, e.2.2.2.2.1, e.2.2.2.2.2]; exact Prod.ext q1 (Prod.ext q2 ht2))]
            exact List.mem_singleton.2 rfl
          · rw [e.2.2.1, e.2.2.2.1, e.2.2.2.2.1, e.2.2.2.2.2]; exact hY
        | false =>
          rcases s3 ht2 with ⟨q1, q2⟩ | q
          · obtain ⟨Y, U, hY, hRY⟩ := s1 q2
            refine .step hMay hcc (r := r) ?_ ?_ (ih _ _ _ hset hRY)
            · rw [resP_hs (a := (ansP X' c.d c.h c.off c.n).1) (m := (ansP X' c.d c.h c.off c.n).2.1) hpend (by rw [e.2.2.1, e.2.2.2.1, e.2.2.2.2.1, e.2.2.2.2.2]; exact Prod.ext rfl (Prod.ext rfl ht2))]
              exact List.mem_map.2 ⟨r.2, hh _ q2, Prod.ext q1.symm rfl⟩
            · rw [e.2.2.1, e.2.2.2.1, e.2.2.2.2.1, e.2.2.2.2.2]; exact hY
          · exact ih _ _ _ hskip q
    · refine .done fun k c' hk hc' hl' => ?_
      obtain ⟨c2, hc2, hcc, g1, g2, g3⟩ := hC.at_ k hk
      rw [hcc] at hc'
      cases hc'
      unfold cutM
      split
      · rename_i hto
        rcases hL.dn k c2 hk hl' hc2 with h | h
        · have h4 := hM.2 k c2 c (List.getElem?_eq_some_iff.1 hc2).1 hc2 hc h (by omega)
          have h5 := hC.behind i c (by omega) hc
          unfold keeps at h4
          simp only [Bool.or_eq_false_iff, Bool.and_eq_false_iff, decide_eq_false_iff_not] at h4
          rcases h4.1 with h6 | h6
          · exact h6
          · omega
        · omega
      · rfl
end Go.Sd
