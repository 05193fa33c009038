/-
  sidingslaw09.LinearOne, whatever the input: it returns true, and the input reads as it did. No condition.
-/
import Derived.Test.YtgkbmelecalllaaSfR
import Derived.Test.YtgkbmelecalllaaSeZ
set_option linter.unusedSimpArgs false
set_option linter.unusedVariables false
namespace Go.Proofs.Ytgkbmelecalllaa
open Go.ChangeShapes Go.WideShapes Go.ChangeAt Go.RowKit Go.Sd

set_option maxRecDepth 100000 in
theorem linOne_lifted (os : Os) (started : os.Started) (H : Type) (enc : TypeId × Value → H) :
    ReturnsInHanded {} Try.checked os 7 .any (Rows.linearOneSpec.pre6 enc Try.prog Try.f7 Rows.linearOneRow.domain false) (Rows.linearOneSpec.post enc Try.prog Try.f7 false true false false) := by
  refine returnsInHanded_of_change (C := Try.checked) own_ started (by kernel_rfl) Try.func7
    (ChangeSpec.witness6 (enc := enc) (C := Try.checked) false ⟨#[], #[.slice none 0 0, .slice none 0 0], []⟩ 8 (by kernel_rfl) (by kernel_rfl) (by kernel_rfl) (by kernel_rfl)) ?_
  intro W base args ds gs before hval0 hW hcnd _
  have hval : ∀ (j : Nat) t v, Try.f7.params[j]? = some t → args[j]? = some v → Value.okWide Try.prog W .any base t v := hval0
  have hW' := hW
  obtain ⟨p, q, hA0, hV, rfl, hfz, hnd⟩ := hW
  have hA : DataW.TrodAll enc Try.prog W 0 (fun _ => true) true Try.f7.params.toList args.toList ds p := hA0
  rw [Try.params7] at hA hval
  obtain ⟨v0, v1, d0, d1, p0, p1, rfl, rfl, rfl, h0, h1⟩ := trodAll_two hA
  obtain ⟨rfl, rfl⟩ := trodVars_none hV
  have hok0 := hval 0 28 v0 rfl rfl
  have hok1 := hval 1 29 v1 rfl rfl
  have k0 := h0
  have k1 := h1
  obtain ⟨a, n, cc, l, rfl, hs, hb⟩ := ops_of h0 hok0
  obtain ⟨a2, n2, cc2, l2, rfl, hs2, hb2⟩ := results_of h1 hok1
  clear hA0 hval0
  letI := strOf W
  refine (x_one (allF W) a n cc l hs hb a2 n2 cc2 l2 hs2 hb2 W (own_all W)).mono fun e W' he => ?_
  cases e with
  | panicked c => exact he.elim
  | outgrown => exact he.elim
  | returned v =>
    obtain ⟨rfl, hO⟩ := he
    have hlt : ∀ x ∈ (p0 ++ p1) ++ [], x.block < W.heap.size := fun x hx => hW'.lt x hx
    refine ⟨_, rfl, _, _, _, [], p0 ++ p1, [], hW', trodAll_mk1 (shut_bool Try.underlying4 true), ?_, rfl, kept_of hO _, fun h => by cases h⟩
    exact trodAll_mk2
      (WideElems.Trod_stays laid_ (by kernel_rfl) (of_decide_eq_true (by kernel_rfl)) k0 (fun x hx => sameAt_of hO (hlt x (by simp [hx]))) (fun x hx => by simpa using hlt x (by simp [hx])))
      (WideElems.Trod_stays laid_ (by kernel_rfl) (of_decide_eq_true (by kernel_rfl)) k1 (fun x hx => sameAt_of hO (hlt x (by simp [hx]))) (fun x hx => by simpa using hlt x (by simp [hx])))

theorem linOne_holds : Rows.LinearOneSaid :=
  OpenClaim.holds_of_wide 7 Try.f7 rfl rfl rfl rfl rfl rfl rfl ⟨rfl, rfl, rfl, rfl, rfl⟩ rfl rfl rfl rfl rfl (by kernel_rfl) Try.func7 (by kernel_rfl)
    (of_decide_eq_true (by kernel_rfl)) (by unfold Func.isWrapper; first | (rw [if_pos (by decide +kernel)]; kernel_rfl) | (rw [if_neg (by decide +kernel)]; exact ⟨rfl, rfl⟩))
    (fun os started H enc _ => linOne_lifted os started H enc)
#print axioms linOne_holds
end Go.Proofs.Ytgkbmelecalllaa
