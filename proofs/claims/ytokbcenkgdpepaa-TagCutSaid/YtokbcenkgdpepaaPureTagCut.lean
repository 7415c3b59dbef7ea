/-
  TagCut is true: of what stands ahead of a field nothing is told while its last byte is missing, but that it is cut off. For every input; no condition.
-/
import Derived.Test.YtokbcenkgdpepaaMx24
import Derived.Test.YtokbcenkgdpepaaSpecC
namespace Go.Proofs.Ytokbcenkgdpepaa.Pure
open Go.RowKit Go.Proofs.Ytokbcenkgdpepaa.M Go.Proofs.Ytokbcenkgdpepaa.Spec Go.Proofs.YtokbcenkgdpepaaW.PrintWords Go.Proofs.YtokbcenkgdpepaaW.PrintLast Go.Proofs.YtokbcenkgdpepaaW.PrintMore


theorem TagCut : trufflelaw03_TagCut.Pure := by
  intro no w j hno hw hj
  obtain ⟨Ka, ea⟩ : ∃ K, ∀ k, K ≤ k → trufflelaw03_awake.f k = some true := awake3
  obtain ⟨Kp, ep⟩ : ∃ K, ∀ k, K ≤ k → tag_Put.f k no w = some (tput no w) := tput_tells no w
  by_cases h : (tput no w).2 = true
  · obtain ⟨hB, hP⟩ := tput_ok h
    obtain ⟨h1, h2, h3⟩ := tputB_iff hB
    have hl := vput_len5 (8 * no + w).toNat (by omega)
    obtain ⟨Kg, eg⟩ : ∃ K, ∀ k, K ≤ k → tag_Get.f k (tput no w).1 0 j = some (tget (tput no w).1 0 j) := tget_tells _ (by rw [hP]; exact vput_bytes _) (by rw [hP]; omega) _ _
    refine ⟨Ka + Kp + Kg + 1, ?_⟩
    unfold trufflelaw03_TagCut.f
    rw [ea _ (by omega), bnd, ep _ (by omega), bnd, if_pos rfl, if_pos h]
    by_cases c1 : j < 0
    · rw [if_pos c1]
    · rw [if_neg c1]
      by_cases c2 : j ≥ ((tput no w).1.length : Int)
      · rw [if_pos c2]
      · rw [if_neg c2, eg _ (by omega), bnd]
        rw [hP] at c2 ⊢
        have g := tget_cut (l := vput (8 * no + w).toNat) (a := 0) (b := j) (decide_eq_true (by omega)) (n := (8 * no + w).toNat) (by omega) (j := j.toNat) (by omega) (by simp)
        rw [g]; simp
  · refine ⟨Ka + Kp + 1, ?_⟩
    unfold trufflelaw03_TagCut.f
    rw [ea _ (by omega), bnd, ep _ (by omega), bnd, if_pos rfl, if_neg h]

end Go.Proofs.Ytokbcenkgdpepaa.Pure
