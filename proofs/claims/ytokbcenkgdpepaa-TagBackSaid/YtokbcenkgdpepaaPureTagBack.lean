/-
  TagBack is true: what is put is got, wherever it stands; it has at most five bytes. For every input; no condition.
-/
import Derived.Test.YtokbcenkgdpepaaMx21
import Derived.Test.YtokbcenkgdpepaaSpecC
namespace Go.Proofs.Ytokbcenkgdpepaa.Pure
open Go.RowKit Go.Proofs.Ytokbcenkgdpepaa.M Go.Proofs.Ytokbcenkgdpepaa.Spec Go.Proofs.YtokbcenkgdpepaaW.PrintWords Go.Proofs.YtokbcenkgdpepaaW.PrintLast Go.Proofs.YtokbcenkgdpepaaW.PrintMore


theorem TagBack : trufflelaw03_TagBack.Pure := by
  intro no w l1 l2 hno hw hm1 hs1 hw1 hm2 hs2 hw2
  obtain ⟨Ka, ea⟩ : ∃ K, ∀ k, K ≤ k → trufflelaw03_awake.f k = some true := awake3
  obtain ⟨Kp, ep⟩ : ∃ K, ∀ k, K ≤ k → tag_Put.f k no w = some (tput no w) := tput_tells no w
  by_cases h : (tput no w).2 = true
  · obtain ⟨hB, hP⟩ := tput_ok h
    obtain ⟨h1, h2, h3⟩ := tputB_iff hB
    have hl := vput_len5 (8 * no + w).toNat (by omega)
    have hby : Byt (l1 ++ (tput no w).1 ++ l2) := ((Byt.of_wf hw1).append (by rw [hP]; exact vput_bytes _)).append (Byt.of_wf hw2)
    have hlen : (l1 ++ (tput no w).1 ++ l2).length = l1.length + (vput (8 * no + w).toNat).length + l2.length := by rw [hP]; simp [Nat.add_assoc]
    obtain ⟨Kg, eg⟩ : ∃ K, ∀ k, K ≤ k → tag_Get.f k (l1 ++ (tput no w).1 ++ l2) (l1.length : Int) ((l1 ++ (tput no w).1 ++ l2).length : Int) = some (tget (l1 ++ (tput no w).1 ++ l2) (l1.length : Int) ((l1 ++ (tput no w).1 ++ l2).length : Int)) := tget_tells _ hby (by omega) _ _
    have g : tget (l1 ++ (tput no w).1 ++ l2) (l1.length : Int) ((l1 ++ (tput no w).1 ++ l2).length : Int) = (no, w, (l1.length : Int) + ((vput (8 * no + w).toNat).length : Int), 0) := by
      refine tget_put (decide_eq_true (by omega)) hB (s := l2) ?_
      rw [Int.toNat_natCast, Int.toNat_natCast, List.take_length, List.append_assoc, List.drop_left, hP]
    have hk : knownB w = true := by unfold tputB at hB; rw [Bool.and_eq_true] at hB; exact hB.2
    refine ⟨Ka + Kp + Kg + 1, ?_⟩
    unfold trufflelaw03_TagBack.f
    rw [ea _ (by omega), bnd, ep _ (by omega), bnd, if_pos rfl, if_pos h]
    simp only [trufflelaw03_TagBack.j0]
    by_cases c1 : (l1.length : Int) > 100
    · rw [if_pos c1, if_pos trivial, if_pos trivial, if_pos h]
    · rw [if_neg c1]
      by_cases c2 : (l2.length : Int) > 100
      · rw [if_pos (decide_eq_true c2), if_pos trivial, if_pos h]
      · rw [if_neg (by simpa using c2)]
        have hpl : (tput no w).1.length = (vput (8 * no + w).toNat).length := by rw [hP]
        rw [if_pos (by simp; omega), bnd, List.nil_append, if_pos (by omega), bnd, if_pos (by simp; omega), bnd, eg _ (by omega), bnd, g]
        simp only [if_true]
        rw [hpl, wrap64_id (by omega) (by omega), if_pos rfl, if_pos (by omega), if_pos (by omega), known_tells, bnd, hk]
  · have hn := tput_no h
    refine ⟨Ka + Kp + 1, ?_⟩
    unfold trufflelaw03_TagBack.f
    rw [ea _ (by omega), bnd, ep _ (by omega), bnd, if_pos rfl, if_neg h]
    simp only [trufflelaw03_TagBack.j0]
    rw [if_pos trivial, if_pos trivial, if_neg h, hn]; simp

end Go.Proofs.Ytokbcenkgdpepaa.Pure
