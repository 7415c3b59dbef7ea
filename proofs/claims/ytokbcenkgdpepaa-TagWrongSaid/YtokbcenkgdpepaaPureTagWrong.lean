/-
  TagWrong is true: of any number that is written ahead of a field just those are told that a number and a known wire type have; others are told why not. For every input; no condition.
-/
import Derived.Test.YtokbcenkgdpepaaMx22
import Derived.Test.YtokbcenkgdpepaaSpecC
namespace Go.Proofs.Ytokbcenkgdpepaa.Pure
open Go.RowKit Go.Proofs.Ytokbcenkgdpepaa.M Go.Proofs.Ytokbcenkgdpepaa.Spec Go.Proofs.YtokbcenkgdpepaaW.PrintWords Go.Proofs.YtokbcenkgdpepaaW.PrintLast Go.Proofs.YtokbcenkgdpepaaW.PrintMore


theorem TagWrong : trufflelaw03_TagWrong.Pure := by
  intro a ha
  obtain ⟨h0, h1⟩ := wf_u64 ha
  obtain ⟨n, rfl⟩ := Int.eq_ofNat_of_zero_le h0
  have hl := vput_len10 (n := n) (by omega)
  obtain ⟨Ka, ea⟩ : ∃ K, ∀ k, K ≤ k → trufflelaw03_awake.f k = some true := awake3
  obtain ⟨Kp, ep⟩ : ∃ K, ∀ k, K ≤ k → varint_Put.f k n = some (vput n) := put_tells n (by omega)
  obtain ⟨Kg, eg⟩ : ∃ K, ∀ k, K ≤ k → tag_Get.f k (vput n) 0 ((vput n).length : Int) = some (tget (vput n) 0 ((vput n).length : Int)) := tget_tells _ (vput_bytes n) (by omega) _ _
  have hv : vget (vput n) 0 ((vput n).length : Int) = ((n : Int), 0 + ((vput n).length : Int), 0) := by
    refine vget_put (decide_eq_true (by omega)) (by omega) (s := []) ?_
    rw [Int.toNat_natCast, List.take_length]; simp
  refine ⟨Ka + Kp + Kg + 1, ?_⟩
  unfold trufflelaw03_TagWrong.f
  rw [ea _ (by omega), bnd, ep _ (by omega), bnd, eg _ (by omega), bnd]
  have ht : tget (vput n) 0 ((vput n).length : Int) = if (n : Int) > 4294967295 ∨ (n : Int) / 8 = 0 then (0, 0, 0, 9) else if knownB ((n : Int) % 8) = true then ((n : Int) / 8, (n : Int) % 8, 0 + ((vput n).length : Int), 0) else (0, 0, 0, 8) := by
    unfold tget
    rw [hv]; simp only [if_true]
  rw [ht]
  by_cases c1 : (n : Int) > 4294967295
  · rw [if_pos (.inl c1 : (n : Int) > 4294967295 ∨ (n : Int) / 8 = 0), if_neg (by decide), if_pos (by omega)]; simp
  · by_cases c2 : (n : Int) / 8 = 0
    · have d : decide ((n : Int) < 8) = true := decide_eq_true (by omega)
      rw [if_pos (.inr c2 : (n : Int) > 4294967295 ∨ (n : Int) / 8 = 0), if_neg (by decide), if_neg (by omega), d]; simp
    · rw [if_neg (by omega : ¬ ((n : Int) > 4294967295 ∨ (n : Int) / 8 = 0))]
      by_cases c3 : knownB ((n : Int) % 8) = true
      · have e1 : IntKind.u64.wrap (wrap64 (wrap64 (8 * ((n : Int) / 8)) + (n : Int) % 8)) = n := by
          rw [wrap64_id (a := 8 * ((n : Int) / 8)) (by omega) (by omega), wrap64_id (by omega) (by omega), wrap_u64]; omega
        rw [if_pos c3, if_pos rfl, if_pos rfl, e1, if_pos rfl, if_pos (by omega), if_pos (by omega)]; simp
      · have d : decide ((n : Int) < 8) = false := decide_eq_false (by omega)
        rw [if_neg c3, if_neg (by decide), if_neg (by omega), d]; simp

end Go.Proofs.Ytokbcenkgdpepaa.Pure
