/-
  TagOne is true: no two fields, or wire types, have the same bytes ahead; a greater number has no fewer. For every input; no condition.
-/
import Derived.Test.YtokbcenkgdpepaaMx23
import Derived.Test.YtokbcenkgdpepaaSpecC
namespace Go.Proofs.Ytokbcenkgdpepaa.Pure
open Go.RowKit Go.Proofs.Ytokbcenkgdpepaa.M Go.Proofs.Ytokbcenkgdpepaa.Spec Go.Proofs.YtokbcenkgdpepaaW.PrintWords Go.Proofs.YtokbcenkgdpepaaW.PrintLast Go.Proofs.YtokbcenkgdpepaaW.PrintMore


theorem TagOne : trufflelaw03_TagOne.Pure := by
  intro a b w x ha hb hw hx
  obtain ⟨Ka, ea⟩ : ∃ K, ∀ k, K ≤ k → trufflelaw03_awake.f k = some true := awake3
  obtain ⟨Kp, ep⟩ : ∃ K, ∀ k, K ≤ k → tag_Put.f k a w = some (tput a w) := tput_tells a w
  obtain ⟨Kq, eq⟩ : ∃ K, ∀ k, K ≤ k → tag_Put.f k b x = some (tput b x) := tput_tells b x
  by_cases h : (tput a w).2 = true
  · by_cases g : (tput b x).2 = true
    · obtain ⟨hB, hP⟩ := tput_ok h
      obtain ⟨gB, gP⟩ := tput_ok g
      obtain ⟨h1, h2, h3⟩ := tputB_iff hB
      obtain ⟨g1, g2, g3⟩ := tputB_iff gB
      have hl := vput_len5 (8 * a + w).toNat (by omega)
      obtain ⟨Kb, eb⟩ : ∃ K, ∀ k, K ≤ k → truffleref01_Bytes.f k (tput a w).1 (tput b x).1 = some (decide ((tput a w).1 = (tput b x).1)) := bytes_tells _ _ (by rw [hP]; omega)
      have hi : (tput a w).1 = (tput b x).1 ↔ (a = b ∧ w = x) := by
        rw [hP, gP]
        constructor
        · intro e
          have := vput_inj (by omega) (by omega) e
          omega
        · rintro ⟨rfl, rfl⟩; rfl
      have hle : ¬ a > b → ((tput a w).1.length : Int) ≤ ((tput b x).1.length : Int) := by
        intro c
        rw [hP, gP]
        have := vput_len8 9 (8 * a + w).toNat (8 * b + x).toNat (by omega) (by have := pow10; omega)
        omega
      have fin : (if a > b then some true else some (decide (((tput a w).1.length : Int) ≤ ((tput b x).1.length : Int)))) = some true := by
        by_cases c : a > b
        · rw [if_pos c]
        · rw [if_neg c, decide_eq_true (hle c)]
      refine ⟨Ka + Kp + Kq + Kb + 1, ?_⟩
      unfold trufflelaw03_TagOne.f
      rw [ea _ (by omega), bnd, ep _ (by omega), bnd, eq _ (by omega), bnd, if_pos rfl, if_pos h, if_pos g, eb _ (by omega), bnd]
      by_cases c : a = b
      · have d : decide ((tput a w).1 = (tput b x).1) = (w == x) := by
          by_cases c' : w = x
          · rw [decide_eq_true (hi.mpr ⟨c, c'⟩)]; simp [c']
          · rw [decide_eq_false (fun e => c' (hi.mp e).2)]; simp [c']
        rw [if_pos c, d, if_pos (by simp), fin]
      · have d : decide ((tput a w).1 = (tput b x).1) = false := decide_eq_false (fun e => c (hi.mp e).1)
        rw [if_neg c, d, if_pos (by simp), fin]
    · refine ⟨Ka + Kp + Kq + 1, ?_⟩
      unfold trufflelaw03_TagOne.f
      rw [ea _ (by omega), bnd, ep _ (by omega), bnd, eq _ (by omega), bnd, if_pos rfl, if_pos h, if_neg g]
  · refine ⟨Ka + Kp + Kq + 1, ?_⟩
    unfold trufflelaw03_TagOne.f
    rw [ea _ (by omega), bnd, ep _ (by omega), bnd, eq _ (by omega), bnd, if_pos rfl, if_neg h]

end Go.Proofs.Ytokbcenkgdpepaa.Pure
