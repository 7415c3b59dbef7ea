/-
  TagTells is true: any number and wire type have the bytes, and any bytes are these, or have the error, that the document says. For every input; no condition.
-/
import Derived.Test.YtokbcenkgdpepaaMx20
import Derived.Test.YtokbcenkgdpepaaSpecC
import Derived.Test.YtokbcenkgdpepaaSpecB
namespace Go.Proofs.Ytokbcenkgdpepaa.Pure
open Go.RowKit Go.Proofs.Ytokbcenkgdpepaa.M Go.Proofs.Ytokbcenkgdpepaa.Spec Go.Proofs.YtokbcenkgdpepaaW.PrintWords Go.Proofs.YtokbcenkgdpepaaW.PrintLast Go.Proofs.YtokbcenkgdpepaaW.PrintMore


theorem rknown_tells (w : Int) : truffleref03_Known.f w = some (knownB w) := known_tells w
theorem rtput_tells (no w : Int) : Ev (fun k => truffleref03_Put.f k no w) (tput no w) := by
  by_cases h : tputB no w = true
  · obtain ⟨h1, h2, h3⟩ := tputB_iff h
    obtain ⟨K, e⟩ : ∃ K, ∀ k, K ≤ k → truffleref01_Put.f k ((8 * no + w).toNat : Int) = some (vput (8 * no + w).toNat) := rput_tells _ (by omega)
    refine ⟨K + 1, fun k hk => ?_⟩
    show truffleref03_Put.f k no w = _
    unfold truffleref03_Put.f tput
    have hk' : knownB w = true := by unfold tputB at h; rw [Bool.and_eq_true] at h; exact h.2
    have e1 : IntKind.u64.wrap (wrap64 (wrap64 (8 * no) + w)) = ((8 * no + w).toNat : Int) := by
      rw [wrap64_id (a := 8 * no) (by omega) (by omega), wrap64_id (by omega) (by omega), wrap_u64]; omega
    rw [if_neg (by omega), if_neg (by omega), rknown_tells, bnd, if_pos hk', e1, e k (by omega), bnd, if_pos h]
  · refine ⟨1, fun k hk => ?_⟩
    show truffleref03_Put.f k no w = _
    unfold truffleref03_Put.f tput
    rw [if_neg h]
    by_cases c1 : no < 1
    · rw [if_pos c1]
    · rw [if_neg c1]
      by_cases c2 : no > 536870911
      · rw [if_pos c2]
      · rw [if_neg c2, rknown_tells, bnd]
        have c3 : knownB w = false := by
          unfold tputB at h
          rw [show decide (1 ≤ no ∧ no ≤ 536870911) = true from decide_eq_true (by omega), Bool.true_and] at h
          exact Bool.eq_false_iff.mpr h
        rw [if_neg (by rw [c3]; decide)]
theorem rtget_tells (l : List Int) (hb : Byt l) (hs : l.length < 4611686018427387904) (a b : Int) : Ev (fun k => truffleref03_Get.f k l a b) (tget l a b) := by
  obtain ⟨K, e⟩ : ∃ K, ∀ k, K ≤ k → truffleref01_Get.f k l a b = some (vget l a b) := rget_tells l hb hs a b
  refine ⟨K + 1, fun k hk => ?_⟩
  show truffleref03_Get.f k l a b = _
  obtain ⟨k, rfl⟩ : ∃ m, k = m + 1 := ⟨k - 1, by omega⟩
  have hr := vget_range l a b
  have e2 : wrap64 (Int.tmod (vget l a b).1 8) = (vget l a b).1 % 8 := by
    rw [Int.tmod_eq_emod_of_nonneg hr.1, wrap64_id (by omega) (by omega)]
  have e3 : IntKind.u64.wrap (Int.tdiv (vget l a b).1 8) = (vget l a b).1 / 8 := by
    rw [wrap_u64, Int.tdiv_eq_ediv_of_nonneg hr.1]; omega
  unfold truffleref03_Get.f tget
  rw [e _ (by omega), bnd]
  by_cases h : (vget l a b).2.2 = 0
  · rw [if_pos h, if_pos h]
    simp only [truffleref03_Get.j0]
    by_cases c1 : (vget l a b).1 > 4294967295
    · rw [if_pos (show (vget l a b).1 ≥ 4294967296 by omega), if_pos trivial, if_pos (.inl c1)]
    · rw [if_neg (show ¬ (vget l a b).1 ≥ 4294967296 by omega), e3]
      by_cases c2 : (vget l a b).1 / 8 = 0
      · rw [if_pos (beq_iff_eq.mpr c2), if_pos (.inr c2)]
      · rw [if_neg (by simpa using c2), if_neg (by omega), e2, rknown_tells, bnd]
        by_cases c3 : knownB ((vget l a b).1 % 8) = true
        · rw [if_pos c3, if_pos c3, wrap64_id (by omega) (by omega)]
        · rw [if_neg c3, if_neg c3]
  · rw [if_neg h, if_neg h]
theorem TagTells : trufflelaw03_TagTells.Pure := by
  intro no w l p q hno hw hm hs hwl hp hq
  have hB := Byt.of_wf hwl
  obtain ⟨Ka, ea⟩ : ∃ K, ∀ k, K ≤ k → trufflelaw03_awake.f k = some true := awake3
  obtain ⟨K1, e1⟩ : ∃ K, ∀ k, K ≤ k → tag_Put.f k no w = some (tput no w) := tput_tells no w
  obtain ⟨K2, e2⟩ : ∃ K, ∀ k, K ≤ k → truffleref03_Put.f k no w = some (tput no w) := rtput_tells no w
  obtain ⟨K3, e3⟩ : ∃ K, ∀ k, K ≤ k → tag_Get.f k l p q = some (tget l p q) := tget_tells _ hB (by omega) _ _
  obtain ⟨K4, e4⟩ : ∃ K, ∀ k, K ≤ k → truffleref03_Get.f k l p q = some (tget l p q) := rtget_tells _ hB (by omega) _ _
  have hl : (tput no w).1.length < 9223372036854775807 := by
    by_cases h : (tput no w).2 = true
    · obtain ⟨hB, hP⟩ := tput_ok h
      obtain ⟨h1, h2, h3⟩ := tputB_iff hB
      have := vput_len5 (8 * no + w).toNat (by omega)
      rw [hP]; omega
    · rw [tput_no h]; simp
  obtain ⟨K5, e5⟩ : ∃ K, ∀ k, K ≤ k → truffleref01_Bytes.f k (tput no w).1 (tput no w).1 = some (decide ((tput no w).1 = (tput no w).1)) := bytes_tells _ _ hl
  refine ⟨Ka + K1 + K2 + K3 + K4 + K5 + 1, ?_⟩
  unfold trufflelaw03_TagTells.f
  rw [ea _ (by omega), bnd, if_pos rfl]
  simp only [trufflelaw03_TagTells.j0]
  by_cases c : (l.length : Int) > 3000
  · rw [if_pos (decide_eq_true c)]
  · rw [if_neg (by simpa using c)]
    rw [e1 _ (by omega), bnd, e2 _ (by omega), bnd, e5 _ (by omega), bnd, e3 _ (by omega), bnd, e4 _ (by omega), bnd]
    rw [if_pos (by simp), if_pos (by simp), if_pos rfl, if_pos rfl, if_pos rfl, if_pos rfl, known_tells, bnd, rknown_tells, bnd]
    simp

end Go.Proofs.Ytokbcenkgdpepaa.Pure
