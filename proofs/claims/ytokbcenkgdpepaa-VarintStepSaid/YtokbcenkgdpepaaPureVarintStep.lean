/-
  VarintStep is true: a number from 128 on has one byte of its lowest 7 bits, and 128, and then those of what is left; a lesser one is its byte. For every input; no condition.
-/
import Derived.Test.YtokbcenkgdpepaaMx7
import Derived.Test.YtokbcenkgdpepaaSpecA
namespace Go.Proofs.Ytokbcenkgdpepaa.Pure
open Go.RowKit Go.Proofs.Ytokbcenkgdpepaa.M Go.Proofs.Ytokbcenkgdpepaa.Spec Go.Proofs.YtokbcenkgdpepaaW.PrintWords Go.Proofs.YtokbcenkgdpepaaW.PrintLast Go.Proofs.YtokbcenkgdpepaaW.PrintMore


theorem VarintStep : trufflelaw01_VarintStep.Pure := by
  intro a ha
  obtain ⟨h0, h1⟩ := wf_u64 ha
  obtain ⟨n, rfl⟩ := Int.eq_ofNat_of_zero_le h0
  have hl := vput_len10 (n := n / 128) (by omega)
  obtain ⟨Ka, ea⟩ : ∃ K, ∀ k, K ≤ k → trufflelaw01_awake.f k = some true := awake1
  obtain ⟨Kp, ep⟩ : ∃ K, ∀ k, K ≤ k → varint_Put.f k n = some (vput n) := put_tells n (by omega)
  obtain ⟨Kq, eq⟩ : ∃ K, ∀ k, K ≤ k → varint_Put.f k ((n / 128 : Nat) : Int) = some (vput (n / 128)) := put_tells (n / 128) (by omega)
  obtain ⟨Kb, eb⟩ : ∃ K, ∀ k, K ≤ k → truffleref01_Bytes.f k (vput (n / 128)) (vput (n / 128)) = some (decide (vput (n / 128) = vput (n / 128))) := bytes_tells _ _ (by omega)
  refine ⟨Ka + Kp + Kq + Kb + 1, ?_⟩
  unfold trufflelaw01_VarintStep.f
  rw [ea _ (by omega)]; simp only [Option.bind_some]
  rw [ep _ (by omega)]; simp only [Option.bind_some, if_true, trufflelaw01_VarintStep.j0]
  have hne : ((vput n).length : Int) ≠ 0 := by have := List.length_pos_iff.mpr (vput_ne n); omega
  rw [if_neg (by simpa using hne)]
  by_cases hlt : n < 128
  · rw [if_pos (by omega), vput_lt hlt]
    simp only [List.length_singleton]
    rw [if_pos (by decide), if_pos (by decide)]
    simp only [rd, Int.toNat_zero, List.getD_cons_zero, wrap_u64]
    congr 1; rw [beq_iff_eq]; omega
  · have e := vput_ge (n := n) (by omega)
    have e2 : IntKind.u64.wrap (Int.tdiv (n : Int) 128) = ((n / 128 : Nat) : Int) := by
      rw [wrap_u64, Int.tdiv_eq_ediv_of_nonneg (by omega)]; omega
    have e3 : IntKind.u64.wrap (Int.tmod (n : Int) 128 + 128) = ((n % 128 + 128 : Nat) : Int) := by
      rw [wrap_u64, Int.tmod_eq_emod_of_nonneg (by omega)]; omega
    have e4 : IntKind.u64.wrap (rd (vput n) 0) = ((n % 128 + 128 : Nat) : Int) := by
      rw [e]; simp only [rd, Int.toNat_zero, List.getD_cons_zero, wrap_u64]; omega
    rw [if_neg (by omega), if_pos (by have := List.length_pos_iff.mpr (vput_ne n); omega), e3, e4, if_pos rfl, if_pos (by have := List.length_pos_iff.mpr (vput_ne n); omega), e2, eq _ (by omega)]
    simp only [Option.bind_some]
    have e5 : (vput n).drop 1 = vput (n / 128) := by rw [e]; rfl
    rw [e5, eb _ (by omega)]; simp

end Go.Proofs.Ytokbcenkgdpepaa.Pure
