/-
  VarintFix is true: what is put into four, or eight, bytes is got, as far as it goes; into others nothing is. For every input; no condition.
-/
import Derived.Test.YtokbcenkgdpepaaMx12
import Derived.Test.YtokbcenkgdpepaaSpecA
namespace Go.Proofs.Ytokbcenkgdpepaa.Pure
open Go.RowKit Go.Proofs.Ytokbcenkgdpepaa.M Go.Proofs.Ytokbcenkgdpepaa.Spec Go.Proofs.YtokbcenkgdpepaaW.PrintWords Go.Proofs.YtokbcenkgdpepaaW.PrintLast Go.Proofs.YtokbcenkgdpepaaW.PrintMore


theorem unfix_fix (n y : Nat) (hy : y = 4 ∨ y = 8) : vunfix (vfix y n) 0 ((vfix y n).length : Int) y = (((n % 256 ^ y : Nat) : Int), (y : Int), 0) ∧ (vunfix (vfix y n) 1 ((vfix y n).length : Int) y).2.2 = 6 := by
  have hl := vfix_len y n
  have hs : sizedB (y : Int) = true := decide_eq_true (by omega)
  have m0 : mayB (vfix y n).length 0 ((vfix y n).length : Int) = true := decide_eq_true (by omega)
  have m1 : mayB (vfix y n).length 1 ((vfix y n).length : Int) = true := decide_eq_true (by omega)
  unfold vunfix
  rw [m0, m1, hs]
  simp only [Bool.and_true, if_true]
  rw [if_neg (by omega), if_pos (by omega)]
  refine ⟨?_, rfl⟩
  have e : (List.drop (0 : Int).toNat (vfix y n)).take (y : Int).toNat = vfix y n := by
    simp [List.take_of_length_le, hl]
  rw [e, le_fix]; simp
theorem VarintFix : trufflelaw01_VarintFix.Pure := by
  intro a z ha hz
  obtain ⟨h0, h1⟩ := wf_u64 ha
  obtain ⟨n, rfl⟩ := Int.eq_ofNat_of_zero_le h0
  obtain ⟨Ka, ea⟩ : ∃ K, ∀ k, K ≤ k → trufflelaw01_awake.f k = some true := awake1
  obtain ⟨Kf, ef⟩ : ∃ K, ∀ k, K ≤ k → varint_Fix.f k n z = some (vfixR n z) := fix_tells n z
  by_cases hs : sizedB z = true
  · have hz' := of_decide_eq_true hs
    obtain ⟨y, rfl⟩ := Int.eq_ofNat_of_zero_le (by omega : 0 ≤ z)
    have hl := vfix_len y n
    obtain ⟨u1, u2⟩ := unfix_fix n y (by omega)
    obtain ⟨K1, e1⟩ : ∃ K, ∀ k, K ≤ k → varint_Unfix.f k (vfix y n) 0 ((vfix y n).length : Int) y = some (vunfix (vfix y n) 0 ((vfix y n).length : Int) y) := unfix_tells _ (vfix_bytes _ _) (by omega) _ _ _
    obtain ⟨K2, e2⟩ : ∃ K, ∀ k, K ≤ k → varint_Unfix.f k (vfix y n) 1 ((vfix y n).length : Int) y = some (vunfix (vfix y n) 1 ((vfix y n).length : Int) y) := unfix_tells _ (vfix_bytes _ _) (by omega) _ _ _
    refine ⟨Ka + Kf + K1 + K2 + 1, ?_⟩
    unfold trufflelaw01_VarintFix.f
    rw [ea _ (by omega), ef _ (by omega)]
    simp only [Option.bind_some, if_true, vfixR, hs, Int.toNat_natCast, trufflelaw01_VarintFix.j0]
    have e3 : Int.tmod (n : Int) 4294967296 = ((n % 4294967296 : Nat) : Int) := by rw [Int.tmod_eq_emod_of_nonneg (by omega)]; omega
    rw [e1 _ (by omega), e2 _ (by omega), u1]
    simp only [Option.bind_some, u2, e3]
    rcases hz' with h4 | h8
    · obtain rfl : y = 4 := by omega
      simp [hl]
    · obtain rfl : y = 8 := by omega
      have e4 : n % 256 ^ 8 = n := Nat.mod_eq_of_lt (by omega)
      simp [hl, e4]
  · have hz' : ¬ (z = 4 ∨ z = 8) := of_decide_eq_false (Bool.not_eq_true _ ▸ hs)
    refine ⟨Ka + Kf + 1, ?_⟩
    unfold trufflelaw01_VarintFix.f
    rw [ea _ (by omega), ef _ (by omega)]
    have h4 : ¬ z = 4 := fun e => hz' (.inl e)
    have h8 : ¬ z = 8 := fun e => hz' (.inr e)
    have b8 : (z == 8) = false := beq_eq_false_iff_ne.mpr h8
    simp only [Option.bind_some, if_true, vfixR, hs, trufflelaw01_VarintFix.j0, h4, h8, b8, if_false]
    simp

end Go.Proofs.Ytokbcenkgdpepaa.Pure
