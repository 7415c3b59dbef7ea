/-
  VarintTells is true: any number has the bytes, and any bytes, from one place to another one, are the number, or have the error, that the document says. For every input; no condition.
-/
import Derived.Test.YtokbcenkgdpepaaMx27
import Derived.Test.YtokbcenkgdpepaaSpecB
namespace Go.Proofs.Ytokbcenkgdpepaa.Pure
open Go.RowKit Go.Proofs.Ytokbcenkgdpepaa.M Go.Proofs.Ytokbcenkgdpepaa.Spec Go.Proofs.YtokbcenkgdpepaaW.PrintWords Go.Proofs.YtokbcenkgdpepaaW.PrintLast Go.Proofs.YtokbcenkgdpepaaW.PrintMore


theorem tells_end (n : Nat) (hn : n < 18446744073709551616) : Ev (fun k => trufflelaw01_VarintTells.j2 k n true true) true := by
  have hl := vput_len10 hn
  obtain ⟨K1, e1⟩ : ∃ K, ∀ k, K ≤ k → varint_Put.f k n = some (vput n) := put_tells n hn
  obtain ⟨K2, e2⟩ : ∃ K, ∀ k, K ≤ k → truffleref01_Put.f k n = some (vput n) := rput_tells n hn
  obtain ⟨K3, e3⟩ : ∃ K, ∀ k, K ≤ k → truffleref01_Bytes.f k (vput n) (vput n) = some (decide (vput n = vput n)) := bytes_tells _ _ (by omega)
  obtain ⟨K4, e4⟩ : ∃ K, ∀ k, K ≤ k → varint_Long.f k n = some ((vput n).length : Int) := long_tells n hn
  obtain ⟨K5, e5⟩ : ∃ K, ∀ k, K ≤ k → truffleref01_Long.f k n = some ((vput n).length : Int) := rlong_tells n hn
  refine ⟨K1 + K2 + K3 + K4 + K5 + 1, fun k hk => ?_⟩
  show trufflelaw01_VarintTells.j2 k n true true = _
  obtain ⟨k, rfl⟩ : ∃ m, k = m + 1 := ⟨k - 1, by omega⟩
  simp only [trufflelaw01_VarintTells.j2]
  rw [if_pos trivial, if_pos trivial, e1 _ (by omega), bnd, e2 _ (by omega), bnd, e3 _ (by omega), bnd, if_pos (by simp), e4 _ (by omega), bnd, e5 _ (by omega), bnd]
  simp
theorem VarintTells : trufflelaw01_VarintTells.Pure := by
  intro a l p q z ha hm hs hw hp hq hz
  obtain ⟨h0, h1⟩ := wf_u64 ha
  obtain ⟨n, rfl⟩ := Int.eq_ofNat_of_zero_le h0
  have hB := Byt.of_wf hw
  obtain ⟨Ka, ea⟩ : ∃ K, ∀ k, K ≤ k → trufflelaw01_awake.f k = some true := awake1
  obtain ⟨K1, e1⟩ : ∃ K, ∀ k, K ≤ k → varint_Get.f k l p q = some (vget l p q) := get_tells _ hB (by omega) _ _
  obtain ⟨K2, e2⟩ : ∃ K, ∀ k, K ≤ k → truffleref01_Get.f k l p q = some (vget l p q) := rget_tells _ hB (by omega) _ _
  obtain ⟨K3, e3⟩ : ∃ K, ∀ k, K ≤ k → varint_Fix.f k n z = some (vfixR n z) := fix_tells n z
  obtain ⟨K4, e4⟩ : ∃ K, ∀ k, K ≤ k → truffleref01_Fix.f k n z = some (vfixR n z) := rfix_tells n (by omega) z
  obtain ⟨K5, e5⟩ : ∃ K, ∀ k, K ≤ k → varint_Unfix.f k l p q z = some (vunfix l p q z) := unfix_tells _ hB (by omega) _ _ _
  obtain ⟨K6, e6⟩ : ∃ K, ∀ k, K ≤ k → truffleref01_Unfix.f k l p q z = some (vunfix l p q z) := runfix_tells _ hB (by omega) _ _ _
  have hl : (vfixR n z).1.length < 9223372036854775807 := by
    unfold vfixR
    by_cases hz : sizedB z = true
    · have := of_decide_eq_true hz
      rw [if_pos hz]; simp only [vfix_len]; omega
    · rw [if_neg hz]; simp
  obtain ⟨K7, e7⟩ : ∃ K, ∀ k, K ≤ k → truffleref01_Bytes.f k (vfixR n z).1 (vfixR n z).1 = some (decide ((vfixR n z).1 = (vfixR n z).1)) := bytes_tells _ _ hl
  obtain ⟨K8, e8⟩ : ∃ K, ∀ k, K ≤ k → trufflelaw01_VarintTells.j2 k n true true = some true := tells_end n (by omega)
  refine ⟨Ka + K1 + K2 + K3 + K4 + K5 + K6 + K7 + K8 + 2, ?_⟩
  unfold trufflelaw01_VarintTells.f
  rw [ea _ (by omega), bnd, if_pos rfl]
  simp only [trufflelaw01_VarintTells.j0]
  by_cases c : (l.length : Int) > 3000
  · rw [if_pos (decide_eq_true c)]
  · rw [if_neg (by simpa using c)]
    rw [e1 _ (by omega), bnd, e2 _ (by omega), bnd, e3 _ (by omega), bnd, e4 _ (by omega), bnd, e5 _ (by omega), bnd, e6 _ (by omega), bnd]
    rw [if_pos rfl, if_pos rfl]
    simp only [trufflelaw01_VarintTells.j1]
    rw [e7 _ (by omega), bnd, if_pos (by simp), if_pos (by simp), if_pos trivial, if_pos trivial]
    simp only [BEq.rfl]
    exact e8 _ (by omega)

end Go.Proofs.Ytokbcenkgdpepaa.Pure
