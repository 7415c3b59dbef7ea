/-
  VarintLong is true: more bits have no fewer bytes: a number below 2^(7k) has at most k. For every input; no condition.
-/
import Derived.Test.YtokbcenkgdpepaaMx10
import Derived.Test.YtokbcenkgdpepaaSpecA
namespace Go.Proofs.Ytokbcenkgdpepaa.Pure
open Go.RowKit Go.Proofs.Ytokbcenkgdpepaa.M Go.Proofs.Ytokbcenkgdpepaa.Spec Go.Proofs.YtokbcenkgdpepaaW.PrintWords Go.Proofs.YtokbcenkgdpepaaW.PrintLast Go.Proofs.YtokbcenkgdpepaaW.PrintMore


theorem vput_mono (d : Nat) : ∀ n m, n ≤ m → m < 128 ^ (d + 1) → (vput n).length ≤ (vput m).length := by
  induction d with
  | zero =>
    intro n m h hm
    have hm' : m < 128 := by simpa using hm
    rw [vput_lt (by omega), vput_lt hm']; simp
  | succ d ih =>
    intro n m h hm
    by_cases hn : n < 128
    · rw [vput_lt hn]; have := List.length_pos_iff.mpr (vput_ne m); simp; omega
    · rw [vput_ge (n := n) (by omega), vput_ge (n := m) (by omega)]
      have := ih (n / 128) (m / 128) (by omega) (by rw [Nat.pow_succ] at hm; omega)
      simp; omega
theorem long_law_loop (m : Nat) (L : Int) (hL : L ≤ (vput m).length) (K : Nat) (e1 : ∀ k, K ≤ k → varint_Long.f k m = some ((vput m).length : Int)) (e2 : ∀ k, K ≤ k → varint_Put.f k m = some (vput m)) (d : Nat) : ∀ (n k : Nat) (c : Int), n < 18446744073709551616 → n < 128 ^ (d + 1) → 0 ≤ c → c + d < 9223372036854775807 → c - 1 + (vput n).length = L → K + d + 1 < k → trufflelaw01_VarintLong.l0 k m true L c ((n / 128 : Nat) : Int) = some true := by
  have fin : ∀ (n k : Nat) (c : Int), n < 128 → c - 1 + (vput n).length = L → K < k → trufflelaw01_VarintLong.l0 k m true L c ((n / 128 : Nat) : Int) = some true := by
    intro n k c h hc hk
    obtain ⟨k, rfl⟩ : ∃ m, k = m + 1 := ⟨k - 1, by omega⟩
    simp only [trufflelaw01_VarintLong.l0]
    rw [vput_lt h] at hc
    rw [if_neg (by omega), if_pos trivial, if_pos (by simp at hc; omega), e1 _ (by omega)]
    rw [bnd, if_pos hL, e2 _ (by omega), bnd, bnd]; simp
  induction d with
  | zero => intro n k c _ hn _ _ hc hk; exact fin n k c (by simpa using hn) hc (by omega)
  | succ d ih =>
    intro n k c hg hn h0 hb hc hk
    by_cases h : n < 128
    · exact fin n k c h hc (by omega)
    · obtain ⟨k, rfl⟩ : ∃ m, k = m + 1 := ⟨k - 1, by omega⟩
      simp only [trufflelaw01_VarintLong.l0]
      have e : IntKind.u64.wrap (Int.tdiv ((n / 128 : Nat) : Int) 128) = ((n / 128 / 128 : Nat) : Int) := by
        rw [wrap_u64, Int.tdiv_eq_ediv_of_nonneg (by omega)]; omega
      rw [if_pos (by omega), wrap64_id (by omega) (by omega), e]
      rw [vput_ge (n := n) (by omega)] at hc
      exact ih (n / 128) k (c + 1) (by omega) (by rw [Nat.pow_succ] at hn; omega) (by omega) (by omega) (by simp at hc; omega) (by omega)
theorem long_law (n m : Nat) (hn : n ≤ m) (hm : m < 18446744073709551616) : ∃ K, ∀ k, K ≤ k → trufflelaw01_VarintLong.j0 k n m true = some true := by
  obtain ⟨K1, e1⟩ : ∃ K, ∀ k, K ≤ k → varint_Long.f k m = some ((vput m).length : Int) := long_tells m hm
  obtain ⟨K2, e2⟩ : ∃ K, ∀ k, K ≤ k → varint_Put.f k m = some (vput m) := put_tells m hm
  obtain ⟨K3, e3⟩ : ∃ K, ∀ k, K ≤ k → varint_Long.f k n = some ((vput n).length : Int) := long_tells n (by omega)
  refine ⟨K1 + K2 + K3 + 20, fun k hk => ?_⟩
  obtain ⟨k, rfl⟩ : ∃ m, k = m + 1 := ⟨k - 1, by omega⟩
  have e : IntKind.u64.wrap (Int.tdiv (n : Int) 128) = ((n / 128 : Nat) : Int) := by rw [wrap_u64, Int.tdiv_eq_ediv_of_nonneg (by omega)]; omega
  simp only [trufflelaw01_VarintLong.j0]
  rw [e3 _ (by omega), bnd, e]
  have hp := pow10
  exact long_law_loop m _ (by have := vput_mono 9 n m hn (by omega); omega) (K1 + K2) (fun k hk => e1 k (by omega)) (fun k hk => e2 k (by omega)) 9 n k 1 (by omega) (by omega) (by omega) (by omega) (by omega) (by omega)
theorem VarintLong : trufflelaw01_VarintLong.Pure := by
  intro a b ha hb
  obtain ⟨a0, a1⟩ := wf_u64 ha
  obtain ⟨b0, b1⟩ := wf_u64 hb
  obtain ⟨n, rfl⟩ := Int.eq_ofNat_of_zero_le a0
  obtain ⟨m, rfl⟩ := Int.eq_ofNat_of_zero_le b0
  obtain ⟨Ka, ea⟩ : ∃ K, ∀ k, K ≤ k → trufflelaw01_awake.f k = some true := awake1
  by_cases h : (n : Int) > m
  · obtain ⟨K, e⟩ := long_law m n (by omega) (by omega)
    refine ⟨Ka + K, ?_⟩
    unfold trufflelaw01_VarintLong.f
    rw [ea _ (by omega), bnd, if_pos h, e _ (by omega)]
  · obtain ⟨K, e⟩ := long_law n m (by omega) (by omega)
    refine ⟨Ka + K, ?_⟩
    unfold trufflelaw01_VarintLong.f
    rw [ea _ (by omega), bnd, if_neg h, e _ (by omega)]

end Go.Proofs.Ytokbcenkgdpepaa.Pure
