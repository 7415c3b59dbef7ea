/-
  VarintBack is true: what is put is got, wherever it stands, and the place is its end; with its last byte cut off it is told so. For every input; no condition.
-/
import Derived.Test.YtokbcenkgdpepaaMx9
import Derived.Test.YtokbcenkgdpepaaSpecA
namespace Go.Proofs.Ytokbcenkgdpepaa.Pure
open Go.RowKit Go.Proofs.Ytokbcenkgdpepaa.M Go.Proofs.Ytokbcenkgdpepaa.Spec Go.Proofs.YtokbcenkgdpepaaW.PrintWords Go.Proofs.YtokbcenkgdpepaaW.PrintLast Go.Proofs.YtokbcenkgdpepaaW.PrintMore


theorem VarintBack : trufflelaw01_VarintBack.Pure := by
  intro a l1 l2 ha hm1 hs1 hw1 hm2 hs2 hw2
  obtain ⟨h0, h1⟩ := wf_u64 ha
  obtain ⟨n, rfl⟩ := Int.eq_ofNat_of_zero_le h0
  have hl := vput_len10 (n := n) (by omega)
  obtain ⟨Ka, ea⟩ : ∃ K, ∀ k, K ≤ k → trufflelaw01_awake.f k = some true := awake1
  obtain ⟨Kp, ep⟩ : ∃ K, ∀ k, K ≤ k → varint_Put.f k n = some (vput n) := put_tells n (by omega)
  obtain ⟨Kl, el⟩ : ∃ K, ∀ k, K ≤ k → varint_Long.f k n = some ((vput n).length : Int) := long_tells n (by omega)
  have hB : Byt (([] : List Int) ++ l1 ++ vput n ++ l2) := ((Byt.of_wf hw1 |>.append (vput_bytes n)).append (Byt.of_wf hw2))
  have hlen : (([] : List Int) ++ l1 ++ vput n ++ l2).length = l1.length + (vput n).length + l2.length := by simp [Nat.add_assoc]
  obtain ⟨Kg, eg⟩ : ∃ K, ∀ k, K ≤ k → varint_Get.f k (([] : List Int) ++ l1 ++ vput n ++ l2) (l1.length : Int) ((([] : List Int) ++ l1 ++ vput n ++ l2).length : Int) = some (vget (([] : List Int) ++ l1 ++ vput n ++ l2) (l1.length : Int) ((([] : List Int) ++ l1 ++ vput n ++ l2).length : Int)) := get_tells _ hB (by omega) _ _
  obtain ⟨Kh, eh⟩ : ∃ K, ∀ k, K ≤ k → varint_Get.f k (([] : List Int) ++ l1 ++ vput n ++ l2) (l1.length : Int) ((l1.length : Int) + (vput n).length - 1) = some (vget (([] : List Int) ++ l1 ++ vput n ++ l2) (l1.length : Int) ((l1.length : Int) + (vput n).length - 1)) := get_tells _ hB (by omega) _ _
  have g1 : vget (([] : List Int) ++ l1 ++ vput n ++ l2) (l1.length : Int) ((([] : List Int) ++ l1 ++ vput n ++ l2).length : Int) = ((n : Int), (l1.length : Int) + (vput n).length, 0) := by
    refine vget_put (decide_eq_true (by omega)) (by omega) (s := l2) ?_
    rw [Int.toNat_natCast, Int.toNat_natCast, List.take_length, List.nil_append, List.append_assoc, List.drop_left]
  have g2 : vget (([] : List Int) ++ l1 ++ vput n ++ l2) (l1.length : Int) ((l1.length : Int) + (vput n).length - 1) = (0, 0, 6) := by
    refine vget_cut (decide_eq_true (by omega)) (n := n) (by omega) (j := (vput n).length - 1) (by omega) ?_
    have e : ((l1.length : Int) + (vput n).length - 1).toNat = l1.length + ((vput n).length - 1) := by omega
    rw [e, List.nil_append, List.append_assoc, List.take_length_add_append, Int.toNat_natCast, List.drop_left, List.take_append_of_le_length (by omega)]
  refine ⟨Ka + Kp + Kl + Kg + Kh + 1, ?_⟩
  unfold trufflelaw01_VarintBack.f
  rw [ea _ (by omega)]
  simp only [bnd, if_true, trufflelaw01_VarintBack.j0]
  by_cases c1 : (l1.length : Int) > 100
  · rw [if_pos c1]
  · rw [if_neg c1]
    by_cases c2 : (l2.length : Int) > 100
    · rw [if_pos (decide_eq_true c2)]
    · rw [if_neg (by simpa using c2), ep _ (by omega)]
      simp only [bnd]
      rw [if_pos (by simp; omega), if_pos (by simp; omega), if_pos (by simp; omega)]
      rw [eg _ (by omega), g1]
      simp only [bnd, if_true]
      rw [wrap64_id (a := (l1.length : Int) + (vput n).length) (by omega) (by omega), wrap64_id (a := (l1.length : Int) + (vput n).length - 1) (by omega) (by omega), eh _ (by omega)]
      simp only [bnd, if_true]
      rw [el _ (by omega)]
      simp only [bnd, if_true]
      rw [if_pos (by omega), if_pos (by omega), g2]
      simp

end Go.Proofs.Ytokbcenkgdpepaa.Pure
