/-
  VarintWhere is true: what is read hangs on the bytes from there to the end alone. For every input; no condition.
-/
import Derived.Test.YtokbcenkgdpepaaMx13
import Derived.Test.YtokbcenkgdpepaaSpecA
namespace Go.Proofs.Ytokbcenkgdpepaa.Pure
open Go.RowKit Go.Proofs.Ytokbcenkgdpepaa.M Go.Proofs.Ytokbcenkgdpepaa.Spec Go.Proofs.YtokbcenkgdpepaaW.PrintWords Go.Proofs.YtokbcenkgdpepaaW.PrintLast Go.Proofs.YtokbcenkgdpepaaW.PrintMore


theorem vget_where (p l : List Int) : (vget (p ++ l) (p.length : Int) ((p ++ l).length : Int)).1 = (vget l 0 (l.length : Int)).1 ∧ (vget (p ++ l) (p.length : Int) ((p ++ l).length : Int)).2.2 = (vget l 0 (l.length : Int)).2.2 ∧
    ((vget (p ++ l) (p.length : Int) ((p ++ l).length : Int)).2.2 = 0 → (vget (p ++ l) (p.length : Int) ((p ++ l).length : Int)).2.1 = (vget l 0 (l.length : Int)).2.1 + p.length ∧ 0 ≤ (vget l 0 (l.length : Int)).2.1 ∧ (vget l 0 (l.length : Int)).2.1 ≤ l.length) := by
  have m1 : mayB (p ++ l).length (p.length : Int) ((p ++ l).length : Int) = true := decide_eq_true (by simp; omega)
  have m2 : mayB l.length 0 (l.length : Int) = true := decide_eq_true (by omega)
  have s1 : ((p ++ l).take (((p ++ l).length : Int)).toNat).drop (p.length : Int).toNat = l := by
    rw [Int.toNat_natCast, Int.toNat_natCast, List.take_length, List.drop_left]
  have s2 : (l.take ((l.length : Int)).toNat).drop (0 : Int).toNat = l := by
    rw [Int.toNat_natCast, List.take_length]; rfl
  have v1 := vget_bytes m1 s1
  have v2 := vget_bytes m2 s2
  rw [v1, v2]
  by_cases hz : (vdec 10 l).1 = 0
  · have hl := vdec_len 10 l hz
    rw [if_pos hz, if_pos hz]
    refine ⟨rfl, rfl, fun _ => ?_⟩
    simp only; omega
  · rw [if_neg hz, if_neg hz]
    exact ⟨rfl, rfl, fun h => absurd h hz⟩
theorem vunfix_where (p l : List Int) (z : Int) : (vunfix (p ++ l) (p.length : Int) ((p ++ l).length : Int) z).1 = (vunfix l 0 (l.length : Int) z).1 ∧ (vunfix (p ++ l) (p.length : Int) ((p ++ l).length : Int) z).2.2 = (vunfix l 0 (l.length : Int) z).2.2 ∧
    ((vunfix (p ++ l) (p.length : Int) ((p ++ l).length : Int) z).2.2 = 0 → (vunfix (p ++ l) (p.length : Int) ((p ++ l).length : Int) z).2.1 = (vunfix l 0 (l.length : Int) z).2.1 + p.length ∧ 0 ≤ (vunfix l 0 (l.length : Int) z).2.1 ∧ (vunfix l 0 (l.length : Int) z).2.1 ≤ l.length) := by
  have m1 : mayB (p ++ l).length (p.length : Int) ((p ++ l).length : Int) = true := decide_eq_true (by simp; omega)
  have m2 : mayB l.length 0 (l.length : Int) = true := decide_eq_true (by omega)
  have s1 : (p ++ l).drop (p.length : Int).toNat = l := by rw [Int.toNat_natCast, List.drop_left]
  have s2 : l.drop (0 : Int).toNat = l := rfl
  unfold vunfix
  rw [m1, m2, s1, s2]
  simp only [Bool.true_and]
  by_cases hs : sizedB z = true
  · have h := of_decide_eq_true hs
    rw [if_pos hs, if_pos hs]
    have hln : ((p ++ l).length : Int) = p.length + l.length := by simp
    by_cases hc : (l.length : Int) < z
    · rw [if_pos (by omega), if_pos (by omega)]
      exact ⟨rfl, rfl, fun h => absurd h (by decide)⟩
    · rw [if_neg (by omega), if_neg (by omega)]
      refine ⟨rfl, rfl, fun _ => ?_⟩
      simp only; omega
  · rw [if_neg hs, if_neg hs]
    exact ⟨rfl, rfl, fun h => absurd h (by decide)⟩
theorem VarintWhere : trufflelaw01_VarintWhere.Pure := by
  intro p l z hm1 hs1 hw1 hm2 hs2 hw2 hz
  obtain ⟨Ka, ea⟩ : ∃ K, ∀ k, K ≤ k → trufflelaw01_awake.f k = some true := awake1
  have hB : Byt (p ++ l) := (Byt.of_wf hw1).append (Byt.of_wf hw2)
  have hlen : (p ++ l).length = p.length + l.length := by simp
  obtain ⟨K1, e1⟩ : ∃ K, ∀ k, K ≤ k → varint_Get.f k (p ++ l) (p.length : Int) ((p ++ l).length : Int) = some (vget (p ++ l) (p.length : Int) ((p ++ l).length : Int)) := get_tells _ hB (by omega) _ _
  obtain ⟨K2, e2⟩ : ∃ K, ∀ k, K ≤ k → varint_Get.f k l 0 (l.length : Int) = some (vget l 0 (l.length : Int)) := get_tells _ (Byt.of_wf hw2) (by omega) _ _
  obtain ⟨K3, e3⟩ : ∃ K, ∀ k, K ≤ k → varint_Unfix.f k (p ++ l) (p.length : Int) ((p ++ l).length : Int) z = some (vunfix (p ++ l) (p.length : Int) ((p ++ l).length : Int) z) := unfix_tells _ hB (by omega) _ _ _
  obtain ⟨K4, e4⟩ : ∃ K, ∀ k, K ≤ k → varint_Unfix.f k l 0 (l.length : Int) z = some (vunfix l 0 (l.length : Int) z) := unfix_tells _ (Byt.of_wf hw2) (by omega) _ _ _
  refine ⟨Ka + K1 + K2 + K3 + K4 + 1, ?_⟩
  unfold trufflelaw01_VarintWhere.f
  rw [ea _ (by omega), bnd, if_pos rfl]
  by_cases c1 : (p.length : Int) > 100
  · rw [if_pos c1]; simp only [trufflelaw01_VarintWhere.j0, if_true]
  · rw [if_neg c1]
    simp only [trufflelaw01_VarintWhere.j0]
    by_cases c2 : (l.length : Int) > 100
    · rw [if_pos (decide_eq_true c2)]
    · rw [if_neg (by simpa using c2)]
      rw [if_pos (by simp; omega), bnd, List.nil_append, if_pos (by omega), bnd]
      obtain ⟨g1, g2, g3⟩ := vget_where p l
      obtain ⟨u1, u2, u3⟩ := vunfix_where p l z
      rw [e1 _ (by omega), bnd, e2 _ (by omega), bnd, e3 _ (by omega), bnd, e4 _ (by omega), bnd]
      rw [if_pos g1, if_pos g2, if_pos u1, if_pos u2]
      by_cases hu : (vunfix (p ++ l) (p.length : Int) ((p ++ l).length : Int) z).2.2 = 0
      · have h3 := u3 hu
        rw [if_pos hu, wrap64_id (a := (vunfix l 0 (l.length : Int) z).2.1 + p.length) (by omega) (by omega), h3.1]
        by_cases hg : (vget (p ++ l) (p.length : Int) ((p ++ l).length : Int)).2.2 = 0
        · have h4 := g3 hg
          rw [if_pos hg, wrap64_id (by omega) (by omega), if_pos h4.1]; simp
        · rw [if_neg hg]; simp
      · rw [if_neg hu]
        by_cases hg : (vget (p ++ l) (p.length : Int) ((p ++ l).length : Int)).2.2 = 0
        · have h4 := g3 hg
          rw [if_pos hg, wrap64_id (by omega) (by omega), if_pos h4.1]
        · rw [if_neg hg]

end Go.Proofs.Ytokbcenkgdpepaa.Pure
