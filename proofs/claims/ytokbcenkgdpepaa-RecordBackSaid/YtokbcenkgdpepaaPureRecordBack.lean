/-
  RecordBack is true: what is put is one record, with that number, or these bytes, wherever it stands. For every input; no condition.
-/
import Derived.Test.YtokbcenkgdpepaaMx33
import Derived.Test.YtokbcenkgdpepaaSpecD
namespace Go.Proofs.Ytokbcenkgdpepaa.Pure
open Go.RowKit Go.Proofs.Ytokbcenkgdpepaa.M Go.Proofs.Ytokbcenkgdpepaa.Spec Go.Proofs.YtokbcenkgdpepaaW.PrintWords Go.Proofs.YtokbcenkgdpepaaW.PrintLast Go.Proofs.YtokbcenkgdpepaaW.PrintMore


theorem RecordBack : trufflelaw05_RecordBack.Pure := by
  intro no w a f u l1 l2 hno hw ha hf hu hm1 hs1 hw1 hm2 hs2 hw2
  obtain ⟨h0, h1⟩ := wf_u64 ha
  obtain ⟨n, rfl⟩ := Int.eq_ofNat_of_zero_le h0
  obtain ⟨Ka, ea⟩ : ∃ K, ∀ k, K ≤ k → trufflelaw05_awake.f k = some true := awake5
  obtain ⟨Kp, ep⟩ : ∃ K, ∀ k, K ≤ k → record_Put.f k no w n f u l1 = some (rput no w n l1) := rput_tells' no w n (by omega) f u l1 (by omega)
  by_cases h : (rput no w n l1).2 = true
  · obtain ⟨hB, hP⟩ := rput_ok h
    obtain ⟨h1', h2, h3⟩ := tputB_iff hB
    have hl := vput_len5 (8 * no + w).toNat (by omega)
    have hl2 := rbody_len w n (by omega) l1 (by omega)
    have hl3 := vput_len10 (n := l1.length) (by omega)
    have hpl : (rput no w n l1).1.length = (vput (8 * no + w).toNat).length + (rbody w n l1).length := by rw [hP]; simp
    have hby : Byt (l2 ++ (rput no w n l1).1) := (Byt.of_wf hw2).append (by rw [hP]; exact Byt.append (vput_bytes _) (rbody_bytes _ _ _ (Byt.of_wf hw1)))
    have hlen : (l2 ++ (rput no w n l1).1).length = l2.length + (rput no w n l1).1.length := by simp
    obtain ⟨Kg, eg⟩ : ∃ K, ∀ k, K ≤ k → record_Next.f k (l2 ++ (rput no w n l1).1) (l2.length : Int) ((l2 ++ (rput no w n l1).1).length : Int) = some (rnext (l2 ++ (rput no w n l1).1) (l2.length : Int) ((l2 ++ (rput no w n l1).1).length : Int)) := rnext_tells _ hby (by omega) _ _
    have g := rnext_put (l := l2 ++ (rput no w n l1).1) (by omega) (a := (l2.length : Int)) (b := ((l2 ++ (rput no w n l1).1).length : Int)) (decide_eq_true (by omega)) hB (n := n) (by omega) (run := l1) (s := [])
      (by rw [Int.toNat_natCast, Int.toNat_natCast, List.take_length, List.drop_left, hP, List.append_nil])
    rw [← hP] at g
    have hend : (l2.length : Int) + ((rput no w n l1).1.length : Int) = ((l2 ++ (rput no w n l1).1).length : Int) := by omega
    rw [hend] at g
    obtain ⟨Kb, eb⟩ : ∃ K, ∀ k, K ≤ k → truffleref01_Bytes.f k l1 l1 = some (decide (l1 = l1)) := bytes_tells _ _ (by omega)
    refine ⟨Ka + Kp + Kg + Kb + 2, ?_⟩
    unfold trufflelaw05_RecordBack.f
    rw [ea _ (by omega), bnd, ep _ (by omega), bnd, if_pos rfl, if_pos h]
    simp only [trufflelaw05_RecordBack.j0]
    by_cases c1 : (l1.length : Int) > 1000
    · rw [if_pos c1, if_pos trivial, if_pos trivial, if_pos h]
    · rw [if_neg c1]
      by_cases c2 : (l2.length : Int) > 1000
      · rw [if_pos (decide_eq_true c2), if_pos trivial, if_pos h]
      · rw [if_neg (by simpa using c2)]
        rw [if_pos (by simp; omega), bnd, List.nil_append, if_pos (by omega), bnd, eg _ (by omega), bnd, g]
        simp only [if_true]
        have hf0 : (0 : Int) ≤ (l2.length : Int) + ((vput (8 * no + w).toNat).length : Int) + (if w = 2 then ((vput l1.length).length : Int) else 0) := by split <;> omega
        have hf1 : (l2.length : Int) + ((vput (8 * no + w).toNat).length : Int) + (if w = 2 then ((vput l1.length).length : Int) else 0) ≤ ((l2 ++ (rput no w n l1).1).length : Int) := by
          split
          · next c => rw [hlen, hpl, c]; simp [rbody]; omega
          · rw [hlen, hpl]; omega
        rw [if_neg (by split <;> omega), decide_eq_false (by omega)]
        simp only [trufflelaw05_RecordBack.j1]
        rw [if_neg (by decide)]
        by_cases w2 : w = 2
        · rw [if_pos w2, if_pos hf0, if_pos hf1, if_pos (by omega)]
          have e1 : ((l2 ++ (rput no w n l1).1).take (((l2 ++ (rput no w n l1).1).length : Int)).toNat).drop ((l2.length : Int) + ((vput (8 * no + w).toNat).length : Int) + (if w = 2 then ((vput l1.length).length : Int) else 0)).toNat = l1 := by
            rw [if_pos w2, Int.toNat_natCast, List.take_length, hP]
            have hb : rbody w n l1 = vput l1.length ++ l1 := by rw [w2]; rfl
            rw [hb, show ((l2.length : Int) + ((vput (8 * no + w).toNat).length : Int) + ((vput l1.length).length : Int)).toNat = (l2 ++ (vput (8 * no + w).toNat ++ vput l1.length)).length by simp; omega, ← List.append_assoc, ← List.append_assoc, ← List.append_assoc]
            rw [show l2 ++ vput (8 * no + w).toNat ++ vput l1.length = l2 ++ (vput (8 * no + w).toNat ++ vput l1.length) by rw [List.append_assoc], List.drop_left]
          rw [e1, eb _ (by omega), bnd, if_pos (by simp)]
          have e2 : rval w n l1 = (l1.length : Int) := by rw [w2]; rfl
          rw [e2, wrap_u64]
          congr 1; rw [beq_iff_eq]; omega
        · rw [if_neg w2]
          by_cases w5 : w = 5
          · have e2 : rval w n l1 = ((n % 4294967296 : Nat) : Int) := by rw [w5]; rfl
            rw [if_pos w5, e2, Int.tmod_eq_emod_of_nonneg (by omega)]
            congr 1; rw [beq_iff_eq]; omega
          · have e2 : rval w n l1 = (n : Int) := by unfold rval; rw [if_neg w2, if_neg w5]
            rw [if_neg w5, e2]; simp
  · have hn := rput_no h
    refine ⟨Ka + Kp + 1, ?_⟩
    unfold trufflelaw05_RecordBack.f
    rw [ea _ (by omega), bnd, ep _ (by omega), bnd, if_pos rfl, if_neg h]
    simp only [trufflelaw05_RecordBack.j0]
    rw [if_pos trivial, if_pos trivial, if_neg h, hn]; simp

end Go.Proofs.Ytokbcenkgdpepaa.Pure
