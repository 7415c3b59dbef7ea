/-
  RecordCut is true: of a record that is cut anywhere none is told, but that it is cut off. For every input; no condition.
-/
import Derived.Test.YtokbcenkgdpepaaMx34
import Derived.Test.YtokbcenkgdpepaaSpecD
namespace Go.Proofs.Ytokbcenkgdpepaa.Pure
open Go.RowKit Go.Proofs.Ytokbcenkgdpepaa.M Go.Proofs.Ytokbcenkgdpepaa.Spec Go.Proofs.YtokbcenkgdpepaaW.PrintWords Go.Proofs.YtokbcenkgdpepaaW.PrintLast Go.Proofs.YtokbcenkgdpepaaW.PrintMore


theorem take_append_lt {a b : List Int} {j : Nat} (h : j < a.length) : (a ++ b).take j = a.take j := List.take_append_of_le_length (by omega)
theorem rnext_cut (no w : Int) (hB : tputB no w = true) (n : Nat) (hn : n < 18446744073709551616) (run : List Int) (hr : run.length ≤ 1000) (j : Nat) (hj : j < (vput (8 * no + w).toNat ++ rbody w n run).length) :
    rnext (vput (8 * no + w).toNat ++ rbody w n run) 0 j = (0, 0, 0, 0, 0, 0, 6) := by
  obtain ⟨h1, h2, h3⟩ := tputB_iff hB
  have hl := vput_len5 (8 * no + w).toNat (by omega)
  obtain ⟨T, hT⟩ : ∃ T, vput (8 * no + w).toNat = T := ⟨_, rfl⟩
  obtain ⟨X, hX⟩ : ∃ X, rbody w n run = X := ⟨_, rfl⟩
  have hj' : j < T.length + X.length := by rw [← hT, ← hX]; simpa using hj
  have hm : mayB (T ++ X).length 0 (j : Int) = true := decide_eq_true (by simp; omega)
  rw [hT, hX]
  by_cases c : j < T.length
  · have g := tget_cut (l := T ++ X) (a := 0) (b := (j : Int)) hm (n := (8 * no + w).toNat) (by omega) (j := j) (by rw [hT]; exact c) (by rw [Int.toNat_natCast, hT]; exact take_append_lt c)
    unfold rnext
    rw [g]; simp
  · have g := tget_put (l := T ++ X) (a := 0) (b := (j : Int)) hm hB (s := X.take (j - T.length)) (by
      rw [Int.toNat_natCast, hT]
      show (T ++ X).take j = _
      rw [List.take_append, List.take_of_length_le (by omega)])
    rw [hT] at g
    have hm2 : mayB (T ++ X).length (T.length : Int) (j : Int) = true := decide_eq_true (by simp; omega)
    have hs2 : ((T ++ X).take (j : Int).toNat).drop (T.length : Int).toNat = X.take (j - T.length) := by
      rw [Int.toNat_natCast, Int.toNat_natCast, List.take_append, List.take_of_length_le (by omega), List.drop_left]
    have fx : ∀ z : Nat, X.length = z → (z = 4 ∨ z = 8) → vunfix (T ++ X) (T.length : Int) (j : Int) z = (0, 0, 6) := by
      intro z hz hz2
      have hs : sizedB (z : Int) = true := decide_eq_true (by omega)
      unfold vunfix
      rw [hm2, hs]
      simp only [Bool.and_true, if_true]
      rw [if_pos (by omega)]
    unfold rnext
    rw [g]
    simp only [if_true, Int.zero_add]
    rcases h3 with rfl | rfl | rfl | rfl
    · have hX0 : vput n = X := hX
      have hv := vget_cut hm2 hn (j := j - T.length) (by rw [hX0]; omega) (by rw [hs2, hX0])
      have e : rnum (T ++ X) (T.length : Int) (j : Int) 0 = (0, 0, 6) := hv
      rw [e]; simp
    · have hX0 : vfix 8 n = X := hX
      have e : rnum (T ++ X) (T.length : Int) (j : Int) 1 = (0, 0, 6) := fx 8 (by rw [← hX0, vfix_len]) (.inr rfl)
      rw [e]; simp
    · have hX0 : vput run.length ++ run = X := hX
      have l3 := vput_len10 (n := run.length) (by omega)
      have hXl : X.length = (vput run.length).length + run.length := by rw [← hX0]; simp
      by_cases c2 : j - T.length < (vput run.length).length
      · have hv := vget_cut hm2 (n := run.length) (by omega) (j := j - T.length) c2 (by rw [hs2, ← hX0]; exact take_append_lt c2)
        have e : rnum (T ++ X) (T.length : Int) (j : Int) 2 = (0, 0, 6) := hv
        rw [e]; simp
      · have hv := vget_put hm2 (n := run.length) (by omega) (s := run.take (j - T.length - (vput run.length).length)) (by
          rw [hs2, ← hX0, List.take_append, List.take_of_length_le (l := vput run.length) (by omega)])
        have e : rnum (T ++ X) (T.length : Int) (j : Int) 2 = ((run.length : Int), (T.length : Int) + ((vput run.length).length : Int), 0) := hv
        rw [e]
        simp only [if_true]
        rw [if_pos (by omega)]
    · have hX0 : vfix 4 n = X := hX
      have e : rnum (T ++ X) (T.length : Int) (j : Int) 5 = (0, 0, 6) := fx 4 (by rw [← hX0, vfix_len]) (.inl rfl)
      rw [e]; simp
theorem RecordCut : trufflelaw05_RecordCut.Pure := by
  intro no w a f u l1 j hno hw ha hf hu hm1 hs1 hw1 hj
  obtain ⟨h0, h1⟩ := wf_u64 ha
  obtain ⟨n, rfl⟩ := Int.eq_ofNat_of_zero_le h0
  obtain ⟨Ka, ea⟩ : ∃ K, ∀ k, K ≤ k → trufflelaw05_awake.f k = some true := awake5
  obtain ⟨Kp, ep⟩ : ∃ K, ∀ k, K ≤ k → record_Put.f k no w n f u l1 = some (rput no w n l1) := rput_tells' no w n (by omega) f u l1 (by omega)
  by_cases h : (rput no w n l1).2 = true
  · obtain ⟨hB, hP⟩ := rput_ok h
    obtain ⟨h1', h2, h3⟩ := tputB_iff hB
    have hl := vput_len5 (8 * no + w).toNat (by omega)
    have hl2 := rbody_len w n (by omega) l1 (by omega)
    have hpl : (rput no w n l1).1.length = (vput (8 * no + w).toNat).length + (rbody w n l1).length := by rw [hP]; simp
    obtain ⟨Kg, eg⟩ : ∃ K, ∀ k, K ≤ k → record_Next.f k (rput no w n l1).1 0 j = some (rnext (rput no w n l1).1 0 j) := rnext_tells _ (by rw [hP]; exact Byt.append (vput_bytes _) (rbody_bytes _ _ _ (Byt.of_wf hw1))) (by omega) _ _
    refine ⟨Ka + Kp + Kg, ?_⟩
    unfold trufflelaw05_RecordCut.f
    rw [ea _ (by omega), bnd, ep _ (by omega), bnd, if_pos rfl, if_pos h]
    by_cases c0 : (l1.length : Int) > 1000
    · rw [if_pos c0]
    · rw [if_neg c0]
      by_cases c1 : j < 0
      · rw [if_pos c1]
      · rw [if_neg c1]
        by_cases c2 : j ≥ ((rput no w n l1).1.length : Int)
        · rw [if_pos c2]
        · rw [if_neg c2, eg _ (by omega), bnd]
          obtain ⟨j', rfl⟩ := Int.eq_ofNat_of_zero_le (by omega : 0 ≤ j)
          have g := rnext_cut no w hB n (by omega) l1 (by omega) j' (by rw [← hP]; omega)
          rw [hP, g]; simp
  · refine ⟨Ka + Kp, ?_⟩
    unfold trufflelaw05_RecordCut.f
    rw [ea _ (by omega), bnd, ep _ (by omega), bnd, if_pos rfl, if_neg h]

end Go.Proofs.Ytokbcenkgdpepaa.Pure
