/-
  RecordOne is true: two records with the same bytes are of the same number and wire type, with the same number, as far as it goes, or the same bytes. For every input; no condition.
-/
import Derived.Test.YtokbcenkgdpepaaMx35
import Derived.Test.YtokbcenkgdpepaaSpecD
namespace Go.Proofs.Ytokbcenkgdpepaa.Pure
open Go.RowKit Go.Proofs.Ytokbcenkgdpepaa.M Go.Proofs.Ytokbcenkgdpepaa.Spec Go.Proofs.YtokbcenkgdpepaaW.PrintWords Go.Proofs.YtokbcenkgdpepaaW.PrintLast Go.Proofs.YtokbcenkgdpepaaW.PrintMore


/-- What two records are told by. -/
def same (no w : Int) (n : Nat) (x : List Int) (no' w' : Int) (n' : Nat) (y : List Int) : Bool :=
  (no == no' && w == w') && (if w = 2 then decide (x = y) else if w = 5 then ((n % 4294967296 : Nat) : Int) == ((n' % 4294967296 : Nat) : Int) else (n : Int) == (n' : Int))
theorem rput_same (no w : Int) (hB : tputB no w = true) (n : Nat) (hn : n < 18446744073709551616) (x : List Int) (hx : x.length ≤ 1000) (no' w' : Int) (hB' : tputB no' w' = true) (n' : Nat) (hn' : n' < 18446744073709551616) (y : List Int) (hy : y.length ≤ 1000) :
    decide (vput (8 * no + w).toNat ++ rbody w n x = vput (8 * no' + w').toNat ++ rbody w' n' y) = same no w n x no' w' n' y := by
  obtain ⟨h1, h2, h3⟩ := tputB_iff hB
  obtain ⟨g1, g2, g3⟩ := tputB_iff hB'
  by_cases c : no = no' ∧ w = w'
  · obtain ⟨rfl, rfl⟩ := c
    have key : (rbody w n x = rbody w n' y) ↔ (if w = 2 then x = y else if w = 5 then n % 4294967296 = n' % 4294967296 else n = n') := by
      rcases h3 with rfl | rfl | rfl | rfl
      · show vput n = vput n' ↔ n = n'
        exact ⟨vput_inj hn hn', fun e => by rw [e]⟩
      · show vfix 8 n = vfix 8 n' ↔ n = n'
        refine ⟨fun e => ?_, fun e => by rw [e]⟩
        have := congrArg le e
        rw [le_fix, le_fix, Nat.mod_eq_of_lt (show n < 256 ^ 8 by omega), Nat.mod_eq_of_lt (show n' < 256 ^ 8 by omega)] at this
        omega
      · show vput x.length ++ x = vput y.length ++ y ↔ x = y
        exact ⟨fun e => (vput_prefix (by omega) (by omega) e).2, fun e => by rw [e]⟩
      · show vfix 4 n = vfix 4 n' ↔ n % 4294967296 = n' % 4294967296
        refine ⟨fun e => ?_, fun e => ?_⟩
        · have := congrArg le e
          rw [le_fix, le_fix] at this
          simp only [Nat.reducePow] at this
          omega
        · have m : ∀ q : Nat, vfix 4 q = vfix 4 (q % 4294967296) := by
            intro q
            simp only [vfix]
            rw [show q % 4294967296 % 256 = q % 256 by omega, show q % 4294967296 / 256 % 256 = q / 256 % 256 by omega, show q % 4294967296 / 256 / 256 % 256 = q / 256 / 256 % 256 by omega, show q % 4294967296 / 256 / 256 / 256 % 256 = q / 256 / 256 / 256 % 256 by omega]
          rw [m n, m n', e]
    have e1 : (vput (8 * no + w).toNat ++ rbody w n x = vput (8 * no + w).toNat ++ rbody w n' y) ↔ (rbody w n x = rbody w n' y) := ⟨List.append_cancel_left, fun e => by rw [e]⟩
    have e2 := e1.trans key
    unfold same
    simp only [BEq.rfl, Bool.and_true, Bool.true_and]
    rw [Bool.eq_iff_iff, decide_eq_true_iff, e2]
    by_cases c2 : w = 2
    · rw [if_pos c2, if_pos c2, decide_eq_true_iff]
    · rw [if_neg c2, if_neg c2]
      by_cases c5 : w = 5
      · rw [if_pos c5, if_pos c5, beq_iff_eq]; omega
      · rw [if_neg c5, if_neg c5, beq_iff_eq]; omega
  · have e1 : ¬ (vput (8 * no + w).toNat ++ rbody w n x = vput (8 * no' + w').toNat ++ rbody w' n' y) := by
      intro e
      have := (vput_prefix (by omega) (by omega) e).1
      exact c (by omega)
    rw [decide_eq_false e1]
    unfold same
    have : (no == no' && w == w') = false := by
      rw [Bool.eq_false_iff]; intro e
      rw [Bool.and_eq_true, beq_iff_eq, beq_iff_eq] at e
      exact c e
    rw [this, Bool.false_and]
theorem RecordOne : trufflelaw05_RecordOne.Pure := by
  intro no w a f u no' w' a' f' u' x y hno hw ha hf hu hno' hw' ha' hf' hu' hm1 hs1 hw1 hm2 hs2 hw2
  obtain ⟨h0, h1⟩ := wf_u64 ha
  obtain ⟨n, rfl⟩ := Int.eq_ofNat_of_zero_le h0
  obtain ⟨h0', h1'⟩ := wf_u64 ha'
  obtain ⟨n', rfl⟩ := Int.eq_ofNat_of_zero_le h0'
  obtain ⟨Ka, ea⟩ : ∃ K, ∀ k, K ≤ k → trufflelaw05_awake.f k = some true := awake5
  obtain ⟨Kp, ep⟩ : ∃ K, ∀ k, K ≤ k → record_Put.f k no w n f u x = some (rput no w n x) := rput_tells' no w n (by omega) f u x (by omega)
  obtain ⟨Kq, eq⟩ : ∃ K, ∀ k, K ≤ k → record_Put.f k no' w' n' f' u' y = some (rput no' w' n' y) := rput_tells' no' w' n' (by omega) f' u' y (by omega)
  by_cases h : (rput no w n x).2 = true
  · by_cases g : (rput no' w' n' y).2 = true
    · obtain ⟨hB, hP⟩ := rput_ok h
      obtain ⟨gB, gP⟩ := rput_ok g
      obtain ⟨q1, q2, q3⟩ := tputB_iff hB
      have hl := vput_len5 (8 * no + w).toNat (by omega)
      have hl2 := rbody_len w n (by omega) x (by omega)
      have hpl : (rput no w n x).1.length = (vput (8 * no + w).toNat).length + (rbody w n x).length := by rw [hP]; simp
      obtain ⟨Kb, eb⟩ : ∃ K, ∀ k, K ≤ k → truffleref01_Bytes.f k (rput no w n x).1 (rput no' w' n' y).1 = some (decide ((rput no w n x).1 = (rput no' w' n' y).1)) := bytes_tells _ _ (by omega)
      obtain ⟨Kc, ec⟩ : ∃ K, ∀ k, K ≤ k → truffleref01_Bytes.f k x y = some (decide (x = y)) := bytes_tells _ _ (by omega)
      refine ⟨Ka + Kp + Kq + Kb + Kc + 2, ?_⟩
      unfold trufflelaw05_RecordOne.f
      rw [ea _ (by omega), bnd, ep _ (by omega), bnd, eq _ (by omega), bnd, if_pos rfl, if_pos h, if_pos g]
      simp only [trufflelaw05_RecordOne.j0]
      by_cases c0 : (x.length : Int) > 1000
      · rw [if_pos c0, if_pos trivial]
      · rw [if_neg c0]
        by_cases c1 : (y.length : Int) > 1000
        · rw [if_pos (decide_eq_true c1)]
        · rw [if_neg (by simpa using c1)]
          have key := rput_same no w hB n (by omega) x (by omega) no' w' gB n' (by omega) y (by omega)
          rw [← hP, ← gP] at key
          unfold same at key
          have t1 : Int.tmod (n : Int) 4294967296 = ((n % 4294967296 : Nat) : Int) := by rw [Int.tmod_eq_emod_of_nonneg (by omega)]; omega
          have t2 : Int.tmod (n' : Int) 4294967296 = ((n' % 4294967296 : Nat) : Int) := by rw [Int.tmod_eq_emod_of_nonneg (by omega)]; omega
          have main : ∀ s : Bool, s = (no == no' && w == w') → trufflelaw05_RecordOne.j1 (Ka + Kp + Kq + Kb + Kc + 1) x y (rput no w n x).1 (rput no' w' n' y).1 s no w n f u no' w' n' f' u' = some true := by
            intro s hs
            simp only [trufflelaw05_RecordOne.j1]
            rw [← hs] at key
            rw [eb _ (by omega), ec _ (by omega)]
            simp only [bnd]
            rw [key, t1, t2]
            by_cases c2 : w = 2
            · simp only [if_pos c2]
              cases s <;> simp
            · simp only [if_neg c2]
              by_cases c5 : w = 5
              · simp only [if_pos c5]
                cases s <;> simp
              · simp only [if_neg c5]
                cases s <;> simp
          by_cases e : no = no'
          · rw [if_pos e]; exact main _ (by simp [e])
          · rw [if_neg e]; exact main _ (by simp [e])
    · refine ⟨Ka + Kp + Kq + 1, ?_⟩
      unfold trufflelaw05_RecordOne.f
      rw [ea _ (by omega), bnd, ep _ (by omega), bnd, eq _ (by omega), bnd, if_pos rfl, if_pos h, if_neg g]
      simp only [trufflelaw05_RecordOne.j0, if_true]
  · refine ⟨Ka + Kp + Kq + 1, ?_⟩
    unfold trufflelaw05_RecordOne.f
    rw [ea _ (by omega), bnd, ep _ (by omega), bnd, eq _ (by omega), bnd, if_pos rfl, if_neg h]
    simp only [trufflelaw05_RecordOne.j0, if_true]

end Go.Proofs.Ytokbcenkgdpepaa.Pure
