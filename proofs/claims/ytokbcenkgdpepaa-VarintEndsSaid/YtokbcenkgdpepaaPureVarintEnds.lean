/-
  VarintEnds is true: a number's bytes are read just as far as the first one below 128; ten that are not are none; fewer are cut off. For every input; no condition.
-/
import Derived.Test.YtokbcenkgdpepaaMx6
import Derived.Test.YtokbcenkgdpepaaSpecA
namespace Go.Proofs.Ytokbcenkgdpepaa.Pure
open Go.RowKit Go.Proofs.Ytokbcenkgdpepaa.M Go.Proofs.Ytokbcenkgdpepaa.Spec Go.Proofs.YtokbcenkgdpepaaW.PrintWords Go.Proofs.YtokbcenkgdpepaaW.PrintLast Go.Proofs.YtokbcenkgdpepaaW.PrintMore


/-- How many bytes stand ahead of the first one below 128. -/
def cnt : List Int → Nat
  | [] => 0
  | c :: s => if c < 128 then 0 else cnt s + 1
theorem cnt_le (s : List Int) : cnt s ≤ s.length := by
  induction s with
  | nil => simp [cnt]
  | cons c s ih => simp only [cnt]; split <;> simp; omega
theorem vdec_cnt (d : Nat) : ∀ s, (d ≤ cnt s → (vdec d s).1 = 7) ∧ (cnt s < d → cnt s = s.length → (vdec d s).1 = 6) ∧ (cnt s < d → cnt s < s.length → (vdec d s).1 = 0 ∧ (vdec d s).2.2 = cnt s + 1) := by
  induction d with
  | zero => intro s; simp [vdec]
  | succ d ih =>
    intro s
    cases s with
    | nil => simp [cnt, vdec]
    | cons c s =>
      obtain ⟨i1, i2, i3⟩ := ih s
      by_cases h : c < 128
      · have hc : cnt (c :: s) = 0 := by rw [cnt, if_pos h]
        have hv : vdec (d + 1) (c :: s) = (0, c, 1) := by rw [vdec, if_pos h]
        rw [hc, hv]; simp
      · have hc : cnt (c :: s) = cnt s + 1 := by rw [cnt, if_neg h]
        rw [hc]
        refine ⟨fun g => ?_, fun g1 g2 => ?_, fun g1 g2 => ?_⟩
        · have e := i1 (by omega)
          have hv : vdec (d + 1) (c :: s) = ((vdec d s).1, 0, 0) := by rw [vdec, if_neg h, if_neg (by rw [e]; decide)]
          rw [hv]; exact e
        · have e := i2 (by omega) (by simpa using g2)
          have hv : vdec (d + 1) (c :: s) = ((vdec d s).1, 0, 0) := by rw [vdec, if_neg h, if_neg (by rw [e]; decide)]
          rw [hv]; exact e
        · have e := i3 (by omega) (by simpa using g2)
          have hv : vdec (d + 1) (c :: s) = (0, c % 128 + 128 * (vdec d s).2.1, (vdec d s).2.2 + 1) := by rw [vdec, if_neg h, if_pos e.1]
          rw [hv]; simp [e.2]
theorem vget_whole (l : List Int) : vget l 0 (l.length : Int) = if (vdec 10 l).1 = 0 then ((vdec 10 l).2.1 % 18446744073709551616, 0 + (vdec 10 l).2.2, 0) else (0, 0, (vdec 10 l).1) := by
  have hm : mayB l.length 0 (l.length : Int) = true := by simp [mayB]
  unfold vget
  rw [if_pos hm]; simp
theorem ends_last (l : List Int) (g : Int × Int × Int) (hg : vget l 0 (l.length : Int) = g) :
    (if g.2.2 = 0 then (if ((cnt l : Nat) : Int) < 10 then (some (g.2.1 == (wrap64 (((cnt l : Nat) : Int) + 1)))) else (some false)) else (if g.1 = 0 then (if g.2.1 = 0 then (if ((g.2.2 == 7) == (decide (((cnt l : Nat) : Int) ≥ 10))) = true then (some ((g.2.2 == 6) == (decide (((cnt l : Nat) : Int) < 10)))) else (some false)) else (some false)) else (some false))) = some true := by
  rw [vget_whole] at hg
  have hc := cnt_le l
  obtain ⟨i1, i2, i3⟩ := vdec_cnt 10 l
  by_cases h10 : 10 ≤ cnt l
  · have e := i1 h10
    rw [if_neg (by rw [e]; decide)] at hg
    subst hg
    simp only [e]
    rw [if_neg (by decide)]; simp only [if_true]
    have d1 : decide (((cnt l : Nat) : Int) ≥ 10) = true := decide_eq_true (by omega)
    have d2 : decide (((cnt l : Nat) : Int) < 10) = false := decide_eq_false (by omega)
    rw [d1, d2]; rfl
  · by_cases hw : cnt l = l.length
    · have e := i2 (by omega) hw
      rw [if_neg (by rw [e]; decide)] at hg
      subst hg
      simp only [e]
      rw [if_neg (by decide)]; simp only [if_true]
      have d1 : decide (((cnt l : Nat) : Int) ≥ 10) = false := decide_eq_false (by omega)
      have d2 : decide (((cnt l : Nat) : Int) < 10) = true := decide_eq_true (by omega)
      rw [d1, d2]; rfl
    · obtain ⟨e1, e2⟩ := i3 (by omega) (by omega)
      rw [if_pos e1] at hg
      subst hg
      simp only [e2, if_true]
      rw [if_pos (by omega), wrap64_id (by omega) (by omega)]
      simp
theorem ends_loop (l : List Int) (hl : l.length ≤ 20) (K : Nat) (hK : ∀ k, K ≤ k → varint_Get.f k l 0 (l.length : Int) = some (vget l 0 (l.length : Int))) (d : Nat) : ∀ (i k : Nat), i + d = l.length → cnt l = i + cnt (l.drop i) → K + d < k → trufflelaw01_VarintEnds.l0 k l i = some true := by
  induction d with
  | zero =>
    intro i k hi hc hk
    obtain ⟨k, rfl⟩ : ∃ m, k = m + 1 := ⟨k - 1, by omega⟩
    simp only [trufflelaw01_VarintEnds.l0]
    rw [if_neg (by omega), hK k (by omega)]
    rw [List.drop_eq_nil_of_le (by omega)] at hc
    have hi' : i = cnt l := by simp [cnt] at hc; omega
    subst hi'
    exact ends_last l _ rfl
  | succ d ih =>
    intro i k hi hc hk
    obtain ⟨k, rfl⟩ : ∃ m, k = m + 1 := ⟨k - 1, by omega⟩
    simp only [trufflelaw01_VarintEnds.l0]
    rw [if_pos (by omega), if_pos (by omega), rd_at l i (by omega)]
    rw [List.drop_eq_getElem_cons (by omega : i < l.length)] at hc
    by_cases hb : l[i] ≥ 128
    · rw [if_pos hb, wrap64_id (by omega) (by omega), show ((i : Int) + 1) = ((i + 1 : Nat) : Int) by omega]
      refine ih (i + 1) k (by omega) ?_ (by omega)
      rw [cnt, if_neg (by omega)] at hc; omega
    · rw [if_neg hb, hK k (by omega)]
      rw [cnt, if_pos (by omega)] at hc
      obtain rfl : i = cnt l := by omega
      exact ends_last l _ rfl
theorem VarintEnds : trufflelaw01_VarintEnds.Pure := by
  intro l hm hs hw
  obtain ⟨Ka, ea⟩ : ∃ K, ∀ k, K ≤ k → trufflelaw01_awake.f k = some true := awake1
  obtain ⟨Kg, eg⟩ : ∃ K, ∀ k, K ≤ k → varint_Get.f k l 0 (l.length : Int) = some (vget l 0 (l.length : Int)) := get_tells l (Byt.of_wf hw) (by omega) _ _
  refine ⟨Ka + Kg + 30, ?_⟩
  unfold trufflelaw01_VarintEnds.f
  rw [ea _ (by omega)]
  simp only [Option.bind_some, if_true, trufflelaw01_VarintEnds.j0]
  by_cases h : (l.length : Int) > 20
  · rw [if_pos (decide_eq_true h)]
  · rw [if_neg (by simpa using h)]
    exact ends_loop l (by omega) Kg eg l.length 0 _ (by omega) (by simp) (by omega)

end Go.Proofs.Ytokbcenkgdpepaa.Pure
