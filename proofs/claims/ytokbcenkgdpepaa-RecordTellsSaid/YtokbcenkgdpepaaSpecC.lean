/-
  The plain law of layer 3: what tag.Known, Put, Get come to, as plain functions of numbers and lists.
-/
import Derived.Test.YtokbcenkgdpepaaSpecA
import Derived.Test.YtokbcenkgdpepaaMx14
import Derived.Test.YtokbcenkgdpepaaMx15
import Derived.Test.YtokbcenkgdpepaaMx16
namespace Go.Proofs.Ytokbcenkgdpepaa.Spec
open Go.RowKit Go.Proofs.Ytokbcenkgdpepaa.M Go.Proofs.YtokbcenkgdpepaaW.PrintWords Go.Proofs.YtokbcenkgdpepaaW.PrintLast Go.Proofs.YtokbcenkgdpepaaW.PrintMore

def knownB (w : Int) : Bool := decide (w = 0 ∨ w = 1 ∨ w = 2 ∨ w = 5)
theorem known_tells (w : Int) : tag_Known.f w = some (knownB w) := by
  unfold tag_Known.f knownB
  by_cases h0 : w = 0
  · rw [if_pos h0]; simp [h0]
  · rw [if_neg h0]
    by_cases h1 : w = 1
    · rw [if_pos h1]; simp [h1]
    · rw [if_neg h1]
      by_cases h2 : w = 2
      · rw [if_pos h2]; simp [h2]
      · rw [if_neg h2]; simp [h0, h1, h2]; rfl
theorem head_number (no w : Int) (h0 : 0 ≤ no) (h1 : no ≤ 536870911) (g0 : 0 ≤ w) (g1 : w < 8) : tag_head_number.f no w = some (8 * no + w) := by
  unfold tag_head_number.f
  rw [wrap_u64, wrap_u64, wrap_u64]
  rw [bits_join .u64 64 (by decide) wraps_u64 3 _ _ (by omega) (by simp only [Int.reducePow]; omega) (by omega) (by omega) (by omega) (by omega)]
  congr 1; omega
theorem of_tells (n : Int) (h0 : 0 ≤ n) (h1 : n < 18446744073709551616) : tag_of.f n = some (n / 8, n % 8) := by
  unfold tag_of.f
  have h := bits_mask .u64 64 (by decide) wraps_u64 3 (by decide) n h0 h1
  rw [show ((2 : Int) ^ 3 - 1) = 7 by decide, show ((2 : Int) ^ 3) = 8 by decide] at h
  rw [h, wrap64_id (by omega) (by omega), wrap64_id (by omega) (by omega)]
def tputB (no w : Int) : Bool := decide (1 ≤ no ∧ no ≤ 536870911) && knownB w
def tput (no w : Int) : List Int × Bool := if tputB no w = true then (vput (8 * no + w).toNat, true) else ([], false)
theorem tputB_iff {no w : Int} (h : tputB no w = true) : 1 ≤ no ∧ no ≤ 536870911 ∧ (w = 0 ∨ w = 1 ∨ w = 2 ∨ w = 5) := by
  unfold tputB knownB at h
  rw [Bool.and_eq_true] at h
  have h1 := of_decide_eq_true h.1
  have h2 := of_decide_eq_true h.2
  exact ⟨h1.1, h1.2, h2⟩
theorem tput_tells (no w : Int) : Ev (fun k => tag_Put.f k no w) (tput no w) := by
  by_cases h : tputB no w = true
  · obtain ⟨h1, h2, h3⟩ := tputB_iff h
    obtain ⟨K, e⟩ : ∃ K, ∀ k, K ≤ k → varint_Put.f k ((8 * no + w).toNat : Int) = some (vput (8 * no + w).toNat) := put_tells _ (by omega)
    refine ⟨K + 1, fun k hk => ?_⟩
    show tag_Put.f k no w = _
    obtain ⟨k, rfl⟩ : ∃ m, k = m + 1 := ⟨k - 1, by omega⟩
    unfold tag_Put.f tput
    have hk' : knownB w = true := by unfold tputB at h; rw [Bool.and_eq_true] at h; exact h.2
    rw [if_neg (by omega), if_neg (by omega), known_tells, bnd, if_pos hk', head_number no w (by omega) h2 (by omega) (by omega), bnd, of_tells _ (by omega) (by omega), bnd]
    simp only [tag_Put.j0]
    rw [show (8 * no + w) / 8 = no by omega, show (8 * no + w) % 8 = w by omega]
    rw [if_neg (by simp), head_number no w (by omega) h2 (by omega) (by omega), bnd]
    rw [show (8 * no + w) = ((8 * no + w).toNat : Int) by omega, e k (by omega), bnd, if_pos h]
    rw [show ((8 * no + w).toNat : Int) = 8 * no + w by omega]
  · refine ⟨1, fun k hk => ?_⟩
    show tag_Put.f k no w = _
    obtain ⟨k, rfl⟩ : ∃ m, k = m + 1 := ⟨k - 1, by omega⟩
    unfold tag_Put.f tput
    rw [if_neg h]
    simp only [tag_Put.j0]
    by_cases c1 : no < 1
    · rw [if_pos c1]; simp
    · rw [if_neg c1]
      by_cases c2 : no > 536870911
      · rw [if_pos c2]; simp
      · rw [if_neg c2, known_tells, bnd]
        have c3 : knownB w = false := by
          unfold tputB at h
          rw [show decide (1 ≤ no ∧ no ≤ 536870911) = true from decide_eq_true (by omega), Bool.true_and] at h
          exact Bool.eq_false_iff.mpr h
        rw [if_neg (by rw [c3]; decide)]; simp
def tget (l : List Int) (a b : Int) : Int × Int × Int × Int :=
  if (vget l a b).2.2 = 0 then (if (vget l a b).1 > 4294967295 ∨ (vget l a b).1 / 8 = 0 then (0, 0, 0, 9) else if knownB ((vget l a b).1 % 8) = true then ((vget l a b).1 / 8, (vget l a b).1 % 8, (vget l a b).2.1, 0) else (0, 0, 0, 8)) else (0, 0, 0, (vget l a b).2.2)
theorem vget_range (l : List Int) (a b : Int) : 0 ≤ (vget l a b).1 ∧ (vget l a b).1 < 18446744073709551616 := by
  by_cases h : (vget l a b).2.2 = 0
  · have := vget_ok h; omega
  · unfold vget at h ⊢
    by_cases hm : mayB l.length a b = true
    · rw [if_pos hm] at h ⊢
      by_cases hz : (vdec 10 ((l.take b.toNat).drop a.toNat)).1 = 0
      · rw [if_pos hz] at h; exact absurd rfl h
      · rw [if_neg hz]; simp
    · rw [if_neg hm]; simp
theorem tget_tells (l : List Int) (hb : Byt l) (hs : l.length < 4611686018427387904) (a b : Int) : Ev (fun k => tag_Get.f k l a b) (tget l a b) := by
  obtain ⟨K, e⟩ : ∃ K, ∀ k, K ≤ k → varint_Get.f k l a b = some (vget l a b) := get_tells l hb hs a b
  refine ⟨K + 1, fun k hk => ?_⟩
  show tag_Get.f k l a b = _
  obtain ⟨k, rfl⟩ : ∃ m, k = m + 1 := ⟨k - 1, by omega⟩
  have hr := vget_range l a b
  unfold tag_Get.f tget
  rw [e _ (by omega), bnd, of_tells _ hr.1 hr.2, bnd]
  by_cases h : (vget l a b).2.2 = 0
  · rw [if_pos h, if_pos h]
    simp only [tag_Get.j0]
    by_cases c1 : (vget l a b).1 > 4294967295
    · rw [if_pos c1, if_pos (decide_eq_true c1), if_pos (.inl c1)]
    · rw [if_neg c1]
      by_cases c2 : (vget l a b).1 / 8 = 0
      · rw [if_pos (beq_iff_eq.mpr c2), if_pos (.inr c2)]
      · rw [if_neg (by simpa using c2), if_neg (by omega), known_tells, bnd]
        by_cases c3 : knownB ((vget l a b).1 % 8) = true
        · rw [if_pos c3, if_pos c3]
        · rw [if_neg c3, if_neg c3]
  · rw [if_neg h, if_neg h]
theorem awake3 : Ev (fun k => trufflelaw03_awake.f k) true := Ev.of (fun k => trufflelaw03_awake.mono k) (k := 20) (by decide +kernel)

/-! ### numbers that are put -/
theorem vput_inj {n m : Nat} (hn : n < 18446744073709551616) (hm : m < 18446744073709551616) (h : vput n = vput m) : n = m := by
  have a := vdec_put 9 n [] (Nat.lt_trans hn pow10)
  have b := vdec_put 9 m [] (Nat.lt_trans hm pow10)
  rw [h, b] at a
  have e : (m : Int) = n := congrArg (fun t => t.2.1) a
  omega
/-- How many bytes a number has hangs on its part above the lowest three bits. -/
theorem vput_len8 (d : Nat) : ∀ n m, n / 8 ≤ m / 8 → m < 128 ^ (d + 1) → (vput n).length ≤ (vput m).length := by
  induction d with
  | zero =>
    intro n m h hm
    have hm' : m < 128 := by simpa using hm
    rw [vput_lt (n := n) (by omega), vput_lt hm']; simp
  | succ d ih =>
    intro n m h hm
    by_cases hn : n < 128
    · rw [vput_lt hn]; have := List.length_pos_iff.mpr (vput_ne m); simp; omega
    · rw [vput_ge (n := n) (by omega), vput_ge (n := m) (by omega)]
      have := ih (n / 128) (m / 128) (by omega) (by rw [Nat.pow_succ] at hm; omega)
      simp; omega
theorem vput_len5 (n : Nat) (h : n < 4294967296) : 1 ≤ (vput n).length ∧ (vput n).length ≤ 5 := vput_len 4 n (Nat.lt_trans h (by decide))
theorem tput_ok {no w : Int} (h : (tput no w).2 = true) : tputB no w = true ∧ (tput no w).1 = vput (8 * no + w).toNat := by
  unfold tput at h ⊢
  by_cases c : tputB no w = true
  · rw [if_pos c]; exact ⟨c, rfl⟩
  · rw [if_neg c] at h; exact absurd h (by decide)
theorem tput_no {no w : Int} (h : ¬ (tput no w).2 = true) : (tput no w).1 = [] := by
  unfold tput at h ⊢
  by_cases c : tputB no w = true
  · rw [if_pos c] at h; exact absurd rfl h
  · rw [if_neg c]
/-- What is put is got, wherever it stands. -/
theorem tget_put {l : List Int} {a b : Int} (hm : mayB l.length a b = true) {no w : Int} (h : tputB no w = true) {s : List Int} (hs : (l.take b.toNat).drop a.toNat = vput (8 * no + w).toNat ++ s) : tget l a b = (no, w, a + ((vput (8 * no + w).toNat).length : Int), 0) := by
  obtain ⟨h1, h2, h3⟩ := tputB_iff h
  have hv := vget_put hm (n := (8 * no + w).toNat) (by omega) hs
  unfold tget
  rw [hv]
  have hk : knownB w = true := by unfold tputB at h; rw [Bool.and_eq_true] at h; exact h.2
  simp only [if_true]
  rw [if_neg (by omega), show ((8 * no + w).toNat : Int) % 8 = w by omega, if_pos hk, show ((8 * no + w).toNat : Int) / 8 = no by omega]
theorem tget_cut {l : List Int} {a b : Int} (hm : mayB l.length a b = true) {n : Nat} (hn : n < 18446744073709551616) {j : Nat} (hj : j < (vput n).length) (hs : (l.take b.toNat).drop a.toNat = (vput n).take j) : tget l a b = (0, 0, 0, 6) := by
  have hv := vget_cut hm hn hj hs
  unfold tget
  rw [hv]; simp
end Go.Proofs.Ytokbcenkgdpepaa.Spec
