/-
  The plain law of layer 1's reference: truffleref01's Put, Get, Long, Fix, Unfix come to the same plain functions as the program's.
-/
import Derived.Test.YtokbcenkgdpepaaSpecA
import Derived.Test.YtokbcenkgdpepaaMx17
import Derived.Test.YtokbcenkgdpepaaMx18
import Derived.Test.YtokbcenkgdpepaaMx25
import Derived.Test.YtokbcenkgdpepaaMx26
namespace Go.Proofs.Ytokbcenkgdpepaa.Spec
open Go.RowKit Go.Proofs.Ytokbcenkgdpepaa.M Go.Proofs.YtokbcenkgdpepaaW.PrintWords Go.Proofs.YtokbcenkgdpepaaW.PrintLast Go.Proofs.YtokbcenkgdpepaaW.PrintMore

theorem rmay_tells (l : List Int) (a b : Int) : truffleref01_May.f l a b = some (mayB l.length a b) := by
  unfold truffleref01_May.f mayB
  by_cases h0 : a ≥ 0
  · rw [if_pos h0]
    by_cases h1 : b ≥ a
    · rw [if_pos h1]; congr 1; apply decide_eq_decide.mpr; omega
    · rw [if_neg h1]; congr 1; symm; apply decide_eq_false; omega
  · rw [if_neg h0]; congr 1; symm; apply decide_eq_false; omega
theorem rput_loop (d : Nat) : ∀ (n : Nat) (acc : List Int) (k : Nat), n < 18446744073709551616 → n < 128 ^ (d + 1) → acc.length + d < 140737488355328 → d < k → truffleref01_Put.l0 k n acc = some (acc ++ vput n) := by
  have fin : ∀ (n : Nat) (acc : List Int) (k : Nat), n < 128 → acc.length < 140737488355328 → truffleref01_Put.l0 (k + 1) n acc = some (acc ++ vput n) := by
    intro n acc k h ha
    simp only [truffleref01_Put.l0]
    rw [if_neg (by omega), if_pos ha, vput_lt h]
    congr 3; omega
  induction d with
  | zero =>
    intro n acc k hg hn ha hk
    obtain ⟨k, rfl⟩ : ∃ m, k = m + 1 := ⟨k - 1, by omega⟩
    exact fin n acc k (by simpa using hn) (by omega)
  | succ d ih =>
    intro n acc k hg hn ha hk
    obtain ⟨k, rfl⟩ : ∃ m, k = m + 1 := ⟨k - 1, by omega⟩
    by_cases h : n < 128
    · exact fin n acc k h (by omega)
    · simp only [truffleref01_Put.l0]
      rw [if_pos (by omega), if_pos (by omega)]
      have e : IntKind.u64.wrap (Int.tdiv (n : Int) 128) = ((n / 128 : Nat) : Int) := by rw [wrap_u64, Int.tdiv_eq_ediv_of_nonneg (by omega)]; omega
      have e2 : IntKind.u64.wrap (Int.tmod (n : Int) 128 + 128) % 256 = ((n % 128 + 128 : Nat) : Int) := by rw [wrap_u64, Int.tmod_eq_emod_of_nonneg (by omega)]; omega
      rw [e, e2, ih (n / 128) _ k (by omega) (by rw [Nat.pow_succ] at hn; omega) (by simp; omega) (by omega), vput_ge (n := n) (by omega), List.append_assoc]
      simp only [List.singleton_append]
theorem rput_tells (n : Nat) (hn : n < 18446744073709551616) : Ev (fun k => truffleref01_Put.f k n) (vput n) :=
  ⟨10, fun k hk => rput_loop 9 n [] k hn (Nat.lt_trans hn pow10) (by simp) (by omega)⟩
theorem rlong_tells (n : Nat) (hn : n < 18446744073709551616) : Ev (fun k => truffleref01_Long.f k n) ((vput n).length : Int) := by
  obtain ⟨K, h⟩ : ∃ K, ∀ k, K ≤ k → truffleref01_Put.f k n = some (vput n) := rput_tells n hn
  exact ⟨K, fun k hk => by show truffleref01_Long.f k n = _; unfold truffleref01_Long.f; rw [h k hk, bnd]⟩

/-! ### Get -/
/-- How many bytes stand ahead of the first one below 128. -/
def cnt : List Int → Nat
  | [] => 0
  | c :: s => if c < 128 then 0 else cnt s + 1
theorem cnt_le (s : List Int) : cnt s ≤ s.length := by
  induction s with
  | nil => simp [cnt]
  | cons c s ih => simp only [cnt]; split <;> simp; omega
def val : List Int → Int
  | [] => 0
  | c :: s => c % 128 + 128 * val s
theorem vdec_cnt (d : Nat) : ∀ s, Byt s → (d ≤ cnt s → (vdec d s).1 = 7) ∧ (cnt s < d → cnt s = s.length → (vdec d s).1 = 6) ∧ (cnt s < d → cnt s < s.length → (vdec d s).1 = 0 ∧ (vdec d s).2.2 = cnt s + 1 ∧ (vdec d s).2.1 = val (s.take (cnt s + 1))) := by
  induction d with
  | zero => intro s _; simp [vdec]
  | succ d ih =>
    intro s hs
    cases s with
    | nil => simp [cnt, vdec]
    | cons c s =>
      have hc0 := hs c (by simp)
      obtain ⟨i1, i2, i3⟩ := ih s (fun x hx => hs x (by simp [hx]))
      by_cases h : c < 128
      · have hc : cnt (c :: s) = 0 := by rw [cnt, if_pos h]
        have hv : vdec (d + 1) (c :: s) = (0, c, 1) := by rw [vdec, if_pos h]
        rw [hc, hv]; simp [val]; omega
      · have hc : cnt (c :: s) = cnt s + 1 := by rw [cnt, if_neg h]
        rw [hc]
        refine ⟨fun g => ?_, fun g1 g2 => ?_, fun g1 g2 => ?_⟩
        · have e := i1 (by omega)
          have hv : vdec (d + 1) (c :: s) = ((vdec d s).1, 0, 0) := by rw [vdec, if_neg h, if_neg (by rw [e]; decide)]
          rw [hv]; exact e
        · have e := i2 (by omega) (by simpa using g2)
          have hv : vdec (d + 1) (c :: s) = ((vdec d s).1, 0, 0) := by rw [vdec, if_neg h, if_neg (by rw [e]; decide)]
          rw [hv]; exact e
        · have e := i3 (by omega) (by simpa using g2)
          have hv : vdec (d + 1) (c :: s) = (0, c % 128 + 128 * (vdec d s).2.1, (vdec d s).2.2 + 1) := by rw [vdec, if_neg h, if_pos e.1]
          rw [hv]; simp [e.2.1, e.2.2, val]
theorem add_mul_mod (A P x M : Int) : (A + P % M * x) % M = (A + P * x) % M := by
  rw [Int.add_emod, Int.mul_emod, Int.emod_emod, ← Int.mul_emod, ← Int.add_emod]
theorem rget_sum (l : List Int) (hb : Byt l) (a i : Nat) (hi : a + i < l.length) (hs : l.length < 4611686018427387904) (e : Nat) : ∀ (j k : Nat) (A : Int), j + e = i + 1 → e < k →
    truffleref01_Get.l1 k l a i (A % 18446744073709551616) (128 ^ j % 18446744073709551616) j = some ((A + 128 ^ j * val ((l.drop (a + j)).take e)) % 18446744073709551616, (a : Int) + i + 1, 0) := by
  induction e with
  | zero =>
    intro j k A hj hk
    obtain ⟨k, rfl⟩ : ∃ m, k = m + 1 := ⟨k - 1, by omega⟩
    simp only [truffleref01_Get.l1]
    rw [if_neg (by omega), wrap64_id (a := (a : Int) + i) (by omega) (by omega), wrap64_id (by omega) (by omega)]
    simp [val]
  | succ e ih =>
    intro j k A hj hk
    obtain ⟨k, rfl⟩ : ∃ m, k = m + 1 := ⟨k - 1, by omega⟩
    simp only [truffleref01_Get.l1]
    have hlt : a + j < l.length := by omega
    have hr : rd l ((a : Int) + j) = l[a + j] := by rw [show (a : Int) + j = ((a + j : Nat) : Int) by omega]; exact rd_at l (a + j) hlt
    have hc := hb l[a + j] (List.getElem_mem _)
    rw [if_pos (by omega), wrap64_id (a := (a : Int) + j) (by omega) (by omega), if_pos (by omega), if_pos (by omega), hr, wrap64_id (a := (j : Int) + 1) (by omega) (by omega)]
    have e1 : Int.tmod (IntKind.u64.wrap l[a + j]) 128 = l[a + j] % 128 := by
      rw [wrap_u64, show l[a + j] % 18446744073709551616 = l[a + j] by omega, Int.tmod_eq_emod_of_nonneg hc.1]
    have e2 : IntKind.u64.wrap (A % 18446744073709551616 + IntKind.u64.wrap (128 ^ j % 18446744073709551616 * (l[a + j] % 128))) = (A + 128 ^ j * (l[a + j] % 128)) % 18446744073709551616 := by
      rw [wrap_u64, wrap_u64, ← Int.add_emod, add_mul_mod]
    have e3 : IntKind.u64.wrap (128 ^ j % 18446744073709551616 * 128) = 128 ^ (j + 1) % 18446744073709551616 := by
      rw [wrap_u64, Int.pow_succ, Int.mul_emod (128 ^ j % 18446744073709551616), Int.emod_emod, ← Int.mul_emod]
    rw [e1, e2, e3, show ((j : Int) + 1) = ((j + 1 : Nat) : Int) by omega, ih (j + 1) k _ (by omega) (by omega)]
    rw [List.drop_eq_getElem_cons hlt, List.take_succ_cons, show a + (j + 1) = a + j + 1 by omega]
    simp only [val]
    congr 3
    rw [Int.pow_succ, Int.mul_add, ← Int.mul_assoc, Int.add_assoc]
theorem rget_loop (l : List Int) (hb : Byt l) (a b : Nat) (hab : a ≤ b) (hl : b ≤ l.length) (hs : l.length < 4611686018427387904) (d : Nat) : ∀ (i k : Nat), i + d = 10 → a + i ≤ b → cnt ((l.take b).drop a) = i + cnt ((l.take b).drop (a + i)) → 40 + d < k →
    truffleref01_Get.l0 k l a b i = some (vget l a b) := by
  have hm : mayB l.length (a : Int) (b : Int) = true := decide_eq_true (by omega)
  have hv := vget_bytes hm (s := (l.take b).drop a) (by simp)
  obtain ⟨c1, c2, c3⟩ := vdec_cnt 10 ((l.take b).drop a) ((hb.take b).drop a)
  have hsl : ((l.take b).drop a).length = b - a := by simp; omega
  -- the end
  have fin : ∀ (i k : Nat), cnt ((l.take b).drop a) = i → i ≤ 9 → a + i < b → 40 < k → truffleref01_Get.j1 k l a b i = some (vget l a b) := by
    intro i k hc hi hp hk
    obtain ⟨k, rfl⟩ : ∃ m, k = m + 1 := ⟨k - 1, by omega⟩
    simp only [truffleref01_Get.j1]
    rw [if_neg (by omega), wrap64_id (by omega) (by omega), if_neg (by omega)]
    have := rget_sum l hb a i (by omega) hs (i + 1) 0 k 0 (by omega) (by omega)
    obtain ⟨v1, v2, v3⟩ := c3 (by omega) (by omega)
    have e : (l.drop (a + 0)).take (i + 1) = ((l.take b).drop a).take (i + 1) := by
      show (l.drop a).take (i + 1) = _
      rw [List.drop_take, List.take_take, Nat.min_eq_left (by omega)]
    rw [hv, if_pos v1, v2, v3, hc, ← e]
    rw [show (0 : Int) % 18446744073709551616 = 0 from rfl, show (128 : Int) ^ 0 % 18446744073709551616 = 1 from rfl, show ((0 : Nat) : Int) = 0 from rfl] at this
    rw [this]
    simp [Int.add_assoc]
  have cut : ∀ (i k : Nat), cnt ((l.take b).drop a) = i → i ≤ 9 → a + i = b → 1 < k → truffleref01_Get.j1 k l a b i = some (vget l a b) := by
    intro i k hc hi hp hk
    obtain ⟨k, rfl⟩ : ∃ m, k = m + 1 := ⟨k - 1, by omega⟩
    simp only [truffleref01_Get.j1]
    rw [if_neg (by omega), wrap64_id (by omega) (by omega), if_pos (by omega)]
    have e := c2 (by omega) (by omega)
    rw [hv, if_neg (by rw [e]; decide), e]
  induction d with
  | zero =>
    intro i k hi hp hc hk
    obtain ⟨k, rfl⟩ : ∃ m, k = m + 1 := ⟨k - 1, by omega⟩
    simp only [truffleref01_Get.l0]
    rw [if_neg (by omega)]
    obtain ⟨k, rfl⟩ : ∃ m, k = m + 1 := ⟨k - 1, by omega⟩
    simp only [truffleref01_Get.j1]
    have e := c1 (by omega)
    rw [if_pos (by omega), hv, if_neg (by rw [e]; decide), e]
  | succ d ih =>
    intro i k hi hp hc hk
    obtain ⟨k, rfl⟩ : ∃ m, k = m + 1 := ⟨k - 1, by omega⟩
    simp only [truffleref01_Get.l0]
    rw [if_pos (by omega), wrap64_id (a := (a : Int) + i) (by omega) (by omega)]
    by_cases hpb : a + i < b
    · have hlt : a + i < l.length := by omega
      have hr : rd l ((a : Int) + i) = l[a + i] := by rw [show (a : Int) + i = ((a + i : Nat) : Int) by omega]; exact rd_at l (a + i) hlt
      rw [drop_take_cons hpb hl] at hc
      rw [if_pos (by omega), if_pos (by omega), if_pos (by omega), hr, wrap64_id (a := (i : Int) + 1) (by omega) (by omega)]
      by_cases hlow : l[a + i] < 128
      · rw [if_neg (by omega)]
        rw [cnt, if_pos hlow] at hc
        exact fin i k (by omega) (by omega) hpb (by omega)
      · rw [if_pos (by omega), show ((i : Int) + 1) = ((i + 1 : Nat) : Int) by omega]
        rw [cnt, if_neg hlow] at hc
        exact ih (i + 1) k (by omega) (by omega) (by rw [show a + (i + 1) = a + i + 1 by omega]; omega) (by omega)
    · rw [if_neg (by omega)]
      rw [List.drop_eq_nil_of_le (i := a + i) (by simp; omega)] at hc
      exact cut i k (by simpa [cnt] using hc) (by omega) (by omega) (by omega)
theorem rget_tells (l : List Int) (hb : Byt l) (hs : l.length < 4611686018427387904) (a b : Int) : Ev (fun k => truffleref01_Get.f k l a b) (vget l a b) :=
  ⟨60, fun k hk => by
    show truffleref01_Get.f k l a b = _
    unfold truffleref01_Get.f
    rw [rmay_tells, bnd]
    by_cases hm : mayB l.length a b = true
    · rw [if_pos hm]
      have h := of_decide_eq_true hm
      obtain ⟨x, rfl⟩ := Int.eq_ofNat_of_zero_le h.1
      obtain ⟨y, rfl⟩ := Int.eq_ofNat_of_zero_le (by omega : 0 ≤ b)
      exact rget_loop l hb x y (by omega) (by omega) hs 10 0 k (by omega) (by omega) (by simp) (by omega)
    · rw [if_neg hm]; unfold vget; rw [if_neg hm]⟩

/-! ### Fix, Unfix -/
theorem rfix_loop (z : Nat) (hz : z ≤ 8) (d : Nat) : ∀ (i k m : Nat) (pre : List Int), i + d = z → m < 18446744073709551616 → pre.length = i → d < k → truffleref01_Fix.l0 k m z pre i = some (pre ++ vfix d m, true) := by
  induction d with
  | zero =>
    intro i k m pre hi hm hp hk
    obtain ⟨k, rfl⟩ : ∃ m, k = m + 1 := ⟨k - 1, by omega⟩
    simp only [truffleref01_Fix.l0]
    rw [if_neg (by omega)]; simp [vfix]
  | succ d ih =>
    intro i k m pre hi hm hp hk
    obtain ⟨k, rfl⟩ : ∃ m, k = m + 1 := ⟨k - 1, by omega⟩
    simp only [truffleref01_Fix.l0]
    have e1 : IntKind.u64.wrap (Int.tdiv (m : Int) 256) = ((m / 256 : Nat) : Int) := by rw [wrap_u64, Int.tdiv_eq_ediv_of_nonneg (by omega)]; omega
    have e2 : Int.tmod (m : Int) 256 % 256 = ((m % 256 : Nat) : Int) := by rw [Int.tmod_eq_emod_of_nonneg (by omega)]; omega
    rw [if_pos (by omega), if_pos (by omega), e1, e2, wrap64_id (by omega) (by omega), show ((i : Int) + 1) = ((i + 1 : Nat) : Int) by omega, ih (i + 1) k _ _ (by omega) (by omega) (by simp [hp]) (by omega)]
    simp [vfix]
theorem rfix_tells (n : Nat) (hn : n < 18446744073709551616) (z : Int) : Ev (fun k => truffleref01_Fix.f k n z) (vfixR n z) :=
  ⟨20, fun k hk => by
    show truffleref01_Fix.f k n z = _
    obtain ⟨k, rfl⟩ : ∃ m, k = m + 1 := ⟨k - 1, by omega⟩
    unfold truffleref01_Fix.f vfixR sizedB
    simp only [truffleref01_Fix.j0]
    by_cases h4 : z = 4
    · subst h4
      rw [if_pos rfl, if_neg (by decide), if_pos (by decide)]
      exact rfix_loop 4 (by omega) 4 0 k n [] (by omega) hn rfl (by omega)
    · rw [if_neg h4]
      by_cases h8 : z = 8
      · subst h8
        rw [if_neg (by decide), if_pos (by decide)]
        exact rfix_loop 8 (by omega) 8 0 k n [] (by omega) hn rfl (by omega)
      · rw [if_pos (bne_iff_ne.mpr h8), if_neg (by simp [h4, h8])]⟩
theorem le_lt (s : List Int) (hs : Byt s) : 0 ≤ le s ∧ le s < 256 ^ s.length := by
  induction s with
  | nil => simp [le]
  | cons c s ih =>
    have h := hs c (by simp)
    have i := ih (fun x hx => hs x (by simp [hx]))
    simp only [le, List.length_cons, Int.pow_succ]
    omega
theorem runfix_loop (l : List Int) (hb : Byt l) (a z : Nat) (hz : z ≤ 8) (hl : a + z ≤ l.length) (hs : l.length < 4611686018427387904) (i : Nat) : ∀ (k : Nat), i ≤ z → i < k →
    truffleref01_Unfix.l0 k l a z (le ((l.drop (a + i)).take (z - i))) ((i : Int) - 1) = some (le ((l.drop a).take z), (a : Int) + z, 0) := by
  induction i with
  | zero =>
    intro k hi hk
    obtain ⟨k, rfl⟩ : ∃ m, k = m + 1 := ⟨k - 1, by omega⟩
    simp only [truffleref01_Unfix.l0]
    rw [if_neg (by omega), wrap64_id (by omega) (by omega)]; simp
  | succ i ih =>
    intro k hi hk
    obtain ⟨k, rfl⟩ : ∃ m, k = m + 1 := ⟨k - 1, by omega⟩
    simp only [truffleref01_Unfix.l0]
    have hlt : a + i < l.length := by omega
    have e0 : (((i + 1 : Nat) : Int) - 1) = (i : Int) := by omega
    have hr : rd l ((a : Int) + i) = l[a + i] := by rw [show (a : Int) + i = ((a + i : Nat) : Int) by omega]; exact rd_at l (a + i) hlt
    have hc := hb l[a + i] (List.getElem_mem _)
    rw [e0, if_pos (by omega), wrap64_id (a := (a : Int) + i) (by omega) (by omega), if_pos (by omega), if_pos (by omega), hr, wrap64_id (a := (i : Int) - 1) (by omega) (by omega)]
    obtain ⟨q0, q1⟩ := le_lt ((l.drop (a + (i + 1))).take (z - (i + 1))) ((hb.drop _).take _)
    have hlen : ((l.drop (a + (i + 1))).take (z - (i + 1))).length = z - (i + 1) := by simp; omega
    rw [hlen] at q1
    have q2 : (256 : Int) ^ (z - (i + 1)) ≤ 256 ^ 7 := by
      have : z - (i + 1) = 0 ∨ z - (i + 1) = 1 ∨ z - (i + 1) = 2 ∨ z - (i + 1) = 3 ∨ z - (i + 1) = 4 ∨ z - (i + 1) = 5 ∨ z - (i + 1) = 6 ∨ z - (i + 1) = 7 := by omega
      rcases this with h | h | h | h | h | h | h | h <;> rw [h] <;> decide
    have q3 : (256 : Int) ^ 7 = 72057594037927936 := by decide
    have e1 : IntKind.u64.wrap (IntKind.u64.wrap (256 * le ((l.drop (a + (i + 1))).take (z - (i + 1)))) + IntKind.u64.wrap l[a + i]) = le ((l.drop (a + i)).take (z - i)) := by
      have e : (l.drop (a + i)).take (z - i) = l[a + i] :: (l.drop (a + (i + 1))).take (z - (i + 1)) := by
        rw [List.drop_eq_getElem_cons hlt, show z - i = (z - (i + 1)) + 1 by omega, List.take_succ_cons, show a + (i + 1) = a + i + 1 by omega]
      rw [e, le, wrap_u64, wrap_u64, wrap_u64]; omega
    rw [e1]
    exact ih k (by omega) (by omega)
theorem runfix_tells (l : List Int) (hb : Byt l) (hs : l.length < 4611686018427387904) (a b z : Int) : Ev (fun k => truffleref01_Unfix.f k l a b z) (vunfix l a b z) :=
  ⟨20, fun k hk => by
    show truffleref01_Unfix.f k l a b z = _
    obtain ⟨k, rfl⟩ : ∃ m, k = m + 1 := ⟨k - 1, by omega⟩
    unfold truffleref01_Unfix.f vunfix
    rw [rmay_tells, bnd]
    by_cases hm : mayB l.length a b = true
    · have h := of_decide_eq_true hm
      have main : (z = 4 ∨ z = 8) → (if wrap64 (a + z) > b then some (0, 0, 6) else truffleref01_Unfix.l0 k l a z 0 (wrap64 (z - 1))) = some (if b - a < z then (0, 0, 6) else (le (List.take z.toNat (List.drop a.toNat l)), a + z, 0)) := by
        intro hz
        rw [wrap64_id (by omega) (by omega), wrap64_id (by omega) (by omega)]
        by_cases hc : b - a < z
        · rw [if_pos (by omega), if_pos hc]
        · rw [if_neg (by omega), if_neg hc]
          obtain ⟨x, rfl⟩ := Int.eq_ofNat_of_zero_le h.1
          obtain ⟨y, rfl⟩ := Int.eq_ofNat_of_zero_le (by omega : 0 ≤ z)
          have := runfix_loop l hb x y (by omega) (by omega) hs y k (Nat.le_refl _) (by omega)
          rw [Nat.sub_self, List.take_zero] at this
          exact this
      rw [if_pos hm, hm]
      simp only [truffleref01_Unfix.j0, Bool.true_and]
      by_cases h4 : z = 4
      · have hz : sizedB z = true := decide_eq_true (.inl h4)
        rw [if_pos h4, if_neg (by decide), if_pos hz]; exact main (.inl h4)
      · rw [if_neg h4]
        by_cases h8 : z = 8
        · have hz : sizedB z = true := decide_eq_true (.inr h8)
          rw [if_neg (by simp [h8]), if_pos hz]; exact main (.inr h8)
        · have hz : ¬ sizedB z = true := by simp [sizedB, h4, h8]
          rw [if_pos (bne_iff_ne.mpr h8), if_neg hz]
    · rw [if_neg hm]
      simp only [truffleref01_Unfix.j0]
      rw [if_pos trivial, if_neg (by simp [hm])]⟩
end Go.Proofs.Ytokbcenkgdpepaa.Spec
