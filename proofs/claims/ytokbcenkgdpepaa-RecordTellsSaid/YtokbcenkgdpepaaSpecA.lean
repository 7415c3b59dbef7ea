/-
  The plain law of layer 1: what varint.Put, Get, Long, Fix, Unfix (and Bytes) come to, as plain functions of numbers and lists; from some number of rounds on.
-/
import Derived.Test.YtokbcenkgdpepaaMx3
import Derived.Test.YtokbcenkgdpepaaMx4
import Derived.Test.YtokbcenkgdpepaaMx5
import Derived.Test.YtokbcenkgdpepaaMx8
import Derived.Test.YtokbcenkgdpepaaMx11
import Derived.Laws.BitsAllLaws
import Derived.Laws.Bits128
namespace Go.Proofs.Ytokbcenkgdpepaa.Spec
open Go.RowKit Go.Proofs.Ytokbcenkgdpepaa.M Go.Proofs.YtokbcenkgdpepaaW.PrintWords Go.Proofs.YtokbcenkgdpepaaW.PrintLast Go.Proofs.YtokbcenkgdpepaaW.PrintMore

/-! ### numbers -/
theorem wrap_u64 (n : Int) : IntKind.u64.wrap n = n % 18446744073709551616 := by simp [IntKind.wrap, IntKind.bits, IntKind.signed]
theorem wf_u64 {a : Int} (h : (Lit.int .u64 a).wf = true) : 0 ≤ a ∧ a < 18446744073709551616 := by
  simp [Lit.wf, IntKind.min, IntKind.max, IntKind.signed, IntKind.bits] at h
  omega
theorem wf_i64 {a : Int} (h : (Lit.int .i64 a).wf = true) : -9223372036854775808 ≤ a ∧ a < 9223372036854775808 := by
  simp [Lit.wf, IntKind.min, IntKind.max, IntKind.signed, IntKind.bits] at h
  omega
theorem wf_u8 {a : Int} (h : (Lit.int .u8 a).wf = true) : 0 ≤ a ∧ a < 256 := by
  simp [Lit.wf, IntKind.min, IntKind.max, IntKind.signed, IntKind.bits] at h
  omega
theorem wrap64_id {a : Int} (h0 : -9223372036854775808 ≤ a) (h1 : a < 9223372036854775808) : wrap64 a = a := by unfold wrap64; omega
theorem or128_nat : ∀ y : Fin 256, (y.val ||| 128) = y.val % 128 + 128 := by decide +kernel
theorem and127_nat : ∀ y : Fin 256, (y.val &&& 127) = y.val % 128 := by decide +kernel
theorem u8_or128 (y : Int) (h0 : 0 ≤ y) (h1 : y < 256) : Go.bits .or .u8 y 128 = y % 128 + 128 := by
  rw [u8_or y 128 h0 h1 (by omega) (by omega)]
  have := or128_nat ⟨y.toNat, by omega⟩
  simp only at this
  have e : (128 : Int).toNat = 128 := rfl
  rw [e, this]; omega
theorem u8_and127 (y : Int) (h0 : 0 ≤ y) (h1 : y < 256) : Go.bits .and .u8 y 127 = y % 128 := by
  have h := bits_mask .u8 8 (by decide) wraps_u8 7 (by decide) y h0 h1
  exact h
theorem wraps_u64 (n : Int) (h₀ : 0 ≤ n) (h₁ : n < 2 ^ 64) : IntKind.u64.wrap n = n := by rw [wrap_u64]; omega
/-- The bits of a low part, and of a part above it, together. -/
theorem u64_or_low (j : Nat) (lo hi : Int) (h0 : 0 ≤ lo) (h1 : lo < 2 ^ j) (g0 : 0 ≤ hi) (g1 : hi < 2 ^ 64) (gm : hi % 2 ^ j = 0) (hj : (2 : Int) ^ j ≤ 2 ^ 64) : Go.bits .or .u64 lo hi = lo + hi := by
  have hc : Go.bits .or .u64 lo hi = Go.bits .or .u64 hi lo := by simp only [bits, BitVec.or_comm]
  rw [hc, bits_join .u64 64 (by decide) wraps_u64 j hi lo g0 gm g1 h0 h1 (by omega)]
  omega

/-! ### rounds: several facts at one number -/
theorem Ev.mono_at {α : Type} {g : Nat → Option α} {r : α} (h : Ev g r) : ∃ K, ∀ m j, K ≤ m → g (m + j) = some r := by
  obtain ⟨K, h⟩ := h
  exact ⟨K, fun m j hm => h _ (by omega)⟩

/-- As Option.bind_some, but no step of the kernel's own reckoning. -/
theorem bnd {α β : Type} (a : α) (f : α → Option β) : (some a).bind f = f a := by
  have h := Option.bind_some a f
  exact h

/-! ### places -/
def mayB (n : Nat) (a b : Int) : Bool := decide (0 ≤ a ∧ a ≤ b ∧ b ≤ (n : Int))
theorem may_tells (l : List Int) (a b : Int) : varint_may.f l a b = some (mayB l.length a b) := by
  unfold varint_may.f mayB
  by_cases h0 : a ≥ 0
  · rw [if_pos h0]
    by_cases h1 : a ≤ b
    · rw [if_pos h1]; congr 1; apply decide_eq_decide.mpr; omega
    · rw [if_neg h1]; congr 1; symm; apply decide_eq_false; omega
  · rw [if_neg h0]; congr 1; symm; apply decide_eq_false; omega

/-! ### Put -/
def vput (n : Nat) : List Int := if n < 128 then [(n : Int)] else ((n % 128 + 128 : Nat) : Int) :: vput (n / 128)
termination_by n
theorem vput_lt {n : Nat} (h : n < 128) : vput n = [(n : Int)] := by rw [vput, if_pos h]
theorem vput_ge {n : Nat} (h : 128 ≤ n) : vput n = ((n % 128 + 128 : Nat) : Int) :: vput (n / 128) := by rw [vput, if_neg (by omega)]
theorem vput_ne (n : Nat) : vput n ≠ [] := by
  by_cases h : n < 128
  · rw [vput_lt h]; simp
  · rw [vput_ge (by omega)]; simp
theorem vput_len (d : Nat) : ∀ n, n < 128 ^ (d + 1) → 1 ≤ (vput n).length ∧ (vput n).length ≤ d + 1 := by
  induction d with
  | zero => intro n h; rw [vput_lt (by simpa using h)]; simp
  | succ d ih =>
    intro n h
    by_cases hn : n < 128
    · rw [vput_lt hn]; simp
    · rw [vput_ge (by omega)]
      have := ih (n / 128) (by rw [Nat.pow_succ] at h; omega)
      simp; omega
theorem vput_bytes (n : Nat) : ∀ x ∈ vput n, 0 ≤ x ∧ x < 256 := by
  induction n using Nat.strongRecOn with
  | _ n ih =>
    by_cases hn : n < 128
    · rw [vput_lt hn]; intro x hx; simp at hx; omega
    · rw [vput_ge (by omega)]
      intro x hx
      rcases List.mem_cons.mp hx with rfl | hx
      · omega
      · exact ih _ (by omega) x hx
theorem put_loop (d : Nat) : ∀ (n : Nat) (acc : List Int) (k : Nat), n < 128 ^ (d + 1) → acc.length + d < 140737488355328 → d < k → varint_Put.l0 k n acc = some (acc ++ vput n) := by
  induction d with
  | zero =>
    intro n acc k hn ha hk
    obtain ⟨k, rfl⟩ : ∃ m, k = m + 1 := ⟨k - 1, by omega⟩
    have h : n < 128 := by simpa using hn
    simp only [varint_Put.l0]
    rw [if_neg (by omega), if_pos (by omega), vput_lt h]
    congr 3; omega
  | succ d ih =>
    intro n acc k hn ha hk
    obtain ⟨k, rfl⟩ : ∃ m, k = m + 1 := ⟨k - 1, by omega⟩
    by_cases h : n < 128
    · simp only [varint_Put.l0]
      rw [if_neg (by omega), if_pos (by omega), vput_lt h]
      congr 3; omega
    · simp only [varint_Put.l0]
      rw [if_pos (by omega), if_pos (by omega)]
      have e : ((n : Int) / 128) = ((n / 128 : Nat) : Int) := by omega
      rw [e, ih (n / 128) _ k (by rw [Nat.pow_succ] at hn; omega) (by simp; omega) (by omega), vput_ge (n := n) (by omega), List.append_assoc]
      rw [u8_or128 _ (by omega) (by omega)]
      simp only [List.singleton_append]
      congr 3; omega
theorem pow10 : (18446744073709551616 : Nat) < 128 ^ (9 + 1) := by decide
theorem put_tells (n : Nat) (hn : n < 18446744073709551616) : Ev (fun k => varint_Put.f k n) (vput n) :=
  ⟨10, fun k hk => put_loop 9 n [] k (Nat.lt_trans hn pow10) (by simp) (by omega)⟩

/-! ### Long -/
theorem long_loop (d : Nat) : ∀ (n k : Nat) (c : Int), n < 128 ^ (d + 1) → 0 ≤ c → c + d < 9223372036854775807 → d + 1 < k → varint_Long.l0 k ((n : Int) / 128) c = some (c - 1 + (vput n).length) := by
  induction d with
  | zero =>
    intro n k c hn hc hb hk
    obtain ⟨k, rfl⟩ : ∃ m, k = m + 1 := ⟨k - 1, by omega⟩
    have h : n < 128 := by simpa using hn
    simp only [varint_Long.l0]
    rw [if_neg (by omega), vput_lt h]; simp
  | succ d ih =>
    intro n k c hn hc hb hk
    obtain ⟨k, rfl⟩ : ∃ m, k = m + 1 := ⟨k - 1, by omega⟩
    by_cases h : n < 128
    · simp only [varint_Long.l0]
      rw [if_neg (by omega), vput_lt h]; simp
    · simp only [varint_Long.l0]
      have e : ((n : Int) / 128) = ((n / 128 : Nat) : Int) := by omega
      rw [if_pos (by omega), e, wrap64_id (by omega) (by omega), ih (n / 128) k (c + 1) (by rw [Nat.pow_succ] at hn; omega) (by omega) (by omega) (by omega), vput_ge (n := n) (by omega)]
      simp; omega
theorem long_tells (n : Nat) (hn : n < 18446744073709551616) : Ev (fun k => varint_Long.f k n) ((vput n).length : Int) :=
  ⟨12, fun k hk => by
    show varint_Long.l0 k ((n : Int) / 128) 1 = _
    rw [long_loop 9 n k 1 (Nat.lt_trans hn pow10) (by omega) (by omega) (by omega)]
    congr 1; omega⟩

/-! ### Bytes -/
theorem rd_cons (x : Int) (l : List Int) (i : Nat) : rd (x :: l) ((i + 1 : Nat) : Int) = rd l i := by simp [rd]
theorem rd_at (l : List Int) (i : Nat) (h : i < l.length) : rd l i = l[i] := by simp [rd, h]
theorem bytes_loop (a b : List Int) (hl : a.length = b.length) (hs : a.length < 9223372036854775807) (d : Nat) : ∀ (i k : Nat), i + d = a.length → d < k → truffleref01_Bytes.l0 k a b i = some (decide (a.drop i = b.drop i)) := by
  induction d with
  | zero =>
    intro i k hi hk
    obtain ⟨k, rfl⟩ : ∃ m, k = m + 1 := ⟨k - 1, by omega⟩
    simp only [truffleref01_Bytes.l0]
    rw [if_neg (by omega), List.drop_eq_nil_of_le (by omega), List.drop_eq_nil_of_le (by omega)]; rfl
  | succ d ih =>
    intro i k hi hk
    obtain ⟨k, rfl⟩ : ∃ m, k = m + 1 := ⟨k - 1, by omega⟩
    simp only [truffleref01_Bytes.l0]
    rw [if_pos (by omega), if_pos (by omega), if_pos (by omega), rd_at a i (by omega), rd_at b i (by omega), wrap64_id (by omega) (by omega)]
    have e := ih (i + 1) k (by omega) (by omega)
    rw [List.drop_eq_getElem_cons (by omega : i < a.length), List.drop_eq_getElem_cons (by omega : i < b.length)]
    by_cases h : a[i] = b[i]
    · rw [if_pos h, show ((i : Int) + 1) = ((i + 1 : Nat) : Int) by omega, e]
      congr 1; apply decide_eq_decide.mpr; rw [h]; simp only [List.cons.injEq, true_and]
    · rw [if_neg h]; congr 1; symm; apply decide_eq_false; simp only [List.cons.injEq, h, false_and, not_false_eq_true]
theorem bytes_tells (a b : List Int) (hs : a.length < 9223372036854775807) : Ev (fun k => truffleref01_Bytes.f k a b) (decide (a = b)) :=
  ⟨a.length + 1, fun k hk => by
    unfold truffleref01_Bytes.f; dsimp only
    by_cases hl : a.length = b.length
    · rw [if_pos (by omega)]
      have := bytes_loop a b hl hs a.length 0 k (by omega) (by omega)
      simpa using this
    · rw [if_neg (by omega)]; congr 1; symm; apply decide_eq_false; intro e; exact hl (by rw [e])⟩

/-! ### Get -/
def Byt (l : List Int) : Prop := ∀ x ∈ l, 0 ≤ x ∧ x < 256
theorem Byt.of_wf {l : List Int} (h : ∀ x ∈ l, (Lit.int .u8 x).wf = true) : Byt l := fun x hx => wf_u8 (h x hx)
theorem Byt.append {a b : List Int} (h : Byt a) (k : Byt b) : Byt (a ++ b) := fun x hx => (List.mem_append.mp hx).elim (h x) (k x)
theorem Byt.drop {a : List Int} (h : Byt a) (n : Nat) : Byt (a.drop n) := fun x hx => h x (List.mem_of_mem_drop hx)
theorem Byt.take {a : List Int} (h : Byt a) (n : Nat) : Byt (a.take n) := fun x hx => h x (List.mem_of_mem_take hx)
/-- At most k bytes of a number: the error; the number; how many. -/
def vdec : Nat → List Int → Int × Int × Int
  | 0, _ => (7, 0, 0)
  | _ + 1, [] => (6, 0, 0)
  | k + 1, c :: s => if c < 128 then (0, c, 1) else if (vdec k s).1 = 0 then (0, c % 128 + 128 * (vdec k s).2.1, (vdec k s).2.2 + 1) else ((vdec k s).1, 0, 0)
def vget (l : List Int) (a b : Int) : Int × Int × Int :=
  if mayB l.length a b = true then (if (vdec 10 ((l.take b.toNat).drop a.toNat)).1 = 0 then ((vdec 10 ((l.take b.toNat).drop a.toNat)).2.1 % 18446744073709551616, a + (vdec 10 ((l.take b.toNat).drop a.toNat)).2.2, 0) else (0, 0, (vdec 10 ((l.take b.toNat).drop a.toNat)).1)) else (0, 0, 1)
theorem or_step (i : Nat) (hi : i ≤ 9) (acc c : Int) (h0 : 0 ≤ acc) (h1 : acc < 128 ^ i) (hc : 0 ≤ c) (hc' : c < 256) :
    Go.bits .or .u64 acc (shl .u64 (IntKind.u64.wrap (Go.bits .and .u8 c 127)) (wrap64 (7 * (i : Int)))) = (acc + (c % 128) * 128 ^ i) % 18446744073709551616 ∧
    (i ≤ 8 → (acc + (c % 128) * 128 ^ i) % 18446744073709551616 < 128 ^ (i + 1)) := by
  rw [u8_and127 c hc hc', wrap_u64]
  have e : wrap64 (7 * (i : Int)) = ((7 * i : Nat) : Int) := by unfold wrap64; omega
  rw [e]
  have hs : shl .u64 (c % 128 % 18446744073709551616) ((7 * i : Nat) : Int) = (c % 128 * 128 ^ i) % 18446744073709551616 := by
    unfold shl
    rw [wrap_u64, Int.toNat_natCast, Nat.min_eq_left (by simp [IntKind.bits]; omega), show (2 : Int) ^ (7 * i) = 128 ^ i by rw [Int.pow_mul]; rfl, show c % 128 % 18446744073709551616 = c % 128 by omega]
  rw [hs]
  have hi' : i = 0 ∨ i = 1 ∨ i = 2 ∨ i = 3 ∨ i = 4 ∨ i = 5 ∨ i = 6 ∨ i = 7 ∨ i = 8 ∨ i = 9 := by omega
  rcases hi' with rfl | rfl | rfl | rfl | rfl | rfl | rfl | rfl | rfl | rfl
  all_goals
    simp only [Int.reducePow, Nat.reduceAdd] at h1 ⊢
  · rw [u64_or_low 0 _ _ h0 (by simp; omega) (by omega) (by omega) (by omega) (by decide)]; exact ⟨by omega, by omega⟩
  · rw [u64_or_low 7 _ _ h0 (by simp; omega) (by omega) (by omega) (by omega) (by decide)]; exact ⟨by omega, by omega⟩
  · rw [u64_or_low 14 _ _ h0 (by simp; omega) (by omega) (by omega) (by omega) (by decide)]; exact ⟨by omega, by omega⟩
  · rw [u64_or_low 21 _ _ h0 (by simp; omega) (by omega) (by omega) (by omega) (by decide)]; exact ⟨by omega, by omega⟩
  · rw [u64_or_low 28 _ _ h0 (by simp; omega) (by omega) (by omega) (by omega) (by decide)]; exact ⟨by omega, by omega⟩
  · rw [u64_or_low 35 _ _ h0 (by simp; omega) (by omega) (by omega) (by omega) (by decide)]; exact ⟨by omega, by omega⟩
  · rw [u64_or_low 42 _ _ h0 (by simp; omega) (by omega) (by omega) (by omega) (by decide)]; exact ⟨by omega, by omega⟩
  · rw [u64_or_low 49 _ _ h0 (by simp; omega) (by omega) (by omega) (by omega) (by decide)]; exact ⟨by omega, by omega⟩
  · rw [u64_or_low 56 _ _ h0 (by simp; omega) (by omega) (by omega) (by omega) (by decide)]; exact ⟨by omega, by omega⟩
  · rw [u64_or_low 63 _ _ h0 (by simp; omega) (by omega) (by omega) (by omega) (by decide)]; exact ⟨by omega, by omega⟩
theorem drop_take_cons {l : List Int} {p b : Nat} (h : p < b) (hb : b ≤ l.length) : (l.take b).drop p = l[p]'(by omega) :: (l.take b).drop (p + 1) := by
  rw [List.drop_eq_getElem_cons (by simp; omega : p < (l.take b).length)]; simp
theorem carry (acc c v : Int) (P M : Int) : (((acc + c * P) % M) + v * (128 * P)) % M = (acc + (c + 128 * v) * P) % M := by
  rw [Int.emod_add_emod]
  congr 1
  rw [Int.add_mul, ← Int.mul_assoc v 128 P, Int.mul_comm v 128]; omega
theorem get_loop (l : List Int) (hb : Byt l) (a b : Nat) (hl : b ≤ l.length) (hs : l.length < 4611686018427387904) (d : Nat) : ∀ (i k : Nat) (acc : Int), i + d = 10 → a + i ≤ b → 0 ≤ acc → (i ≤ 9 → acc < 128 ^ i) → d < k →
    varint_Get.l0 k l a b acc i = some (if (vdec d ((l.take b).drop (a + i))).1 = 0 then ((acc + (vdec d ((l.take b).drop (a + i))).2.1 * 128 ^ i) % 18446744073709551616, (a : Int) + i + (vdec d ((l.take b).drop (a + i))).2.2, 0) else (0, 0, (vdec d ((l.take b).drop (a + i))).1)) := by
  induction d with
  | zero =>
    intro i k acc hi hp h0 h1 hk
    obtain ⟨k, rfl⟩ : ∃ m, k = m + 1 := ⟨k - 1, by omega⟩
    simp only [varint_Get.l0]
    rw [if_neg (by omega)]
    simp [vdec]
  | succ d ih =>
    intro i k acc hi hp h0 h1 hk
    obtain ⟨k, rfl⟩ : ∃ m, k = m + 1 := ⟨k - 1, by omega⟩
    simp only [varint_Get.l0]
    rw [if_pos (by omega), wrap64_id (a := (a : Int) + i) (by omega) (by omega)]
    by_cases he : a + i = b
    · rw [if_pos (by omega), List.drop_eq_nil_of_le (by simp; omega)]
      simp [vdec]
    · rw [if_neg (by omega), if_pos (by omega), if_pos (by omega), if_pos (by rw [wrap64_id (by omega) (by omega)]; omega)]
      have hlt : a + i < l.length := by omega
      have hr : rd l ((a : Int) + i) = l[a + i] := by rw [show (a : Int) + i = ((a + i : Nat) : Int) by omega]; exact rd_at l (a + i) hlt
      have hc := hb l[a + i] (List.getElem_mem _)
      obtain ⟨o1, o2⟩ := or_step i (by omega) acc l[a + i] h0 (h1 (by omega)) hc.1 hc.2
      rw [hr, o1, drop_take_cons (by omega) hl]
      by_cases hlow : l[a + i] < 128
      · rw [if_pos hlow]
        have hv : vdec (d + 1) (l[a + i] :: List.drop (a + i + 1) (List.take b l)) = (0, l[a + i], 1) := by rw [vdec, if_pos hlow]
        simp only [hv, if_true]
        rw [show l[a + i] % 128 = l[a + i] by omega, wrap64_id (by omega) (by omega)]
      · rw [if_neg hlow, wrap64_id (a := (i : Int) + 1) (by omega) (by omega), show ((i : Int) + 1) = ((i + 1 : Nat) : Int) by omega]
        rw [ih (i + 1) k _ (by omega) (by omega) (by omega) (fun h => o2 (by omega)) (by omega)]
        rw [show a + (i + 1) = a + i + 1 by omega]
        by_cases hz : (vdec d (List.drop (a + i + 1) (List.take b l))).1 = 0
        · have hv : vdec (d + 1) (l[a + i] :: List.drop (a + i + 1) (List.take b l)) = (0, l[a + i] % 128 + 128 * (vdec d (List.drop (a + i + 1) (List.take b l))).2.1, (vdec d (List.drop (a + i + 1) (List.take b l))).2.2 + 1) := by rw [vdec, if_neg hlow, if_pos hz]
          simp only [hv, hz, if_true]
          rw [show (128 : Int) ^ (i + 1) = 128 * 128 ^ i by rw [Int.pow_succ, Int.mul_comm], carry]
          congr 2; congr 1; omega
        · have hv : vdec (d + 1) (l[a + i] :: List.drop (a + i + 1) (List.take b l)) = ((vdec d (List.drop (a + i + 1) (List.take b l))).1, 0, 0) := by rw [vdec, if_neg hlow, if_neg hz]
          simp only [hv, hz, if_false]
theorem get_tells (l : List Int) (hb : Byt l) (hs : l.length < 4611686018427387904) (a b : Int) : Ev (fun k => varint_Get.f k l a b) (vget l a b) :=
  ⟨11, fun k hk => by
    unfold varint_Get.f vget; dsimp only
    rw [may_tells]; simp only [Option.bind_some]
    by_cases hm : mayB l.length a b = true
    · rw [if_pos hm, if_pos hm]
      have h := of_decide_eq_true hm
      obtain ⟨x, rfl⟩ := Int.eq_ofNat_of_zero_le h.1
      obtain ⟨y, rfl⟩ := Int.eq_ofNat_of_zero_le (by omega : 0 ≤ b)
      have := get_loop l hb x y (by omega) hs 10 0 k 0 (by omega) (by omega) (by omega) (by omega) (by omega)
      simp only [Int.toNat_natCast]
      rw [show ((0 : Nat) : Int) = 0 from rfl] at this
      rw [this]
      simp
    · rw [if_neg hm, if_neg hm]⟩

theorem vdec_len (d : Nat) : ∀ s, (vdec d s).1 = 0 → 1 ≤ (vdec d s).2.2 ∧ (vdec d s).2.2 ≤ s.length ∧ (vdec d s).2.2 ≤ d := by
  induction d with
  | zero => intro s h; simp [vdec] at h
  | succ d ih =>
    intro s h
    cases s with
    | nil => simp [vdec] at h
    | cons c s =>
      by_cases hc : c < 128
      · have hv : vdec (d + 1) (c :: s) = (0, c, 1) := by rw [vdec, if_pos hc]
        rw [hv]; simp; omega
      · by_cases hz : (vdec d s).1 = 0
        · have hv : vdec (d + 1) (c :: s) = (0, c % 128 + 128 * (vdec d s).2.1, (vdec d s).2.2 + 1) := by rw [vdec, if_neg hc, if_pos hz]
          have := ih s hz
          rw [hv]; simp; omega
        · have hv : vdec (d + 1) (c :: s) = ((vdec d s).1, 0, 0) := by rw [vdec, if_neg hc, if_neg hz]
          rw [hv] at h; exact absurd h hz
theorem vdec_pos (d : Nat) : ∀ s, Byt s → 0 ≤ (vdec d s).2.1 := by
  induction d with
  | zero => intro s _; simp [vdec]
  | succ d ih =>
    intro s hs
    cases s with
    | nil => simp [vdec]
    | cons c s =>
      have h0 := hs c (by simp)
      have h1 := ih s (fun x hx => hs x (by simp [hx]))
      by_cases hc : c < 128
      · have hv : vdec (d + 1) (c :: s) = (0, c, 1) := by rw [vdec, if_pos hc]
        rw [hv]; exact h0.1
      · by_cases hz : (vdec d s).1 = 0
        · have hv : vdec (d + 1) (c :: s) = (0, c % 128 + 128 * (vdec d s).2.1, (vdec d s).2.2 + 1) := by rw [vdec, if_neg hc, if_pos hz]
          rw [hv]; simp; omega
        · have hv : vdec (d + 1) (c :: s) = ((vdec d s).1, 0, 0) := by rw [vdec, if_neg hc, if_neg hz]
          rw [hv]; simp
theorem vdec_err (d : Nat) : ∀ s, (vdec d s).1 = 0 ∨ (vdec d s).1 = 6 ∨ (vdec d s).1 = 7 := by
  induction d with
  | zero => intro s; simp [vdec]
  | succ d ih =>
    intro s
    cases s with
    | nil => simp [vdec]
    | cons c s =>
      by_cases hc : c < 128
      · have hv : vdec (d + 1) (c :: s) = (0, c, 1) := by rw [vdec, if_pos hc]
        rw [hv]; simp
      · by_cases hz : (vdec d s).1 = 0
        · have hv : vdec (d + 1) (c :: s) = (0, c % 128 + 128 * (vdec d s).2.1, (vdec d s).2.2 + 1) := by rw [vdec, if_neg hc, if_pos hz]
          rw [hv]; simp
        · have hv : vdec (d + 1) (c :: s) = ((vdec d s).1, 0, 0) := by rw [vdec, if_neg hc, if_neg hz]
          rw [hv]; exact ih s
/-- What is read hangs on the bytes alone. -/
theorem vget_bytes {l : List Int} {a b : Int} (hm : mayB l.length a b = true) {s : List Int} (hs : (l.take b.toNat).drop a.toNat = s) : vget l a b = if (vdec 10 s).1 = 0 then ((vdec 10 s).2.1 % 18446744073709551616, a + (vdec 10 s).2.2, 0) else (0, 0, (vdec 10 s).1) := by
  unfold vget; rw [if_pos hm, hs]
theorem vget_ok {l : List Int} {a b : Int} (h : (vget l a b).2.2 = 0) : 0 ≤ a ∧ a ≤ b ∧ b ≤ l.length ∧ a + 1 ≤ (vget l a b).2.1 ∧ (vget l a b).2.1 ≤ b ∧ (vget l a b).2.1 ≤ a + 10 ∧ 0 ≤ (vget l a b).1 ∧ (vget l a b).1 < 18446744073709551616 ∧ (vdec 10 ((l.take b.toNat).drop a.toNat)).1 = 0 ∧ vget l a b = ((vdec 10 ((l.take b.toNat).drop a.toNat)).2.1 % 18446744073709551616, a + (vdec 10 ((l.take b.toNat).drop a.toNat)).2.2, 0) := by
  by_cases hm : mayB l.length a b = true
  · have hp := of_decide_eq_true hm
    obtain ⟨s, hs⟩ : ∃ s, (l.take b.toNat).drop a.toNat = s := ⟨_, rfl⟩
    have hv := vget_bytes hm hs
    by_cases hz : (vdec 10 s).1 = 0
    · rw [if_pos hz] at hv
      have hl := vdec_len 10 s hz
      have hsl : (s.length : Int) = b - a := by rw [← hs]; simp; omega
      rw [hs, hv]
      refine ⟨hp.1, hp.2.1, hp.2.2, ?_, ?_, ?_, ?_, ?_, hz, rfl⟩ <;> simp only <;> omega
    · rw [if_neg hz] at hv
      rw [hv] at h; exact absurd h hz
  · unfold vget at h; rw [if_neg hm] at h; exact absurd h (by decide)

/-! ### what is put is got -/
theorem vdec_put (d : Nat) : ∀ (n : Nat) (s : List Int), n < 128 ^ (d + 1) → vdec (d + 1) (vput n ++ s) = (0, (n : Int), ((vput n).length : Int)) := by
  induction d with
  | zero =>
    intro n s h
    have hn : n < 128 := by simpa using h
    rw [vput_lt hn]; simp only [List.singleton_append, vdec]
    rw [if_pos (by omega)]; simp
  | succ d ih =>
    intro n s h
    by_cases hn : n < 128
    · rw [vput_lt hn]; simp only [List.singleton_append, vdec]
      rw [if_pos (by omega)]; simp
    · rw [vput_ge (n := n) (by omega), List.cons_append]
      rw [vdec, if_neg (by omega), ih (n / 128) s (by rw [Nat.pow_succ] at h; omega)]
      simp only [if_true]
      refine Prod.ext rfl (Prod.ext ?_ ?_)
      · simp only; omega
      · simp
theorem vdec_cut (d : Nat) : ∀ (n j : Nat), n < 128 ^ (d + 1) → j < (vput n).length → vdec (d + 1) ((vput n).take j) = (6, 0, 0) := by
  induction d with
  | zero =>
    intro n j h hj
    have hn : n < 128 := by simpa using h
    rw [vput_lt hn] at hj ⊢
    obtain rfl : j = 0 := by simpa using hj
    simp [vdec]
  | succ d ih =>
    intro n j h hj
    by_cases hn : n < 128
    · rw [vput_lt hn] at hj ⊢
      obtain rfl : j = 0 := by simpa using hj
      simp [vdec]
    · rw [vput_ge (n := n) (by omega)] at hj ⊢
      cases j with
      | zero => simp [vdec]
      | succ j =>
        rw [List.take_succ_cons, vdec, if_neg (by omega), ih (n / 128) j (by rw [Nat.pow_succ] at h; omega) (by simpa using hj)]
        simp

theorem vget_put {l : List Int} {a b : Int} (hm : mayB l.length a b = true) {n : Nat} (hn : n < 18446744073709551616) {s : List Int} (hs : (l.take b.toNat).drop a.toNat = vput n ++ s) : vget l a b = ((n : Int), a + ((vput n).length : Int), 0) := by
  unfold vget
  have h : vdec 10 (vput n ++ s) = (0, (n : Int), ((vput n).length : Int)) := vdec_put 9 n s (Nat.lt_trans hn pow10)
  rw [if_pos hm, hs]
  simp only [h, if_true]
  rw [show (n : Int) % 18446744073709551616 = n by omega]
theorem vget_cut {l : List Int} {a b : Int} (hm : mayB l.length a b = true) {n : Nat} (hn : n < 18446744073709551616) {j : Nat} (hj : j < (vput n).length) (hs : (l.take b.toNat).drop a.toNat = (vput n).take j) : vget l a b = (0, 0, 6) := by
  unfold vget
  have h : vdec 10 ((vput n).take j) = (6, 0, 0) := vdec_cut 9 n j (Nat.lt_trans hn pow10) hj
  rw [if_pos hm, hs]
  simp only [h]
  rw [if_neg (by decide)]
theorem vput_len10 {n : Nat} (hn : n < 18446744073709551616) : 1 ≤ (vput n).length ∧ (vput n).length ≤ 10 := vput_len 9 n (Nat.lt_trans hn pow10)

/-! ### Fix, Unfix -/
def vfix : Nat → Nat → List Int
  | 0, _ => []
  | z + 1, n => ((n % 256 : Nat) : Int) :: vfix z (n / 256)
def le : List Int → Int
  | [] => 0
  | c :: s => c + 256 * le s
theorem le_fix (z : Nat) : ∀ n, le (vfix z n) = ((n % 256 ^ z : Nat) : Int) := by
  induction z with
  | zero => intro n; simp [vfix, le, Nat.mod_one]
  | succ z ih => intro n; simp only [vfix, le]; rw [ih, Nat.pow_succ, Nat.mul_comm, Nat.mod_mul]; omega
theorem vfix_len (z : Nat) : ∀ n, (vfix z n).length = z := by
  induction z with
  | zero => intro n; rfl
  | succ z ih => intro n; simp [vfix, ih]
theorem vfix_bytes (z : Nat) : ∀ n, Byt (vfix z n) := by
  induction z with
  | zero => intro n x hx; simp [vfix] at hx
  | succ z ih =>
    intro n x hx
    simp only [vfix] at hx
    rcases List.mem_cons.mp hx with rfl | hx
    · omega
    · exact ih _ x hx
def sizedB (z : Int) : Bool := decide (z = 4 ∨ z = 8)
theorem sized_tells (z : Int) : varint_sized.f z = some (sizedB z) := by
  unfold varint_sized.f sizedB
  by_cases h : z = 4
  · rw [if_pos h]; simp [h]
  · rw [if_neg h]; simp [h]; rfl
def vfixR (n : Nat) (z : Int) : List Int × Bool := if sizedB z = true then (vfix z.toNat n, true) else ([], false)
theorem shr8 (n : Nat) (i : Nat) (hi : i ≤ 7) : shr .u64 (n : Int) (wrap64 (8 * (i : Int))) % 256 = ((n / 256 ^ i % 256 : Nat) : Int) := by
  have e : wrap64 (8 * (i : Int)) = ((8 * i : Nat) : Int) := by unfold wrap64; omega
  rw [e]; unfold shr
  rw [Int.toNat_natCast, Nat.min_eq_left (by simp [IntKind.bits]; omega), show (2 : Int) ^ (8 * i) = 256 ^ i by rw [Int.pow_mul]; rfl]
  have : ((256 : Int) ^ i) = ((256 ^ i : Nat) : Int) := by simp
  rw [this]; omega
theorem fix_loop (n z : Nat) (hz : z ≤ 8) (d : Nat) : ∀ (i k : Nat) (pre : List Int), i + d = z → pre.length = i → d < k →
    varint_Fix.l0 k n (pre ++ List.replicate d 0) z i = some (pre ++ vfix d (n / 256 ^ i), true) := by
  induction d with
  | zero =>
    intro i k pre hi hp hk
    obtain ⟨k, rfl⟩ : ∃ m, k = m + 1 := ⟨k - 1, by omega⟩
    simp only [varint_Fix.l0]
    rw [if_neg (by omega)]; simp [vfix]
  | succ d ih =>
    intro i k pre hi hp hk
    obtain ⟨k, rfl⟩ : ∃ m, k = m + 1 := ⟨k - 1, by omega⟩
    simp only [varint_Fix.l0]
    rw [if_pos (by omega), if_pos (by unfold wrap64; omega), if_pos (by omega), if_pos (by simp; omega), shr8 n i (by omega), wrap64_id (a := (i : Int) + 1) (by omega) (by omega)]
    have e : (pre ++ List.replicate (d + 1) (0 : Int)).set (i : Int).toNat ((n / 256 ^ i % 256 : Nat) : Int) = (pre ++ [((n / 256 ^ i % 256 : Nat) : Int)]) ++ List.replicate d 0 := by
      rw [Int.toNat_natCast, List.set_append_right _ _ (by omega), hp, Nat.sub_self, List.replicate_succ]; simp
    rw [e, show ((i : Int) + 1) = ((i + 1 : Nat) : Int) by omega, ih (i + 1) k _ (by omega) (by simp [hp]) (by omega)]
    simp only [vfix]
    rw [Nat.pow_succ, ← Nat.div_div_eq_div_mul]; simp
theorem fix_tells (n : Nat) (z : Int) : Ev (fun k => varint_Fix.f k n z) (vfixR n z) :=
  ⟨10, fun k hk => by
    unfold varint_Fix.f vfixR; dsimp only
    rw [sized_tells]; simp only [Option.bind_some]
    by_cases h : sizedB z = true
    · rw [if_pos h, if_pos h]
      have hz := of_decide_eq_true h
      rw [if_pos (by omega), if_pos (by omega)]
      obtain ⟨y, rfl⟩ := Int.eq_ofNat_of_zero_le (by omega : 0 ≤ z)
      have := fix_loop n y (by omega) y 0 k [] (by omega) rfl (by omega)
      simpa using this
    · rw [if_neg h, if_neg h]⟩
def vunfix (l : List Int) (a b z : Int) : Int × Int × Int :=
  if (mayB l.length a b && sizedB z) = true then (if b - a < z then (0, 0, 6) else (le ((l.drop a.toNat).take z.toNat), a + z, 0)) else (0, 0, 1)
theorem or_step8 (i : Nat) (hi : i ≤ 7) (acc c : Int) (h0 : 0 ≤ acc) (h1 : acc < 256 ^ i) (hc : 0 ≤ c) (hc' : c < 256) :
    Go.bits .or .u64 acc (shl .u64 (IntKind.u64.wrap c) (wrap64 (8 * (i : Int)))) = acc + c * 256 ^ i ∧ acc + c * 256 ^ i < 256 ^ (i + 1) := by
  rw [wrap_u64]
  have e : wrap64 (8 * (i : Int)) = ((8 * i : Nat) : Int) := by unfold wrap64; omega
  rw [e]
  have hs : shl .u64 (c % 18446744073709551616) ((8 * i : Nat) : Int) = (c * 256 ^ i) % 18446744073709551616 := by
    unfold shl
    rw [wrap_u64, Int.toNat_natCast, Nat.min_eq_left (by simp [IntKind.bits]; omega), show (2 : Int) ^ (8 * i) = 256 ^ i by rw [Int.pow_mul]; rfl, show c % 18446744073709551616 = c by omega]
  rw [hs]
  have hi' : i = 0 ∨ i = 1 ∨ i = 2 ∨ i = 3 ∨ i = 4 ∨ i = 5 ∨ i = 6 ∨ i = 7 := by omega
  rcases hi' with rfl | rfl | rfl | rfl | rfl | rfl | rfl | rfl
  all_goals
    simp only [Int.reducePow, Nat.reduceAdd] at h1 ⊢
  · rw [u64_or_low 0 _ _ h0 (by simp; omega) (by omega) (by omega) (by omega) (by decide)]; exact ⟨by omega, by omega⟩
  · rw [u64_or_low 8 _ _ h0 (by simp; omega) (by omega) (by omega) (by omega) (by decide)]; exact ⟨by omega, by omega⟩
  · rw [u64_or_low 16 _ _ h0 (by simp; omega) (by omega) (by omega) (by omega) (by decide)]; exact ⟨by omega, by omega⟩
  · rw [u64_or_low 24 _ _ h0 (by simp; omega) (by omega) (by omega) (by omega) (by decide)]; exact ⟨by omega, by omega⟩
  · rw [u64_or_low 32 _ _ h0 (by simp; omega) (by omega) (by omega) (by omega) (by decide)]; exact ⟨by omega, by omega⟩
  · rw [u64_or_low 40 _ _ h0 (by simp; omega) (by omega) (by omega) (by omega) (by decide)]; exact ⟨by omega, by omega⟩
  · rw [u64_or_low 48 _ _ h0 (by simp; omega) (by omega) (by omega) (by omega) (by decide)]; exact ⟨by omega, by omega⟩
  · rw [u64_or_low 56 _ _ h0 (by simp; omega) (by omega) (by omega) (by omega) (by decide)]; exact ⟨by omega, by omega⟩
theorem unfix_loop (l : List Int) (hb : Byt l) (a z : Nat) (hz : z ≤ 8) (hl : a + z ≤ l.length) (hs : l.length < 4611686018427387904) (d : Nat) : ∀ (i k : Nat) (acc : Int), i + d = z → 0 ≤ acc → acc < 256 ^ i → d < k →
    varint_Unfix.l0 k l a z acc z i = some (acc + le ((l.drop (a + i)).take d) * 256 ^ i, (a : Int) + z, 0) := by
  induction d with
  | zero =>
    intro i k acc hi h0 h1 hk
    obtain ⟨k, rfl⟩ : ∃ m, k = m + 1 := ⟨k - 1, by omega⟩
    simp only [varint_Unfix.l0]
    rw [if_neg (by omega), wrap64_id (by omega) (by omega)]; simp [le]
  | succ d ih =>
    intro i k acc hi h0 h1 hk
    obtain ⟨k, rfl⟩ : ∃ m, k = m + 1 := ⟨k - 1, by omega⟩
    simp only [varint_Unfix.l0]
    rw [if_pos (by omega), wrap64_id (a := (a : Int) + i) (by omega) (by omega), if_pos (by omega), if_pos (by omega), if_pos (by unfold wrap64; omega)]
    have hlt : a + i < l.length := by omega
    have hr : rd l ((a : Int) + i) = l[a + i] := by rw [show (a : Int) + i = ((a + i : Nat) : Int) by omega]; exact rd_at l (a + i) hlt
    have hc := hb l[a + i] (List.getElem_mem _)
    obtain ⟨o1, o2⟩ := or_step8 i (by omega) acc l[a + i] h0 h1 hc.1 hc.2
    have hp : (0 : Int) ≤ l[a + i] * 256 ^ i := Int.mul_nonneg hc.1 (Int.pow_nonneg (by omega))
    rw [hr, o1, wrap64_id (a := (i : Int) + 1) (by omega) (by omega), show ((i : Int) + 1) = ((i + 1 : Nat) : Int) by omega, ih (i + 1) k _ (by omega) (by omega) o2 (by omega)]
    rw [List.drop_eq_getElem_cons hlt, List.take_succ_cons, show a + (i + 1) = a + i + 1 by omega]
    simp only [le]
    congr 2
    rw [Int.pow_succ, Int.add_mul, ← Int.mul_assoc, Int.mul_comm (le _ * 256 ^ i) 256, ← Int.mul_assoc]; omega
theorem unfix_tells (l : List Int) (hb : Byt l) (hs : l.length < 4611686018427387904) (a b z : Int) : Ev (fun k => varint_Unfix.f k l a b z) (vunfix l a b z) :=
  ⟨20, fun k hk => by
    obtain ⟨k, rfl⟩ : ∃ m, k = m + 1 := ⟨k - 1, by omega⟩
    unfold varint_Unfix.f vunfix; dsimp only
    rw [may_tells]; simp only [Option.bind_some]
    by_cases hm : mayB l.length a b = true
    · rw [if_pos hm, sized_tells]; simp only [Option.bind_some, varint_Unfix.j0]
      have h := of_decide_eq_true hm
      by_cases hz : sizedB z = true
      · have h2 := of_decide_eq_true hz
        rw [hm, hz]
        simp only [Bool.not_true, Bool.false_eq_true, if_false, Bool.and_true, if_true]
        rw [wrap64_id (a := b - a) (by omega) (by omega)]
        by_cases hc : b - a < z
        · rw [if_pos hc, if_pos hc]
        · rw [if_neg hc, if_neg hc]
          obtain ⟨x, rfl⟩ := Int.eq_ofNat_of_zero_le h.1
          obtain ⟨y, rfl⟩ := Int.eq_ofNat_of_zero_le (by omega : 0 ≤ z)
          have := unfix_loop l hb x y (by omega) (by omega) hs y 0 k 0 (by omega) (by omega) (by simp) (by omega)
          rw [show ((0 : Nat) : Int) = 0 from rfl] at this
          rw [this]; simp
      · rw [Bool.not_eq_true] at hz
        rw [hm, hz]; simp
    · rw [if_neg hm, Bool.not_eq_true] at *
      simp only [varint_Unfix.j0]
      rw [hm]; simp⟩

/-! ### the examples -/
theorem awake1 : Ev (fun k => trufflelaw01_awake.f k) true := Ev.of (fun k => trufflelaw01_awake.mono k) (k := 20) (by decide +kernel)
end Go.Proofs.Ytokbcenkgdpepaa.Spec
