/-
  The plain law of layer 5: what record.Next and Put come to, as plain functions of numbers and lists.
-/
import Derived.Test.YtokbcenkgdpepaaSpecC
import Derived.Test.YtokbcenkgdpepaaMx28
import Derived.Test.YtokbcenkgdpepaaMx32
namespace Go.Proofs.Ytokbcenkgdpepaa.Spec
open Go.RowKit Go.Proofs.Ytokbcenkgdpepaa.M Go.Proofs.YtokbcenkgdpepaaW.PrintWords Go.Proofs.YtokbcenkgdpepaaW.PrintLast Go.Proofs.YtokbcenkgdpepaaW.PrintMore

def rnum (l : List Int) (a b w : Int) : Int × Int × Int := if w = 1 then vunfix l a b 8 else if w = 5 then vunfix l a b 4 else vget l a b
theorem rnum_tells (l : List Int) (hb : Byt l) (hs : l.length < 4611686018427387904) (a b w : Int) : Ev (fun k => record_number.f k l a b w) (rnum l a b w) := by
  obtain ⟨K1, e1⟩ : ∃ K, ∀ k, K ≤ k → varint_Unfix.f k l a b 8 = some (vunfix l a b 8) := unfix_tells l hb hs a b 8
  obtain ⟨K2, e2⟩ : ∃ K, ∀ k, K ≤ k → varint_Unfix.f k l a b 4 = some (vunfix l a b 4) := unfix_tells l hb hs a b 4
  obtain ⟨K3, e3⟩ : ∃ K, ∀ k, K ≤ k → varint_Get.f k l a b = some (vget l a b) := get_tells l hb hs a b
  refine ⟨K1 + K2 + K3, fun k hk => ?_⟩
  show record_number.f k l a b w = _
  unfold record_number.f rnum
  by_cases h1 : w = 1
  · rw [if_pos h1, if_pos h1, e1 k (by omega), bnd]
  · rw [if_neg h1, if_neg h1]
    by_cases h2 : w = 5
    · rw [if_pos h2, if_pos h2, e2 k (by omega), bnd]
    · rw [if_neg h2, if_neg h2, e3 k (by omega), bnd]
theorem le_bound (s : List Int) (hs : Byt s) : 0 ≤ le s ∧ le s < 256 ^ s.length := by
  induction s with
  | nil => simp [le]
  | cons c s ih =>
    have h := hs c (by simp)
    have i := ih (fun x hx => hs x (by simp [hx]))
    simp only [le, List.length_cons, Int.pow_succ]
    omega
theorem le_lt' (s : List Int) (hs : Byt s) (h : s.length ≤ 8) : 0 ≤ le s ∧ le s < 18446744073709551616 := by
  obtain ⟨a, b⟩ := le_bound s hs
  refine ⟨a, ?_⟩
  have e : s.length = 0 ∨ s.length = 1 ∨ s.length = 2 ∨ s.length = 3 ∨ s.length = 4 ∨ s.length = 5 ∨ s.length = 6 ∨ s.length = 7 ∨ s.length = 8 := by omega
  rcases e with e | e | e | e | e | e | e | e | e <;> rw [e] at b <;> simp only [Int.reducePow] at b <;> omega
theorem vunfix_ok {l : List Int} (hb : Byt l) {a b z : Int} (h : (vunfix l a b z).2.2 = 0) : 0 ≤ a ∧ b ≤ l.length ∧ (z = 4 ∨ z = 8) ∧ (vunfix l a b z).2.1 = a + z ∧ a + z ≤ b ∧ 0 ≤ (vunfix l a b z).1 ∧ (vunfix l a b z).1 < 18446744073709551616 ∧ (vunfix l a b z).1 = le ((l.drop a.toNat).take z.toNat) := by
  by_cases hm : (mayB l.length a b && sizedB z) = true
  · have hv : vunfix l a b z = if b - a < z then (0, 0, 6) else (le ((l.drop a.toNat).take z.toNat), a + z, 0) := by unfold vunfix; rw [if_pos hm]
    rw [Bool.and_eq_true] at hm
    have h1 := of_decide_eq_true hm.1
    have h2 := of_decide_eq_true hm.2
    by_cases hc : b - a < z
    · rw [hv, if_pos hc] at h; exact absurd h (by decide)
    · rw [if_neg hc] at hv
      have q := le_lt' ((l.drop a.toNat).take z.toNat) ((hb.drop _).take _) (by simp; omega)
      rw [hv]
      exact ⟨h1.1, h1.2.2, h2, rfl, by omega, q.1, q.2, rfl⟩
  · unfold vunfix at h; rw [if_neg hm] at h; exact absurd h (by decide)
theorem rnum_ok {l : List Int} (hb : Byt l) {a b w : Int} (h : (rnum l a b w).2.2 = 0) : 0 ≤ a ∧ a + 1 ≤ (rnum l a b w).2.1 ∧ (rnum l a b w).2.1 ≤ b ∧ b ≤ l.length ∧ 0 ≤ (rnum l a b w).1 ∧ (rnum l a b w).1 < 18446744073709551616 := by
  unfold rnum at h ⊢
  by_cases h1 : w = 1
  · rw [if_pos h1] at h ⊢; have := vunfix_ok hb h; omega
  · rw [if_neg h1] at h ⊢
    by_cases h2 : w = 5
    · rw [if_pos h2] at h ⊢; have := vunfix_ok hb h; omega
    · rw [if_neg h2] at h ⊢; have := vget_ok h; omega
abbrev RN := Int × Int × Int × Int × Int × Int × Int
def rnext (l : List Int) (a b : Int) : RN :=
  if (tget l a b).2.2.2 = 0 then
    (if (rnum l (tget l a b).2.2.1 b (tget l a b).2.1).2.2 = 0 then
      (if (tget l a b).2.1 = 2 then
        (if (rnum l (tget l a b).2.2.1 b (tget l a b).2.1).1 > b - (rnum l (tget l a b).2.2.1 b (tget l a b).2.1).2.1 then (0, 0, 0, 0, 0, 0, 6)
         else ((tget l a b).1, (tget l a b).2.1, (rnum l (tget l a b).2.2.1 b (tget l a b).2.1).1, (rnum l (tget l a b).2.2.1 b (tget l a b).2.1).2.1, (rnum l (tget l a b).2.2.1 b (tget l a b).2.1).2.1 + (rnum l (tget l a b).2.2.1 b (tget l a b).2.1).1, (rnum l (tget l a b).2.2.1 b (tget l a b).2.1).2.1 + (rnum l (tget l a b).2.2.1 b (tget l a b).2.1).1, 0))
       else ((tget l a b).1, (tget l a b).2.1, (rnum l (tget l a b).2.2.1 b (tget l a b).2.1).1, (tget l a b).2.2.1, (rnum l (tget l a b).2.2.1 b (tget l a b).2.1).2.1, (rnum l (tget l a b).2.2.1 b (tget l a b).2.1).2.1, 0))
     else (0, 0, 0, 0, 0, 0, (rnum l (tget l a b).2.2.1 b (tget l a b).2.1).2.2))
  else (0, 0, 0, 0, 0, 0, (tget l a b).2.2.2)
theorem rnext_tells (l : List Int) (hb : Byt l) (hs : l.length < 4611686018427387904) (a b : Int) : Ev (fun k => record_Next.f k l a b) (rnext l a b) := by
  obtain ⟨K1, e1⟩ : ∃ K, ∀ k, K ≤ k → tag_Get.f k l a b = some (tget l a b) := tget_tells l hb hs a b
  obtain ⟨K2, e2⟩ : ∃ K, ∀ k, K ≤ k → record_number.f k l (tget l a b).2.2.1 b (tget l a b).2.1 = some (rnum l (tget l a b).2.2.1 b (tget l a b).2.1) := rnum_tells l hb hs _ _ _
  refine ⟨K1 + K2, fun k hk => ?_⟩
  show record_Next.f k l a b = _
  unfold record_Next.f rnext
  rw [e1 k (by omega), bnd]
  by_cases h1 : (tget l a b).2.2.2 = 0
  · rw [if_pos h1, if_pos h1, e2 k (by omega), bnd]
    by_cases h2 : (rnum l (tget l a b).2.2.1 b (tget l a b).2.1).2.2 = 0
    · rw [if_pos h2, if_pos h2]
      have ok := rnum_ok hb h2
      by_cases h3 : (tget l a b).2.1 = 2
      · rw [if_pos h3, if_pos h3]
        have e3 : IntKind.u64.wrap (wrap64 (b - (rnum l (tget l a b).2.2.1 b (tget l a b).2.1).2.1)) = b - (rnum l (tget l a b).2.2.1 b (tget l a b).2.1).2.1 := by
          rw [wrap64_id (by omega) (by omega), wrap_u64]; omega
        rw [e3]
        by_cases h4 : (rnum l (tget l a b).2.2.1 b (tget l a b).2.1).1 > b - (rnum l (tget l a b).2.2.1 b (tget l a b).2.1).2.1
        · rw [if_pos h4, if_pos h4]
        · rw [if_neg h4, if_neg h4, wrap64_id (a := (rnum l (tget l a b).2.2.1 b (tget l a b).2.1).1) (by omega) (by omega), wrap64_id (by omega) (by omega)]
      · rw [if_neg h3, if_neg h3]
    · rw [if_neg h2, if_neg h2]
  · rw [if_neg h1, if_neg h1]

/-! ### Put -/
def rbody (w : Int) (n : Nat) (run : List Int) : List Int := if w = 0 then vput n else if w = 2 then vput run.length ++ run else if w = 5 then vfix 4 n else vfix 8 n
def rput (no w : Int) (n : Nat) (run : List Int) : List Int × Bool := if tputB no w = true then (vput (8 * no + w).toNat ++ rbody w n run, true) else ([], false)
theorem rput_tells' (no w : Int) (n : Nat) (hn : n < 18446744073709551616) (f u : Int) (run : List Int) (hr : run.length ≤ 140737488351232) : Ev (fun k => record_Put.f k no w n f u run) (rput no w n run) := by
  obtain ⟨K1, e1⟩ : ∃ K, ∀ k, K ≤ k → tag_Put.f k no w = some (tput no w) := tput_tells no w
  obtain ⟨K2, e2⟩ : ∃ K, ∀ k, K ≤ k → varint_Put.f k n = some (vput n) := put_tells n hn
  obtain ⟨K3, e3⟩ : ∃ K, ∀ k, K ≤ k → varint_Put.f k run.length = some (vput run.length) := put_tells _ (by omega)
  obtain ⟨K4, e4⟩ : ∃ K, ∀ k, K ≤ k → varint_Fix.f k n 4 = some (vfixR n 4) := fix_tells n 4
  obtain ⟨K5, e5⟩ : ∃ K, ∀ k, K ≤ k → varint_Fix.f k n 8 = some (vfixR n 8) := fix_tells n 8
  refine ⟨K1 + K2 + K3 + K4 + K5, fun k hk => ?_⟩
  show record_Put.f k no w n f u run = _
  unfold record_Put.f rput
  rw [e1 k (by omega), bnd]
  by_cases h : tputB no w = true
  · obtain ⟨h1, h2, h3⟩ := tputB_iff h
    have ht : tput no w = (vput (8 * no + w).toNat, true) := by unfold tput; rw [if_pos h]
    have l1 := vput_len5 (8 * no + w).toNat (by omega)
    have l2 := vput_len10 hn
    have l3 := vput_len10 (n := run.length) (by omega)
    have f4 : vfixR n 4 = (vfix 4 n, true) := rfl
    have f8 : vfixR n 8 = (vfix 8 n, true) := rfl
    have l4 := vfix_len 4 n
    have l8 := vfix_len 8 n
    rw [if_pos h, ht, if_pos rfl]
    unfold rbody
    by_cases c0 : w = 0
    · rw [if_pos c0, if_pos c0, e2 k (by omega), bnd, if_pos (by simp only; omega)]
    · rw [if_neg c0, if_neg c0]
      by_cases c2 : w = 2
      · have e6 : IntKind.u64.wrap (run.length : Int) = (run.length : Int) := by rw [wrap_u64]; omega
        rw [if_pos c2, if_pos c2, e6, e3 k (by omega), bnd, if_pos (by simp only; omega), bnd, if_pos (by simp; omega), List.append_assoc]
      · rw [if_neg c2, if_neg c2]
        by_cases c5 : w = 5
        · rw [if_pos c5, if_pos c5, e4 k (by omega), bnd, f4, if_pos (by simp only; omega)]
        · rw [if_neg c5, if_neg c5, e5 k (by omega), bnd, f8, if_pos (by simp only; omega)]
  · have ht : tput no w = ([], false) := by unfold tput; rw [if_neg h]
    rw [if_neg h, ht, if_neg (by decide)]
theorem awake5 : Ev (fun k => trufflelaw05_awake.f k) true := Ev.of (fun k => trufflelaw05_awake.mono k) (k := 20) (by decide +kernel)
theorem rput_ok {no w : Int} {n : Nat} {run : List Int} (h : (rput no w n run).2 = true) : tputB no w = true ∧ (rput no w n run).1 = vput (8 * no + w).toNat ++ rbody w n run := by
  unfold rput at h ⊢
  by_cases c : tputB no w = true
  · rw [if_pos c]; exact ⟨c, rfl⟩
  · rw [if_neg c] at h; exact absurd h (by decide)
theorem rput_no {no w : Int} {n : Nat} {run : List Int} (h : ¬ (rput no w n run).2 = true) : (rput no w n run).1 = [] := by
  unfold rput at h ⊢
  by_cases c : tputB no w = true
  · rw [if_pos c] at h; exact absurd rfl h
  · rw [if_neg c]
theorem rbody_len (w : Int) (n : Nat) (hn : n < 18446744073709551616) (run : List Int) (hr : run.length < 18446744073709551616) : 1 ≤ (rbody w n run).length ∧ (rbody w n run).length ≤ run.length + 10 := by
  have l2 := vput_len10 hn
  have l3 := vput_len10 hr
  unfold rbody
  split
  · omega
  · split
    · simp; omega
    · split <;> rw [vfix_len] <;> omega
theorem rbody_bytes (w : Int) (n : Nat) (run : List Int) (hb : Byt run) : Byt (rbody w n run) := by
  unfold rbody
  split
  · exact vput_bytes n
  · split
    · exact Byt.append (vput_bytes _) hb
    · split <;> exact vfix_bytes _ _
theorem vput_prefix {n m : Nat} (hn : n < 18446744073709551616) (hm : m < 18446744073709551616) {r s : List Int} (h : vput n ++ r = vput m ++ s) : n = m ∧ r = s := by
  have a := vdec_put 9 n r (Nat.lt_trans hn pow10)
  have b := vdec_put 9 m s (Nat.lt_trans hm pow10)
  rw [h, b] at a
  have e : (m : Int) = n := congrArg (fun t => t.2.1) a
  obtain rfl : n = m := by omega
  exact ⟨rfl, List.append_cancel_left h⟩
/-- The number that a record's bytes bear. -/
def rval (w : Int) (n : Nat) (run : List Int) : Int := if w = 2 then run.length else if w = 5 then ((n % 4294967296 : Nat) : Int) else n
/-- What is put is one record, wherever it stands. -/
theorem rnext_put {l : List Int} (hs : l.length < 4611686018427387904) {a b : Int} (hm : mayB l.length a b = true) {no w : Int} (h : tputB no w = true) {n : Nat} (hn : n < 18446744073709551616) {run s : List Int}
    (hp : (l.take b.toNat).drop a.toNat = vput (8 * no + w).toNat ++ rbody w n run ++ s) :
    rnext l a b = (no, w, rval w n run, a + ((vput (8 * no + w).toNat).length : Int) + (if w = 2 then ((vput run.length).length : Int) else 0), a + ((vput (8 * no + w).toNat ++ rbody w n run).length : Int), a + ((vput (8 * no + w).toNat ++ rbody w n run).length : Int), 0) := by
  obtain ⟨h1, h2, h3⟩ := tputB_iff h
  have hab := of_decide_eq_true hm
  have hl := vput_len5 (8 * no + w).toNat (by omega)
  have ht := tget_put hm h (s := rbody w n run ++ s) (by rw [hp, List.append_assoc])
  have hlen : ((vput (8 * no + w).toNat).length : Int) + (rbody w n run).length + s.length = b - a := by
    have := congrArg List.length hp
    simp at this; omega
  have hm2 : mayB l.length (a + ((vput (8 * no + w).toNat).length : Int)) b = true := decide_eq_true (by omega)
  have hp2 : (l.take b.toNat).drop (a + ((vput (8 * no + w).toNat).length : Int)).toNat = rbody w n run ++ s := by
    rw [show (a + ((vput (8 * no + w).toNat).length : Int)).toNat = a.toNat + (vput (8 * no + w).toNat).length by omega, ← List.drop_drop, hp, List.append_assoc, List.drop_left]
  have hr : rnum l (a + ((vput (8 * no + w).toNat).length : Int)) b w = (rval w n run, a + ((vput (8 * no + w).toNat).length : Int) + (if w = 2 then ((vput run.length).length : Int) else ((rbody w n run).length : Int)), 0) := by
    have fx : ∀ z : Nat, z = 4 ∨ z = 8 → rbody w n run = vfix z n → vunfix l (a + ((vput (8 * no + w).toNat).length : Int)) b z = (((n % 256 ^ z : Nat) : Int), a + ((vput (8 * no + w).toNat).length : Int) + z, 0) := by
      intro z hz hbd
      have hz2 : sizedB (z : Int) = true := decide_eq_true (by omega)
      rw [hbd, vfix_len] at hlen
      have hd : (l.drop (a + ((vput (8 * no + w).toNat).length : Int)).toNat).take (z : Int).toNat = vfix z n := by
        have e : ((l.take b.toNat).drop (a + ((vput (8 * no + w).toNat).length : Int)).toNat).take z = vfix z n := by rw [hp2, hbd, List.take_append_of_le_length (by rw [vfix_len]; omega), List.take_of_length_le (by rw [vfix_len]; omega)]
        rw [List.drop_take, List.take_take, Nat.min_eq_left (by omega)] at e
        exact e
      unfold vunfix
      rw [hm2, hz2, hd, le_fix]
      simp only [Bool.and_true, if_true]
      rw [if_neg (by omega)]
    unfold rnum rval
    rcases h3 with rfl | rfl | rfl | rfl
    · have hb0 : rbody 0 n run = vput n := rfl
      have := vget_put hm2 hn (s := s) (by rw [hp2, hb0])
      simp only [this, hb0]; simp
    · have hb0 : rbody 1 n run = vfix 8 n := rfl
      have := fx 8 (.inr rfl) hb0
      rw [Nat.mod_eq_of_lt (show n < 256 ^ 8 by omega)] at this
      rw [if_pos rfl]
      rw [show ((8 : Nat) : Int) = 8 from rfl] at this
      rw [this, hb0, vfix_len]; simp
    · have hb0 : rbody 2 n run = vput run.length ++ run := rfl
      have hrl : run.length < 18446744073709551616 := by rw [hb0] at hlen; simp at hlen; omega
      have := vget_put hm2 (n := run.length) hrl (s := run ++ s) (by rw [hp2, hb0, List.append_assoc])
      simp only [this]; simp
    · have hb0 : rbody 5 n run = vfix 4 n := rfl
      have := fx 4 (.inl rfl) hb0
      rw [show ((4 : Nat) : Int) = 4 from rfl] at this
      rw [if_neg (by decide), if_pos rfl, this, hb0, vfix_len]; simp
  unfold rnext
  rw [ht]
  simp only [if_true]
  rw [hr]
  simp only [if_true]
  by_cases c2 : w = 2
  · have hb0 : rbody w n run = vput run.length ++ run := by rw [c2]; rfl
    have hv : rval w n run = run.length := by rw [c2]; rfl
    rw [if_pos c2, if_pos c2, if_pos c2, hv, hb0]
    rw [hb0] at hlen
    simp only [List.length_append] at hlen ⊢
    rw [if_neg (by omega)]
    refine Prod.ext rfl (Prod.ext rfl (Prod.ext rfl (Prod.ext rfl (Prod.ext ?_ (Prod.ext ?_ rfl))))) <;> simp only <;> omega
  · rw [if_neg c2, if_neg c2, if_neg c2]
    simp only [List.length_append]
    refine Prod.ext rfl (Prod.ext rfl (Prod.ext rfl (Prod.ext ?_ (Prod.ext ?_ (Prod.ext ?_ rfl))))) <;> simp only <;> omega
end Go.Proofs.Ytokbcenkgdpepaa.Spec
