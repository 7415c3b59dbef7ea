/-
  RecordTells is true: Next, All and Put tell for any bytes and any record what the document's own functions tell. For every input; no condition.
-/
import Derived.Test.YtokbcenkgdpepaaMx38
import Derived.Test.YtokbcenkgdpepaaSpecB
import Derived.Test.YtokbcenkgdpepaaSpecE
import Derived.Test.YtokbcenkgdpepaaMx16
import Derived.Test.YtokbcenkgdpepaaMx19
import Derived.Test.YtokbcenkgdpepaaMx36
import Derived.Test.YtokbcenkgdpepaaMx37
namespace Go.Proofs.Ytokbcenkgdpepaa.Spec
open Go.RowKit Go.Proofs.Ytokbcenkgdpepaa.M Go.Proofs.YtokbcenkgdpepaaW.PrintWords Go.Proofs.YtokbcenkgdpepaaW.PrintLast Go.Proofs.YtokbcenkgdpepaaW.PrintMore

theorem rknown_tells (w : Int) : truffleref03_Known.f w = some (knownB w) := known_tells w
theorem rtput_tells (no w : Int) : Ev (fun k => truffleref03_Put.f k no w) (tput no w) := by
  by_cases h : tputB no w = true
  · obtain ⟨h1, h2, h3⟩ := tputB_iff h
    obtain ⟨K, e⟩ : ∃ K, ∀ k, K ≤ k → truffleref01_Put.f k ((8 * no + w).toNat : Int) = some (vput (8 * no + w).toNat) := rput_tells _ (by omega)
    refine ⟨K + 1, fun k hk => ?_⟩
    show truffleref03_Put.f k no w = _
    unfold truffleref03_Put.f tput
    have hk' : knownB w = true := by unfold tputB at h; rw [Bool.and_eq_true] at h; exact h.2
    have e1 : IntKind.u64.wrap (wrap64 (wrap64 (8 * no) + w)) = ((8 * no + w).toNat : Int) := by
      rw [wrap64_id (a := 8 * no) (by omega) (by omega), wrap64_id (by omega) (by omega), wrap_u64]; omega
    rw [if_neg (by omega), if_neg (by omega), rknown_tells, bnd, if_pos hk', e1, e k (by omega), bnd, if_pos h]
  · refine ⟨1, fun k hk => ?_⟩
    show truffleref03_Put.f k no w = _
    unfold truffleref03_Put.f tput
    rw [if_neg h]
    by_cases c1 : no < 1
    · rw [if_pos c1]
    · rw [if_neg c1]
      by_cases c2 : no > 536870911
      · rw [if_pos c2]
      · rw [if_neg c2, rknown_tells, bnd]
        have c3 : knownB w = false := by
          unfold tputB at h
          rw [show decide (1 ≤ no ∧ no ≤ 536870911) = true from decide_eq_true (by omega), Bool.true_and] at h
          exact Bool.eq_false_iff.mpr h
        rw [if_neg (by rw [c3]; decide)]
theorem rtget_tells (l : List Int) (hb : Byt l) (hs : l.length < 4611686018427387904) (a b : Int) : Ev (fun k => truffleref03_Get.f k l a b) (tget l a b) := by
  obtain ⟨K, e⟩ : ∃ K, ∀ k, K ≤ k → truffleref01_Get.f k l a b = some (vget l a b) := rget_tells l hb hs a b
  refine ⟨K + 1, fun k hk => ?_⟩
  show truffleref03_Get.f k l a b = _
  obtain ⟨k, rfl⟩ : ∃ m, k = m + 1 := ⟨k - 1, by omega⟩
  have hr := vget_range l a b
  have e2 : wrap64 (Int.tmod (vget l a b).1 8) = (vget l a b).1 % 8 := by
    rw [Int.tmod_eq_emod_of_nonneg hr.1, wrap64_id (by omega) (by omega)]
  have e3 : IntKind.u64.wrap (Int.tdiv (vget l a b).1 8) = (vget l a b).1 / 8 := by
    rw [wrap_u64, Int.tdiv_eq_ediv_of_nonneg hr.1]; omega
  unfold truffleref03_Get.f tget
  rw [e _ (by omega), bnd]
  by_cases h : (vget l a b).2.2 = 0
  · rw [if_pos h, if_pos h]
    simp only [truffleref03_Get.j0]
    by_cases c1 : (vget l a b).1 > 4294967295
    · rw [if_pos (show (vget l a b).1 ≥ 4294967296 by omega), if_pos trivial, if_pos (.inl c1)]
    · rw [if_neg (show ¬ (vget l a b).1 ≥ 4294967296 by omega), e3]
      by_cases c2 : (vget l a b).1 / 8 = 0
      · rw [if_pos (beq_iff_eq.mpr c2), if_pos (.inr c2)]
      · rw [if_neg (by simpa using c2), if_neg (by omega), e2, rknown_tells, bnd]
        by_cases c3 : knownB ((vget l a b).1 % 8) = true
        · rw [if_pos c3, if_pos c3, wrap64_id (by omega) (by omega)]
        · rw [if_neg c3, if_neg c3]
  · rw [if_neg h, if_neg h]

theorem rrnext_tells (l : List Int) (hb : Byt l) (hs : l.length < 1000000) (a b : Int) : Ev (fun k => truffleref05_Next.f k l a b) (rnext l a b) := by
  obtain ⟨K1, e1⟩ : ∃ K, ∀ k, K ≤ k → truffleref03_Get.f k l a b = some (tget l a b) := rtget_tells l hb (by omega) a b
  obtain ⟨K2, e2⟩ : ∃ K, ∀ k, K ≤ k → truffleref01_Unfix.f k l (tget l a b).2.2.1 b 8 = some (vunfix l (tget l a b).2.2.1 b 8) := runfix_tells l hb (by omega) _ _ _
  obtain ⟨K3, e3⟩ : ∃ K, ∀ k, K ≤ k → truffleref01_Unfix.f k l (tget l a b).2.2.1 b 4 = some (vunfix l (tget l a b).2.2.1 b 4) := runfix_tells l hb (by omega) _ _ _
  obtain ⟨K4, e4⟩ : ∃ K, ∀ k, K ≤ k → truffleref01_Get.f k l (tget l a b).2.2.1 b = some (vget l (tget l a b).2.2.1 b) := rget_tells l hb (by omega) _ _
  have end_ : (tget l a b).2.2.2 = 0 → ∀ k, truffleref05_Next.j0 (k + 1) b (tget l a b).1 (tget l a b).2.1 (tget l a b).2.2.1 (rnum l (tget l a b).2.2.1 b (tget l a b).2.1).1 (rnum l (tget l a b).2.2.1 b (tget l a b).2.1).2.1 (rnum l (tget l a b).2.2.1 b (tget l a b).2.1).2.2 = some (rnext l a b) := by
    intro h1 k
    unfold rnext
    simp only [truffleref05_Next.j0]
    rw [if_pos h1]
    by_cases h2 : (rnum l (tget l a b).2.2.1 b (tget l a b).2.1).2.2 = 0
    · have ok := rnum_ok hb h2
      rw [if_pos h2, if_pos h2]
      by_cases h3 : (tget l a b).2.1 = 2
      · rw [if_pos h3, if_pos h3]
        by_cases h4 : (rnum l (tget l a b).2.2.1 b (tget l a b).2.1).1 > 1000000000000
        · rw [if_pos h4, if_pos (by omega)]
        · rw [if_neg h4, wrap64_id (a := (rnum l (tget l a b).2.2.1 b (tget l a b).2.1).1) (by omega) (by omega), wrap64_id (a := b - (rnum l (tget l a b).2.2.1 b (tget l a b).2.1).2.1) (by omega) (by omega)]
          by_cases h5 : (rnum l (tget l a b).2.2.1 b (tget l a b).2.1).1 > b - (rnum l (tget l a b).2.2.1 b (tget l a b).2.1).2.1
          · rw [if_pos h5, if_pos h5]
          · rw [if_neg h5, if_neg h5, wrap64_id (by omega) (by omega)]
      · rw [if_neg h3, if_neg h3]
    · rw [if_neg h2, if_neg h2]
  refine ⟨K1 + K2 + K3 + K4 + 1, fun k hk => ?_⟩
  show truffleref05_Next.f k l a b = _
  obtain ⟨k, rfl⟩ : ∃ m, k = m + 1 := ⟨k - 1, by omega⟩
  unfold truffleref05_Next.f
  rw [e1 _ (by omega), bnd]
  by_cases h1 : (tget l a b).2.2.2 = 0
  · have en := end_ h1 k
    rw [if_pos h1]
    by_cases c1 : (tget l a b).2.1 = 1
    · have r : rnum l (tget l a b).2.2.1 b (tget l a b).2.1 = vunfix l (tget l a b).2.2.1 b 8 := by unfold rnum; rw [if_pos c1]
      rw [r] at en
      rw [if_pos c1, e2 _ (by omega), bnd]; exact en
    · rw [if_neg c1]
      by_cases c2 : (tget l a b).2.1 = 5
      · have r : rnum l (tget l a b).2.2.1 b (tget l a b).2.1 = vunfix l (tget l a b).2.2.1 b 4 := by unfold rnum; rw [if_neg c1, if_pos c2]
        rw [r] at en
        rw [if_pos c2, e3 _ (by omega), bnd]; exact en
      · have r : rnum l (tget l a b).2.2.1 b (tget l a b).2.1 = vget l (tget l a b).2.2.1 b := by unfold rnum; rw [if_neg c1, if_neg c2]
        rw [r] at en
        rw [if_neg c2, e4 _ (by omega), bnd]; exact en
  · rw [if_neg h1]; unfold rnext; rw [if_neg h1]
theorem rrall_loop (l : List Int) (hb : Byt l) (hs : l.length < 1000000) (b : Int) (hbl : b ≤ l.length) (d : Nat) : ∀ (a : Int) (out : List S53), 0 ≤ a → b - a ≤ d → (out.length : Int) + (b - a) < 3518437208883 → out.length < 3518437208883 →
    Ev (fun k => truffleref05_All.l0 k l a b out) (out ++ (rallN d l a b).1, (rallN d l a b).2) := by
  induction d with
  | zero =>
    intro a out h0 hd _ _
    refine Ev.step (f := fun _ => some (out, 0)) (fun k => ?_) (by simpa [rallN] using Ev.now (out, (0 : Int)))
    simp only [truffleref05_All.l0]
    rw [if_neg (by omega)]
  | succ d ih =>
    intro a out h0 hd hl hol
    by_cases c : a < b
    · refine Ev.step (f := fun k => (truffleref05_Next.f k l a b).bind fun t => (if t.2.2.2.2.2.2 = 0 then (if out.length < 3518437208883 then (truffleref05_All.l0 k l t.2.2.2.2.2.1 b (out ++ [(⟨t.1, t.2.1, t.2.2.1, t.2.2.2.1, t.2.2.2.2.1⟩ : S53)])) else (none)) else (some (out, t.2.2.2.2.2.2)))) (fun k => ?_) ?_
      · simp only [truffleref05_All.l0]; rw [if_pos c]
      · refine Ev.bind (f := fun k t => (if t.2.2.2.2.2.2 = 0 then (if out.length < 3518437208883 then (truffleref05_All.l0 k l t.2.2.2.2.2.1 b (out ++ [(⟨t.1, t.2.1, t.2.2.1, t.2.2.2.1, t.2.2.2.2.1⟩ : S53)])) else (none)) else (some (out, t.2.2.2.2.2.2)))) (rrnext_tells l hb hs a b) ?_
        by_cases he : er (rnext l a b) = 0
        · have g := good_of hb he
          have e1 : rallN (d + 1) l a b = (rec_ (rnext l a b) :: (rallN d l (nx (rnext l a b)) b).1, (rallN d l (nx (rnext l a b)) b).2) := by rw [rallN, if_pos c, if_pos he]
          have he' : (rnext l a b).2.2.2.2.2.2 = 0 := he
          rw [e1]
          refine Ev.congr (f := fun k => truffleref05_All.l0 k l (nx (rnext l a b)) b (out ++ [rec_ (rnext l a b)])) (fun k => ?_) ?_
          · simp only [he', if_true]; rw [if_pos hol]; rfl
          · have := g.two
            have i := ih (nx (rnext l a b)) (out ++ [rec_ (rnext l a b)]) (by omega) (by omega) (by simp; omega) (by simp; omega)
            simpa using i
        · have e1 : rallN (d + 1) l a b = ([], er (rnext l a b)) := by rw [rallN, if_pos c, if_neg he]
          have he' : ¬ (rnext l a b).2.2.2.2.2.2 = 0 := he
          rw [e1, List.append_nil]
          exact Ev.congr (f := fun _ => some (out, er (rnext l a b))) (fun k => by simp only [he', if_false]; rfl) (Ev.now _)
    · have e1 : rallN (d + 1) l a b = ([], 0) := by rw [rallN, if_neg c]
      rw [e1, List.append_nil]
      refine Ev.step (f := fun _ => some (out, 0)) (fun k => ?_) (Ev.now _)
      simp only [truffleref05_All.l0]
      rw [if_neg c]
theorem rrall_tells (l : List Int) (hb : Byt l) (hs : l.length < 1000000) (a b : Int) : Ev (fun k => truffleref05_All.f k l a b) (rall l a b) := by
  by_cases hm : mayB l.length a b = true
  · have h := of_decide_eq_true hm
    have e : rall l a b = ([] ++ (rallN (b - a).toNat l a b).1, (rallN (b - a).toNat l a b).2) := by unfold rall; rw [if_pos hm]; rfl
    rw [e]
    refine Ev.congr (f := fun k => truffleref05_All.l0 k l a b []) (fun k => ?_) (rrall_loop l hb hs b h.2.2 _ a [] h.1 (by omega) (by simp; omega) (by simp))
    show truffleref05_All.f k l a b = _
    unfold truffleref05_All.f
    rw [rmay_tells, bnd, if_pos hm]
  · have e : rall l a b = ([], 1) := by unfold rall; rw [if_neg hm]
    rw [e]
    refine Ev.congr (f := fun _ => some ([], 1)) (fun k => ?_) (Ev.now _)
    show truffleref05_All.f k l a b = _
    unfold truffleref05_All.f
    rw [rmay_tells, bnd, if_neg hm]
theorem rrput_tells (no w : Int) (n : Nat) (hn : n < 18446744073709551616) (f u : Int) (run : List Int) (hr : run.length ≤ 1000000) : Ev (fun k => truffleref05_Put.f k no w n f u run) (rput no w n run) := by
  obtain ⟨K1, e1⟩ : ∃ K, ∀ k, K ≤ k → truffleref03_Put.f k no w = some (tput no w) := rtput_tells no w
  obtain ⟨K2, e2⟩ : ∃ K, ∀ k, K ≤ k → truffleref01_Put.f k n = some (vput n) := rput_tells n hn
  obtain ⟨K3, e3⟩ : ∃ K, ∀ k, K ≤ k → truffleref01_Put.f k run.length = some (vput run.length) := rput_tells _ (by omega)
  obtain ⟨K4, e4⟩ : ∃ K, ∀ k, K ≤ k → truffleref01_Fix.f k n 4 = some (vfixR n 4) := rfix_tells n hn 4
  obtain ⟨K5, e5⟩ : ∃ K, ∀ k, K ≤ k → truffleref01_Fix.f k n 8 = some (vfixR n 8) := rfix_tells n hn 8
  refine ⟨K1 + K2 + K3 + K4 + K5, fun k hk => ?_⟩
  show truffleref05_Put.f k no w n f u run = _
  unfold truffleref05_Put.f rput
  rw [e1 k (by omega), bnd]
  by_cases h : tputB no w = true
  · obtain ⟨h1, h2, h3⟩ := tputB_iff h
    have ht : tput no w = (vput (8 * no + w).toNat, true) := by unfold tput; rw [if_pos h]
    have l1 := vput_len5 (8 * no + w).toNat (by omega)
    have l2 := vput_len10 hn
    have l3 := vput_len10 (n := run.length) (by omega)
    have f4 : vfixR n 4 = (vfix 4 n, true) := rfl
    have f8 : vfixR n 8 = (vfix 8 n, true) := rfl
    have l4 := vfix_len 4 n
    have l8 := vfix_len 8 n
    rw [if_pos h, ht, if_pos rfl]
    have e6 : IntKind.u64.wrap (run.length : Int) = (run.length : Int) := by rw [wrap_u64]; omega
    rcases h3 with rfl | rfl | rfl | rfl
    · rw [if_pos rfl, e2 k (by omega), bnd, if_pos (by simp only; omega)]; rfl
    · rw [if_neg (by decide), if_pos rfl, e5 k (by omega), bnd, f8, if_pos (by simp only; omega)]; rfl
    · rw [if_neg (by decide), if_neg (by decide), if_neg (by decide), if_pos rfl, e6, e3 k (by omega), bnd, if_pos (by simp only; omega), bnd, if_pos (by simp; omega), List.append_assoc]; rfl
    · rw [if_neg (by decide), if_neg (by decide), if_pos rfl, e4 k (by omega), bnd, f4, if_pos (by simp only; omega)]; rfl
  · have ht : tput no w = ([], false) := by unfold tput; rw [if_neg h]
    rw [if_neg h, ht, if_neg (by decide)]
end Go.Proofs.Ytokbcenkgdpepaa.Spec
namespace Go.Proofs.Ytokbcenkgdpepaa.Pure
open Go.RowKit Go.Proofs.Ytokbcenkgdpepaa.M Go.Proofs.Ytokbcenkgdpepaa.Spec Go.Proofs.YtokbcenkgdpepaaW.PrintWords Go.Proofs.YtokbcenkgdpepaaW.PrintLast Go.Proofs.YtokbcenkgdpepaaW.PrintMore

theorem rput_short (no w : Int) (n : Nat) (hn : n < 18446744073709551616) (run : List Int) (hr : run.length ≤ 3000) : (rput no w n run).1.length < 9223372036854775807 := by
  by_cases h : (rput no w n run).2 = true
  · obtain ⟨hB, hP⟩ := rput_ok h
    obtain ⟨h1, h2, h3⟩ := tputB_iff hB
    have := vput_len5 (8 * no + w).toNat (by omega)
    have := rbody_len w n hn run (by omega)
    rw [hP, List.length_append]; omega
  · rw [rput_no h]; simp
theorem RecordTells : trufflelaw05_RecordTells.Pure := by
  intro l a b no w n f u run hm hs hw ha hb hno hww hn hf hu hm4 hs4 hw4
  have hB := Byt.of_wf hw
  have wa := wf_i64 ha
  have wb := wf_i64 hb
  have wn := wf_u64 hn
  obtain ⟨Ka, ea⟩ : ∃ K, ∀ k, K ≤ k → trufflelaw05_awake.f k = some true := awake5
  by_cases c0 : (l.length : Int) > 3000
  · refine ⟨Ka + 1, ?_⟩
    unfold trufflelaw05_RecordTells.f
    rw [ea _ (by omega), bnd, if_pos rfl, if_pos c0]
    simp only [trufflelaw05_RecordTells.j0, if_true]
  · by_cases c4 : (run.length : Int) > 3000
    · refine ⟨Ka + 1, ?_⟩
      unfold trufflelaw05_RecordTells.f
      rw [ea _ (by omega), bnd, if_pos rfl, if_neg c0, decide_eq_true c4]
      simp only [trufflelaw05_RecordTells.j0, if_true]
    · obtain ⟨n, rfl⟩ : ∃ m : Nat, n = (m : Int) := ⟨n.toNat, by omega⟩
      have hn' : n < 18446744073709551616 := by omega
      have hrl : (rall l a b).1.length < 9223372036854775807 := by
        unfold rall
        by_cases m : mayB l.length a b = true
        · have q := of_decide_eq_true m
          have := rallN_len l hB b (b - a).toNat a q.2.1
          rw [if_pos m]; omega
        · rw [if_neg m]; simp
      obtain ⟨K1, e1⟩ : ∃ K, ∀ k, K ≤ k → record_Next.f k l a b = some (rnext l a b) := rnext_tells l hB (by omega) a b
      obtain ⟨K2, e2⟩ : ∃ K, ∀ k, K ≤ k → truffleref05_Next.f k l a b = some (rnext l a b) := rrnext_tells l hB (by omega) a b
      obtain ⟨K3, e3⟩ : ∃ K, ∀ k, K ≤ k → record_All.f k l a b = some (rall l a b) := rall_tells l hB (by omega) a b
      obtain ⟨K4, e4⟩ : ∃ K, ∀ k, K ≤ k → truffleref05_All.f k l a b = some (rall l a b) := rrall_tells l hB (by omega) a b
      obtain ⟨K5, e5⟩ : ∃ K, ∀ k, K ≤ k → truffleref05_Recs.f k (rall l a b).1 (rall l a b).1 = some true := recs_tells _ hrl
      obtain ⟨K6, e6⟩ : ∃ K, ∀ k, K ≤ k → record_Put.f k no w n f u run = some (rput no w n run) := rput_tells' no w n hn' f u run (by omega)
      obtain ⟨K7, e7⟩ : ∃ K, ∀ k, K ≤ k → truffleref05_Put.f k no w n f u run = some (rput no w n run) := rrput_tells no w n hn' f u run (by omega)
      obtain ⟨K8, e8⟩ : ∃ K, ∀ k, K ≤ k → truffleref01_Bytes.f k (rput no w n run).1 (rput no w n run).1 = some (decide ((rput no w n run).1 = (rput no w n run).1)) := bytes_tells _ _ (rput_short no w n hn' run (by omega))
      refine ⟨Ka + K1 + K2 + K3 + K4 + K5 + K6 + K7 + K8 + 1, ?_⟩
      unfold trufflelaw05_RecordTells.f
      rw [ea _ (by omega), bnd, if_pos rfl, if_neg c0, decide_eq_false c4]
      simp only [trufflelaw05_RecordTells.j0]
      rw [if_neg (by decide), e1 _ (by omega), bnd, e2 _ (by omega), bnd, e3 _ (by omega), bnd, e4 _ (by omega), bnd, e5 _ (by omega), bnd, if_pos rfl, e6 _ (by omega), bnd, e7 _ (by omega), bnd]
      rw [if_pos (by simp), if_pos rfl, if_pos rfl, if_pos rfl, e8 _ (by omega), bnd, if_pos (by simp)]
      simp

end Go.Proofs.Ytokbcenkgdpepaa.Pure
