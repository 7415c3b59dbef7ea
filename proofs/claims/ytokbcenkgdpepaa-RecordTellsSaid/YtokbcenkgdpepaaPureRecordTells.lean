/-
  RecordTells is true: Next, All and Put tell for any bytes and any record what the document's own functions tell. For every input; no condition.
-/
import Derived.Test.YtokbcenkgdpepaaMx38
import Derived.Test.YtokbcenkgdpepaaSpecF
namespace Go.Proofs.Ytokbcenkgdpepaa.Pure
open Go.RowKit Go.Proofs.Ytokbcenkgdpepaa.M Go.Proofs.Ytokbcenkgdpepaa.Spec Go.Proofs.YtokbcenkgdpepaaW.PrintWords Go.Proofs.YtokbcenkgdpepaaW.PrintLast Go.Proofs.YtokbcenkgdpepaaW.PrintMore

theorem rput_short (no w : Int) (n : Nat) (hn : n < 18446744073709551616) (run : List Int) (hr : run.length ≤ 3000) : (rput no w n run).1.length < 9223372036854775807 := by
  by_cases h : (rput no w n run).2 = true
  · obtain ⟨hB, hP⟩ := rput_ok h
    obtain ⟨h1, h2, h3⟩ := tputB_iff hB
    have := vput_len5 (8 * no + w).toNat (by omega)
    have := rbody_len w n hn run (by omega)
    rw [hP, List.length_append]; omega
  · rw [rput_no h]; simp
theorem RecordTells : trufflelaw05_RecordTells.Pure := by
  intro l a b no w n f u run hm hs hw ha hb hno hww hn hf hu hm4 hs4 hw4
  have hB := Byt.of_wf hw
  have wa := wf_i64 ha
  have wb := wf_i64 hb
  have wn := wf_u64 hn
  obtain ⟨Ka, ea⟩ : ∃ K, ∀ k, K ≤ k → trufflelaw05_awake.f k = some true := awake5
  by_cases c0 : (l.length : Int) > 3000
  · refine ⟨Ka + 1, ?_⟩
    unfold trufflelaw05_RecordTells.f
    rw [ea _ (by omega), bnd, if_pos rfl, if_pos c0]
    simp only [trufflelaw05_RecordTells.j0, if_true]
  · by_cases c4 : (run.length : Int) > 3000
    · refine ⟨Ka + 1, ?_⟩
      unfold trufflelaw05_RecordTells.f
      rw [ea _ (by omega), bnd, if_pos rfl, if_neg c0, decide_eq_true c4]
      simp only [trufflelaw05_RecordTells.j0, if_true]
    · obtain ⟨n, rfl⟩ : ∃ m : Nat, n = (m : Int) := ⟨n.toNat, by omega⟩
      have hn' : n < 18446744073709551616 := by omega
      have hrl : (rall l a b).1.length < 9223372036854775807 := by
        unfold rall
        by_cases m : mayB l.length a b = true
        · have q := of_decide_eq_true m
          have := rallN_len l hB b (b - a).toNat a q.2.1
          rw [if_pos m]; omega
        · rw [if_neg m]; simp
      obtain ⟨K1, e1⟩ : ∃ K, ∀ k, K ≤ k → record_Next.f k l a b = some (rnext l a b) := rnext_tells l hB (by omega) a b
      obtain ⟨K2, e2⟩ : ∃ K, ∀ k, K ≤ k → truffleref05_Next.f k l a b = some (rnext l a b) := rrnext_tells l hB (by omega) a b
      obtain ⟨K3, e3⟩ : ∃ K, ∀ k, K ≤ k → record_All.f k l a b = some (rall l a b) := rall_tells l hB (by omega) a b
      obtain ⟨K4, e4⟩ : ∃ K, ∀ k, K ≤ k → truffleref05_All.f k l a b = some (rall l a b) := rrall_tells l hB (by omega) a b
      obtain ⟨K5, e5⟩ : ∃ K, ∀ k, K ≤ k → truffleref05_Recs.f k (rall l a b).1 (rall l a b).1 = some true := recs_tells _ hrl
      obtain ⟨K6, e6⟩ : ∃ K, ∀ k, K ≤ k → record_Put.f k no w n f u run = some (rput no w n run) := rput_tells' no w n hn' f u run (by omega)
      obtain ⟨K7, e7⟩ : ∃ K, ∀ k, K ≤ k → truffleref05_Put.f k no w n f u run = some (rput no w n run) := rrput_tells no w n hn' f u run (by omega)
      obtain ⟨K8, e8⟩ : ∃ K, ∀ k, K ≤ k → truffleref01_Bytes.f k (rput no w n run).1 (rput no w n run).1 = some (decide ((rput no w n run).1 = (rput no w n run).1)) := bytes_tells _ _ (rput_short no w n hn' run (by omega))
      refine ⟨Ka + K1 + K2 + K3 + K4 + K5 + K6 + K7 + K8 + 1, ?_⟩
      unfold trufflelaw05_RecordTells.f
      rw [ea _ (by omega), bnd, if_pos rfl, if_neg c0, decide_eq_false c4]
      simp only [trufflelaw05_RecordTells.j0]
      rw [if_neg (by decide), e1 _ (by omega), bnd, e2 _ (by omega), bnd, e3 _ (by omega), bnd, e4 _ (by omega), bnd, e5 _ (by omega), bnd, if_pos rfl, e6 _ (by omega), bnd, e7 _ (by omega), bnd]
      rw [if_pos (by simp), if_pos rfl, if_pos rfl, if_pos rfl, e8 _ (by omega), bnd, if_pos (by simp)]
      simp

end Go.Proofs.Ytokbcenkgdpepaa.Pure
