/-
  record.each's iterator: its contract.
-/
import Derived.Test.YtokbcenkgdpepaaIter
import Derived.Test.YtokbcenkgdpepaaMx28
import Derived.Test.YtokbcenkgdpepaaMx2
import Derived.Shelf.Abstract
import Derived.WalkKit
import Derived.OwnWalkIn
import Derived.TacticsInMore
import Derived.LoopNIn
import Derived.LoopIn
import Derived.Sort.LoopGhostIn
import Derived.Maps.AppendAt
namespace Go.Proofs.Ytokbcenkgdpepaa.Iter
open Go.RowKit Go.Shelf Go.Proofs.Ytokbcenkgdpepaa.M Go.Proofs.YtokbcenkgdpepaaW.PrintWords Go.Proofs.YtokbcenkgdpepaaW.PrintLast Go.Proofs.YtokbcenkgdpepaaW.PrintMore
attribute [local go_sem] Oper.semAt_some

/-- The records of some bytes, from a place on, behind some: the plain law of record.All's loop. -/
def all : Nat → List Int → Int → Int → List S53 → Option (List S53 × Int)
  | 0, _, _, _, _ => none
  | k + 1, x0, x1, x2, x9 => if x1 < x2 then ((record_Next.f k x0 x1 x2).bind fun t => (if t.2.2.2.2.2.2 = 0 then (if x9.length < 3518437208883 then (all k x0 t.2.2.2.2.2.1 x2 (x9 ++ [(⟨t.1, t.2.1, t.2.2.1, t.2.2.2.1, t.2.2.2.2.1⟩ : S53)])) else (none)) else (some (x9, t.2.2.2.2.2.2)))) else (some (x9, 0))

def enc1 (x : S53) : Value := .agg #[.int .i64 x.f0, .int .i64 x.f1, .int .u64 x.f2, .int .i64 x.f3, .int .i64 x.f4]
def encs (x : S53 × Int) : Array Value := #[.agg #[.int .i64 x.1.f0, .int .i64 x.1.f1, .int .u64 x.1.f2, .int .i64 x.1.f3, .int .i64 x.1.f4], .int .i64 x.2]
/-- The iterator's own steps: new blocks, and its variable 'at'. -/
structure Stp (n₀ Ba : Nat) (A B : World) : Prop where
  below : Below n₀ A B
  keeps : ∀ k, k < A.heap.size → k ≠ Ba → B.heap[k]? = A.heap[k]?
  box : ∀ v, Boxed A Ba 3 v → ∃ v', Boxed B Ba 3 v'
theorem Stp.keeps' {n₀ Ba k : Nat} {wr w2 W3 : World} {o : Obj} (_ : Stp n₀ Ba wr W3) (hk : k < wr.heap.size) (hW3 : w2.alloc o = W3) (hb : Below wr.heap.size wr w2) : W3.heap[k]? = wr.heap[k]? := by
  rw [← hW3]; exact (Below.heap_alloc _ _ _ (Nat.lt_of_lt_of_le hk hb.size)).trans (hb.block k hk)
/-- What a round keeps: what lay below n₀, and the iterator's three variables. -/
structure Kp (n₀ Ba Bu Bb : Nat) (A B : World) : Prop where
  below : Below n₀ A B
  ba : B.heap[Ba]? = A.heap[Ba]?
  bu : B.heap[Bu]? = A.heap[Bu]?
  bb : B.heap[Bb]? = A.heap[Bb]?

set_option maxRecDepth 100000 in
set_option maxHeartbeats 4000000 in
theorem each1_in (k : Nat) (A0 : Option Addr) (c0 : Nat) (l0 : List Int) (a1 a2 : Int) (r1 : List S53) (r2 : Int) (w₀ : World) (hr0 : Kd.C (Kd.int .u8) w₀ A0 l0.length l0) (hc0 : l0.length ≤ c0)
    (h : all k l0 a1 a2 [] = some (r1, r2)) (n : Nat) (hn : 1 ≤ n) (Ba Bu Bb : Nat) (hBa : w₀.heap.size ≤ Ba) (hau : Ba ≠ Bu) (hab : Ba ≠ Bb) (w : World) (hw : Below w₀.heap.size w₀ w)
    (hba : Boxed w Ba 3 (.int .i64 a1)) (hbu : Boxed w Bu 3 (.int .i64 a2)) (hbb : Boxed w Bb 22 (.slice A0 l0.length c0)) :
    Steps Fence.wide n Try.prog 55 #[.pointer (some ⟨Ba, 0, none⟩), .pointer (some ⟨Bu, 0, none⟩), .pointer (some ⟨Bb, 0, none⟩)] encs (Kp w₀.heap.size Ba Bu Bb) (Stp w₀.heap.size Ba)
      (fun x => x.2 = 0) (fun xs => xs.map (·.1) = r1 ∧ r2 = 0) (fun pre => ∃ ys x, pre = ys ++ [x] ∧ ys.map (·.1) = r1 ∧ x.2 = r2) 3518437208883 w := by
  intro l J Jx W hW hJS hJxS hJg hJxg hY h0
  refine callsIn_of_wp Try.func55 rfl trivial ?_ rfl
  simp only [Try.ntmps55, List.size_toArray, List.length_cons, List.length_nil, Nat.reduceAdd, Nat.reduceSub, Array.replicate_succ, Array.replicate_zero, List.push_toArray, List.append_toArray, List.nil_append, List.cons_append]
  have HB := Aside0.mk (show Below w₀.heap.size w₀ W from hw.trans (hW.mono hw.size))
  have bA := Aside0.mk (show Boxed W Ba 3 (.int .i64 a1) from (hW.block Ba hba.lt).trans hba)
  have bU := Aside0.mk (show Boxed W Bu 3 (.int .i64 a2) from (hW.block Bu hbu.lt).trans hbu)
  have bB := Aside0.mk (show Boxed W Bb 22 (.slice A0 l0.length c0) from (hW.block Bb hbb.lt).trans hbb)
  have HJS := Aside0.mk hJS
  have HJxS := Aside0.mk hJxS
  have HJg := Aside0.mk hJg
  have HJxg := Aside0.mk hJxg
  have HY := Aside0.mk hY
  have H0 := Aside0.mk h0
  have H := Aside0.mk h
  have HR := Aside0.mk hr0
  have HC := Aside0.mk hc0
  have HBa := Aside0.mk hBa
  have HNE := Aside0.mk (And.intro hau hab)
  clear hJS hJxS hJg hJxg hY h0 h hr0 hc0 hBa hau hab hW hw hba hbu hbb
  gi_wp2
  gi_loopg [] k (fun kq wr => ∃ (pre : List (S53 × Int)) (x1 : Int), Aside0 (J pre wr) ∧ Aside0 (∀ x ∈ pre, x.2 = 0) ∧ Aside0 (Boxed wr Ba 3 (.int .i64 x1)) ∧ Aside0 (Boxed wr Bu 3 (.int .i64 a2)) ∧ Aside0 (Boxed wr Bb 22 (.slice A0 l0.length c0)) ∧ Aside0 (Below w₀.heap.size w₀ wr) ∧ Aside0 (all kq l0 x1 a2 (pre.map (·.1)) = some (r1, r2)) ∧ Aside0 (kq ≤ k))
  case atStart => exact ⟨[], a1, H0, ⟨fun x hx => by simp at hx⟩, bA, bU, bB, HB, H, ⟨Nat.le_refl _⟩⟩
  case round =>
    clear H H0 bA bU bB HB
    obtain ⟨pre, x1, hJ, hg, bA, bU, bB, HB, HA, HK⟩ := hrel
    cases gk with
    | zero => exact absurd HA.out (by simp [all])
    | succ k1 =>
      have H := HA.out
      clear HA
      simp only [all] at H
      have cA := bA.out.cell
      have cU := bU.out.cell
      have cB := bB.out.cell
      by_cases c : x1 < a2
      · rw [if_pos c] at H
        have cb : decide (x1 < a2) = true := decide_eq_true c
        clear c
        replace H := Option.bind_eq_some_iff.mp H
        obtain ⟨⟨t1, t2, t3, t4, t5, t6, t7⟩, A7, H⟩ := H
        have A7' := Aside0.mk A7
        have H' := Aside0.mk H
        clear A7 H
        gi_wp2_with (refine ⟨trivial, ?_⟩; gi_at_call 44; refine (callsIn_wide.2 (record_Next.calls k1 _ _ l0 x1 a2 t1 t2 t3 t4 t5 t6 t7 _ (Kd.C_below HR.out HB.out) HC.out A7'.out)).mono ?_; rintro e w2 ⟨rfl, hb⟩)
        obtain ⟨W3, hW3⟩ : ∃ W3, w2.alloc (.cells #[.int .i64 t1, .int .i64 t2, .int .u64 t3, .int .i64 t4, .int .i64 t5] 53) = W3 := ⟨_, rfl⟩
        rw [hW3]
        have hsz : wr.heap.size ≤ w2.heap.size := hb.size
        have hst : Stp w₀.heap.size Ba wr W3 := by
          have hk : ∀ k, k < wr.heap.size → W3.heap[k]? = wr.heap[k]? := fun k hk => by rw [← hW3]; exact (Below.heap_alloc _ _ _ (by omega)).trans (hb.block k hk)
          refine ⟨?_, fun k hlt _ => hk k hlt, fun v hv => ⟨v, (hk Ba hv.lt).trans hv⟩⟩
          rw [← hW3]
          exact (hb.mono HB.out.size).alloc (Nat.le_trans HB.out.size hsz) _
        have bA3 : Boxed W3 Ba 3 (.int .i64 x1) := (hst.keeps' bA.out.lt hW3 hb).trans bA.out
        have bU3 : Boxed W3 Bu 3 (.int .i64 a2) := (hst.keeps' bU.out.lt hW3 hb).trans bU.out
        have bB3 : Boxed W3 Bb 22 (.slice A0 l0.length c0) := (hst.keeps' bB.out.lt hW3 hb).trans bB.out
        have J3 := HJS.out _ _ _ hJ.out hst
        have HB3 := Aside0.mk (HB.out.trans hst.below)
        have hlen : t7 = 0 → pre.length < 3518437208883 := fun e => by
          have h := H'.out
          rw [if_pos e] at h
          by_cases c : (pre.map (·.1)).length < 3518437208883
          · simpa using c
          · rw [if_neg c] at h; exact absurd h (by simp)
        obtain ⟨fn, tmps, assign, body, hy, hR⟩ := HY.out pre ((⟨t1, t2, t3, t4, t5⟩ : S53), t7) W3 J3 hlen
        dsimp only [encs] at hy
        have HBA := Aside0.mk bA3
        have HBU := Aside0.mk bU3
        have HBB := Aside0.mk bB3
        clear hlen J3 bA3 bU3 bB3 hst hsz hb cA cU cB hW3 hJ HB bA bU bB
        simp only [hy]
        go_simp
        refine hR.mono ?_
        clear hy hR
        rintro e W4 (⟨rfl, hJ4, hk4⟩ | ⟨rfl, hJx4⟩)
        · have e7 : t7 = 0 := HJg.out _ _ _ hJ4
          subst e7
          have H := H'.out
          rw [if_pos rfl] at H
          by_cases c : (pre.map (·.1)).length < 3518437208883
          · rw [if_pos c] at H
            have HN := Aside0.mk H
            have bA4 : Boxed W4 Ba 3 (.int .i64 x1) := hk4.ba.trans HBA.out
            have bU4 := Aside0.mk (show Boxed W4 Bu 3 (.int .i64 a2) from hk4.bu.trans HBU.out)
            have bB4 := Aside0.mk (show Boxed W4 Bb 22 (.slice A0 l0.length c0) from hk4.bb.trans HBB.out)
            have HB4 := Aside0.mk (HB3.out.trans hk4.below)
            have HJ4 := Aside0.mk hJ4
            have cA4 := bA4.cell
            have fA4 := bA4.frozen
            have HA4 := Aside0.mk bA4
            clear H H' c hk4 hJ4 bA4 HBA HBU HBB HB3
            gi_wp2
            gi_roundg k1
            case measure => omega
            case rel =>
              have hst : Stp w₀.heap.size Ba W4 (W4.setCell ⟨Ba, 0, none⟩ (.int .i64 t6)) :=
                ⟨(Below.refl _ _).setCell HBa.out _, fun k _ hk => Below.heap_setCell _ _ _ _ hk, fun v hv => ⟨_, hv.set _⟩⟩
              refine ⟨pre ++ [((⟨t1, t2, t3, t4, t5⟩ : S53), 0)], t6, ⟨HJS.out _ _ _ HJ4.out hst⟩, ⟨fun x hx => ?_⟩, ⟨HA4.out.set _⟩, ⟨bU4.out.other HNE.out.1.symm _⟩, ⟨bB4.out.other HNE.out.2.symm _⟩, ⟨HB4.out.trans hst.below⟩, ⟨by rw [List.map_append]; exact HN.out⟩, ⟨by have := HK.out; omega⟩⟩
              rcases List.mem_append.mp hx with hx | hx
              · exact hg.out x hx
              · rw [List.mem_singleton.mp hx]
          · rw [if_neg c] at H; exact absurd H (by simp)
        · have e7 : ¬ t7 = 0 := HJxg.out _ _ _ hJx4
          have H := H'.out
          rw [if_neg e7] at H
          simp only [Option.some.injEq, Prod.mk.injEq] at H
          obtain ⟨rfl, rfl⟩ := H
          have HJ4 := Aside0.mk hJx4
          clear hJx4 H' HBA HBU HBB HB3
          gi_wp2
          refine bodyPost_ret (results_none rfl _ _ _) rfl ?_
          exact ⟨⟨_, rfl⟩, .inr ⟨_, ⟨pre, _, rfl, rfl, rfl⟩, HJ4.out⟩⟩
      · rw [if_neg c] at H
        have cb : decide (x1 < a2) = false := decide_eq_false c
        clear c
        simp only [Option.some.injEq, Prod.mk.injEq] at H
        obtain ⟨rfl, rfl⟩ := H
        gi_wp2
        go_end0
        exact ⟨⟨_, rfl⟩, .inl ⟨pre, rfl, hJ.out⟩⟩
end Go.Proofs.Ytokbcenkgdpepaa.Iter
