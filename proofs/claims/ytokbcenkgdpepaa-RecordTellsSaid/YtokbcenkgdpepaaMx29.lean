-- Written by wip/print18.py (this session's program, over the kit's print.py), for this seat's laws.
import Derived.Test.YtokbcenkgdpepaaMx0
import Derived.Test.YtokbcenkgdpepaaMx3
import Derived.Test.YtokbcenkgdpepaaMx28
import Derived.Test.YtokbcenkgdpepaaAll
import Derived.Maps.AppendAt
import Derived.RangeFuncBox
import Derived.RangeFuncLeaves
import Derived.Shelf.Abstract
import Derived.OwnWalkIn
import Derived.TacticsInMore
import Derived.LoopNIn
import Derived.LoopIn
namespace Go.Proofs.Ytokbcenkgdpepaa.M
open Go.RowKit Go.Proofs.YtokbcenkgdpepaaW.PrintWords Go.Proofs.YtokbcenkgdpepaaW.PrintLast Go.Proofs.YtokbcenkgdpepaaW.PrintMore
attribute [local go_sem] max2_int min2_int max_two min_two max_three min_three max_four min_four   -- for this text's walks alone
set_option linter.unusedVariables false
set_option linter.unusedSimpArgs false

/-! ### record_All: function 41 -/
def record_All.l0 : Nat → List Int → Int → Int → List (S53) → Option ((List (S53)) × Int)
  | 0, _, _, _, _ => none
  | k + 1, x0, x1, x2, x9 => if x1 < x2 then ((record_Next.f k x0 x1 x2).bind fun bt400 => (if bt400.2.2.2.2.2.2 = 0 then (if x9.length < 3518437208883 then (record_All.l0 k x0 bt400.2.2.2.2.2.1 x2 (x9 ++ [(⟨bt400.1, bt400.2.1, bt400.2.2.1, bt400.2.2.2.1, bt400.2.2.2.2.1⟩ : S53)])) else (none)) else (some (x9, bt400.2.2.2.2.2.2)))) else (some (x9, 0))
def record_All.f (k : Nat) (l0 : List Int) (a1 : Int) (a2 : Int) : Option ((List (S53)) × Int) := (varint_may.f l0 a1 a2).bind fun t399 => (if t399 = true then (record_All.l0 k l0 a1 a2 ([] : List (S53))) else (some (([] : List (S53)), 1)))
theorem record_All.mono_l : ∀ k, (∀ y0 y1 y2 y3, LeO (record_All.l0 k y0 y1 y2 y3) (record_All.l0 (k + 1) y0 y1 y2 y3))
  | 0 => fun _ _ _ _ r h => by simp [record_All.l0] at h
  | k + 1 => by
    have ih0 := record_All.mono_l k
    · intro y0 y1 y2 y3
      unfold record_All.l0
      repeat' first
      | (with_reducible exact ih0 _ _ _ _)
      | (with_reducible exact record_Next.mono _ _ _ _)
      | (with_reducible exact LeO.refl _)
      | (with_reducible exact LeO.none _)
      | (with_reducible refine LeO.ite ?_ ?_)
      | (with_reducible refine LeO.bind ?_ (fun _ => ?_))
      | exact ih0 _ _ _ _
      | exact record_Next.mono _ _ _ _
      | exact LeO.none _
      | refine LeO.ite ?_ ?_
      | refine LeO.bind ?_ (fun _ => ?_)
theorem record_All.mono : ∀ a0 a1 a2 k, LeO (record_All.f k a0 a1 a2) (record_All.f (k + 1) a0 a1 a2) := by
  intro a0 a1 a2 k
  have ih0 := record_All.mono_l k
  unfold record_All.f
  repeat' first
      | (with_reducible exact ih0 _ _ _ _)
      | (with_reducible exact record_Next.mono _ _ _ _)
      | (with_reducible exact LeO.refl _)
      | (with_reducible exact LeO.none _)
      | (with_reducible refine LeO.ite ?_ ?_)
      | (with_reducible refine LeO.bind ?_ (fun _ => ?_))
      | exact ih0 _ _ _ _
      | exact record_Next.mono _ _ _ _
      | exact LeO.none _
      | refine LeO.ite ?_ ?_
      | refine LeO.bind ?_ (fun _ => ?_)
section record_All_by_hand
open Go.Proofs.Ytokbcenkgdpepaa.Iter Go.Shelf
attribute [local go_sem] Oper.semAt_some
theorem all_eq (k : Nat) : ∀ (l : List Int) (a b : Int) (xs : List S53), Iter.all k l a b xs = record_All.l0 k l a b xs := by
  induction k with
  | zero => intro l a b xs; rfl
  | succ k ih =>
    intro l a b xs
    simp only [Iter.all, record_All.l0, ih]
/-- A record's cells. -/
def cells5 (x : S53) : List Value := [.int .i64 x.f0, .int .i64 x.f1, .int .u64 x.f2, .int .i64 x.f3, .int .i64 x.f4]
theorem reps5 (W : World) (base : Nat) (ok : Nat → Prop) : ∀ ps : List S53, Reps (k53.M W base ok) 5 ps (ps.flatMap cells5) := by
  intro ps
  induction ps with
  | nil => exact Reps.none _ _
  | cons x ps ih =>
    refine ⟨by rw [List.flatMap_cons, List.length_append, ih.1]; simp [cells5]; omega, fun j p hj => ?_⟩
    cases j with
    | zero =>
      obtain rfl : x = p := by simpa using hj
      exact k53_mkM W base ok x
    | succ j =>
      have := ih.2 j p (by simpa using hj)
      rw [List.flatMap_cons, show (j + 1) * 5 = (cells5 x).length + j * 5 by simp [cells5]; omega, List.drop_append, List.drop_eq_nil_of_le (by omega), Nat.add_sub_cancel_left, List.nil_append]
      exact this
theorem row_R {W : World} {base : Nat} {v : Value} {ps : List S53} (h : W.ownsRow base 53 5 v ps.length (ps.flatMap cells5)) : Kd.R k53 53 W base (fun _ => True) v ps :=
  ⟨fun _ _ => trivial, _, h, reps5 W base _ ps⟩
theorem cell_at5 {W : World} {b t : Nat} {x0 x1 x2 x3 x4 : Value} (h : W.heap[b]? = some (.cells #[x0, x1, x2, x3, x4] t (0, 0))) : W.cell? ⟨b, 0, none⟩ = some x0 ∧ W.cell? ⟨b, 1, none⟩ = some x1 ∧ W.cell? ⟨b, 2, none⟩ = some x2 ∧ W.cell? ⟨b, 3, none⟩ = some x3 ∧ W.cell? ⟨b, 4, none⟩ = some x4 := by
  refine ⟨?_, ?_, ?_, ?_, ?_⟩ <;> simp [World.cell?, h]
theorem cell_new5 (W : World) (x : S53) (j : Nat) (u : Value) (h : (cells5 x)[j]? = some u) : (W.alloc (.cells #[.int .i64 x.f0, .int .i64 x.f1, .int .u64 x.f2, .int .i64 x.f3, .int .i64 x.f4] 53)).cell? ((⟨W.heap.size, 0, none⟩ : Addr).add j) = some u := by
  obtain ⟨h0, h1, h2, h3, h4⟩ := cell_at5 (World.alloc_heap_new W (.cells #[.int .i64 x.f0, .int .i64 x.f1, .int .u64 x.f2, .int .i64 x.f3, .int .i64 x.f4] 53))
  have hj : j = 0 ∨ j = 1 ∨ j = 2 ∨ j = 3 ∨ j = 4 := by have := (List.getElem?_eq_some_iff.1 h).1; simp [cells5] at this; omega
  rcases hj with rfl | rfl | rfl | rfl | rfl
  · obtain rfl : Value.int .i64 x.f0 = u := by simpa [cells5] using h
    exact h0
  · obtain rfl : Value.int .i64 x.f1 = u := by simpa [cells5] using h
    exact h1
  · obtain rfl : Value.int .u64 x.f2 = u := by simpa [cells5] using h
    exact h2
  · obtain rfl : Value.int .i64 x.f3 = u := by simpa [cells5] using h
    exact h3
  · obtain rfl : Value.int .i64 x.f4 = u := by simpa [cells5] using h
    exact h4
theorem row_kept {W W' : World} {row : Option Nat} {base e size k : Nat} {v : Value} {xs : List Value} (h : W.ownsRow base e size v k xs) (hg : W.grownBy W' row) (hr : ∀ r, row = some r → ∃ o : Obj, W.heap[r]? = some o ∧ o.isCells = false) : W'.ownsRow base e size v k xs := by
  refine h.kept hg ?_
  rcases h.2 with ⟨rfl, _⟩ | ⟨g, cap, cur, rfl, _, hgb, _⟩
  · exact .inl rfl
  · refine .inr fun e' => ?_
    obtain ⟨o, ho, hc⟩ := hr g (by simpa [Value.ownBlock] using e'.symm)
    rw [hgb] at ho; cases ho; cases hc
theorem row_step {n₀ Ba : Nat} {A B : World} (hs : Stp n₀ Ba A B) {va : Value} (hb : Boxed A Ba 3 va) {base k : Nat} {v : Value} {xs : List Value} (h : A.ownsRow base 53 5 v k xs) : B.ownsRow base 53 5 v k xs :=
  own_move h fun g hg => hs.keeps g (own_lt h g hg) (fun e => by subst e; exact hb.not_row (by decide) h hg.symm)
theorem boxed_step {n₀ Ba : Nat} {A B : World} (hs : Stp n₀ Ba A B) {b t : Nat} {v : Value} (h : Boxed A b t v) (hne : b ≠ Ba) : Boxed B b t v := (hs.keeps b h.lt hne).trans h
theorem row_slice {W : World} {base e size k : Nat} {v : Value} {xs : List Value} (h : W.ownsRow base e size v k xs) : ∃ A m c, v = .slice A m c := by
  rcases h.2 with ⟨rfl, _⟩ | ⟨g, cap, cur, rfl, _⟩ <;> exact ⟨_, _, _, rfl⟩
/-- Between two rounds. -/
def AllI (A0 : Option Addr) (l0 : List Int) (c0 : Nat) (a2 : Int) (N : Nat) (w : World) (pre : List (S53 × Int)) (W : World) : Prop :=
  (∃ v, Boxed W (N + 2) 49 v ∧ W.ownsRow N 53 5 v pre.length ((pre.map (·.1)).flatMap cells5)) ∧ Boxed W N 49 (.slice none 0 0) ∧ Boxed W (N + 1) 25 (.int .i64 0) ∧ (∃ va, Boxed W (N + 4) 3 va) ∧ Boxed W (N + 3) 22 (.slice A0 l0.length c0) ∧ Boxed W (N + 5) 3 (.int .i64 a2) ∧ Below N w W ∧ ∀ x ∈ pre, x.2 = 0
/-- A round has returned. -/
def AllIx (N : Nat) (w : World) (pre : List (S53 × Int)) (W : World) : Prop :=
  ∃ ys x v va, pre = ys ++ [x] ∧ ¬ x.2 = 0 ∧ Boxed W (N + 4) 3 va ∧ Boxed W N 49 v ∧ W.ownsRow N 53 5 v ys.length ((ys.map (·.1)).flatMap cells5) ∧ Boxed W (N + 1) 25 (.int .i64 x.2) ∧ Below N w W
/-- A round's frame, behind the loop's variables. -/
def AllAx (A0 : Option Addr) (l0 : List Int) (c0 : Nat) (a1 a2 : Int) (N : Nat) (x : S53 × Int) (a' : Act) (W : World) : Prop :=
  ∃ Br, W.heap[Br]? = some (.cells #[.int .i64 x.1.f0, .int .i64 x.1.f1, .int .u64 x.1.f2, .int .i64 x.1.f3, .int .i64 x.1.f4] 53 (0, 0)) ∧
    a' = { tmps := #[.slice A0 l0.length c0, .int .i64 a1, .int .i64 a2, undef, undef, undef, .pointer (some ⟨N, 0, none⟩), .pointer (some ⟨N + 1, 0, none⟩), .pointer (some ⟨N + 2, 0, none⟩), .pointer (some ⟨Br, 0, none⟩), .int .i64 x.2, .int .i64 a1,
      .bool false, .bool false, .int .i64 a1, .int .i64 a2, .bool false, .bool false, .bool false, .int .i64 a2, .slice A0 l0.length c0, .int .i64 l0.length, .bool false, .bool false, .slice A0 l0.length c0, .int .i64 a1, .int .i64 a2,
      .func (.func 55) #[] #[.pointer (some ⟨N + 4, 0, none⟩), .pointer (some ⟨N + 5, 0, none⟩), .pointer (some ⟨N + 3, 0, none⟩)],
      .agg #[.int .i64 x.1.f0, .int .i64 x.1.f1, .int .u64 x.1.f2, .int .i64 x.1.f3, .int .i64 x.1.f4], .int .i64 x.2, undef, undef, undef, undef, undef, undef, undef, undef, undef], defers := [] }
set_option maxHeartbeats 1000000 in
theorem each_in (n : Nat) (A0 : Option Addr) (m c0 : Nat) (a1 a2 : Int) (w : World) :
    CallsIn Fence.wide n Try.prog 53 #[.slice A0 m c0, .int .i64 a1, .int .i64 a2] w fun e w' => e = .returned (.func (.func 55) #[] #[.pointer (some ⟨w.heap.size + 1, 0, none⟩), .pointer (some ⟨w.heap.size + 2, 0, none⟩), .pointer (some ⟨w.heap.size, 0, none⟩)]) ∧
      w' = ((w.alloc (.cells #[.slice A0 m c0] 22)).alloc (.cells #[.int .i64 a1] 3)).alloc (.cells #[.int .i64 a2] 3) := by
  refine callsIn_of_wp Try.func53 rfl trivial ?_ rfl
  simp only [Try.ntmps53, List.size_toArray, List.length_cons, List.length_nil, Nat.reduceAdd, Nat.reduceSub, Array.replicate_succ, Array.replicate_zero, List.push_toArray, List.append_toArray, List.nil_append, List.cons_append]
  gi_wp2
  go_ret
  exact ⟨rfl, rfl⟩
set_option maxHeartbeats 8000000 in
set_option maxRecDepth 100000 in
theorem record_All.calls (k : Nat) (A0 : Option Addr) (c0 : Nat) (l0 : List Int) (a1 : Int) (a2 : Int) (r1 : List (S53)) (r2 : Int) (w : World) (hr0 : Kd.C (Kd.int .u8) w A0 l0.length l0) (hc0 : l0.length ≤ c0) (h : record_All.f k l0 a1 a2 = some (r1, r2)) :
    Calls Try.prog 41 #[.slice A0 l0.length c0, .int .i64 a1, .int .i64 a2] w fun e w' => ∃ v0_ : Value, e = .returned (.tuple #[v0_, .int .i64 r2]) ∧ Kd.R k53 53 w' w.heap.size (fun _ => True) v0_ r1 ∧ Below w.heap.size w w' := by
  have HR := Aside0.mk hr0
  have HC := Aside0.mk hc0
  clear hr0 hc0
  refine (callsIn_wide (n := 9)).1 ?_
  by_cases hm : 0 ≤ a1 ∧ a1 ≤ a2 ∧ a2 ≤ (l0.length : Int)
  · have e1 : varint_may.f l0 a1 a2 = some true := by
      unfold varint_may.f
      rw [if_pos hm.1, if_pos hm.2.1, decide_eq_true hm.2.2]
    have H : Iter.all k l0 a1 a2 [] = some (r1, r2) := by
      unfold record_All.f at h
      rw [e1] at h
      rw [all_eq]; exact h
    have b1 : decide (a1 < 0) = false := decide_eq_false (by omega)
    have b2 : decide (a2 < a1) = false := decide_eq_false (by omega)
    have b3 : decide ((l0.length : Int) < a2) = false := decide_eq_false (by omega)
    have HA := Aside0.mk H
    clear H h e1 hm
    refine callsIn_of_wp_marks Try.func41 rfl trivial ?_ rfl
    simp only [Try.ntmps41, List.size_toArray, List.length_cons, List.length_nil, Nat.reduceAdd, Nat.reduceSub, Array.replicate_succ, Array.replicate_zero, List.push_toArray, List.append_toArray, List.nil_append, List.cons_append]
    gi_wp2_with (refine ⟨trivial, ?_⟩; gi_at_call 53; refine (each_in _ _ _ _ _ _ _).mono ?_; rintro e w' ⟨rfl, rfl⟩)
    simp only [Nat.add_assoc, Nat.reduceAdd]
    have HB0 : Below w.heap.size w ((((((w.alloc (.cells #[.slice none 0 0] 49)).alloc (.cells #[.int .i64 0] 25)).alloc (.cells #[.slice none 0 0] 49)).alloc (.cells #[.slice A0 l0.length c0] 22)).alloc (.cells #[.int .i64 a1] 3)).alloc (.cells #[.int .i64 a2] 3)) :=
      ((((((Below.refl _ w).alloc (Nat.le_refl _) _).alloc (by simp) _).alloc (by simp; omega) _).alloc (by simp; omega) _).alloc (by simp; omega) _).alloc (by simp; omega) _
    have x0 := Boxed.new w 49 (.slice none 0 0)
    have x1 := Boxed.new (w.alloc (.cells #[.slice none 0 0] 49)) 25 (.int .i64 0)
    have x2 := Boxed.new ((w.alloc (.cells #[.slice none 0 0] 49)).alloc (.cells #[.int .i64 0] 25)) 49 (.slice none 0 0)
    have x3 := Boxed.new (((w.alloc (.cells #[.slice none 0 0] 49)).alloc (.cells #[.int .i64 0] 25)).alloc (.cells #[.slice none 0 0] 49)) 22 (.slice A0 l0.length c0)
    have x4 := Boxed.new ((((w.alloc (.cells #[.slice none 0 0] 49)).alloc (.cells #[.int .i64 0] 25)).alloc (.cells #[.slice none 0 0] 49)).alloc (.cells #[.slice A0 l0.length c0] 22)) 3 (.int .i64 a1)
    have x5 := Boxed.new (((((w.alloc (.cells #[.slice none 0 0] 49)).alloc (.cells #[.int .i64 0] 25)).alloc (.cells #[.slice none 0 0] 49)).alloc (.cells #[.slice A0 l0.length c0] 22)).alloc (.cells #[.int .i64 a1] 3)) 3 (.int .i64 a2)
    simp only [World.size_alloc, Nat.add_assoc, Nat.reduceAdd] at x1 x2 x3 x4 x5
    replace x0 := ((((x0.alloc (.cells #[.int .i64 0] 25)).alloc (.cells #[.slice none 0 0] 49)).alloc (.cells #[.slice A0 l0.length c0] 22)).alloc (.cells #[.int .i64 a1] 3)).alloc (.cells #[.int .i64 a2] 3)
    replace x1 := (((x1.alloc (.cells #[.slice none 0 0] 49)).alloc (.cells #[.slice A0 l0.length c0] 22)).alloc (.cells #[.int .i64 a1] 3)).alloc (.cells #[.int .i64 a2] 3)
    replace x2 := ((x2.alloc (.cells #[.slice A0 l0.length c0] 22)).alloc (.cells #[.int .i64 a1] 3)).alloc (.cells #[.int .i64 a2] 3)
    replace x3 := (x3.alloc (.cells #[.int .i64 a1] 3)).alloc (.cells #[.int .i64 a2] 3)
    replace x4 := x4.alloc (.cells #[.int .i64 a2] 3)
    have hs6 : ((((((w.alloc (.cells #[.slice none 0 0] 49)).alloc (.cells #[.int .i64 0] 25)).alloc (.cells #[.slice none 0 0] 49)).alloc (.cells #[.slice A0 l0.length c0] 22)).alloc (.cells #[.int .i64 a1] 3)).alloc (.cells #[.int .i64 a2] 3)).heap.size = w.heap.size + 6 := by simp
    obtain ⟨W6, hW6⟩ : ∃ W6, (((((w.alloc (.cells #[.slice none 0 0] 49)).alloc (.cells #[.int .i64 0] 25)).alloc (.cells #[.slice none 0 0] 49)).alloc (.cells #[.slice A0 l0.length c0] 22)).alloc (.cells #[.int .i64 a1] 3)).alloc (.cells #[.int .i64 a2] 3) = W6 := ⟨_, rfl⟩
    rw [hW6] at x0 x1 x2 x3 x4 x5 HB0 hs6 ⊢
    clear hW6 b1 b2 b3
    obtain ⟨N, hN⟩ : ∃ N, w.heap.size = N := ⟨_, rfl⟩
    rw [hN] at x0 x1 x2 x3 x4 x5 HB0 hs6
    simp only [hN]
    refine range_steps rfl (by omega) (gf := 55) (lb := #[.pointer (some ⟨N + 4, 0, none⟩), .pointer (some ⟨N + 5, 0, none⟩), .pointer (some ⟨N + 3, 0, none⟩)]) rfl trivial (enters_of Try.func55 (by kernel_rfl) rfl)
      (encs := Iter.encs) (Kp := Kp N (N + 4) (N + 5) (N + 3)) (Stp := Stp N (N + 4)) (good := fun x => x.2 = 0) (S := fun xs => xs.map (·.1) = r1 ∧ r2 = 0) (Sp := fun pre => ∃ ys x, pre = ys ++ [x] ∧ ys.map (·.1) = r1 ∧ x.2 = r2) (N := 3518437208883)
      ?seq ?stp ?kt ?kb (fun _ => rfl)
      (AllI A0 l0 c0 a2 N w) (AllIx N w)
      ?ownI ?ownIx ?stepI ?stepIx ?goodI ?goodIx ?start
      (AllAx A0 l0 c0 a1 a2 N)
      ?ownAx ?assign ?body ?done ?stop
    case seq =>
      subst hN
      exact each1_in k A0 c0 l0 a1 a2 r1 r2 w HR.out HC.out HA.out 8 (by omega) (w.heap.size + 4) (w.heap.size + 5) (w.heap.size + 3) (by omega) (by omega) (by omega) W6 HB0 x4 x5 x3
    case stp => exact fun A B q hst hq hl => hst.keeps q hl (by omega)
    case kt => exact fun h q => ⟨h.below.trans q.below, q.ba.trans h.ba, q.bu.trans h.bu, q.bb.trans h.bb⟩
    case kb => exact fun W l o o' hl ho hc hw => ⟨belowK_b (w := W6) (by omega) W l o o' hl ho hc hw, World.putObj_heap_other (by omega), World.putObj_heap_other (by omega), World.putObj_heap_other (by omega)⟩
    case ownI =>
      rintro pre X Y row ⟨⟨v, y2, hrow⟩, y0, y1, ⟨va, y4⟩, y3, y5, hB, hg⟩ hgr hr
      have ne : ∀ b, b < N + 6 → some b ≠ row := fun b hb e => by have := (hr b e.symm).1; omega
      exact ⟨⟨v, y2.kept hgr (ne _ (by omega)), row_kept hrow hgr fun r e => (hr r e).2⟩, y0.kept hgr (ne _ (by omega)), y1.kept hgr (ne _ (by omega)), ⟨va, y4.kept hgr (ne _ (by omega))⟩, y3.kept hgr (ne _ (by omega)), y5.kept hgr (ne _ (by omega)),
        hB.grown hgr (by have := hB.size; omega) (fun q e => by have := (hr q e).1; omega), hg⟩
    case ownIx =>
      rintro pre X Y row ⟨ys, x, v, va, e, hx, y4, y0, hrow, y1, hB⟩ hgr hr
      have ne : ∀ b, b < N + 6 → some b ≠ row := fun b hb e => by have := (hr b e.symm).1; omega
      exact ⟨ys, x, v, va, e, hx, y4.kept hgr (ne _ (by omega)), y0.kept hgr (ne _ (by omega)), row_kept hrow hgr fun r e => (hr r e).2, y1.kept hgr (ne _ (by omega)), hB.grown hgr (by have := hB.size; omega) (fun q e => by have := (hr q e).1; omega)⟩
    case stepI =>
      rintro pre X Y ⟨⟨v, y2, hrow⟩, y0, y1, ⟨va, y4⟩, y3, y5, hB, hg⟩ hst
      exact ⟨⟨v, boxed_step hst y2 (by omega), row_step hst y4 hrow⟩, boxed_step hst y0 (by omega), boxed_step hst y1 (by omega), hst.box _ y4, boxed_step hst y3 (by omega), boxed_step hst y5 (by omega), hB.trans hst.below, hg⟩
    case stepIx =>
      rintro pre X Y ⟨ys, x, v, va, e, hx, y4, y0, hrow, y1, hB⟩ hst
      obtain ⟨vb, y4'⟩ := hst.box _ y4
      exact ⟨ys, x, v, vb, e, hx, y4', boxed_step hst y0 (by omega), row_step hst y4 hrow, boxed_step hst y1 (by omega), hB.trans hst.below⟩
    case goodI => exact fun pre x W hi => hi.2.2.2.2.2.2.2 x (by simp)
    case goodIx =>
      rintro pre x W ⟨ys, x', v, va, e, hx, _⟩
      have := congrArg List.getLast? e
      simp at this
      subst this; exact hx
    case start => exact ⟨⟨_, x2, World.ownsRow_nil _ _ _ _⟩, x0, x1, ⟨_, x4⟩, x3, x5, HB0, fun x hx => by simp at hx⟩
    case ownAx =>
      rintro x a' _ X Y row ⟨Br, hBr, e⟩ hgr hr
      refine ⟨Br, (hgr.block Br (Array.getElem?_eq_some_iff.1 hBr).1 fun e' => ?_).trans hBr, e⟩
      obtain ⟨_, o, ho, hc⟩ := hr Br e'.symm
      rw [hBr] at ho; cases ho; cases hc
    case assign =>
      rintro l pre ⟨⟨f0, f1, f2, f3, f4⟩, er⟩ W K ⟨⟨v, y2, hrow⟩, y0, y1, ⟨va, y4⟩, y3, y5, hB, hg⟩ hK
      have HK := Aside0.mk hK
      have HI := Aside0.mk (And.intro y2 (And.intro hrow (And.intro y0 (And.intro y1 (And.intro y4 (And.intro y3 (And.intro y5 (And.intro hB hg))))))))
      clear hK y2 hrow y0 y1 y4 y3 y5 hB hg
      dsimp only [Iter.encs]
      gi_wp2
      obtain ⟨y2, hrow, y0, y1, y4, y3, y5, hB, hg⟩ := HI.out
      exact HK.out _ _ ((KeepsOthers.alloc _ _).from _) ⟨(Below.refl N W).alloc (by have := hB.size; omega) _, Below.heap_alloc _ _ _ y4.lt, Below.heap_alloc _ _ _ y5.lt, Below.heap_alloc _ _ _ y3.lt⟩
        ⟨⟨v, y2.alloc _, hrow.alloc _⟩, y0.alloc _, y1.alloc _, ⟨va, y4.alloc _⟩, y3.alloc _, y5.alloc _, hB.alloc (by have := hB.size; omega) _, hg⟩ ⟨W.heap.size, World.alloc_heap_new W _, rfl⟩
    case body =>
      rintro l pre ⟨⟨f0, f1, f2, f3, f4⟩, er⟩ a' W ⟨⟨v, y2, hrow⟩, y0, y1, ⟨va, y4⟩, y3, y5, hB, hg⟩ ⟨Br, hBr, rfl⟩ hlt
      obtain ⟨q0, q1, q2, q3, q4⟩ := cell_at5 hBr
      have hc2 := y2.cell
      by_cases e0 : er = 0
      · have eb : (er != 0) = false := bne_eq_false_iff_eq.mpr e0
        obtain ⟨i0, hi, hz0, hz1, hz2⟩ := info_parts info53
        have hlen := hlt e0
        have HI := Aside0.mk (And.intro hrow (And.intro y0 (And.intro y1 (And.intro y4 (And.intro y3 (And.intro y5 (And.intro hB (And.intro hg (And.intro y2 e0)))))))))
        clear hlt e0 hBr y0 y1 y4 y3 y5 hg
        gi_wp2_with (gi_at_builtin; refine wpListIn_append_own _ rfl _ _ 49 rfl N 53 i0 (.agg #[.int .i64 0, .int .i64 0, .int .u64 0, .int .i64 0, .int .i64 0]) 5 40 Try.underlying49 hi hz0 hz1 hz2 rfl (by decide) _ _ _ rfl (hrow.alloc _) ⟨W.heap.size, 0, none⟩ 1 1 (cells5 ⟨f0, f1, f2, f3, f4⟩) rfl rfl (cell_new5 W ⟨f0, f1, f2, f3, f4⟩) (by simp [cells5, Value.oneCell']) (by unfold maxLen; omega) (by omega) (by have := hB.size; simp; omega) ?_; intro v' w1 hown' hgrow _; obtain ⟨g', cap', rfl⟩ := ownsRow_succ hown'; obtain ⟨hv1, hv2, hr2, hk2, hb2⟩ := y2.appended (by decide) hrow (by have := hB.size; omega) (by omega) hown' hgrow; have hc1 := hv1.cell; have hf1 := hv1.frozen)
        obtain ⟨_, y0, y1, y4, y3, y5, hB, hg, _, e0⟩ := HI.out
        have nb : ∀ (b t : Nat) (u : Value), Boxed W b t u → t ≠ 53 → b ≠ N + 2 → (w1.setCell ⟨N + 2, 0, none⟩ (.slice (some ⟨g', 0, none⟩) (pre.length + 1) cap')).heap[b]? = W.heap[b]? := fun b t u hb ht hne => by
          rw [Below.heap_setCell _ _ _ b hne, hgrow.block b (by have := hb.lt; simp; omega) (hb.not_row ht hrow)]
          exact Below.heap_alloc _ _ _ hb.lt
        refine ⟨hk2.from _, ⟨hb2, nb _ _ _ y4 (by decide) (by omega), nb _ _ _ y5 (by decide) (by omega), nb _ _ _ y3 (by decide) (by omega)⟩, ⟨_, hv2, ?_⟩, (nb _ _ _ y0 (by decide) (by omega)).trans y0, (nb _ _ _ y1 (by decide) (by omega)).trans y1, ⟨_, (nb _ _ _ y4 (by decide) (by omega)).trans y4⟩, (nb _ _ _ y3 (by decide) (by omega)).trans y3, (nb _ _ _ y5 (by decide) (by omega)).trans y5, hB.trans hb2, fun x hx => ?_⟩
        · rw [List.length_append, List.map_append, List.flatMap_append]
          simpa using hr2
        · rcases List.mem_append.mp hx with hx | hx
          · exact hg x hx
          · rw [List.mem_singleton.mp hx]; exact e0
      · have eb : (er != 0) = true := bne_iff_ne.mpr e0
        have c0' := y0.cell
        have c1' := y1.cell
        have f0' := y0.frozen
        have f1' := y1.frozen
        have HI := Aside0.mk (And.intro hrow (And.intro y0 (And.intro y1 (And.intro y4 (And.intro y2 (And.intro hB e0))))))
        clear hlt e0 hBr y0 y1 y4 y3 y5 hg y2 hB
        obtain ⟨A8, m8, c8, rfl⟩ := row_slice hrow
        clear hrow
        gi_wp2
        obtain ⟨hrow, y0, y1, y4, y2, hB, e0⟩ := HI.out
        have r1' := hrow.kept (grownBy_setCell' W N (.slice A8 m8 c8)) (.inr (y0.not_row (by decide) hrow).symm)
        have y1' := y1.other (B' := N) (by omega) (.slice A8 m8 c8)
        have y0' := (y0.set (.slice A8 m8 c8)).other (B' := N + 1) (by omega) (.int .i64 er)
        exact ⟨((KeepsOthers.setCell _ _ _).trans (KeepsOthers.setCell _ _ _)).from _, pre, _, _, va, rfl, e0, (y4.other (by omega) _).other (by omega) _, y0', r1'.kept (grownBy_setCell' _ (N + 1) _) (.inr (y1'.not_row (by decide) r1').symm), y1'.set _,
          (hB.setCell (p := ⟨N, 0, none⟩) (Nat.le_refl _) _).setCell (p := ⟨N + 1, 0, none⟩) (by simp) _⟩
    case done =>
      rintro D xs W hD ⟨rfl, rfl⟩ ⟨⟨v, y2, hrow⟩, y0, y1, _, _, _, hB, _⟩ hK
      have c2' := y2.cell
      have c0' := y0.cell
      have c1' := y1.cell
      have f0' := y0.frozen
      have f1' := y1.frozen
      obtain ⟨A8, m8, c8, rfl⟩ := row_slice hrow
      have HI := Aside0.mk (And.intro hrow (And.intro y0 (And.intro y1 (And.intro y2 (And.intro hB (And.intro hK hD))))))
      clear hrow y0 y1 y2 hB hK hD
      gi_wp2
      obtain ⟨hrow, y0, y1, y2, hB, hK, hD⟩ := HI.out
      have r1' := hrow.kept (grownBy_setCell' W N (.slice A8 m8 c8)) (.inr (y0.not_row (by decide) hrow).symm)
      have y1' := y1.other (B' := N) (by omega) (.slice A8 m8 c8)
      have y0' := (y0.set (.slice A8 m8 c8)).other (B' := N + 1) (by omega) (.int .i64 0)
      have r2' := r1'.kept (grownBy_setCell' _ (N + 1) (.int .i64 0)) (.inr (y1'.not_row (by decide) r1').symm)
      have hK2 := ((KeepsOthers.setCell W ⟨N, 0, none⟩ (.slice A8 m8 c8)).trans (KeepsOthers.setCell _ ⟨N + 1, 0, none⟩ (.int .i64 0))).same D _ hK rfl
      have hB2 := (hB.setCell (p := ⟨N, 0, none⟩) (Nat.le_refl _) (.slice A8 m8 c8)).setCell (p := ⟨N + 1, 0, none⟩) (by simp) (.int .i64 0)
      refine ⟨by simp, .inl ⟨_, _, rfl, run_takeDeferred hK2, ?_⟩⟩
      have z0 := (y0'.kept (grownBy_putObj' _ D (.deferred none)) (by intro e; cases e; omega)).cell
      have z1 := ((y1'.set (.int .i64 0)).kept (grownBy_putObj' _ D (.deferred none)) (by intro e; cases e; omega)).cell
      refine ⟨.tuple #[.slice A8 m8 c8, .int .i64 0], ?_, .slice A8 m8 c8, rfl, ?_, ?_⟩
      · simp [results, Try.f41, go_sem, z0, z1]
      · rw [hN]
        exact row_R (by rw [List.length_map]; exact ownsRow_putObj r2' _ hK2 rfl)
      · rw [hN]
        exact hB2.grown (grownBy_putObj' _ D _) (by have := hB2.size; omega) (fun q e => by cases e; omega)
    case stop =>
      rintro D pre W hD ⟨ys, x, rfl, rfl, rfl⟩ ⟨ys', x', v, va, e, hx, y4, y0, hrow, y1, hB⟩ hK
      have c0' := y0.cell
      have c1' := y1.cell
      obtain ⟨A8, m8, c8, rfl⟩ := row_slice hrow
      have HI := Aside0.mk (And.intro hrow (And.intro y0 (And.intro y1 (And.intro hB (And.intro hK hD)))))
      clear hrow y0 y1 hB hK hD
      gi_wp2
      obtain ⟨hrow, y0, y1, hB, hK, hD⟩ := HI.out
      have hxx : ys = ys' ∧ x = x' := by
        have h1 := List.append_inj' e rfl
        exact ⟨h1.1, by simpa using h1.2⟩
      obtain ⟨rfl, rfl⟩ := hxx
      refine ⟨by simp, .inl ⟨_, _, rfl, run_takeDeferred hK, ?_⟩⟩
      have z0 := (y0.kept (grownBy_putObj' _ D (.deferred none)) (by intro e; cases e; omega)).cell
      have z1 := (y1.kept (grownBy_putObj' _ D (.deferred none)) (by intro e; cases e; omega)).cell
      refine ⟨.tuple #[.slice A8 m8 c8, .int .i64 x.2], ?_, .slice A8 m8 c8, rfl, ?_, ?_⟩
      · simp [results, Try.f41, go_sem, z0, z1]
      · rw [hN]
        exact row_R (by rw [List.length_map]; exact ownsRow_putObj hrow _ hK rfl)
      · rw [hN]
        exact hB.grown (grownBy_putObj' _ D _) (by have := hB.size; omega) (fun q e => by cases e; omega)
  · have e1 : varint_may.f l0 a1 a2 = some false := by
      unfold varint_may.f
      by_cases c1 : a1 ≥ 0
      · rw [if_pos c1]
        by_cases c2 : a1 ≤ a2
        · rw [if_pos c2, decide_eq_false (by omega)]
        · rw [if_neg c2]
      · rw [if_neg c1]
    have hr : r1 = [] ∧ r2 = 1 := by
      unfold record_All.f at h
      rw [e1] at h
      have h2 : some (([] : List S53), (1 : Int)) = some (r1, r2) := h
      simp only [Option.some.injEq, Prod.mk.injEq] at h2
      exact ⟨h2.1.symm, h2.2.symm⟩
    obtain ⟨rfl, rfl⟩ := hr
    clear h e1
    have fin : ∀ W : World, Boxed W w.heap.size 49 (.slice none 0 0) → Boxed W (w.heap.size + 1) 25 (.int .i64 1) → Below w.heap.size w W → ∀ tmps : Array Value, tmps.getD 6 undef = .pointer (some ⟨w.heap.size, 0, none⟩) → tmps.getD 7 undef = .pointer (some ⟨w.heap.size + 1, 0, none⟩) →
        bodyPost Try.prog Try.f41 (fun e w' => ∃ v0_ : Value, e = .returned (.tuple #[v0_, .int .i64 1]) ∧ Kd.R k53 53 w' w.heap.size (fun _ => True) v0_ [] ∧ Below w.heap.size w w') .ret { tmps := tmps, defers := [] } W := by
      intro W y0 y1 hB tmps h6 h7
      have z0 := y0.cell
      have z1 := y1.cell
      have h6' : tmps[6]?.getD undef = .pointer (some ⟨w.heap.size, 0, none⟩) := by simpa using h6
      have h7' : tmps[7]?.getD undef = .pointer (some ⟨w.heap.size + 1, 0, none⟩) := by simpa using h7
      exact bodyPost_ret (v := .tuple #[.slice none 0 0, .int .i64 1]) (by simp [results, Try.f41, go_sem, z0, z1, h6', h7']) rfl ⟨_, rfl, Kd.R_nil _ _ _ _ _, hB⟩
    have x0 := (Boxed.new w 49 (.slice none 0 0)).alloc (.cells #[.int .i64 1] 25)
    have x1 := Boxed.new (w.alloc (.cells #[.slice none 0 0] 49)) 25 (.int .i64 1)
    rw [World.size_alloc] at x1
    have FIN := Aside0.mk (fin _ x0 x1 (((Below.refl _ w).alloc (Nat.le_refl _) _).alloc (by simp) _))
    clear fin x0 x1
    refine callsIn_wide.2 ?_
    by_cases c1 : a1 < 0
    · have b1 : decide (a1 < 0) = true := decide_eq_true c1
      clear c1 hm
      go_enter Try.func41, Try.ntmps41
      go_wp2
      exact FIN.out _ rfl rfl
    · have b1 : decide (a1 < 0) = false := decide_eq_false c1
      by_cases c2 : a2 < a1
      · have b2 : decide (a2 < a1) = true := decide_eq_true c2
        clear c1 c2 hm
        go_enter Try.func41, Try.ntmps41
        go_wp2
        exact FIN.out _ rfl rfl
      · have b2 : decide (a2 < a1) = false := decide_eq_false c2
        have b3 : decide ((l0.length : Int) < a2) = true := decide_eq_true (by omega)
        clear c1 c2 hm
        go_enter Try.func41, Try.ntmps41
        go_wp2
        exact FIN.out _ rfl rfl
end record_All_by_hand

end Go.Proofs.Ytokbcenkgdpepaa.M
