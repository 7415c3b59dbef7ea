-- Written by wip/print18.py (this session's program, over the kit's print.py), for this seat's laws.
import Derived.Test.YtokbcenkgdpepaaMx0
import Derived.Test.YtokbcenkgdpepaaMx18
import Derived.Test.YtokbcenkgdpepaaMx19
import Derived.Test.YtokbcenkgdpepaaMx25
namespace Go.Proofs.Ytokbcenkgdpepaa.M
open Go.RowKit Go.Proofs.YtokbcenkgdpepaaW.PrintWords Go.Proofs.YtokbcenkgdpepaaW.PrintLast Go.Proofs.YtokbcenkgdpepaaW.PrintMore
attribute [local go_sem] max2_int min2_int max_two min_two max_three min_three max_four min_four   -- for this text's walks alone
set_option linter.unusedVariables false
set_option linter.unusedSimpArgs false

/-! ### truffleref05_Next: function 45 -/
def truffleref05_Next.j0 : Nat → Int → Int → Int → Int → Int → Int → Int → Option (Int × Int × Int × Int × Int × Int × Int)
  | 0, _, _, _, _, _, _, _ => none
  | k + 1, x2, x9, x10, x11, x13, x14, x15 => if x15 = 0 then (if x10 = 2 then (if x13 > 1000000000000 then (some (0, 0, 0, 0, 0, 0, 6)) else (if (wrap64 (x13)) > (wrap64 (x2 - x14)) then (some (0, 0, 0, 0, 0, 0, 6)) else (some (x9, x10, x13, x14, wrap64 (x14 + (wrap64 (x13))), wrap64 (x14 + (wrap64 (x13))), 0)))) else (some (x9, x10, x13, x11, x14, x14, 0))) else (some (0, 0, 0, 0, 0, 0, x15))
def truffleref05_Next.f (k : Nat) (l0 : List Int) (a1 : Int) (a2 : Int) : Option (Int × Int × Int × Int × Int × Int × Int) := (truffleref03_Get.f k l0 a1 a2).bind fun bt530 => (if bt530.2.2.2 = 0 then (if bt530.2.1 = 1 then ((truffleref01_Unfix.f k l0 bt530.2.2.1 a2 8).bind fun bt534 => (truffleref05_Next.j0 k a2 bt530.1 bt530.2.1 bt530.2.2.1 bt534.1 bt534.2.1 bt534.2.2)) else (if bt530.2.1 = 5 then ((truffleref01_Unfix.f k l0 bt530.2.2.1 a2 4).bind fun bt537 => (truffleref05_Next.j0 k a2 bt530.1 bt530.2.1 bt530.2.2.1 bt537.1 bt537.2.1 bt537.2.2)) else ((truffleref01_Get.f k l0 bt530.2.2.1 a2).bind fun bt540 => (truffleref05_Next.j0 k a2 bt530.1 bt530.2.1 bt530.2.2.1 bt540.1 bt540.2.1 bt540.2.2)))) else (some (0, 0, 0, 0, 0, 0, bt530.2.2.2)))
theorem truffleref05_Next.mono_l : ∀ k, (∀ y0 y1 y2 y3 y4 y5 y6, LeO (truffleref05_Next.j0 k y0 y1 y2 y3 y4 y5 y6) (truffleref05_Next.j0 (k + 1) y0 y1 y2 y3 y4 y5 y6))
  | 0 => fun _ _ _ _ _ _ _ r h => by simp [truffleref05_Next.j0] at h
  | k + 1 => by
    have ih0 := truffleref05_Next.mono_l k
    · intro y0 y1 y2 y3 y4 y5 y6
      unfold truffleref05_Next.j0
      repeat' first
      | (with_reducible exact ih0 _ _ _ _ _ _ _)
      | (with_reducible exact truffleref01_Get.mono _ _ _ _)
      | (with_reducible exact truffleref01_Unfix.mono _ _ _ _ _)
      | (with_reducible exact truffleref03_Get.mono _ _ _ _)
      | (with_reducible exact LeO.refl _)
      | (with_reducible exact LeO.none _)
      | (with_reducible refine LeO.ite ?_ ?_)
      | (with_reducible refine LeO.bind ?_ (fun _ => ?_))
      | exact ih0 _ _ _ _ _ _ _
      | exact truffleref01_Get.mono _ _ _ _
      | exact truffleref01_Unfix.mono _ _ _ _ _
      | exact truffleref03_Get.mono _ _ _ _
      | exact LeO.none _
      | refine LeO.ite ?_ ?_
      | refine LeO.bind ?_ (fun _ => ?_)
theorem truffleref05_Next.mono : ∀ a0 a1 a2 k, LeO (truffleref05_Next.f k a0 a1 a2) (truffleref05_Next.f (k + 1) a0 a1 a2) := by
  intro a0 a1 a2 k
  have ih0 := truffleref05_Next.mono_l k
  unfold truffleref05_Next.f
  repeat' first
      | (with_reducible exact ih0 _ _ _ _ _ _ _)
      | (with_reducible exact truffleref01_Get.mono _ _ _ _)
      | (with_reducible exact truffleref01_Unfix.mono _ _ _ _ _)
      | (with_reducible exact truffleref03_Get.mono _ _ _ _)
      | (with_reducible exact LeO.refl _)
      | (with_reducible exact LeO.none _)
      | (with_reducible refine LeO.ite ?_ ?_)
      | (with_reducible refine LeO.bind ?_ (fun _ => ?_))
      | exact ih0 _ _ _ _ _ _ _
      | exact truffleref01_Get.mono _ _ _ _
      | exact truffleref01_Unfix.mono _ _ _ _ _
      | exact truffleref03_Get.mono _ _ _ _
      | exact LeO.none _
      | refine LeO.ite ?_ ?_
      | refine LeO.bind ?_ (fun _ => ?_)
set_option maxHeartbeats 8000000 in
set_option maxRecDepth 100000 in
theorem truffleref05_Next.calls (k : Nat) (A0 : Option Addr) (c0 : Nat) (l0 : List Int) (a1 : Int) (a2 : Int) (r1 : Int) (r2 : Int) (r3 : Int) (r4 : Int) (r5 : Int) (r6 : Int) (r7 : Int) (w : World) (hr0 : Kd.C (Kd.int .u8) w A0 l0.length l0) (hc0 : l0.length ≤ c0) (h : truffleref05_Next.f k l0 a1 a2 = some (r1, r2, r3, r4, r5, r6, r7)) :
    Calls Try.prog 45 #[.slice A0 l0.length c0, .int .i64 a1, .int .i64 a2] w fun e w' => e = .returned (.tuple #[.agg #[.int .i64 r1, .int .i64 r2, .int .u64 r3, .int .i64 r4, .int .i64 r5], .int .i64 r6, .int .i64 r7]) ∧ Below w.heap.size w w' := by
  have hu53 := Try.underlying53
  have HR0 := Aside0.mk hr0
  have HC0 := Aside0.mk hc0
  clear hr0 hc0
  have HB := Aside0.mk (Below.refl w.heap.size w)
  have H : ((truffleref03_Get.f k l0 a1 a2).bind fun bt530 => (if bt530.2.2.2 = 0 then (if bt530.2.1 = 1 then ((truffleref01_Unfix.f k l0 bt530.2.2.1 a2 8).bind fun bt534 => (truffleref05_Next.j0 k a2 bt530.1 bt530.2.1 bt530.2.2.1 bt534.1 bt534.2.1 bt534.2.2)) else (if bt530.2.1 = 5 then ((truffleref01_Unfix.f k l0 bt530.2.2.1 a2 4).bind fun bt537 => (truffleref05_Next.j0 k a2 bt530.1 bt530.2.1 bt530.2.2.1 bt537.1 bt537.2.1 bt537.2.2)) else ((truffleref01_Get.f k l0 bt530.2.2.1 a2).bind fun bt540 => (truffleref05_Next.j0 k a2 bt530.1 bt530.2.1 bt530.2.2.1 bt540.1 bt540.2.1 bt540.2.2)))) else (some (0, 0, 0, 0, 0, 0, bt530.2.2.2)))) = some (r1, r2, r3, r4, r5, r6, r7) := h
  clear h
  replace H := Option.bind_eq_some_iff.mp H
  obtain ⟨⟨t530, t531, t532, t533⟩, A40, H⟩ := H
  replace H : (if t533 = 0 then (if t531 = 1 then ((truffleref01_Unfix.f k l0 t532 a2 8).bind fun bt534 => (truffleref05_Next.j0 k a2 t530 t531 t532 bt534.1 bt534.2.1 bt534.2.2)) else (if t531 = 5 then ((truffleref01_Unfix.f k l0 t532 a2 4).bind fun bt537 => (truffleref05_Next.j0 k a2 t530 t531 t532 bt537.1 bt537.2.1 bt537.2.2)) else ((truffleref01_Get.f k l0 t532 a2).bind fun bt540 => (truffleref05_Next.j0 k a2 t530 t531 t532 bt540.1 bt540.2.1 bt540.2.2)))) else (some (0, 0, 0, 0, 0, 0, t533))) = some (r1, r2, r3, r4, r5, r6, r7) := H
  have A4 := Aside0.mk A40
  clear A40
  by_cases c5 : t533 = 0
  · rw [if_pos c5] at H
    have c5b0 : (t533 == 0) = true := beq_iff_eq.mpr c5
    have c5b1 : (t533 != 0) = false := bne_eq_false_iff_eq.mpr c5
    clear c5
    have HC6 := Aside0.mk H
    clear H
    go_enter Try.func45, Try.ntmps45
    go_upto_block 0 with (first | ((with_reducible refine gate_dst (N := 6) rfl ?_); refine box_event ?hg (N := 6) ?hd (cs := #[.int .i64 0, .int .i64 0, .int .u64 0, .int .i64 0, .int .i64 0]) (t := 53) ?hr ?_; (case hd => rfl); (case hg => rfl); (case hr => first | (go_simp; done) | (go_simp; rfl)); intro gb529 hg w7 hbox hb; have n0_ := Aside0.mk (below_step (by repeat (first | (with_reducible first | exact HB.out | apply below_alloc | apply pw_below_drewN | apply below_drew1) | exact HB.out)) hb); have n1_ := Aside0.mk (hbox); have n2_ := Aside0.mk ((by rw [hg]; exact (below_size (by repeat (first | (with_reducible first | exact HB.out | apply below_alloc | apply pw_below_drewN | apply below_drew1) | exact HB.out))) : w.heap.size ≤ gb529)); have n3_ := Aside0.mk ((by rw [hg]; exact (below_size (by repeat (first | (with_reducible first | exact HB.out | apply below_alloc | apply pw_below_drewN | apply below_drew1) | exact HB.out))) : w.heap.size ≤ gb529)); clear HB; have HB := n0_; have BK529 := n1_; have GW529 := n2_; have GE529 := n3_; clear n0_ n1_ n2_ n3_; clear hb hbox hg) | ((with_reducible refine gate_callee (f := 32) rfl ?_); refine goesL_ (some 21) rfl rfl Try.func32 (by kernel_rfl) rfl #[.slice A0 l0.length c0, .int .i64 a1, .int .i64 a2] rfl (by (try simp only [List.map_toArray, List.map_cons, List.map_nil]); first | done | rfl | (simp only [List.length_drop, List.length_take]; rfl)) ?_; (with_reducible refine (truffleref03_Get.calls k _ _ l0 a1 a2 t530 t531 t532 t533 _ ?side1 ?side2 A4.out).mono ?_); (case side1 => repeat (first | exact (Kd.C_below HR0.out HB.out) | (with_reducible refine Kd.C_alloc ?_ _) | (with_reducible refine Kd.C_drewN ?_ _) | (with_reducible refine Kd.C_drew ?_))); (case side2 => exact HC0.out); rintro e w' ⟨rfl, ⟨nd, rfl⟩⟩; refine ⟨_, rfl, ?_⟩))
    (try simp only [Act.put, List.setIfInBounds_toArray, List.set_cons_zero, List.set_cons_succ])
    go_cut [13, 14, 15] (fun v13 v14 v15 wc => ∃ (kq : Nat) (x13_5 : Int) (x14_5 : Int) (x15_5 : Int), v13 = .int .u64 x13_5 ∧ v14 = .int .i64 x14_5 ∧ v15 = .int .i64 x15_5 ∧ Aside0 (truffleref05_Next.j0 kq a2 t530 t531 t532 x13_5 x14_5 x15_5 = some (r1, r2, r3, r4, r5, r6, r7)) ∧ Aside0 (kq ≤ k) ∧ Aside0 (wc.heap[gb529]? = some (.cells #[.int .i64 0, .int .i64 0, .int .u64 0, .int .i64 0, .int .i64 0] 53 (0, 0))) ∧ Aside0 (Below w.heap.size w wc))
    case first =>
      have H := HC6.out
      clear HC6
      by_cases c8 : t531 = 1
      · rw [if_pos c8] at H
        have c8b0 : (t531 == 1) = true := beq_iff_eq.mpr c8
        have c8b1 : (t531 != 1) = false := bne_eq_false_iff_eq.mpr c8
        clear c8
        (first | rw [c8b0] | (simp only [i64_w, i32_w]; rw [c8b0]) | skip)
        replace H := Option.bind_eq_some_iff.mp H
        obtain ⟨⟨t534, t535, t536⟩, A90, H⟩ := H
        replace H : (truffleref05_Next.j0 k a2 t530 t531 t532 t534 t535 t536) = some (r1, r2, r3, r4, r5, r6, r7) := H
        have A9 := Aside0.mk A90
        clear A90
        have H' := Aside0.mk H
        clear H
        go_wp2_with (first | ((with_reducible refine gate_callee (f := 37) rfl ?_); refine goesL_ (some 45) rfl rfl Try.func37 (by kernel_rfl) rfl #[.slice A0 l0.length c0, .int .i64 t532, .int .i64 a2, .int .i64 8] rfl (by (try simp only [List.map_toArray, List.map_cons, List.map_nil]); first | done | rfl | (simp only [List.length_drop, List.length_take]; rfl)) ?_; (with_reducible refine (truffleref01_Unfix.calls k _ _ l0 t532 a2 8 t534 t535 t536 _ ?side1 ?side2 A9.out).mono ?_); (case side1 => repeat (first | exact (Kd.C_below HR0.out HB.out) | (with_reducible refine Kd.C_alloc ?_ _) | (with_reducible refine Kd.C_drewN ?_ _) | (with_reducible refine Kd.C_drew ?_))); (case side2 => exact HC0.out); rintro e w' ⟨rfl, ⟨nd, rfl⟩⟩; refine ⟨_, rfl, ?_⟩))
        go_meet
        case rel => exact ⟨_, (t534), (t535), (t536), (by first | rfl | (simp; done) | (simp [*]; done)), (by first | rfl | (simp; done) | (simp [*]; done)), (by first | rfl | (simp; done) | (simp [*]; done)), H', ⟨by first | omega | exact Nat.le_refl _⟩, ⟨by (with_reducible repeat (first | refine blk_drewN ?_ _ | refine blk_drew ?_ | refine blk_alloc ?_ _)); exact BK529.out⟩, ⟨by repeat (first | (with_reducible first | exact HB.out | apply below_alloc | apply pw_below_drewN | apply below_drew1 | refine below_set ?_ GE529.out) | exact HB.out)⟩⟩
      · rw [if_neg c8] at H
        have c8b0 : (t531 == 1) = false := beq_eq_false_iff_ne.mpr c8
        have c8b1 : (t531 != 1) = true := bne_iff_ne.mpr c8
        (first | rw [c8b0] | (simp only [i64_w, i32_w]; rw [c8b0]) | skip)
        by_cases c10 : t531 = 5
        · rw [if_pos c10] at H
          have c10b0 : (t531 == 5) = true := beq_iff_eq.mpr c10
          have c10b1 : (t531 != 5) = false := bne_eq_false_iff_eq.mpr c10
          clear c10
          replace H := Option.bind_eq_some_iff.mp H
          obtain ⟨⟨t537, t538, t539⟩, A110, H⟩ := H
          replace H : (truffleref05_Next.j0 k a2 t530 t531 t532 t537 t538 t539) = some (r1, r2, r3, r4, r5, r6, r7) := H
          have A11 := Aside0.mk A110
          clear A110
          have H' := Aside0.mk H
          clear H
          go_wp2_with (first | ((with_reducible refine gate_callee (f := 37) rfl ?_); refine goesL_ (some 55) rfl rfl Try.func37 (by kernel_rfl) rfl #[.slice A0 l0.length c0, .int .i64 t532, .int .i64 a2, .int .i64 4] rfl (by (try simp only [List.map_toArray, List.map_cons, List.map_nil]); first | done | rfl | (simp only [List.length_drop, List.length_take]; rfl)) ?_; (with_reducible refine (truffleref01_Unfix.calls k _ _ l0 t532 a2 4 t537 t538 t539 _ ?side1 ?side2 A11.out).mono ?_); (case side1 => repeat (first | exact (Kd.C_below HR0.out HB.out) | (with_reducible refine Kd.C_alloc ?_ _) | (with_reducible refine Kd.C_drewN ?_ _) | (with_reducible refine Kd.C_drew ?_))); (case side2 => exact HC0.out); rintro e w' ⟨rfl, ⟨nd, rfl⟩⟩; refine ⟨_, rfl, ?_⟩))
          go_meet
          case rel => exact ⟨_, (t537), (t538), (t539), (by first | rfl | (simp; done) | (simp [*]; done)), (by first | rfl | (simp; done) | (simp [*]; done)), (by first | rfl | (simp; done) | (simp [*]; done)), H', ⟨by first | omega | exact Nat.le_refl _⟩, ⟨by (with_reducible repeat (first | refine blk_drewN ?_ _ | refine blk_drew ?_ | refine blk_alloc ?_ _)); exact BK529.out⟩, ⟨by repeat (first | (with_reducible first | exact HB.out | apply below_alloc | apply pw_below_drewN | apply below_drew1 | refine below_set ?_ GE529.out) | exact HB.out)⟩⟩
        · rw [if_neg c10] at H
          have c10b0 : (t531 == 5) = false := beq_eq_false_iff_ne.mpr c10
          have c10b1 : (t531 != 5) = true := bne_iff_ne.mpr c10
          replace H := Option.bind_eq_some_iff.mp H
          obtain ⟨⟨t540, t541, t542⟩, A120, H⟩ := H
          replace H : (truffleref05_Next.j0 k a2 t530 t531 t532 t540 t541 t542) = some (r1, r2, r3, r4, r5, r6, r7) := H
          have A12 := Aside0.mk A120
          clear A120
          have H' := Aside0.mk H
          clear H
          go_wp2_with (first | ((with_reducible refine gate_callee (f := 35) rfl ?_); refine goesL_ (some 35) rfl rfl Try.func35 (by kernel_rfl) rfl #[.slice A0 l0.length c0, .int .i64 t532, .int .i64 a2] rfl (by (try simp only [List.map_toArray, List.map_cons, List.map_nil]); first | done | rfl | (simp only [List.length_drop, List.length_take]; rfl)) ?_; (with_reducible refine (truffleref01_Get.calls k _ _ l0 t532 a2 t540 t541 t542 _ ?side1 ?side2 A12.out).mono ?_); (case side1 => repeat (first | exact (Kd.C_below HR0.out HB.out) | (with_reducible refine Kd.C_alloc ?_ _) | (with_reducible refine Kd.C_drewN ?_ _) | (with_reducible refine Kd.C_drew ?_))); (case side2 => exact HC0.out); rintro e w' ⟨rfl, ⟨nd, rfl⟩⟩; refine ⟨_, rfl, ?_⟩))
          go_meet
          case rel => exact ⟨_, (t540), (t541), (t542), (by first | rfl | (simp; done) | (simp [*]; done)), (by first | rfl | (simp; done) | (simp [*]; done)), (by first | rfl | (simp; done) | (simp [*]; done)), H', ⟨by first | omega | exact Nat.le_refl _⟩, ⟨by (with_reducible repeat (first | refine blk_drewN ?_ _ | refine blk_drew ?_ | refine blk_alloc ?_ _)); exact BK529.out⟩, ⟨by repeat (first | (with_reducible first | exact HB.out | apply below_alloc | apply pw_below_drewN | apply below_drew1 | refine below_set ?_ GE529.out) | exact HB.out)⟩⟩
    case rest =>
      clear HC6
      try clear c1
      try clear p2
      try clear c3
      try clear c4
      try clear c5
      try clear c5b0
      try clear c5b1
      try clear c8
      try clear c8b0
      try clear c8b1
      try clear c10
      try clear c10b0
      try clear c10b1
      obtain ⟨kq, x13_5, x14_5, x15_5, rfl, rfl, rfl, HA, HJ5, BK529, HB⟩ := hcut
      cases kq with
      | zero => exact absurd HA.out (by simp [truffleref05_Next.j0])
      | succ kj5 =>
        have H := HA.out
        clear HA
        simp only [truffleref05_Next.j0] at H
        by_cases c13 : x15_5 = 0
        · rw [if_pos c13] at H
          have c13b0 : (x15_5 == 0) = true := beq_iff_eq.mpr c13
          have c13b1 : (x15_5 != 0) = false := bne_eq_false_iff_eq.mpr c13
          clear c13
          by_cases c14 : t531 = 2
          · rw [if_pos c14] at H
            have c14b0 : (t531 == 2) = true := beq_iff_eq.mpr c14
            have c14b1 : (t531 != 2) = false := bne_eq_false_iff_eq.mpr c14
            clear c14
            by_cases c15 : x13_5 > 1000000000000
            · rw [if_pos c15] at H
              have c15b0 : decide (1000000000000 < x13_5) = true := decide_eq_true c15
              clear c15
              simp only [Option.some.injEq, Prod.mk.injEq] at H
              obtain ⟨rfl, rfl, rfl, rfl, rfl, rfl, rfl⟩ := H
              go_wp2_with (first | ((with_reducible refine gate_dst (N := 16) rfl ?_); refine box_event ?hg (N := 16) ?hd (cs := #[.int .i64 0, .int .i64 0, .int .u64 0, .int .i64 0, .int .i64 0]) (t := 53) ?hr ?_; (case hd => rfl); (case hg => rfl); (case hr => first | (go_simp; done) | (go_simp; rfl)); intro gb543 hg w16 hbox hb; have n0_ := Aside0.mk (blk_below (g := gb529) (o := .cells #[.int .i64 0, .int .i64 0, .int .u64 0, .int .i64 0, .int .i64 0] 53 (0, 0)) (by (with_reducible repeat (first | refine blk_drewN ?_ _ | refine blk_drew ?_ | refine blk_alloc ?_ _)); exact BK529.out) hb); have n1_ := Aside0.mk (below_step (by repeat (first | (with_reducible first | exact HB.out | apply below_alloc | apply pw_below_drewN | apply below_drew1 | refine below_set ?_ GE529.out) | exact HB.out)) hb); have n2_ := Aside0.mk (hbox); have n3_ := Aside0.mk ((by rw [hg]; exact (below_size (by repeat (first | (with_reducible first | exact HB.out | apply below_alloc | apply pw_below_drewN | apply below_drew1 | refine below_set ?_ GE529.out) | exact HB.out))) : w.heap.size ≤ gb543)); have n4_ := Aside0.mk ((by rw [hg]; exact (below_size (by repeat (first | (with_reducible first | exact HB.out | apply below_alloc | apply pw_below_drewN | apply below_drew1 | refine below_set ?_ GE529.out) | exact HB.out))) : w.heap.size ≤ gb543)); have n5_ := Aside0.mk ((by rw [hg]; exact Nat.ne_of_lt (blk_lt (g := gb529) (o := .cells #[.int .i64 0, .int .i64 0, .int .u64 0, .int .i64 0, .int .i64 0] 53 (0, 0)) (by (with_reducible repeat (first | refine blk_drewN ?_ _ | refine blk_drew ?_ | refine blk_alloc ?_ _)); exact BK529.out)) : gb529 ≠ gb543)); have n6_ := Aside0.mk ((by rw [hg]; exact Nat.ne_of_gt (blk_lt (g := gb529) (o := .cells #[.int .i64 0, .int .i64 0, .int .u64 0, .int .i64 0, .int .i64 0] 53 (0, 0)) (by (with_reducible repeat (first | refine blk_drewN ?_ _ | refine blk_drew ?_ | refine blk_alloc ?_ _)); exact BK529.out)) : gb543 ≠ gb529)); clear BK529; clear HB; have BK529 := n0_; have HB := n1_; have BK543 := n2_; have GW543 := n3_; have GE543 := n4_; have NB529_543 := n5_; have NB543_529 := n6_; clear n0_ n1_ n2_ n3_ n4_ n5_ n6_; clear hb hbox hg; have hnb17 := NB543_529.out; have hnc17 := NB529_543.out; have hcz18_0 : w16.cell? ⟨gb543, 0, none⟩ = some (.int .i64 0) := (blk_cell BK543.out 0).trans rfl; have hcz18_1 : w16.cell? ⟨gb543, 1, none⟩ = some (.int .i64 0) := (blk_cell BK543.out 1).trans rfl; have hcz18_2 : w16.cell? ⟨gb543, 2, none⟩ = some (.int .u64 0) := (blk_cell BK543.out 2).trans rfl; have hcz18_3 : w16.cell? ⟨gb543, 3, none⟩ = some (.int .i64 0) := (blk_cell BK543.out 3).trans rfl; have hcz18_4 : w16.cell? ⟨gb543, 4, none⟩ = some (.int .i64 0) := (blk_cell BK543.out 4).trans rfl; have hfz18_0 := blk_frozen BK543.out 0; have hfz18_1 := blk_frozen BK543.out 1; have hfz18_2 := blk_frozen BK543.out 2; have hfz18_3 := blk_frozen BK543.out 3; have hfz18_4 := blk_frozen BK543.out 4; have hcz19_0 : w16.cell? ⟨gb529, 0, none⟩ = some (.int .i64 0) := (blk_cell BK529.out 0).trans rfl; have hcz19_1 : w16.cell? ⟨gb529, 1, none⟩ = some (.int .i64 0) := (blk_cell BK529.out 1).trans rfl; have hcz19_2 : w16.cell? ⟨gb529, 2, none⟩ = some (.int .u64 0) := (blk_cell BK529.out 2).trans rfl; have hcz19_3 : w16.cell? ⟨gb529, 3, none⟩ = some (.int .i64 0) := (blk_cell BK529.out 3).trans rfl; have hcz19_4 : w16.cell? ⟨gb529, 4, none⟩ = some (.int .i64 0) := (blk_cell BK529.out 4).trans rfl; have hfz19_0 := blk_frozen BK529.out 0; have hfz19_1 := blk_frozen BK529.out 1; have hfz19_2 := blk_frozen BK529.out 2; have hfz19_3 := blk_frozen BK529.out 3; have hfz19_4 := blk_frozen BK529.out 4))
              refine bodyPost_ret (results_ctt rfl _ _ gb529 53 #[.int .i64 0, .int .i64 0, .int .u64 0, .int .i64 0, .int .i64 0] (0, 0) _ rfl (by (with_reducible repeat (first | refine blk_drewN ?_ _ | refine blk_drew ?_ | refine blk_alloc ?_ _)); refine blk_put (cs := #[.int .i64 0, .int .i64 0, .int .u64 0, .int .i64 0, .int .i64 0]) ?_ 4 _ rfl; (with_reducible repeat (first | refine blk_drewN ?_ _ | refine blk_drew ?_ | refine blk_alloc ?_ _)); refine blk_put (cs := #[.int .i64 0, .int .i64 0, .int .u64 0, .int .i64 0, .int .i64 0]) ?_ 3 _ rfl; (with_reducible repeat (first | refine blk_drewN ?_ _ | refine blk_drew ?_ | refine blk_alloc ?_ _)); refine blk_put (cs := #[.int .i64 0, .int .i64 0, .int .u64 0, .int .i64 0, .int .i64 0]) ?_ 2 _ rfl; (with_reducible repeat (first | refine blk_drewN ?_ _ | refine blk_drew ?_ | refine blk_alloc ?_ _)); refine blk_put (cs := #[.int .i64 0, .int .i64 0, .int .u64 0, .int .i64 0, .int .i64 0]) ?_ 1 _ rfl; (with_reducible repeat (first | refine blk_drewN ?_ _ | refine blk_drew ?_ | refine blk_alloc ?_ _)); refine blk_put (cs := #[.int .i64 0, .int .i64 0, .int .u64 0, .int .i64 0, .int .i64 0]) ?_ 0 _ rfl; (with_reducible repeat (first | refine blk_drewN ?_ _ | refine blk_drew ?_ | refine blk_alloc ?_ _)); refine blk_far ?_ NB529_543.out _; (with_reducible repeat (first | refine blk_drewN ?_ _ | refine blk_drew ?_ | refine blk_alloc ?_ _)); refine blk_far ?_ NB529_543.out _; (with_reducible repeat (first | refine blk_drewN ?_ _ | refine blk_drew ?_ | refine blk_alloc ?_ _)); refine blk_far ?_ NB529_543.out _; (with_reducible repeat (first | refine blk_drewN ?_ _ | refine blk_drew ?_ | refine blk_alloc ?_ _)); refine blk_far ?_ NB529_543.out _; (with_reducible repeat (first | refine blk_drewN ?_ _ | refine blk_drew ?_ | refine blk_alloc ?_ _)); refine blk_far ?_ NB529_543.out _; (with_reducible repeat (first | refine blk_drewN ?_ _ | refine blk_drew ?_ | refine blk_alloc ?_ _)); exact BK529.out) Try.underlying53 rfl (by kernel_rfl)) rfl ?_
              exact ⟨by first | rfl | (simp [errW_none, errW_some] <;> rfl) | (simp [*, errW_none, errW_some] <;> rfl), by repeat (first | (with_reducible first | exact HB.out | apply below_alloc | apply pw_below_drewN | apply below_drew1 | refine below_set ?_ GE529.out | refine below_set ?_ GE543.out) | exact HB.out)⟩
            · rw [if_neg c15] at H
              have c15b0 : decide (1000000000000 < x13_5) = false := decide_eq_false c15
              clear c15
              by_cases c20 : (wrap64 (x13_5)) > (wrap64 (a2 - x14_5))
              · rw [if_pos c20] at H
                have c20b0 : decide ((wrap64 (a2 - x14_5)) < (wrap64 (x13_5))) = true := decide_eq_true c20
                clear c20
                simp only [Option.some.injEq, Prod.mk.injEq] at H
                obtain ⟨rfl, rfl, rfl, rfl, rfl, rfl, rfl⟩ := H
                go_wp2_with (first | ((with_reducible refine gate_dst (N := 16) rfl ?_); refine box_event ?hg (N := 16) ?hd (cs := #[.int .i64 0, .int .i64 0, .int .u64 0, .int .i64 0, .int .i64 0]) (t := 53) ?hr ?_; (case hd => rfl); (case hg => rfl); (case hr => first | (go_simp; done) | (go_simp; rfl)); intro gb543 hg w21 hbox hb; have n0_ := Aside0.mk (blk_below (g := gb529) (o := .cells #[.int .i64 0, .int .i64 0, .int .u64 0, .int .i64 0, .int .i64 0] 53 (0, 0)) (by (with_reducible repeat (first | refine blk_drewN ?_ _ | refine blk_drew ?_ | refine blk_alloc ?_ _)); exact BK529.out) hb); have n1_ := Aside0.mk (below_step (by repeat (first | (with_reducible first | exact HB.out | apply below_alloc | apply pw_below_drewN | apply below_drew1 | refine below_set ?_ GE529.out) | exact HB.out)) hb); have n2_ := Aside0.mk (hbox); have n3_ := Aside0.mk ((by rw [hg]; exact (below_size (by repeat (first | (with_reducible first | exact HB.out | apply below_alloc | apply pw_below_drewN | apply below_drew1 | refine below_set ?_ GE529.out) | exact HB.out))) : w.heap.size ≤ gb543)); have n4_ := Aside0.mk ((by rw [hg]; exact (below_size (by repeat (first | (with_reducible first | exact HB.out | apply below_alloc | apply pw_below_drewN | apply below_drew1 | refine below_set ?_ GE529.out) | exact HB.out))) : w.heap.size ≤ gb543)); have n5_ := Aside0.mk ((by rw [hg]; exact Nat.ne_of_lt (blk_lt (g := gb529) (o := .cells #[.int .i64 0, .int .i64 0, .int .u64 0, .int .i64 0, .int .i64 0] 53 (0, 0)) (by (with_reducible repeat (first | refine blk_drewN ?_ _ | refine blk_drew ?_ | refine blk_alloc ?_ _)); exact BK529.out)) : gb529 ≠ gb543)); have n6_ := Aside0.mk ((by rw [hg]; exact Nat.ne_of_gt (blk_lt (g := gb529) (o := .cells #[.int .i64 0, .int .i64 0, .int .u64 0, .int .i64 0, .int .i64 0] 53 (0, 0)) (by (with_reducible repeat (first | refine blk_drewN ?_ _ | refine blk_drew ?_ | refine blk_alloc ?_ _)); exact BK529.out)) : gb543 ≠ gb529)); clear BK529; clear HB; have BK529 := n0_; have HB := n1_; have BK543 := n2_; have GW543 := n3_; have GE543 := n4_; have NB529_543 := n5_; have NB543_529 := n6_; clear n0_ n1_ n2_ n3_ n4_ n5_ n6_; clear hb hbox hg; have hnb22 := NB543_529.out; have hnc22 := NB529_543.out; have hcz23_0 : w21.cell? ⟨gb543, 0, none⟩ = some (.int .i64 0) := (blk_cell BK543.out 0).trans rfl; have hcz23_1 : w21.cell? ⟨gb543, 1, none⟩ = some (.int .i64 0) := (blk_cell BK543.out 1).trans rfl; have hcz23_2 : w21.cell? ⟨gb543, 2, none⟩ = some (.int .u64 0) := (blk_cell BK543.out 2).trans rfl; have hcz23_3 : w21.cell? ⟨gb543, 3, none⟩ = some (.int .i64 0) := (blk_cell BK543.out 3).trans rfl; have hcz23_4 : w21.cell? ⟨gb543, 4, none⟩ = some (.int .i64 0) := (blk_cell BK543.out 4).trans rfl; have hfz23_0 := blk_frozen BK543.out 0; have hfz23_1 := blk_frozen BK543.out 1; have hfz23_2 := blk_frozen BK543.out 2; have hfz23_3 := blk_frozen BK543.out 3; have hfz23_4 := blk_frozen BK543.out 4; have hcz24_0 : w21.cell? ⟨gb529, 0, none⟩ = some (.int .i64 0) := (blk_cell BK529.out 0).trans rfl; have hcz24_1 : w21.cell? ⟨gb529, 1, none⟩ = some (.int .i64 0) := (blk_cell BK529.out 1).trans rfl; have hcz24_2 : w21.cell? ⟨gb529, 2, none⟩ = some (.int .u64 0) := (blk_cell BK529.out 2).trans rfl; have hcz24_3 : w21.cell? ⟨gb529, 3, none⟩ = some (.int .i64 0) := (blk_cell BK529.out 3).trans rfl; have hcz24_4 : w21.cell? ⟨gb529, 4, none⟩ = some (.int .i64 0) := (blk_cell BK529.out 4).trans rfl; have hfz24_0 := blk_frozen BK529.out 0; have hfz24_1 := blk_frozen BK529.out 1; have hfz24_2 := blk_frozen BK529.out 2; have hfz24_3 := blk_frozen BK529.out 3; have hfz24_4 := blk_frozen BK529.out 4))
                refine bodyPost_ret (results_ctt rfl _ _ gb529 53 #[.int .i64 0, .int .i64 0, .int .u64 0, .int .i64 0, .int .i64 0] (0, 0) _ rfl (by (with_reducible repeat (first | refine blk_drewN ?_ _ | refine blk_drew ?_ | refine blk_alloc ?_ _)); refine blk_put (cs := #[.int .i64 0, .int .i64 0, .int .u64 0, .int .i64 0, .int .i64 0]) ?_ 4 _ rfl; (with_reducible repeat (first | refine blk_drewN ?_ _ | refine blk_drew ?_ | refine blk_alloc ?_ _)); refine blk_put (cs := #[.int .i64 0, .int .i64 0, .int .u64 0, .int .i64 0, .int .i64 0]) ?_ 3 _ rfl; (with_reducible repeat (first | refine blk_drewN ?_ _ | refine blk_drew ?_ | refine blk_alloc ?_ _)); refine blk_put (cs := #[.int .i64 0, .int .i64 0, .int .u64 0, .int .i64 0, .int .i64 0]) ?_ 2 _ rfl; (with_reducible repeat (first | refine blk_drewN ?_ _ | refine blk_drew ?_ | refine blk_alloc ?_ _)); refine blk_put (cs := #[.int .i64 0, .int .i64 0, .int .u64 0, .int .i64 0, .int .i64 0]) ?_ 1 _ rfl; (with_reducible repeat (first | refine blk_drewN ?_ _ | refine blk_drew ?_ | refine blk_alloc ?_ _)); refine blk_put (cs := #[.int .i64 0, .int .i64 0, .int .u64 0, .int .i64 0, .int .i64 0]) ?_ 0 _ rfl; (with_reducible repeat (first | refine blk_drewN ?_ _ | refine blk_drew ?_ | refine blk_alloc ?_ _)); refine blk_far ?_ NB529_543.out _; (with_reducible repeat (first | refine blk_drewN ?_ _ | refine blk_drew ?_ | refine blk_alloc ?_ _)); refine blk_far ?_ NB529_543.out _; (with_reducible repeat (first | refine blk_drewN ?_ _ | refine blk_drew ?_ | refine blk_alloc ?_ _)); refine blk_far ?_ NB529_543.out _; (with_reducible repeat (first | refine blk_drewN ?_ _ | refine blk_drew ?_ | refine blk_alloc ?_ _)); refine blk_far ?_ NB529_543.out _; (with_reducible repeat (first | refine blk_drewN ?_ _ | refine blk_drew ?_ | refine blk_alloc ?_ _)); refine blk_far ?_ NB529_543.out _; (with_reducible repeat (first | refine blk_drewN ?_ _ | refine blk_drew ?_ | refine blk_alloc ?_ _)); exact BK529.out) Try.underlying53 rfl (by kernel_rfl)) rfl ?_
                exact ⟨by first | rfl | (simp [errW_none, errW_some] <;> rfl) | (simp [*, errW_none, errW_some] <;> rfl), by repeat (first | (with_reducible first | exact HB.out | apply below_alloc | apply pw_below_drewN | apply below_drew1 | refine below_set ?_ GE529.out | refine below_set ?_ GE543.out) | exact HB.out)⟩
              · rw [if_neg c20] at H
                have c20b0 : decide ((wrap64 (a2 - x14_5)) < (wrap64 (x13_5))) = false := decide_eq_false c20
                clear c20
                simp only [Option.some.injEq, Prod.mk.injEq] at H
                obtain ⟨rfl, rfl, rfl, rfl, rfl, rfl, rfl⟩ := H
                try go_wp2_with (first | ((with_reducible refine gate_dst (N := 16) rfl ?_); refine box_event ?hg (N := 16) ?hd (cs := #[.int .i64 0, .int .i64 0, .int .u64 0, .int .i64 0, .int .i64 0]) (t := 53) ?hr ?_; (case hd => rfl); (case hg => rfl); (case hr => first | (go_simp; done) | (go_simp; rfl)); intro gb543 hg w25 hbox hb; have n0_ := Aside0.mk (blk_below (g := gb529) (o := .cells #[.int .i64 0, .int .i64 0, .int .u64 0, .int .i64 0, .int .i64 0] 53 (0, 0)) (by (with_reducible repeat (first | refine blk_drewN ?_ _ | refine blk_drew ?_ | refine blk_alloc ?_ _)); exact BK529.out) hb); have n1_ := Aside0.mk (below_step (by repeat (first | (with_reducible first | exact HB.out | apply below_alloc | apply pw_below_drewN | apply below_drew1 | refine below_set ?_ GE529.out) | exact HB.out)) hb); have n2_ := Aside0.mk (hbox); have n3_ := Aside0.mk ((by rw [hg]; exact (below_size (by repeat (first | (with_reducible first | exact HB.out | apply below_alloc | apply pw_below_drewN | apply below_drew1 | refine below_set ?_ GE529.out) | exact HB.out))) : w.heap.size ≤ gb543)); have n4_ := Aside0.mk ((by rw [hg]; exact (below_size (by repeat (first | (with_reducible first | exact HB.out | apply below_alloc | apply pw_below_drewN | apply below_drew1 | refine below_set ?_ GE529.out) | exact HB.out))) : w.heap.size ≤ gb543)); have n5_ := Aside0.mk ((by rw [hg]; exact Nat.ne_of_lt (blk_lt (g := gb529) (o := .cells #[.int .i64 0, .int .i64 0, .int .u64 0, .int .i64 0, .int .i64 0] 53 (0, 0)) (by (with_reducible repeat (first | refine blk_drewN ?_ _ | refine blk_drew ?_ | refine blk_alloc ?_ _)); exact BK529.out)) : gb529 ≠ gb543)); have n6_ := Aside0.mk ((by rw [hg]; exact Nat.ne_of_gt (blk_lt (g := gb529) (o := .cells #[.int .i64 0, .int .i64 0, .int .u64 0, .int .i64 0, .int .i64 0] 53 (0, 0)) (by (with_reducible repeat (first | refine blk_drewN ?_ _ | refine blk_drew ?_ | refine blk_alloc ?_ _)); exact BK529.out)) : gb543 ≠ gb529)); clear BK529; clear HB; have BK529 := n0_; have HB := n1_; have BK543 := n2_; have GW543 := n3_; have GE543 := n4_; have NB529_543 := n5_; have NB543_529 := n6_; clear n0_ n1_ n2_ n3_ n4_ n5_ n6_; clear hb hbox hg; have hnb26 := NB543_529.out; have hnc26 := NB529_543.out; have hcz27_0 : w25.cell? ⟨gb543, 0, none⟩ = some (.int .i64 0) := (blk_cell BK543.out 0).trans rfl; have hcz27_1 : w25.cell? ⟨gb543, 1, none⟩ = some (.int .i64 0) := (blk_cell BK543.out 1).trans rfl; have hcz27_2 : w25.cell? ⟨gb543, 2, none⟩ = some (.int .u64 0) := (blk_cell BK543.out 2).trans rfl; have hcz27_3 : w25.cell? ⟨gb543, 3, none⟩ = some (.int .i64 0) := (blk_cell BK543.out 3).trans rfl; have hcz27_4 : w25.cell? ⟨gb543, 4, none⟩ = some (.int .i64 0) := (blk_cell BK543.out 4).trans rfl; have hfz27_0 := blk_frozen BK543.out 0; have hfz27_1 := blk_frozen BK543.out 1; have hfz27_2 := blk_frozen BK543.out 2; have hfz27_3 := blk_frozen BK543.out 3; have hfz27_4 := blk_frozen BK543.out 4))
                have n0_ : Aside0 ((((((((w25.setCell ⟨gb543, 0, none⟩ (.int .i64 t530)).setCell ⟨gb543, 1, none⟩ (.int .i64 t531)).setCell ⟨gb543, 2, none⟩ (.int .u64 x13_5)).setCell ⟨gb543, 3, none⟩ (.int .i64 t532)).setCell ⟨gb543, 4, none⟩ (.int .i64 x14_5)).setCell ⟨gb543, 3, none⟩ (.int .i64 x14_5)).setCell ⟨gb543, 4, none⟩ (.int .i64 (wrap64 (x14_5 + (wrap64 (x13_5)))))).heap[gb529]? = some (.cells #[.int .i64 0, .int .i64 0, .int .u64 0, .int .i64 0, .int .i64 0] 53 (0, 0))) := ⟨by (with_reducible repeat (first | refine blk_drewN ?_ _ | refine blk_drew ?_ | refine blk_alloc ?_ _)); refine blk_far ?_ NB529_543.out _; (with_reducible repeat (first | refine blk_drewN ?_ _ | refine blk_drew ?_ | refine blk_alloc ?_ _)); refine blk_far ?_ NB529_543.out _; (with_reducible repeat (first | refine blk_drewN ?_ _ | refine blk_drew ?_ | refine blk_alloc ?_ _)); refine blk_far ?_ NB529_543.out _; (with_reducible repeat (first | refine blk_drewN ?_ _ | refine blk_drew ?_ | refine blk_alloc ?_ _)); refine blk_far ?_ NB529_543.out _; (with_reducible repeat (first | refine blk_drewN ?_ _ | refine blk_drew ?_ | refine blk_alloc ?_ _)); refine blk_far ?_ NB529_543.out _; (with_reducible repeat (first | refine blk_drewN ?_ _ | refine blk_drew ?_ | refine blk_alloc ?_ _)); refine blk_far ?_ NB529_543.out _; (with_reducible repeat (first | refine blk_drewN ?_ _ | refine blk_drew ?_ | refine blk_alloc ?_ _)); refine blk_far ?_ NB529_543.out _; (with_reducible repeat (first | refine blk_drewN ?_ _ | refine blk_drew ?_ | refine blk_alloc ?_ _)); exact BK529.out⟩
                have n1_ : Aside0 ((((((((w25.setCell ⟨gb543, 0, none⟩ (.int .i64 t530)).setCell ⟨gb543, 1, none⟩ (.int .i64 t531)).setCell ⟨gb543, 2, none⟩ (.int .u64 x13_5)).setCell ⟨gb543, 3, none⟩ (.int .i64 t532)).setCell ⟨gb543, 4, none⟩ (.int .i64 x14_5)).setCell ⟨gb543, 3, none⟩ (.int .i64 x14_5)).setCell ⟨gb543, 4, none⟩ (.int .i64 (wrap64 (x14_5 + (wrap64 (x13_5)))))).heap[gb543]? = some (.cells #[.int .i64 t530, .int .i64 t531, .int .u64 x13_5, .int .i64 x14_5, .int .i64 (wrap64 (x14_5 + (wrap64 (x13_5))))] 53 (0, 0))) := ⟨by (with_reducible repeat (first | refine blk_drewN ?_ _ | refine blk_drew ?_ | refine blk_alloc ?_ _)); refine blk_put (cs := #[.int .i64 t530, .int .i64 t531, .int .u64 x13_5, .int .i64 x14_5, .int .i64 x14_5]) ?_ 4 _ rfl; (with_reducible repeat (first | refine blk_drewN ?_ _ | refine blk_drew ?_ | refine blk_alloc ?_ _)); refine blk_put (cs := #[.int .i64 t530, .int .i64 t531, .int .u64 x13_5, .int .i64 t532, .int .i64 x14_5]) ?_ 3 _ rfl; (with_reducible repeat (first | refine blk_drewN ?_ _ | refine blk_drew ?_ | refine blk_alloc ?_ _)); refine blk_put (cs := #[.int .i64 t530, .int .i64 t531, .int .u64 x13_5, .int .i64 t532, .int .i64 0]) ?_ 4 _ rfl; (with_reducible repeat (first | refine blk_drewN ?_ _ | refine blk_drew ?_ | refine blk_alloc ?_ _)); refine blk_put (cs := #[.int .i64 t530, .int .i64 t531, .int .u64 x13_5, .int .i64 0, .int .i64 0]) ?_ 3 _ rfl; (with_reducible repeat (first | refine blk_drewN ?_ _ | refine blk_drew ?_ | refine blk_alloc ?_ _)); refine blk_put (cs := #[.int .i64 t530, .int .i64 t531, .int .u64 0, .int .i64 0, .int .i64 0]) ?_ 2 _ rfl; (with_reducible repeat (first | refine blk_drewN ?_ _ | refine blk_drew ?_ | refine blk_alloc ?_ _)); refine blk_put (cs := #[.int .i64 t530, .int .i64 0, .int .u64 0, .int .i64 0, .int .i64 0]) ?_ 1 _ rfl; (with_reducible repeat (first | refine blk_drewN ?_ _ | refine blk_drew ?_ | refine blk_alloc ?_ _)); refine blk_put (cs := #[.int .i64 0, .int .i64 0, .int .u64 0, .int .i64 0, .int .i64 0]) ?_ 0 _ rfl; (with_reducible repeat (first | refine blk_drewN ?_ _ | refine blk_drew ?_ | refine blk_alloc ?_ _)); exact BK543.out⟩
                have n2_ : Aside0 (Below w.heap.size w (((((((w25.setCell ⟨gb543, 0, none⟩ (.int .i64 t530)).setCell ⟨gb543, 1, none⟩ (.int .i64 t531)).setCell ⟨gb543, 2, none⟩ (.int .u64 x13_5)).setCell ⟨gb543, 3, none⟩ (.int .i64 t532)).setCell ⟨gb543, 4, none⟩ (.int .i64 x14_5)).setCell ⟨gb543, 3, none⟩ (.int .i64 x14_5)).setCell ⟨gb543, 4, none⟩ (.int .i64 (wrap64 (x14_5 + (wrap64 (x13_5))))))) := ⟨by repeat (first | (with_reducible first | exact HB.out | apply below_alloc | apply pw_below_drewN | apply below_drew1 | refine below_set ?_ GE529.out | refine below_set ?_ GE543.out) | exact HB.out)⟩
                (try clear BK529)
                (try clear BK543)
                (try clear HB)
                generalize (((((((w25.setCell ⟨gb543, 0, none⟩ (.int .i64 t530)).setCell ⟨gb543, 1, none⟩ (.int .i64 t531)).setCell ⟨gb543, 2, none⟩ (.int .u64 x13_5)).setCell ⟨gb543, 3, none⟩ (.int .i64 t532)).setCell ⟨gb543, 4, none⟩ (.int .i64 x14_5)).setCell ⟨gb543, 3, none⟩ (.int .i64 x14_5)).setCell ⟨gb543, 4, none⟩ (.int .i64 (wrap64 (x14_5 + (wrap64 (x13_5)))))) = w28 at n0_ n1_ n2_ ⊢
                have BK529 := n0_
                have BK543 := n1_
                have HB := n2_
                clear n0_ n1_ n2_
                have n0_ := Aside0.mk (blk_drew BK529.out)
                have n1_ := Aside0.mk (blk_drew BK543.out)
                have n2_ := Aside0.mk (below_drew1 HB.out)
                clear BK529
                clear BK543
                clear HB
                have BK529 := n0_
                have BK543 := n1_
                have HB := n2_
                clear n0_ n1_ n2_
                refine start_ (n := 6) (S := fun w' => w'.cell? ⟨gb543, 0, none⟩ = some (.int .i64 t530) ∧ w'.cell? ⟨gb543, 1, none⟩ = some (.int .i64 t531) ∧ w'.cell? ⟨gb543, 2, none⟩ = some (.int .u64 x13_5) ∧ w'.cell? ⟨gb543, 3, none⟩ = some (.int .i64 x14_5) ∧ w'.cell? ⟨gb543, 4, none⟩ = some (.int .i64 (wrap64 (x14_5 + (wrap64 (x13_5)))))) (ds := []) #[false, false, false, false, false, false] (by kernel_rfl) rfl rfl ⟨(blk_cell BK543.out 0).trans rfl, (blk_cell BK543.out 1).trans rfl, (blk_cell BK543.out 2).trans rfl, (blk_cell BK543.out 3).trans rfl, (blk_cell BK543.out 4).trans rfl⟩ (fun hHeld => ?_)
                generalize w28.drew = w29 at BK529 BK543 HB hHeld ⊢
                refine pure_ (i := 1) (N := some 92) (v := ?_) (a' := ?_) #[false, true, false, false, false, false] rfl rfl (by kernel_rfl) (fun _ _ _ h => h) (Or.inl ⟨by rfl, ?_⟩) ?_ ?_
                rotate_left
                · intro w'
                  go_simp
                  with_reducible rfl
                rotate_left
                · simp only [Act.put, List.setIfInBounds_toArray, List.set_cons_zero, List.set_cons_succ, i64_w, i32_w]
                  rfl
                refine take_ (i := 0) (N := some 91) (v := ?_) (a' := ?_) #[true, true, false, false, false, false] rfl rfl (by kernel_rfl) (fun _ _ _ h => h) (Or.inl ⟨by rfl, ?_⟩) hHeld ?_ ?_
                rotate_left
                · rintro w' ⟨s0, s1, s2, s3, s4⟩
                  go_simp
                  with_reducible rfl
                rotate_left
                · simp only [Act.put, List.setIfInBounds_toArray, List.set_cons_zero, List.set_cons_succ, i64_w, i32_w]
                  rfl
                refine take_ (i := 2) (N := some 93) (v := ?_) (a' := ?_) #[true, true, true, false, false, false] rfl rfl (by kernel_rfl) (fun _ _ _ h => h) (Or.inl ⟨by rfl, ?_⟩) hHeld ?_ ?_
                rotate_left
                · rintro w' ⟨s0, s1, s2, s3, s4⟩
                  go_simp
                  with_reducible rfl
                rotate_left
                · simp only [Act.put, List.setIfInBounds_toArray, List.set_cons_zero, List.set_cons_succ, i64_w, i32_w]
                  rfl
                refine one_ (i := 3) (N := none) #[true, true, true, true, false, false] rfl rfl (by kernel_rfl) (by decide) (fun K hK => ?_)
                have hs30 : w29.cell? ⟨gb529, 0, none⟩ = some (.int .i64 0) := (blk_cell BK529.out 0).trans rfl
                have hfs30 := blk_frozen BK529.out 0
                have hns30_1 := NB543_529.out
                have hms30_1 := NB529_543.out
                have hs31 : w29.cell? ⟨gb529, 1, none⟩ = some (.int .i64 0) := (blk_cell BK529.out 1).trans rfl
                have hfs31 := blk_frozen BK529.out 1
                have hns31_1 := NB543_529.out
                have hms31_1 := NB529_543.out
                have hs32 : w29.cell? ⟨gb529, 2, none⟩ = some (.int .u64 0) := (blk_cell BK529.out 2).trans rfl
                have hfs32 := blk_frozen BK529.out 2
                have hns32_1 := NB543_529.out
                have hms32_1 := NB529_543.out
                have hs33 : w29.cell? ⟨gb529, 3, none⟩ = some (.int .i64 0) := (blk_cell BK529.out 3).trans rfl
                have hfs33 := blk_frozen BK529.out 3
                have hns33_1 := NB543_529.out
                have hms33_1 := NB529_543.out
                have hs34 : w29.cell? ⟨gb529, 4, none⟩ = some (.int .i64 0) := (blk_cell BK529.out 4).trans rfl
                have hfs34 := blk_frozen BK529.out 4
                have hns34_1 := NB543_529.out
                have hms34_1 := NB529_543.out
                refine skip_ (w1 := ?_) (by rfl) rfl ?_ ?_
                rotate_left
                · go_simp
                  rfl
                refine hK.out _ _ ⟨((cell_far (p := ⟨gb529, _, none⟩) NB543_529.out _).trans (((cell_far (p := ⟨gb529, _, none⟩) NB543_529.out _).trans (((cell_far (p := ⟨gb529, _, none⟩) NB543_529.out _).trans (((cell_far (p := ⟨gb529, _, none⟩) NB543_529.out _).trans (((cell_far (p := ⟨gb529, _, none⟩) NB543_529.out _).trans (hHeld.1)))))))))), ((cell_far (p := ⟨gb529, _, none⟩) NB543_529.out _).trans (((cell_far (p := ⟨gb529, _, none⟩) NB543_529.out _).trans (((cell_far (p := ⟨gb529, _, none⟩) NB543_529.out _).trans (((cell_far (p := ⟨gb529, _, none⟩) NB543_529.out _).trans (((cell_far (p := ⟨gb529, _, none⟩) NB543_529.out _).trans (hHeld.2.1)))))))))), ((cell_far (p := ⟨gb529, _, none⟩) NB543_529.out _).trans (((cell_far (p := ⟨gb529, _, none⟩) NB543_529.out _).trans (((cell_far (p := ⟨gb529, _, none⟩) NB543_529.out _).trans (((cell_far (p := ⟨gb529, _, none⟩) NB543_529.out _).trans (((cell_far (p := ⟨gb529, _, none⟩) NB543_529.out _).trans (hHeld.2.2.1)))))))))), ((cell_far (p := ⟨gb529, _, none⟩) NB543_529.out _).trans (((cell_far (p := ⟨gb529, _, none⟩) NB543_529.out _).trans (((cell_far (p := ⟨gb529, _, none⟩) NB543_529.out _).trans (((cell_far (p := ⟨gb529, _, none⟩) NB543_529.out _).trans (((cell_far (p := ⟨gb529, _, none⟩) NB543_529.out _).trans (hHeld.2.2.2.1)))))))))), ((cell_far (p := ⟨gb529, _, none⟩) NB543_529.out _).trans (((cell_far (p := ⟨gb529, _, none⟩) NB543_529.out _).trans (((cell_far (p := ⟨gb529, _, none⟩) NB543_529.out _).trans (((cell_far (p := ⟨gb529, _, none⟩) NB543_529.out _).trans (((cell_far (p := ⟨gb529, _, none⟩) NB543_529.out _).trans (hHeld.2.2.2.2))))))))))⟩ (fun hHeld => ?_)
                clear hK K
                refine pure_ (i := 4) (N := some 7) (v := ?_) (a' := ?_) #[true, true, true, true, true, false] rfl rfl (by kernel_rfl) (fun _ _ _ h => h) (Or.inl ⟨by rfl, ?_⟩) ?_ ?_
                rotate_left
                · intro w'
                  go_simp
                  with_reducible rfl
                rotate_left
                · simp only [Act.put, List.setIfInBounds_toArray, List.set_cons_zero, List.set_cons_succ, i64_w, i32_w]
                  rfl
                refine pure_ (i := 5) (N := some 8) (v := ?_) (a' := ?_) #[true, true, true, true, true, true] rfl rfl (by kernel_rfl) (fun _ _ _ h => h) (Or.inl ⟨by rfl, ?_⟩) ?_ ?_
                rotate_left
                · intro w'
                  go_simp
                  with_reducible rfl
                rotate_left
                · simp only [Act.put, List.setIfInBounds_toArray, List.set_cons_zero, List.set_cons_succ, i64_w, i32_w]
                  rfl
                refine done_ (by kernel_rfl) ?_
                try go_wp2
                refine bodyPost_ret (results_ctt rfl _ _ gb529 53 #[.int .i64 t530, .int .i64 t531, .int .u64 x13_5, .int .i64 x14_5, .int .i64 (wrap64 (x14_5 + (wrap64 (x13_5))))] (0, 0) _ rfl (by (with_reducible repeat (first | refine blk_drewN ?_ _ | refine blk_drew ?_ | refine blk_alloc ?_ _)); refine blk_put (cs := #[.int .i64 t530, .int .i64 t531, .int .u64 x13_5, .int .i64 x14_5, .int .i64 0]) ?_ 4 _ rfl; (with_reducible repeat (first | refine blk_drewN ?_ _ | refine blk_drew ?_ | refine blk_alloc ?_ _)); refine blk_put (cs := #[.int .i64 t530, .int .i64 t531, .int .u64 x13_5, .int .i64 0, .int .i64 0]) ?_ 3 _ rfl; (with_reducible repeat (first | refine blk_drewN ?_ _ | refine blk_drew ?_ | refine blk_alloc ?_ _)); refine blk_put (cs := #[.int .i64 t530, .int .i64 t531, .int .u64 0, .int .i64 0, .int .i64 0]) ?_ 2 _ rfl; (with_reducible repeat (first | refine blk_drewN ?_ _ | refine blk_drew ?_ | refine blk_alloc ?_ _)); refine blk_put (cs := #[.int .i64 t530, .int .i64 0, .int .u64 0, .int .i64 0, .int .i64 0]) ?_ 1 _ rfl; (with_reducible repeat (first | refine blk_drewN ?_ _ | refine blk_drew ?_ | refine blk_alloc ?_ _)); refine blk_put (cs := #[.int .i64 0, .int .i64 0, .int .u64 0, .int .i64 0, .int .i64 0]) ?_ 0 _ rfl; (with_reducible repeat (first | refine blk_drewN ?_ _ | refine blk_drew ?_ | refine blk_alloc ?_ _)); exact BK529.out) Try.underlying53 rfl (by kernel_rfl)) rfl ?_
                exact ⟨by first | rfl | (simp [errW_none, errW_some] <;> rfl) | (simp [*, errW_none, errW_some] <;> rfl), by repeat (first | (with_reducible first | exact HB.out | apply below_alloc | apply pw_below_drewN | apply below_drew1 | refine below_set ?_ GE529.out | refine below_set ?_ GE543.out) | exact HB.out)⟩
          · rw [if_neg c14] at H
            have c14b0 : (t531 == 2) = false := beq_eq_false_iff_ne.mpr c14
            have c14b1 : (t531 != 2) = true := bne_iff_ne.mpr c14
            simp only [Option.some.injEq, Prod.mk.injEq] at H
            obtain ⟨rfl, rfl, rfl, rfl, rfl, rfl, rfl⟩ := H
            go_wp2_with (first | ((with_reducible refine gate_dst (N := 16) rfl ?_); refine box_event ?hg (N := 16) ?hd (cs := #[.int .i64 0, .int .i64 0, .int .u64 0, .int .i64 0, .int .i64 0]) (t := 53) ?hr ?_; (case hd => rfl); (case hg => rfl); (case hr => first | (go_simp; done) | (go_simp; rfl)); intro gb543 hg w35 hbox hb; have n0_ := Aside0.mk (blk_below (g := gb529) (o := .cells #[.int .i64 0, .int .i64 0, .int .u64 0, .int .i64 0, .int .i64 0] 53 (0, 0)) (by (with_reducible repeat (first | refine blk_drewN ?_ _ | refine blk_drew ?_ | refine blk_alloc ?_ _)); exact BK529.out) hb); have n1_ := Aside0.mk (below_step (by repeat (first | (with_reducible first | exact HB.out | apply below_alloc | apply pw_below_drewN | apply below_drew1 | refine below_set ?_ GE529.out) | exact HB.out)) hb); have n2_ := Aside0.mk (hbox); have n3_ := Aside0.mk ((by rw [hg]; exact (below_size (by repeat (first | (with_reducible first | exact HB.out | apply below_alloc | apply pw_below_drewN | apply below_drew1 | refine below_set ?_ GE529.out) | exact HB.out))) : w.heap.size ≤ gb543)); have n4_ := Aside0.mk ((by rw [hg]; exact (below_size (by repeat (first | (with_reducible first | exact HB.out | apply below_alloc | apply pw_below_drewN | apply below_drew1 | refine below_set ?_ GE529.out) | exact HB.out))) : w.heap.size ≤ gb543)); have n5_ := Aside0.mk ((by rw [hg]; exact Nat.ne_of_lt (blk_lt (g := gb529) (o := .cells #[.int .i64 0, .int .i64 0, .int .u64 0, .int .i64 0, .int .i64 0] 53 (0, 0)) (by (with_reducible repeat (first | refine blk_drewN ?_ _ | refine blk_drew ?_ | refine blk_alloc ?_ _)); exact BK529.out)) : gb529 ≠ gb543)); have n6_ := Aside0.mk ((by rw [hg]; exact Nat.ne_of_gt (blk_lt (g := gb529) (o := .cells #[.int .i64 0, .int .i64 0, .int .u64 0, .int .i64 0, .int .i64 0] 53 (0, 0)) (by (with_reducible repeat (first | refine blk_drewN ?_ _ | refine blk_drew ?_ | refine blk_alloc ?_ _)); exact BK529.out)) : gb543 ≠ gb529)); clear BK529; clear HB; have BK529 := n0_; have HB := n1_; have BK543 := n2_; have GW543 := n3_; have GE543 := n4_; have NB529_543 := n5_; have NB543_529 := n6_; clear n0_ n1_ n2_ n3_ n4_ n5_ n6_; clear hb hbox hg; have hnb36 := NB543_529.out; have hnc36 := NB529_543.out; have hcz37_0 : w35.cell? ⟨gb543, 0, none⟩ = some (.int .i64 0) := (blk_cell BK543.out 0).trans rfl; have hcz37_1 : w35.cell? ⟨gb543, 1, none⟩ = some (.int .i64 0) := (blk_cell BK543.out 1).trans rfl; have hcz37_2 : w35.cell? ⟨gb543, 2, none⟩ = some (.int .u64 0) := (blk_cell BK543.out 2).trans rfl; have hcz37_3 : w35.cell? ⟨gb543, 3, none⟩ = some (.int .i64 0) := (blk_cell BK543.out 3).trans rfl; have hcz37_4 : w35.cell? ⟨gb543, 4, none⟩ = some (.int .i64 0) := (blk_cell BK543.out 4).trans rfl; have hfz37_0 := blk_frozen BK543.out 0; have hfz37_1 := blk_frozen BK543.out 1; have hfz37_2 := blk_frozen BK543.out 2; have hfz37_3 := blk_frozen BK543.out 3; have hfz37_4 := blk_frozen BK543.out 4; have hcz38_0 : w35.cell? ⟨gb529, 0, none⟩ = some (.int .i64 0) := (blk_cell BK529.out 0).trans rfl; have hcz38_1 : w35.cell? ⟨gb529, 1, none⟩ = some (.int .i64 0) := (blk_cell BK529.out 1).trans rfl; have hcz38_2 : w35.cell? ⟨gb529, 2, none⟩ = some (.int .u64 0) := (blk_cell BK529.out 2).trans rfl; have hcz38_3 : w35.cell? ⟨gb529, 3, none⟩ = some (.int .i64 0) := (blk_cell BK529.out 3).trans rfl; have hcz38_4 : w35.cell? ⟨gb529, 4, none⟩ = some (.int .i64 0) := (blk_cell BK529.out 4).trans rfl; have hfz38_0 := blk_frozen BK529.out 0; have hfz38_1 := blk_frozen BK529.out 1; have hfz38_2 := blk_frozen BK529.out 2; have hfz38_3 := blk_frozen BK529.out 3; have hfz38_4 := blk_frozen BK529.out 4))
            refine bodyPost_ret (results_ctt rfl _ _ gb529 53 #[.int .i64 t530, .int .i64 t531, .int .u64 x13_5, .int .i64 t532, .int .i64 x14_5] (0, 0) _ rfl (by (with_reducible repeat (first | refine blk_drewN ?_ _ | refine blk_drew ?_ | refine blk_alloc ?_ _)); refine blk_put (cs := #[.int .i64 t530, .int .i64 t531, .int .u64 x13_5, .int .i64 t532, .int .i64 0]) ?_ 4 _ rfl; (with_reducible repeat (first | refine blk_drewN ?_ _ | refine blk_drew ?_ | refine blk_alloc ?_ _)); refine blk_put (cs := #[.int .i64 t530, .int .i64 t531, .int .u64 x13_5, .int .i64 0, .int .i64 0]) ?_ 3 _ rfl; (with_reducible repeat (first | refine blk_drewN ?_ _ | refine blk_drew ?_ | refine blk_alloc ?_ _)); refine blk_put (cs := #[.int .i64 t530, .int .i64 t531, .int .u64 0, .int .i64 0, .int .i64 0]) ?_ 2 _ rfl; (with_reducible repeat (first | refine blk_drewN ?_ _ | refine blk_drew ?_ | refine blk_alloc ?_ _)); refine blk_put (cs := #[.int .i64 t530, .int .i64 0, .int .u64 0, .int .i64 0, .int .i64 0]) ?_ 1 _ rfl; (with_reducible repeat (first | refine blk_drewN ?_ _ | refine blk_drew ?_ | refine blk_alloc ?_ _)); refine blk_put (cs := #[.int .i64 0, .int .i64 0, .int .u64 0, .int .i64 0, .int .i64 0]) ?_ 0 _ rfl; (with_reducible repeat (first | refine blk_drewN ?_ _ | refine blk_drew ?_ | refine blk_alloc ?_ _)); refine blk_far ?_ NB529_543.out _; (with_reducible repeat (first | refine blk_drewN ?_ _ | refine blk_drew ?_ | refine blk_alloc ?_ _)); refine blk_far ?_ NB529_543.out _; (with_reducible repeat (first | refine blk_drewN ?_ _ | refine blk_drew ?_ | refine blk_alloc ?_ _)); refine blk_far ?_ NB529_543.out _; (with_reducible repeat (first | refine blk_drewN ?_ _ | refine blk_drew ?_ | refine blk_alloc ?_ _)); refine blk_far ?_ NB529_543.out _; (with_reducible repeat (first | refine blk_drewN ?_ _ | refine blk_drew ?_ | refine blk_alloc ?_ _)); refine blk_far ?_ NB529_543.out _; (with_reducible repeat (first | refine blk_drewN ?_ _ | refine blk_drew ?_ | refine blk_alloc ?_ _)); exact BK529.out) Try.underlying53 rfl (by kernel_rfl)) rfl ?_
            exact ⟨by first | rfl | (simp [errW_none, errW_some] <;> rfl) | (simp [*, errW_none, errW_some] <;> rfl), by repeat (first | (with_reducible first | exact HB.out | apply below_alloc | apply pw_below_drewN | apply below_drew1 | refine below_set ?_ GE529.out | refine below_set ?_ GE543.out) | exact HB.out)⟩
        · rw [if_neg c13] at H
          have c13b0 : (x15_5 == 0) = false := beq_eq_false_iff_ne.mpr c13
          have c13b1 : (x15_5 != 0) = true := bne_iff_ne.mpr c13
          simp only [Option.some.injEq, Prod.mk.injEq] at H
          obtain ⟨rfl, rfl, rfl, rfl, rfl, rfl, rfl⟩ := H
          have hcz39_0 : wc.cell? ⟨gb529, 0, none⟩ = some (.int .i64 0) := (blk_cell BK529.out 0).trans rfl
          have hcz39_1 : wc.cell? ⟨gb529, 1, none⟩ = some (.int .i64 0) := (blk_cell BK529.out 1).trans rfl
          have hcz39_2 : wc.cell? ⟨gb529, 2, none⟩ = some (.int .u64 0) := (blk_cell BK529.out 2).trans rfl
          have hcz39_3 : wc.cell? ⟨gb529, 3, none⟩ = some (.int .i64 0) := (blk_cell BK529.out 3).trans rfl
          have hcz39_4 : wc.cell? ⟨gb529, 4, none⟩ = some (.int .i64 0) := (blk_cell BK529.out 4).trans rfl
          have hfz39_0 := blk_frozen BK529.out 0
          have hfz39_1 := blk_frozen BK529.out 1
          have hfz39_2 := blk_frozen BK529.out 2
          have hfz39_3 := blk_frozen BK529.out 3
          have hfz39_4 := blk_frozen BK529.out 4
          go_wp2
          refine bodyPost_ret (results_ctt rfl _ _ gb529 53 #[.int .i64 0, .int .i64 0, .int .u64 0, .int .i64 0, .int .i64 0] (0, 0) _ rfl (by (with_reducible repeat (first | refine blk_drewN ?_ _ | refine blk_drew ?_ | refine blk_alloc ?_ _)); refine blk_put (cs := #[.int .i64 0, .int .i64 0, .int .u64 0, .int .i64 0, .int .i64 0]) ?_ 4 _ rfl; (with_reducible repeat (first | refine blk_drewN ?_ _ | refine blk_drew ?_ | refine blk_alloc ?_ _)); refine blk_put (cs := #[.int .i64 0, .int .i64 0, .int .u64 0, .int .i64 0, .int .i64 0]) ?_ 3 _ rfl; (with_reducible repeat (first | refine blk_drewN ?_ _ | refine blk_drew ?_ | refine blk_alloc ?_ _)); refine blk_put (cs := #[.int .i64 0, .int .i64 0, .int .u64 0, .int .i64 0, .int .i64 0]) ?_ 2 _ rfl; (with_reducible repeat (first | refine blk_drewN ?_ _ | refine blk_drew ?_ | refine blk_alloc ?_ _)); refine blk_put (cs := #[.int .i64 0, .int .i64 0, .int .u64 0, .int .i64 0, .int .i64 0]) ?_ 1 _ rfl; (with_reducible repeat (first | refine blk_drewN ?_ _ | refine blk_drew ?_ | refine blk_alloc ?_ _)); refine blk_put (cs := #[.int .i64 0, .int .i64 0, .int .u64 0, .int .i64 0, .int .i64 0]) ?_ 0 _ rfl; (with_reducible repeat (first | refine blk_drewN ?_ _ | refine blk_drew ?_ | refine blk_alloc ?_ _)); exact BK529.out) Try.underlying53 rfl (by kernel_rfl)) rfl ?_
          exact ⟨by first | rfl | (simp [errW_none, errW_some] <;> rfl) | (simp [*, errW_none, errW_some] <;> rfl), by repeat (first | (with_reducible first | exact HB.out | apply below_alloc | apply pw_below_drewN | apply below_drew1 | refine below_set ?_ GE529.out) | exact HB.out)⟩
  · rw [if_neg c5] at H
    have c5b0 : (t533 == 0) = false := beq_eq_false_iff_ne.mpr c5
    have c5b1 : (t533 != 0) = true := bne_iff_ne.mpr c5
    simp only [Option.some.injEq, Prod.mk.injEq] at H
    obtain ⟨rfl, rfl, rfl, rfl, rfl, rfl, rfl⟩ := H
    go_enter Try.func45, Try.ntmps45
    go_wp2_with (first | ((with_reducible refine gate_dst (N := 6) rfl ?_); refine box_event ?hg (N := 6) ?hd (cs := #[.int .i64 0, .int .i64 0, .int .u64 0, .int .i64 0, .int .i64 0]) (t := 53) ?hr ?_; (case hd => rfl); (case hg => rfl); (case hr => first | (go_simp; done) | (go_simp; rfl)); intro gb529 hg w40 hbox hb; have n0_ := Aside0.mk (below_step (by repeat (first | (with_reducible first | exact HB.out | apply below_alloc | apply pw_below_drewN | apply below_drew1) | exact HB.out)) hb); have n1_ := Aside0.mk (hbox); have n2_ := Aside0.mk ((by rw [hg]; exact (below_size (by repeat (first | (with_reducible first | exact HB.out | apply below_alloc | apply pw_below_drewN | apply below_drew1) | exact HB.out))) : w.heap.size ≤ gb529)); have n3_ := Aside0.mk ((by rw [hg]; exact (below_size (by repeat (first | (with_reducible first | exact HB.out | apply below_alloc | apply pw_below_drewN | apply below_drew1) | exact HB.out))) : w.heap.size ≤ gb529)); clear HB; have HB := n0_; have BK529 := n1_; have GW529 := n2_; have GE529 := n3_; clear n0_ n1_ n2_ n3_; clear hb hbox hg) | ((with_reducible refine gate_callee (f := 32) rfl ?_); refine goesL_ (some 21) rfl rfl Try.func32 (by kernel_rfl) rfl #[.slice A0 l0.length c0, .int .i64 a1, .int .i64 a2] rfl (by (try simp only [List.map_toArray, List.map_cons, List.map_nil]); first | done | rfl | (simp only [List.length_drop, List.length_take]; rfl)) ?_; (with_reducible refine (truffleref03_Get.calls k _ _ l0 a1 a2 t530 t531 t532 t533 _ ?side1 ?side2 A4.out).mono ?_); (case side1 => repeat (first | exact (Kd.C_below HR0.out HB.out) | (with_reducible refine Kd.C_alloc ?_ _) | (with_reducible refine Kd.C_drewN ?_ _) | (with_reducible refine Kd.C_drew ?_))); (case side2 => exact HC0.out); rintro e w' ⟨rfl, ⟨nd, rfl⟩⟩; refine ⟨_, rfl, ?_⟩; (try (rw [drewN_self w40]; generalize hq_ : World.drewN w40 _ = w40; have n0_ : Aside0 (w40.heap[gb529]? = some (.cells #[.int .i64 0, .int .i64 0, .int .u64 0, .int .i64 0, .int .i64 0] 53 (0, 0))) := ⟨by rw [← hq_]; exact (by (with_reducible repeat (first | refine blk_drewN ?_ _ | refine blk_drew ?_ | refine blk_alloc ?_ _)); exact BK529.out)⟩; have n1_ : Aside0 (Below w.heap.size w w40) := ⟨by rw [← hq_]; exact (by repeat (first | (with_reducible first | exact HB.out | apply below_alloc | apply pw_below_drewN | apply below_drew1 | refine below_set ?_ GE529.out) | exact HB.out))⟩; clear BK529 HB hq_; have BK529 := n0_; have HB := n1_; clear n0_ n1_)); have hcz41_0 : w40.cell? ⟨gb529, 0, none⟩ = some (.int .i64 0) := (blk_cell BK529.out 0).trans rfl; have hcz41_1 : w40.cell? ⟨gb529, 1, none⟩ = some (.int .i64 0) := (blk_cell BK529.out 1).trans rfl; have hcz41_2 : w40.cell? ⟨gb529, 2, none⟩ = some (.int .u64 0) := (blk_cell BK529.out 2).trans rfl; have hcz41_3 : w40.cell? ⟨gb529, 3, none⟩ = some (.int .i64 0) := (blk_cell BK529.out 3).trans rfl; have hcz41_4 : w40.cell? ⟨gb529, 4, none⟩ = some (.int .i64 0) := (blk_cell BK529.out 4).trans rfl; have hfz41_0 := blk_frozen BK529.out 0; have hfz41_1 := blk_frozen BK529.out 1; have hfz41_2 := blk_frozen BK529.out 2; have hfz41_3 := blk_frozen BK529.out 3; have hfz41_4 := blk_frozen BK529.out 4))
    refine bodyPost_ret (results_ctt rfl _ _ gb529 53 #[.int .i64 0, .int .i64 0, .int .u64 0, .int .i64 0, .int .i64 0] (0, 0) _ rfl (by (with_reducible repeat (first | refine blk_drewN ?_ _ | refine blk_drew ?_ | refine blk_alloc ?_ _)); refine blk_put (cs := #[.int .i64 0, .int .i64 0, .int .u64 0, .int .i64 0, .int .i64 0]) ?_ 4 _ rfl; (with_reducible repeat (first | refine blk_drewN ?_ _ | refine blk_drew ?_ | refine blk_alloc ?_ _)); refine blk_put (cs := #[.int .i64 0, .int .i64 0, .int .u64 0, .int .i64 0, .int .i64 0]) ?_ 3 _ rfl; (with_reducible repeat (first | refine blk_drewN ?_ _ | refine blk_drew ?_ | refine blk_alloc ?_ _)); refine blk_put (cs := #[.int .i64 0, .int .i64 0, .int .u64 0, .int .i64 0, .int .i64 0]) ?_ 2 _ rfl; (with_reducible repeat (first | refine blk_drewN ?_ _ | refine blk_drew ?_ | refine blk_alloc ?_ _)); refine blk_put (cs := #[.int .i64 0, .int .i64 0, .int .u64 0, .int .i64 0, .int .i64 0]) ?_ 1 _ rfl; (with_reducible repeat (first | refine blk_drewN ?_ _ | refine blk_drew ?_ | refine blk_alloc ?_ _)); refine blk_put (cs := #[.int .i64 0, .int .i64 0, .int .u64 0, .int .i64 0, .int .i64 0]) ?_ 0 _ rfl; (with_reducible repeat (first | refine blk_drewN ?_ _ | refine blk_drew ?_ | refine blk_alloc ?_ _)); exact BK529.out) Try.underlying53 rfl (by kernel_rfl)) rfl ?_
    exact ⟨by first | rfl | (simp [errW_none, errW_some] <;> rfl) | (simp [*, errW_none, errW_some] <;> rfl), by repeat (first | (with_reducible first | exact HB.out | apply below_alloc | apply pw_below_drewN | apply below_drew1 | refine below_set ?_ GE529.out) | exact HB.out)⟩

end Go.Proofs.Ytokbcenkgdpepaa.M
