-- Written by wip/print18.py (this session's program, over the kit's print.py), for this seat's laws.
import Derived.Test.YtokbcenkgdpepaaMx0
import Derived.Test.YtokbcenkgdpepaaMx16
import Derived.Test.YtokbcenkgdpepaaMx18
namespace Go.Proofs.Ytokbcenkgdpepaa.M
open Go.RowKit Go.Proofs.YtokbcenkgdpepaaW.PrintWords Go.Proofs.YtokbcenkgdpepaaW.PrintLast Go.Proofs.YtokbcenkgdpepaaW.PrintMore
attribute [local go_sem] max2_int min2_int max_two min_two max_three min_three max_four min_four   -- for this text's walks alone
set_option linter.unusedVariables false
set_option linter.unusedSimpArgs false

/-! ### truffleref03_Get: function 32 -/
def truffleref03_Get.j0 : Nat → Int → Int → Bool → Option (Int × Int × Int × Int)
  | 0, _, _, _ => none
  | k + 1, x10, x11, x31 => if x31 = true then (some (0, 0, 0, 9)) else ((truffleref03_Known.f (wrap64 (Int.tmod x10 8))).bind fun t265 => (if t265 = true then (some (wrap64 (IntKind.u64.wrap (Int.tdiv x10 8)), wrap64 (Int.tmod x10 8), x11, 0)) else (some (0, 0, 0, 8))))
def truffleref03_Get.f (k : Nat) (l0 : List Int) (a1 : Int) (a2 : Int) : Option (Int × Int × Int × Int) := (truffleref01_Get.f k l0 a1 a2).bind fun bt262 => (if bt262.2.2 = 0 then (if bt262.1 ≥ 4294967296 then (truffleref03_Get.j0 k bt262.1 bt262.2.1 true) else (truffleref03_Get.j0 k bt262.1 bt262.2.1 ((IntKind.u64.wrap (Int.tdiv bt262.1 8)) == 0))) else (some (0, 0, 0, bt262.2.2)))
theorem truffleref03_Get.mono_l : ∀ k, (∀ y0 y1 y2, LeO (truffleref03_Get.j0 k y0 y1 y2) (truffleref03_Get.j0 (k + 1) y0 y1 y2))
  | 0 => fun _ _ _ r h => by simp [truffleref03_Get.j0] at h
  | k + 1 => by
    have ih0 := truffleref03_Get.mono_l k
    · intro y0 y1 y2
      unfold truffleref03_Get.j0
      repeat' first
      | (with_reducible exact ih0 _ _ _)
      | (with_reducible exact truffleref01_Get.mono _ _ _ _)
      | (with_reducible exact LeO.refl _)
      | (with_reducible exact LeO.none _)
      | (with_reducible refine LeO.ite ?_ ?_)
      | (with_reducible refine LeO.bind ?_ (fun _ => ?_))
      | exact ih0 _ _ _
      | exact truffleref01_Get.mono _ _ _ _
      | exact LeO.none _
      | refine LeO.ite ?_ ?_
      | refine LeO.bind ?_ (fun _ => ?_)
theorem truffleref03_Get.mono : ∀ a0 a1 a2 k, LeO (truffleref03_Get.f k a0 a1 a2) (truffleref03_Get.f (k + 1) a0 a1 a2) := by
  intro a0 a1 a2 k
  have ih0 := truffleref03_Get.mono_l k
  unfold truffleref03_Get.f
  repeat' first
      | (with_reducible exact ih0 _ _ _)
      | (with_reducible exact truffleref01_Get.mono _ _ _ _)
      | (with_reducible exact LeO.refl _)
      | (with_reducible exact LeO.none _)
      | (with_reducible refine LeO.ite ?_ ?_)
      | (with_reducible refine LeO.bind ?_ (fun _ => ?_))
      | exact ih0 _ _ _
      | exact truffleref01_Get.mono _ _ _ _
      | exact LeO.none _
      | refine LeO.ite ?_ ?_
      | refine LeO.bind ?_ (fun _ => ?_)
set_option maxHeartbeats 8000000 in
set_option maxRecDepth 100000 in
theorem truffleref03_Get.calls (k : Nat) (A0 : Option Addr) (c0 : Nat) (l0 : List Int) (a1 : Int) (a2 : Int) (r1 : Int) (r2 : Int) (r3 : Int) (r4 : Int) (w : World) (hr0 : Kd.C (Kd.int .u8) w A0 l0.length l0) (hc0 : l0.length ≤ c0) (h : truffleref03_Get.f k l0 a1 a2 = some (r1, r2, r3, r4)) :
    Calls Try.prog 32 #[.slice A0 l0.length c0, .int .i64 a1, .int .i64 a2] w fun e w' => e = .returned (.tuple #[.int .i64 r1, .int .i64 r2, .int .i64 r3, .int .i64 r4]) ∧ Drawn0 w w' := by
  have HR0 := Aside0.mk hr0
  have HC0 := Aside0.mk hc0
  clear hr0 hc0
  have H : ((truffleref01_Get.f k l0 a1 a2).bind fun bt262 => (if bt262.2.2 = 0 then (if bt262.1 ≥ 4294967296 then (truffleref03_Get.j0 k bt262.1 bt262.2.1 true) else (truffleref03_Get.j0 k bt262.1 bt262.2.1 ((IntKind.u64.wrap (Int.tdiv bt262.1 8)) == 0))) else (some (0, 0, 0, bt262.2.2)))) = some (r1, r2, r3, r4) := h
  clear h
  replace H := Option.bind_eq_some_iff.mp H
  obtain ⟨⟨t262, t263, t264⟩, A40, H⟩ := H
  replace H : (if t264 = 0 then (if t262 ≥ 4294967296 then (truffleref03_Get.j0 k t262 t263 true) else (truffleref03_Get.j0 k t262 t263 ((IntKind.u64.wrap (Int.tdiv t262 8)) == 0))) else (some (0, 0, 0, t264))) = some (r1, r2, r3, r4) := H
  have A4 := Aside0.mk A40
  clear A40
  by_cases c5 : t264 = 0
  · rw [if_pos c5] at H
    have c5b0 : (t264 == 0) = true := beq_iff_eq.mpr c5
    have c5b1 : (t264 != 0) = false := bne_eq_false_iff_eq.mpr c5
    clear c5
    have HC6 := Aside0.mk H
    clear H
    go_enter Try.func32, Try.ntmps32
    go_upto_region 4 with (first | ((with_reducible refine gate_callee (f := 35) rfl ?_); refine goesL_ (some 18) rfl rfl Try.func35 (by kernel_rfl) rfl #[.slice A0 l0.length c0, .int .i64 a1, .int .i64 a2] rfl (by (try simp only [List.map_toArray, List.map_cons, List.map_nil]); first | done | rfl | (simp only [List.length_drop, List.length_take]; rfl)) ?_; (with_reducible refine (truffleref01_Get.calls k _ _ l0 a1 a2 t262 t263 t264 _ ?side1 ?side2 A4.out).mono ?_); (case side1 => repeat (first | exact HR0.out | (with_reducible refine Kd.C_alloc ?_ _) | (with_reducible refine Kd.C_drewN ?_ _) | (with_reducible refine Kd.C_drew ?_))); (case side2 => exact HC0.out); rintro e w' ⟨rfl, ⟨nd, rfl⟩⟩; refine ⟨_, rfl, ?_⟩))
    (try simp only [Act.put, List.setIfInBounds_toArray, List.set_cons_zero, List.set_cons_succ])
    go_cut [31] (fun v31 wc => ∃ (kq : Nat) (x31_5 : Bool), v31 = .bool x31_5 ∧ Aside0 (truffleref03_Get.j0 kq t262 t263 x31_5 = some (r1, r2, r3, r4)) ∧ Aside0 (kq ≤ k) ∧ Drawn0 w wc)
    case first =>
      have H := HC6.out
      clear HC6
      by_cases c7 : t262 ≥ 4294967296
      · rw [if_pos c7] at H
        have c7b0 : decide (4294967296 ≤ t262) = true := decide_eq_true c7
        clear c7
        (first | rw [c7b0] | (simp only [i64_w, i32_w]; rw [c7b0]) | skip)
        have H' := Aside0.mk H
        clear H
        go_wp2
        go_meet
        case rel => exact ⟨_, (true), (by first | rfl | (simp; done) | (simp [*]; done)), H', ⟨by first | omega | exact Nat.le_refl _⟩, by repeat (first | exact Drawn0.refl _ | apply Drawn0.step)⟩
      · rw [if_neg c7] at H
        have c7b0 : decide (4294967296 ≤ t262) = false := decide_eq_false c7
        clear c7
        (first | rw [c7b0] | (simp only [i64_w, i32_w]; rw [c7b0]) | skip)
        have H' := Aside0.mk H
        clear H
        go_wp2
        go_meet
        case rel => exact ⟨_, (((IntKind.u64.wrap (Int.tdiv t262 8)) == 0)), (by first | rfl | (simp; done) | (simp [*]; done)), H', ⟨by first | omega | exact Nat.le_refl _⟩, by repeat (first | exact Drawn0.refl _ | apply Drawn0.step)⟩
    case rest =>
      clear HC6
      try clear p2
      try clear c3
      try clear c5
      try clear c5b0
      try clear c5b1
      try clear c7
      try clear c7b0
      obtain ⟨kq, x31_5, rfl, HA, HJ5, ⟨mc5, rfl⟩⟩ := hcut
      cases kq with
      | zero => exact absurd HA.out (by simp [truffleref03_Get.j0])
      | succ kj5 =>
        have H := HA.out
        clear HA
        simp only [truffleref03_Get.j0] at H
        by_cases c8 : x31_5 = true
        · subst c8
          have H1 : (some (0, 0, 0, 9)) = some (r1, r2, r3, r4) := by rw [if_pos rfl] at H; exact H
          clear H
          have H := H1
          clear H1
          simp only [Option.some.injEq, Prod.mk.injEq] at H
          obtain ⟨rfl, rfl, rfl, rfl⟩ := H
          go_wp2
          refine bodyPost_ret (results_list (rs := [.tmp 6, .tmp 7, .tmp 8, .tmp 9]) rfl (by simp) (.tmp (.tmp (.tmp (.tmp .nil))))) rfl ?_
          exact ⟨by first | rfl | (simp; done) | (simp [*]; done), by repeat (first | exact Drawn0.refl _ | apply Drawn0.step)⟩
        · replace c8 := Bool.eq_false_iff.mpr c8
          subst c8
          have H1 : ((truffleref03_Known.f (wrap64 (Int.tmod t262 8))).bind fun t265 => (if t265 = true then (some (wrap64 (IntKind.u64.wrap (Int.tdiv t262 8)), wrap64 (Int.tmod t262 8), t263, 0)) else (some (0, 0, 0, 8)))) = some (r1, r2, r3, r4) := by rw [if_neg (show ¬ (false = true) by decide)] at H; exact H
          clear H
          have H := H1
          clear H1
          replace H := Option.bind_eq_some_iff.mp H
          obtain ⟨t265, A90, H⟩ := H
          replace H : (if t265 = true then (some (wrap64 (IntKind.u64.wrap (Int.tdiv t262 8)), wrap64 (Int.tmod t262 8), t263, 0)) else (some (0, 0, 0, 8))) = some (r1, r2, r3, r4) := H
          have A9 := Aside0.mk A90
          clear A90
          by_cases c10 : t265 = true
          · subst c10
            have H1 : (some (wrap64 (IntKind.u64.wrap (Int.tdiv t262 8)), wrap64 (Int.tmod t262 8), t263, 0)) = some (r1, r2, r3, r4) := by rw [if_pos rfl] at H; exact H
            clear H
            have H := H1
            clear H1
            simp only [Option.some.injEq, Prod.mk.injEq] at H
            obtain ⟨rfl, rfl, rfl, rfl⟩ := H
            go_wp2_with (first | ((with_reducible refine gate_callee (f := 34) rfl ?_); refine goesL_ (some 36) rfl rfl Try.func34 (by kernel_rfl) rfl #[.int .i64 (wrap64 (Int.tmod t262 8))] rfl (by (try simp only [List.map_toArray, List.map_cons, List.map_nil]); first | done | rfl | (simp only [List.length_drop, List.length_take]; rfl)) ?_; (with_reducible refine (truffleref03_Known.calls (wrap64 (Int.tmod t262 8)) true _ A9.out).mono ?_); rintro e w' ⟨rfl, ⟨nd, rfl⟩⟩; refine ⟨_, rfl, ?_⟩))
            refine bodyPost_ret (results_list (rs := [.tmp 6, .tmp 7, .tmp 8, .tmp 9]) rfl (by simp) (.tmp (.tmp (.tmp (.tmp .nil))))) rfl ?_
            exact ⟨by first | rfl | (simp; done) | (simp [*]; done), by repeat (first | exact Drawn0.refl _ | apply Drawn0.step)⟩
          · replace c10 := Bool.eq_false_iff.mpr c10
            subst c10
            have H1 : (some (0, 0, 0, 8)) = some (r1, r2, r3, r4) := by rw [if_neg (show ¬ (false = true) by decide)] at H; exact H
            clear H
            have H := H1
            clear H1
            simp only [Option.some.injEq, Prod.mk.injEq] at H
            obtain ⟨rfl, rfl, rfl, rfl⟩ := H
            go_wp2_with (first | ((with_reducible refine gate_callee (f := 34) rfl ?_); refine goesL_ (some 36) rfl rfl Try.func34 (by kernel_rfl) rfl #[.int .i64 (wrap64 (Int.tmod t262 8))] rfl (by (try simp only [List.map_toArray, List.map_cons, List.map_nil]); first | done | rfl | (simp only [List.length_drop, List.length_take]; rfl)) ?_; (with_reducible refine (truffleref03_Known.calls (wrap64 (Int.tmod t262 8)) false _ A9.out).mono ?_); rintro e w' ⟨rfl, ⟨nd, rfl⟩⟩; refine ⟨_, rfl, ?_⟩))
            refine bodyPost_ret (results_list (rs := [.tmp 6, .tmp 7, .tmp 8, .tmp 9]) rfl (by simp) (.tmp (.tmp (.tmp (.tmp .nil))))) rfl ?_
            exact ⟨by first | rfl | (simp; done) | (simp [*]; done), by repeat (first | exact Drawn0.refl _ | apply Drawn0.step)⟩
  · rw [if_neg c5] at H
    have c5b0 : (t264 == 0) = false := beq_eq_false_iff_ne.mpr c5
    have c5b1 : (t264 != 0) = true := bne_iff_ne.mpr c5
    simp only [Option.some.injEq, Prod.mk.injEq] at H
    obtain ⟨rfl, rfl, rfl, rfl⟩ := H
    go_enter Try.func32, Try.ntmps32
    go_wp2_with (first | ((with_reducible refine gate_callee (f := 35) rfl ?_); refine goesL_ (some 18) rfl rfl Try.func35 (by kernel_rfl) rfl #[.slice A0 l0.length c0, .int .i64 a1, .int .i64 a2] rfl (by (try simp only [List.map_toArray, List.map_cons, List.map_nil]); first | done | rfl | (simp only [List.length_drop, List.length_take]; rfl)) ?_; (with_reducible refine (truffleref01_Get.calls k _ _ l0 a1 a2 t262 t263 t264 _ ?side1 ?side2 A4.out).mono ?_); (case side1 => repeat (first | exact HR0.out | (with_reducible refine Kd.C_alloc ?_ _) | (with_reducible refine Kd.C_drewN ?_ _) | (with_reducible refine Kd.C_drew ?_))); (case side2 => exact HC0.out); rintro e w' ⟨rfl, ⟨nd, rfl⟩⟩; refine ⟨_, rfl, ?_⟩))
    refine bodyPost_ret (results_list (rs := [.tmp 6, .tmp 7, .tmp 8, .tmp 9]) rfl (by simp) (.tmp (.tmp (.tmp (.tmp .nil))))) rfl ?_
    exact ⟨by first | rfl | (simp; done) | (simp [*]; done), by repeat (first | exact Drawn0.refl _ | apply Drawn0.step)⟩

end Go.Proofs.Ytokbcenkgdpepaa.M
