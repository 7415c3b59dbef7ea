-- Written by wip/print18.py (this session's program, over the kit's print.py), for this seat's laws.
import Derived.Test.YtokbcenkgdpepaaMx0
import Derived.Test.YtokbcenkgdpepaaMx4
import Derived.Test.YtokbcenkgdpepaaMx5
import Derived.Test.YtokbcenkgdpepaaMx11
namespace Go.Proofs.Ytokbcenkgdpepaa.M
open Go.RowKit Go.Proofs.YtokbcenkgdpepaaW.PrintWords Go.Proofs.YtokbcenkgdpepaaW.PrintLast Go.Proofs.YtokbcenkgdpepaaW.PrintMore
attribute [local go_sem] max2_int min2_int max_two min_two max_three min_three max_four min_four   -- for this text's walks alone
set_option linter.unusedVariables false
set_option linter.unusedSimpArgs false

/-! ### trufflelaw01_VarintFix: function 7 -/
def trufflelaw01_VarintFix.j0 : Nat → Int → Int → Bool → List Int → Bool → Bool → Option (Bool)
  | 0, _, _, _, _, _, _ => none
  | k + 1, x0, x1, x5, x6, x7, x37 => if x37 = true then (if x5 = true then (if x7 = true then (some false) else (if x1 = 4 then (some false) else (if x1 = 8 then (some false) else (some ((x6.length : Int) == 0))))) else (some false)) else ((varint_Unfix.f k x6 0 (x6.length : Int) x1).bind fun bt194 => ((varint_Unfix.f k x6 1 (x6.length : Int) x1).bind fun bt197 => (if x1 = 4 then (if (x6.length : Int) = x1 then (if bt194.1 = (Int.tmod x0 4294967296) then (if bt194.2.1 = x1 then (if bt194.2.2 = 0 then (some (bt197.2.2 == 6)) else (some false)) else (some false)) else (some false)) else (some false)) else (if (x6.length : Int) = x1 then (if bt194.1 = x0 then (if bt194.2.1 = x1 then (if bt194.2.2 = 0 then (some (bt197.2.2 == 6)) else (some false)) else (some false)) else (some false)) else (some false)))))
def trufflelaw01_VarintFix.f (k : Nat) (a0 : Int) (a1 : Int) : Option (Bool) := (trufflelaw01_awake.f k).bind fun t189 => ((varint_Fix.f k a0 a1).bind fun bt190 => (if t189 = true then (if a1 = 4 then (if (bt190.2 != true) = true then (trufflelaw01_VarintFix.j0 k a0 a1 t189 bt190.1 bt190.2 true) else (trufflelaw01_VarintFix.j0 k a0 a1 t189 bt190.1 bt190.2 (!bt190.2))) else (if (bt190.2 != (a1 == 8)) = true then (trufflelaw01_VarintFix.j0 k a0 a1 t189 bt190.1 bt190.2 true) else (trufflelaw01_VarintFix.j0 k a0 a1 t189 bt190.1 bt190.2 (!bt190.2)))) else (trufflelaw01_VarintFix.j0 k a0 a1 t189 bt190.1 bt190.2 true)))
theorem trufflelaw01_VarintFix.mono_l : ∀ k, (∀ y0 y1 y2 y3 y4 y5, LeO (trufflelaw01_VarintFix.j0 k y0 y1 y2 y3 y4 y5) (trufflelaw01_VarintFix.j0 (k + 1) y0 y1 y2 y3 y4 y5))
  | 0 => fun _ _ _ _ _ _ r h => by simp [trufflelaw01_VarintFix.j0] at h
  | k + 1 => by
    have ih0 := trufflelaw01_VarintFix.mono_l k
    · intro y0 y1 y2 y3 y4 y5
      unfold trufflelaw01_VarintFix.j0
      repeat' first
      | (with_reducible exact ih0 _ _ _ _ _ _)
      | (with_reducible exact trufflelaw01_awake.mono _)
      | (with_reducible exact varint_Fix.mono _ _ _)
      | (with_reducible exact varint_Unfix.mono _ _ _ _ _)
      | (with_reducible exact LeO.refl _)
      | (with_reducible exact LeO.none _)
      | (with_reducible refine LeO.ite ?_ ?_)
      | (with_reducible refine LeO.bind ?_ (fun _ => ?_))
      | exact ih0 _ _ _ _ _ _
      | exact trufflelaw01_awake.mono _
      | exact varint_Fix.mono _ _ _
      | exact varint_Unfix.mono _ _ _ _ _
      | exact LeO.none _
      | refine LeO.ite ?_ ?_
      | refine LeO.bind ?_ (fun _ => ?_)
theorem trufflelaw01_VarintFix.mono : ∀ a0 a1 k, LeO (trufflelaw01_VarintFix.f k a0 a1) (trufflelaw01_VarintFix.f (k + 1) a0 a1) := by
  intro a0 a1 k
  have ih0 := trufflelaw01_VarintFix.mono_l k
  unfold trufflelaw01_VarintFix.f
  repeat' first
      | (with_reducible exact ih0 _ _ _ _ _ _)
      | (with_reducible exact trufflelaw01_awake.mono _)
      | (with_reducible exact varint_Fix.mono _ _ _)
      | (with_reducible exact varint_Unfix.mono _ _ _ _ _)
      | (with_reducible exact LeO.refl _)
      | (with_reducible exact LeO.none _)
      | (with_reducible refine LeO.ite ?_ ?_)
      | (with_reducible refine LeO.bind ?_ (fun _ => ?_))
      | exact ih0 _ _ _ _ _ _
      | exact trufflelaw01_awake.mono _
      | exact varint_Fix.mono _ _ _
      | exact varint_Unfix.mono _ _ _ _ _
      | exact LeO.none _
      | refine LeO.ite ?_ ?_
      | refine LeO.bind ?_ (fun _ => ?_)
set_option maxHeartbeats 8000000 in
set_option maxRecDepth 100000 in
theorem trufflelaw01_VarintFix.calls (k : Nat) (a0 : Int) (a1 : Int) (r : Bool) (w : World) (h : trufflelaw01_VarintFix.f k a0 a1 = some r) :
    Calls Try.prog 7 #[.int .u64 a0, .int .i64 a1] w fun e w' => e = .returned (.bool r) ∧ Below w.heap.size w w' := by
  have HB := Aside0.mk (Below.refl w.heap.size w)
  have H : ((trufflelaw01_awake.f k).bind fun t189 => ((varint_Fix.f k a0 a1).bind fun bt190 => (if t189 = true then (if a1 = 4 then (if (bt190.2 != true) = true then (trufflelaw01_VarintFix.j0 k a0 a1 t189 bt190.1 bt190.2 true) else (trufflelaw01_VarintFix.j0 k a0 a1 t189 bt190.1 bt190.2 (!bt190.2))) else (if (bt190.2 != (a1 == 8)) = true then (trufflelaw01_VarintFix.j0 k a0 a1 t189 bt190.1 bt190.2 true) else (trufflelaw01_VarintFix.j0 k a0 a1 t189 bt190.1 bt190.2 (!bt190.2)))) else (trufflelaw01_VarintFix.j0 k a0 a1 t189 bt190.1 bt190.2 true)))) = some r := h
  clear h
  replace H := Option.bind_eq_some_iff.mp H
  obtain ⟨t189, A30, H⟩ := H
  replace H : ((varint_Fix.f k a0 a1).bind fun bt190 => (if t189 = true then (if a1 = 4 then (if (bt190.2 != true) = true then (trufflelaw01_VarintFix.j0 k a0 a1 t189 bt190.1 bt190.2 true) else (trufflelaw01_VarintFix.j0 k a0 a1 t189 bt190.1 bt190.2 (!bt190.2))) else (if (bt190.2 != (a1 == 8)) = true then (trufflelaw01_VarintFix.j0 k a0 a1 t189 bt190.1 bt190.2 true) else (trufflelaw01_VarintFix.j0 k a0 a1 t189 bt190.1 bt190.2 (!bt190.2)))) else (trufflelaw01_VarintFix.j0 k a0 a1 t189 bt190.1 bt190.2 true))) = some r := H
  have A3 := Aside0.mk A30
  clear A30
  replace H := Option.bind_eq_some_iff.mp H
  obtain ⟨⟨t190, t191⟩, A40, H⟩ := H
  replace H : (if t189 = true then (if a1 = 4 then (if (t191 != true) = true then (trufflelaw01_VarintFix.j0 k a0 a1 t189 t190 t191 true) else (trufflelaw01_VarintFix.j0 k a0 a1 t189 t190 t191 (!t191))) else (if (t191 != (a1 == 8)) = true then (trufflelaw01_VarintFix.j0 k a0 a1 t189 t190 t191 true) else (trufflelaw01_VarintFix.j0 k a0 a1 t189 t190 t191 (!t191)))) else (trufflelaw01_VarintFix.j0 k a0 a1 t189 t190 t191 true)) = some r := H
  have A4 := Aside0.mk A40
  clear A40
  have HC5 := Aside0.mk H
  clear H
  go_enter Try.func7, Try.ntmps7
  go_upto_region 3 with (first | ((with_reducible refine gate_callee (f := 21) rfl ?_); refine goesL_ (some 15) rfl rfl Try.func21 (by kernel_rfl) rfl #[] rfl (by (try simp only [List.map_toArray, List.map_cons, List.map_nil]); first | done | rfl | (simp only [List.length_drop, List.length_take]; rfl)) ?_; (with_reducible refine (trufflelaw01_awake.calls k  t189 _ A3.out).mono ?_); rintro e w6 ⟨rfl, hb⟩; refine ⟨_, rfl, ?_⟩; have n0_ := Aside0.mk (below_step (by repeat (first | (with_reducible first | exact HB.out | apply below_alloc | apply pw_below_drewN | apply below_drew1) | exact HB.out)) hb); clear HB; have HB := n0_; clear n0_; (try clear hb); (try clear hb2); (try clear hk); (try clear hi)) | ((with_reducible refine gate_callee (f := 26) rfl ?_); refine goesL_ (some 19) rfl rfl Try.func26 (by kernel_rfl) rfl #[.int .u64 a0, .int .i64 a1] rfl (by (try simp only [List.map_toArray, List.map_cons, List.map_nil]); first | done | rfl | (simp only [List.length_drop, List.length_take]; rfl)) ?_; (with_reducible refine (varint_Fix.calls k a0 a1 t190 t191 _ A4.out).mono ?_); rintro e w7 ⟨v192, rfl, ho0, hb⟩; refine ⟨_, rfl, ?_⟩; have n0_ := Aside0.mk (Kd.R_lower ho0 (below_size (by repeat (first | (with_reducible first | exact HB.out | apply below_alloc | apply pw_below_drewN | apply below_drew1) | exact HB.out)))); have n1_ := Aside0.mk (below_step (by repeat (first | (with_reducible first | exact HB.out | apply below_alloc | apply pw_below_drewN | apply below_drew1) | exact HB.out)) hb); clear HB; have HO193 := n0_; have HB := n1_; clear n0_ n1_; (try clear hb); (try clear hb2); (try clear hk); (try clear hi); (try clear ho0)))
  (try simp only [Act.put, List.setIfInBounds_toArray, List.set_cons_zero, List.set_cons_succ])
  go_cut [37] (fun v37 wc => ∃ (kq : Nat) (x37_4 : Bool), v37 = .bool x37_4 ∧ Aside0 (trufflelaw01_VarintFix.j0 kq a0 a1 t189 t190 t191 x37_4 = some r) ∧ Aside0 (kq ≤ k) ∧ Aside0 (Kd.R (Kd.int .u8) 5 wc w.heap.size (fun _ => True) v192 t190) ∧ Aside0 (Below w.heap.size w wc))
  case first =>
    have H := HC5.out
    clear HC5
    by_cases c8 : t189 = true
    · subst c8
      have H1 : (if a1 = 4 then (if (t191 != true) = true then (trufflelaw01_VarintFix.j0 k a0 a1 true t190 t191 true) else (trufflelaw01_VarintFix.j0 k a0 a1 true t190 t191 (!t191))) else (if (t191 != (a1 == 8)) = true then (trufflelaw01_VarintFix.j0 k a0 a1 true t190 t191 true) else (trufflelaw01_VarintFix.j0 k a0 a1 true t190 t191 (!t191)))) = some r := by rw [if_pos rfl] at H; exact H
      clear H
      have H := H1
      clear H1
      by_cases c9 : a1 = 4
      · rw [if_pos c9] at H
        have c9b0 : (a1 == 4) = true := beq_iff_eq.mpr c9
        have c9b1 : (a1 != 4) = false := bne_eq_false_iff_eq.mpr c9
        clear c9
        (first | rw [c9b0] | (simp only [i64_w, i32_w]; rw [c9b0]) | skip)
        by_cases c10 : (t191 != true) = true
        · rw [if_pos c10] at H
          have c10b0 : (t191 != true) = true := c10
          (try (have c10b1 : decide (t191 = true) = false := by simpa using c10))
          (try (have c10b2 : (t191 == true) = false := by simpa using c10))
          (try (have c10b3 : ¬ (t191 = true) := by simpa using c10))
          clear c10
          have H' := Aside0.mk H
          clear H
          go_wp2
          go_meet
          case rel => exact ⟨_, (true), (by first | rfl | (simp; done) | (simp [*]; done)), H', ⟨by first | omega | exact Nat.le_refl _⟩, ⟨by (with_reducible repeat (first | apply Kd.R_alloc | apply Kd.R_drewN | apply Kd.R_drew)); exact HO193.out⟩, ⟨by repeat (first | (with_reducible first | exact HB.out | apply below_alloc | apply pw_below_drewN | apply below_drew1) | exact HB.out)⟩⟩
        · rw [if_neg c10] at H
          have c10b0 : (t191 != true) = false := by simpa using c10
          (try (have c10b1 : decide (t191 = true) = true := by simpa using c10))
          (try (have c10b2 : (t191 == true) = true := by simpa using c10))
          clear c10
          have H' := Aside0.mk H
          clear H
          go_wp2
          go_meet
          case rel => exact ⟨_, (!t191), (by first | rfl | (simp; done) | (simp [*]; done)), H', ⟨by first | omega | exact Nat.le_refl _⟩, ⟨by (with_reducible repeat (first | apply Kd.R_alloc | apply Kd.R_drewN | apply Kd.R_drew)); exact HO193.out⟩, ⟨by repeat (first | (with_reducible first | exact HB.out | apply below_alloc | apply pw_below_drewN | apply below_drew1) | exact HB.out)⟩⟩
      · rw [if_neg c9] at H
        have c9b0 : (a1 == 4) = false := beq_eq_false_iff_ne.mpr c9
        have c9b1 : (a1 != 4) = true := bne_iff_ne.mpr c9
        (first | rw [c9b0] | (simp only [i64_w, i32_w]; rw [c9b0]) | skip)
        by_cases c11 : (t191 != (a1 == 8)) = true
        · rw [if_pos c11] at H
          have c11b0 : (t191 != (a1 == 8)) = true := c11
          (try (have c11b1 : decide (t191 = (a1 == 8)) = false := by simpa using c11))
          (try (have c11b2 : (t191 == (a1 == 8)) = false := by simpa using c11))
          (try (have c11b3 : ¬ (t191 = (a1 == 8)) := by simpa using c11))
          clear c11
          have H' := Aside0.mk H
          clear H
          go_wp2
          go_meet
          case rel => exact ⟨_, (true), (by first | rfl | (simp; done) | (simp [*]; done)), H', ⟨by first | omega | exact Nat.le_refl _⟩, ⟨by (with_reducible repeat (first | apply Kd.R_alloc | apply Kd.R_drewN | apply Kd.R_drew)); exact HO193.out⟩, ⟨by repeat (first | (with_reducible first | exact HB.out | apply below_alloc | apply pw_below_drewN | apply below_drew1) | exact HB.out)⟩⟩
        · rw [if_neg c11] at H
          have c11b0 : (t191 != (a1 == 8)) = false := by simpa using c11
          (try (have c11b1 : decide (t191 = (a1 == 8)) = true := by simpa using c11))
          (try (have c11b2 : (t191 == (a1 == 8)) = true := by simpa using c11))
          clear c11
          have H' := Aside0.mk H
          clear H
          go_wp2
          go_meet
          case rel => exact ⟨_, (!t191), (by first | rfl | (simp; done) | (simp [*]; done)), H', ⟨by first | omega | exact Nat.le_refl _⟩, ⟨by (with_reducible repeat (first | apply Kd.R_alloc | apply Kd.R_drewN | apply Kd.R_drew)); exact HO193.out⟩, ⟨by repeat (first | (with_reducible first | exact HB.out | apply below_alloc | apply pw_below_drewN | apply below_drew1) | exact HB.out)⟩⟩
    · replace c8 := Bool.eq_false_iff.mpr c8
      subst c8
      have H1 : (trufflelaw01_VarintFix.j0 k a0 a1 false t190 t191 true) = some r := by rw [if_neg (show ¬ (false = true) by decide)] at H; exact H
      clear H
      have H := H1
      clear H1
      have H' := Aside0.mk H
      clear H
      go_wp2
      go_meet
      case rel => exact ⟨_, (true), (by first | rfl | (simp; done) | (simp [*]; done)), H', ⟨by first | omega | exact Nat.le_refl _⟩, ⟨by (with_reducible repeat (first | apply Kd.R_alloc | apply Kd.R_drewN | apply Kd.R_drew)); exact HO193.out⟩, ⟨by repeat (first | (with_reducible first | exact HB.out | apply below_alloc | apply pw_below_drewN | apply below_drew1) | exact HB.out)⟩⟩
  case rest =>
    clear HC5
    try clear c1
    try clear c2
    try clear p2
    try clear c7
    try clear c8
    try clear c9
    try clear c9b0
    try clear c9b1
    try clear c10
    try clear c10b0
    try clear c10b1
    try clear c10b2
    try clear c11
    try clear c11b0
    try clear c11b1
    try clear c11b2
    obtain ⟨kq, x37_4, rfl, HA, HJ4, HO_6, HB⟩ := hcut
    cases kq with
    | zero => exact absurd HA.out (by simp [trufflelaw01_VarintFix.j0])
    | succ kj4 =>
      have H := HA.out
      clear HA
      simp only [trufflelaw01_VarintFix.j0] at H
      by_cases c12 : x37_4 = true
      · subst c12
        have H1 : (if t189 = true then (if t191 = true then (some false) else (if a1 = 4 then (some false) else (if a1 = 8 then (some false) else (some ((t190.length : Int) == 0))))) else (some false)) = some r := by rw [if_pos rfl] at H; exact H
        clear H
        have H := H1
        clear H1
        by_cases c13 : t189 = true
        · subst c13
          have H1 : (if t191 = true then (some false) else (if a1 = 4 then (some false) else (if a1 = 8 then (some false) else (some ((t190.length : Int) == 0))))) = some r := by rw [if_pos rfl] at H; exact H
          clear H
          have H := H1
          clear H1
          by_cases c14 : t191 = true
          · subst c14
            have H1 : (some false) = some r := by rw [if_pos rfl] at H; exact H
            clear H
            have H := H1
            clear H1
            obtain rfl := Option.some.inj H
            go_wp2
            go_ret
            exact ⟨by first | rfl | (simp [errW_none, errW_some] <;> rfl) | (simp [*, errW_none, errW_some] <;> rfl), by repeat (first | (with_reducible first | exact HB.out | apply below_alloc | apply pw_below_drewN | apply below_drew1) | exact HB.out)⟩
          · replace c14 := Bool.eq_false_iff.mpr c14
            subst c14
            have H1 : (if a1 = 4 then (some false) else (if a1 = 8 then (some false) else (some ((t190.length : Int) == 0)))) = some r := by rw [if_neg (show ¬ (false = true) by decide)] at H; exact H
            clear H
            have H := H1
            clear H1
            by_cases c15 : a1 = 4
            · rw [if_pos c15] at H
              have c15b0 : (a1 == 4) = true := beq_iff_eq.mpr c15
              have c15b1 : (a1 != 4) = false := bne_eq_false_iff_eq.mpr c15
              clear c15
              obtain rfl := Option.some.inj H
              go_wp2
              go_ret
              exact ⟨by first | rfl | (simp [errW_none, errW_some] <;> rfl) | (simp [*, errW_none, errW_some] <;> rfl), by repeat (first | (with_reducible first | exact HB.out | apply below_alloc | apply pw_below_drewN | apply below_drew1) | exact HB.out)⟩
            · rw [if_neg c15] at H
              have c15b0 : (a1 == 4) = false := beq_eq_false_iff_ne.mpr c15
              have c15b1 : (a1 != 4) = true := bne_iff_ne.mpr c15
              by_cases c16 : a1 = 8
              · rw [if_pos c16] at H
                have c16b0 : (a1 == 8) = true := beq_iff_eq.mpr c16
                have c16b1 : (a1 != 8) = false := bne_eq_false_iff_eq.mpr c16
                clear c16
                obtain rfl := Option.some.inj H
                go_wp2
                go_ret
                exact ⟨by first | rfl | (simp [errW_none, errW_some] <;> rfl) | (simp [*, errW_none, errW_some] <;> rfl), by repeat (first | (with_reducible first | exact HB.out | apply below_alloc | apply pw_below_drewN | apply below_drew1) | exact HB.out)⟩
              · rw [if_neg c16] at H
                have c16b0 : (a1 == 8) = false := beq_eq_false_iff_ne.mpr c16
                have c16b1 : (a1 != 8) = true := bne_iff_ne.mpr c16
                obtain rfl := Option.some.inj H
                obtain ⟨Ao17, co17, eo17⟩ := Kd.R_slice HO_6.out
                subst eo17
                go_wp2
                go_ret
                exact ⟨by first | rfl | (simp [errW_none, errW_some] <;> rfl) | (simp [*, errW_none, errW_some] <;> rfl), by repeat (first | (with_reducible first | exact HB.out | apply below_alloc | apply pw_below_drewN | apply below_drew1) | exact HB.out)⟩
        · replace c13 := Bool.eq_false_iff.mpr c13
          subst c13
          have H1 : (some false) = some r := by rw [if_neg (show ¬ (false = true) by decide)] at H; exact H
          clear H
          have H := H1
          clear H1
          obtain rfl := Option.some.inj H
          go_wp2
          go_ret
          exact ⟨by first | rfl | (simp [errW_none, errW_some] <;> rfl) | (simp [*, errW_none, errW_some] <;> rfl), by repeat (first | (with_reducible first | exact HB.out | apply below_alloc | apply pw_below_drewN | apply below_drew1) | exact HB.out)⟩
      · replace c12 := Bool.eq_false_iff.mpr c12
        subst c12
        have H1 : ((varint_Unfix.f kj4 t190 0 (t190.length : Int) a1).bind fun bt194 => ((varint_Unfix.f kj4 t190 1 (t190.length : Int) a1).bind fun bt197 => (if a1 = 4 then (if (t190.length : Int) = a1 then (if bt194.1 = (Int.tmod a0 4294967296) then (if bt194.2.1 = a1 then (if bt194.2.2 = 0 then (some (bt197.2.2 == 6)) else (some false)) else (some false)) else (some false)) else (some false)) else (if (t190.length : Int) = a1 then (if bt194.1 = a0 then (if bt194.2.1 = a1 then (if bt194.2.2 = 0 then (some (bt197.2.2 == 6)) else (some false)) else (some false)) else (some false)) else (some false))))) = some r := by rw [if_neg (show ¬ (false = true) by decide)] at H; exact H
        clear H
        have H := H1
        clear H1
        replace H := Option.bind_eq_some_iff.mp H
        obtain ⟨⟨t194, t195, t196⟩, A180, H⟩ := H
        replace H : ((varint_Unfix.f kj4 t190 1 (t190.length : Int) a1).bind fun bt197 => (if a1 = 4 then (if (t190.length : Int) = a1 then (if t194 = (Int.tmod a0 4294967296) then (if t195 = a1 then (if t196 = 0 then (some (bt197.2.2 == 6)) else (some false)) else (some false)) else (some false)) else (some false)) else (if (t190.length : Int) = a1 then (if t194 = a0 then (if t195 = a1 then (if t196 = 0 then (some (bt197.2.2 == 6)) else (some false)) else (some false)) else (some false)) else (some false)))) = some r := H
        have A18 := Aside0.mk A180
        clear A180
        replace H := Option.bind_eq_some_iff.mp H
        obtain ⟨⟨t197, t198, t199⟩, A190, H⟩ := H
        replace H : (if a1 = 4 then (if (t190.length : Int) = a1 then (if t194 = (Int.tmod a0 4294967296) then (if t195 = a1 then (if t196 = 0 then (some (t199 == 6)) else (some false)) else (some false)) else (some false)) else (some false)) else (if (t190.length : Int) = a1 then (if t194 = a0 then (if t195 = a1 then (if t196 = 0 then (some (t199 == 6)) else (some false)) else (some false)) else (some false)) else (some false))) = some r := H
        have A19 := Aside0.mk A190
        clear A190
        by_cases c20 : a1 = 4
        · rw [if_pos c20] at H
          have c20b0 : (a1 == 4) = true := beq_iff_eq.mpr c20
          have c20b1 : (a1 != 4) = false := bne_eq_false_iff_eq.mpr c20
          clear c20
          by_cases c21 : (t190.length : Int) = a1
          · rw [if_pos c21] at H
            have c21b0 : ((t190.length : Int) == a1) = true := beq_iff_eq.mpr c21
            have c21b1 : ((t190.length : Int) != a1) = false := bne_eq_false_iff_eq.mpr c21
            clear c21
            by_cases c22 : t194 = (Int.tmod a0 4294967296)
            · rw [if_pos c22] at H
              have c22b0 : (t194 == (Int.tmod a0 4294967296)) = true := beq_iff_eq.mpr c22
              have c22b1 : (t194 != (Int.tmod a0 4294967296)) = false := bne_eq_false_iff_eq.mpr c22
              clear c22
              by_cases c23 : t195 = a1
              · rw [if_pos c23] at H
                have c23b0 : (t195 == a1) = true := beq_iff_eq.mpr c23
                have c23b1 : (t195 != a1) = false := bne_eq_false_iff_eq.mpr c23
                clear c23
                by_cases c24 : t196 = 0
                · rw [if_pos c24] at H
                  have c24b0 : (t196 == 0) = true := beq_iff_eq.mpr c24
                  have c24b1 : (t196 != 0) = false := bne_eq_false_iff_eq.mpr c24
                  clear c24
                  obtain rfl := Option.some.inj H
                  obtain ⟨Ao25, co25, eo25⟩ := Kd.R_slice HO_6.out
                  subst eo25
                  go_wp2_with (first | ((with_reducible refine gate_callee (f := 27) rfl ?_); refine goesL_ (some 61) rfl rfl Try.func27 (by kernel_rfl) rfl #[.slice Ao25 t190.length co25, .int .i64 0, .int .i64 (t190.length : Int), .int .i64 a1] rfl (by (try simp only [List.map_toArray, List.map_cons, List.map_nil]); first | done | rfl | (simp only [List.length_drop, List.length_take]; rfl)) ?_; (with_reducible refine (varint_Unfix.calls kj4 _ _ t190 0 (t190.length : Int) a1 t194 t195 t196 _ ?side1 ?side2 A18.out).mono ?_); (case side1 => repeat (first | exact (Kd.R_reads' HO_6.out).2.2 | (with_reducible refine Kd.C_alloc ?_ _) | (with_reducible refine Kd.C_drewN ?_ _) | (with_reducible refine Kd.C_drew ?_))); (case side2 => exact (Kd.R_reads' HO_6.out).2.1); rintro e w' ⟨rfl, ⟨nd, rfl⟩⟩; refine ⟨_, rfl, ?_⟩) | ((with_reducible refine gate_callee (f := 27) rfl ?_); refine goesL_ (some 70) rfl rfl Try.func27 (by kernel_rfl) rfl #[.slice Ao25 t190.length co25, .int .i64 1, .int .i64 (t190.length : Int), .int .i64 a1] rfl (by (try simp only [List.map_toArray, List.map_cons, List.map_nil]); first | done | rfl | (simp only [List.length_drop, List.length_take]; rfl)) ?_; (with_reducible refine (varint_Unfix.calls kj4 _ _ t190 1 (t190.length : Int) a1 t197 t198 t199 _ ?side1 ?side2 A19.out).mono ?_); (case side1 => repeat (first | exact (Kd.R_reads' HO_6.out).2.2 | (with_reducible refine Kd.C_alloc ?_ _) | (with_reducible refine Kd.C_drewN ?_ _) | (with_reducible refine Kd.C_drew ?_))); (case side2 => exact (Kd.R_reads' HO_6.out).2.1); rintro e w' ⟨rfl, ⟨nd, rfl⟩⟩; refine ⟨_, rfl, ?_⟩))
                  go_ret
                  exact ⟨by first | rfl | (simp [errW_none, errW_some] <;> rfl) | (simp [*, errW_none, errW_some] <;> rfl), by repeat (first | (with_reducible first | exact HB.out | apply below_alloc | apply pw_below_drewN | apply below_drew1) | exact HB.out)⟩
                · rw [if_neg c24] at H
                  have c24b0 : (t196 == 0) = false := beq_eq_false_iff_ne.mpr c24
                  have c24b1 : (t196 != 0) = true := bne_iff_ne.mpr c24
                  obtain rfl := Option.some.inj H
                  obtain ⟨Ao26, co26, eo26⟩ := Kd.R_slice HO_6.out
                  subst eo26
                  go_wp2_with (first | ((with_reducible refine gate_callee (f := 27) rfl ?_); refine goesL_ (some 61) rfl rfl Try.func27 (by kernel_rfl) rfl #[.slice Ao26 t190.length co26, .int .i64 0, .int .i64 (t190.length : Int), .int .i64 a1] rfl (by (try simp only [List.map_toArray, List.map_cons, List.map_nil]); first | done | rfl | (simp only [List.length_drop, List.length_take]; rfl)) ?_; (with_reducible refine (varint_Unfix.calls kj4 _ _ t190 0 (t190.length : Int) a1 t194 t195 t196 _ ?side1 ?side2 A18.out).mono ?_); (case side1 => repeat (first | exact (Kd.R_reads' HO_6.out).2.2 | (with_reducible refine Kd.C_alloc ?_ _) | (with_reducible refine Kd.C_drewN ?_ _) | (with_reducible refine Kd.C_drew ?_))); (case side2 => exact (Kd.R_reads' HO_6.out).2.1); rintro e w' ⟨rfl, ⟨nd, rfl⟩⟩; refine ⟨_, rfl, ?_⟩) | ((with_reducible refine gate_callee (f := 27) rfl ?_); refine goesL_ (some 70) rfl rfl Try.func27 (by kernel_rfl) rfl #[.slice Ao26 t190.length co26, .int .i64 1, .int .i64 (t190.length : Int), .int .i64 a1] rfl (by (try simp only [List.map_toArray, List.map_cons, List.map_nil]); first | done | rfl | (simp only [List.length_drop, List.length_take]; rfl)) ?_; (with_reducible refine (varint_Unfix.calls kj4 _ _ t190 1 (t190.length : Int) a1 t197 t198 t199 _ ?side1 ?side2 A19.out).mono ?_); (case side1 => repeat (first | exact (Kd.R_reads' HO_6.out).2.2 | (with_reducible refine Kd.C_alloc ?_ _) | (with_reducible refine Kd.C_drewN ?_ _) | (with_reducible refine Kd.C_drew ?_))); (case side2 => exact (Kd.R_reads' HO_6.out).2.1); rintro e w' ⟨rfl, ⟨nd, rfl⟩⟩; refine ⟨_, rfl, ?_⟩))
                  go_ret
                  exact ⟨by first | rfl | (simp [errW_none, errW_some] <;> rfl) | (simp [*, errW_none, errW_some] <;> rfl), by repeat (first | (with_reducible first | exact HB.out | apply below_alloc | apply pw_below_drewN | apply below_drew1) | exact HB.out)⟩
              · rw [if_neg c23] at H
                have c23b0 : (t195 == a1) = false := beq_eq_false_iff_ne.mpr c23
                have c23b1 : (t195 != a1) = true := bne_iff_ne.mpr c23
                obtain rfl := Option.some.inj H
                obtain ⟨Ao27, co27, eo27⟩ := Kd.R_slice HO_6.out
                subst eo27
                go_wp2_with (first | ((with_reducible refine gate_callee (f := 27) rfl ?_); refine goesL_ (some 61) rfl rfl Try.func27 (by kernel_rfl) rfl #[.slice Ao27 t190.length co27, .int .i64 0, .int .i64 (t190.length : Int), .int .i64 a1] rfl (by (try simp only [List.map_toArray, List.map_cons, List.map_nil]); first | done | rfl | (simp only [List.length_drop, List.length_take]; rfl)) ?_; (with_reducible refine (varint_Unfix.calls kj4 _ _ t190 0 (t190.length : Int) a1 t194 t195 t196 _ ?side1 ?side2 A18.out).mono ?_); (case side1 => repeat (first | exact (Kd.R_reads' HO_6.out).2.2 | (with_reducible refine Kd.C_alloc ?_ _) | (with_reducible refine Kd.C_drewN ?_ _) | (with_reducible refine Kd.C_drew ?_))); (case side2 => exact (Kd.R_reads' HO_6.out).2.1); rintro e w' ⟨rfl, ⟨nd, rfl⟩⟩; refine ⟨_, rfl, ?_⟩) | ((with_reducible refine gate_callee (f := 27) rfl ?_); refine goesL_ (some 70) rfl rfl Try.func27 (by kernel_rfl) rfl #[.slice Ao27 t190.length co27, .int .i64 1, .int .i64 (t190.length : Int), .int .i64 a1] rfl (by (try simp only [List.map_toArray, List.map_cons, List.map_nil]); first | done | rfl | (simp only [List.length_drop, List.length_take]; rfl)) ?_; (with_reducible refine (varint_Unfix.calls kj4 _ _ t190 1 (t190.length : Int) a1 t197 t198 t199 _ ?side1 ?side2 A19.out).mono ?_); (case side1 => repeat (first | exact (Kd.R_reads' HO_6.out).2.2 | (with_reducible refine Kd.C_alloc ?_ _) | (with_reducible refine Kd.C_drewN ?_ _) | (with_reducible refine Kd.C_drew ?_))); (case side2 => exact (Kd.R_reads' HO_6.out).2.1); rintro e w' ⟨rfl, ⟨nd, rfl⟩⟩; refine ⟨_, rfl, ?_⟩))
                go_ret
                exact ⟨by first | rfl | (simp [errW_none, errW_some] <;> rfl) | (simp [*, errW_none, errW_some] <;> rfl), by repeat (first | (with_reducible first | exact HB.out | apply below_alloc | apply pw_below_drewN | apply below_drew1) | exact HB.out)⟩
            · rw [if_neg c22] at H
              have c22b0 : (t194 == (Int.tmod a0 4294967296)) = false := beq_eq_false_iff_ne.mpr c22
              have c22b1 : (t194 != (Int.tmod a0 4294967296)) = true := bne_iff_ne.mpr c22
              obtain rfl := Option.some.inj H
              obtain ⟨Ao28, co28, eo28⟩ := Kd.R_slice HO_6.out
              subst eo28
              go_wp2_with (first | ((with_reducible refine gate_callee (f := 27) rfl ?_); refine goesL_ (some 61) rfl rfl Try.func27 (by kernel_rfl) rfl #[.slice Ao28 t190.length co28, .int .i64 0, .int .i64 (t190.length : Int), .int .i64 a1] rfl (by (try simp only [List.map_toArray, List.map_cons, List.map_nil]); first | done | rfl | (simp only [List.length_drop, List.length_take]; rfl)) ?_; (with_reducible refine (varint_Unfix.calls kj4 _ _ t190 0 (t190.length : Int) a1 t194 t195 t196 _ ?side1 ?side2 A18.out).mono ?_); (case side1 => repeat (first | exact (Kd.R_reads' HO_6.out).2.2 | (with_reducible refine Kd.C_alloc ?_ _) | (with_reducible refine Kd.C_drewN ?_ _) | (with_reducible refine Kd.C_drew ?_))); (case side2 => exact (Kd.R_reads' HO_6.out).2.1); rintro e w' ⟨rfl, ⟨nd, rfl⟩⟩; refine ⟨_, rfl, ?_⟩) | ((with_reducible refine gate_callee (f := 27) rfl ?_); refine goesL_ (some 70) rfl rfl Try.func27 (by kernel_rfl) rfl #[.slice Ao28 t190.length co28, .int .i64 1, .int .i64 (t190.length : Int), .int .i64 a1] rfl (by (try simp only [List.map_toArray, List.map_cons, List.map_nil]); first | done | rfl | (simp only [List.length_drop, List.length_take]; rfl)) ?_; (with_reducible refine (varint_Unfix.calls kj4 _ _ t190 1 (t190.length : Int) a1 t197 t198 t199 _ ?side1 ?side2 A19.out).mono ?_); (case side1 => repeat (first | exact (Kd.R_reads' HO_6.out).2.2 | (with_reducible refine Kd.C_alloc ?_ _) | (with_reducible refine Kd.C_drewN ?_ _) | (with_reducible refine Kd.C_drew ?_))); (case side2 => exact (Kd.R_reads' HO_6.out).2.1); rintro e w' ⟨rfl, ⟨nd, rfl⟩⟩; refine ⟨_, rfl, ?_⟩))
              go_ret
              exact ⟨by first | rfl | (simp [errW_none, errW_some] <;> rfl) | (simp [*, errW_none, errW_some] <;> rfl), by repeat (first | (with_reducible first | exact HB.out | apply below_alloc | apply pw_below_drewN | apply below_drew1) | exact HB.out)⟩
          · rw [if_neg c21] at H
            have c21b0 : ((t190.length : Int) == a1) = false := beq_eq_false_iff_ne.mpr c21
            have c21b1 : ((t190.length : Int) != a1) = true := bne_iff_ne.mpr c21
            obtain rfl := Option.some.inj H
            obtain ⟨Ao29, co29, eo29⟩ := Kd.R_slice HO_6.out
            subst eo29
            go_wp2_with (first | ((with_reducible refine gate_callee (f := 27) rfl ?_); refine goesL_ (some 61) rfl rfl Try.func27 (by kernel_rfl) rfl #[.slice Ao29 t190.length co29, .int .i64 0, .int .i64 (t190.length : Int), .int .i64 a1] rfl (by (try simp only [List.map_toArray, List.map_cons, List.map_nil]); first | done | rfl | (simp only [List.length_drop, List.length_take]; rfl)) ?_; (with_reducible refine (varint_Unfix.calls kj4 _ _ t190 0 (t190.length : Int) a1 t194 t195 t196 _ ?side1 ?side2 A18.out).mono ?_); (case side1 => repeat (first | exact (Kd.R_reads' HO_6.out).2.2 | (with_reducible refine Kd.C_alloc ?_ _) | (with_reducible refine Kd.C_drewN ?_ _) | (with_reducible refine Kd.C_drew ?_))); (case side2 => exact (Kd.R_reads' HO_6.out).2.1); rintro e w' ⟨rfl, ⟨nd, rfl⟩⟩; refine ⟨_, rfl, ?_⟩) | ((with_reducible refine gate_callee (f := 27) rfl ?_); refine goesL_ (some 70) rfl rfl Try.func27 (by kernel_rfl) rfl #[.slice Ao29 t190.length co29, .int .i64 1, .int .i64 (t190.length : Int), .int .i64 a1] rfl (by (try simp only [List.map_toArray, List.map_cons, List.map_nil]); first | done | rfl | (simp only [List.length_drop, List.length_take]; rfl)) ?_; (with_reducible refine (varint_Unfix.calls kj4 _ _ t190 1 (t190.length : Int) a1 t197 t198 t199 _ ?side1 ?side2 A19.out).mono ?_); (case side1 => repeat (first | exact (Kd.R_reads' HO_6.out).2.2 | (with_reducible refine Kd.C_alloc ?_ _) | (with_reducible refine Kd.C_drewN ?_ _) | (with_reducible refine Kd.C_drew ?_))); (case side2 => exact (Kd.R_reads' HO_6.out).2.1); rintro e w' ⟨rfl, ⟨nd, rfl⟩⟩; refine ⟨_, rfl, ?_⟩))
            go_ret
            exact ⟨by first | rfl | (simp [errW_none, errW_some] <;> rfl) | (simp [*, errW_none, errW_some] <;> rfl), by repeat (first | (with_reducible first | exact HB.out | apply below_alloc | apply pw_below_drewN | apply below_drew1) | exact HB.out)⟩
        · rw [if_neg c20] at H
          have c20b0 : (a1 == 4) = false := beq_eq_false_iff_ne.mpr c20
          have c20b1 : (a1 != 4) = true := bne_iff_ne.mpr c20
          by_cases c30 : (t190.length : Int) = a1
          · rw [if_pos c30] at H
            have c30b0 : ((t190.length : Int) == a1) = true := beq_iff_eq.mpr c30
            have c30b1 : ((t190.length : Int) != a1) = false := bne_eq_false_iff_eq.mpr c30
            clear c30
            by_cases c31 : t194 = a0
            · rw [if_pos c31] at H
              have c31b0 : (t194 == a0) = true := beq_iff_eq.mpr c31
              have c31b1 : (t194 != a0) = false := bne_eq_false_iff_eq.mpr c31
              clear c31
              by_cases c32 : t195 = a1
              · rw [if_pos c32] at H
                have c32b0 : (t195 == a1) = true := beq_iff_eq.mpr c32
                have c32b1 : (t195 != a1) = false := bne_eq_false_iff_eq.mpr c32
                clear c32
                by_cases c33 : t196 = 0
                · rw [if_pos c33] at H
                  have c33b0 : (t196 == 0) = true := beq_iff_eq.mpr c33
                  have c33b1 : (t196 != 0) = false := bne_eq_false_iff_eq.mpr c33
                  clear c33
                  obtain rfl := Option.some.inj H
                  obtain ⟨Ao34, co34, eo34⟩ := Kd.R_slice HO_6.out
                  subst eo34
                  go_wp2_with (first | ((with_reducible refine gate_callee (f := 27) rfl ?_); refine goesL_ (some 61) rfl rfl Try.func27 (by kernel_rfl) rfl #[.slice Ao34 t190.length co34, .int .i64 0, .int .i64 (t190.length : Int), .int .i64 a1] rfl (by (try simp only [List.map_toArray, List.map_cons, List.map_nil]); first | done | rfl | (simp only [List.length_drop, List.length_take]; rfl)) ?_; (with_reducible refine (varint_Unfix.calls kj4 _ _ t190 0 (t190.length : Int) a1 t194 t195 t196 _ ?side1 ?side2 A18.out).mono ?_); (case side1 => repeat (first | exact (Kd.R_reads' HO_6.out).2.2 | (with_reducible refine Kd.C_alloc ?_ _) | (with_reducible refine Kd.C_drewN ?_ _) | (with_reducible refine Kd.C_drew ?_))); (case side2 => exact (Kd.R_reads' HO_6.out).2.1); rintro e w' ⟨rfl, ⟨nd, rfl⟩⟩; refine ⟨_, rfl, ?_⟩) | ((with_reducible refine gate_callee (f := 27) rfl ?_); refine goesL_ (some 70) rfl rfl Try.func27 (by kernel_rfl) rfl #[.slice Ao34 t190.length co34, .int .i64 1, .int .i64 (t190.length : Int), .int .i64 a1] rfl (by (try simp only [List.map_toArray, List.map_cons, List.map_nil]); first | done | rfl | (simp only [List.length_drop, List.length_take]; rfl)) ?_; (with_reducible refine (varint_Unfix.calls kj4 _ _ t190 1 (t190.length : Int) a1 t197 t198 t199 _ ?side1 ?side2 A19.out).mono ?_); (case side1 => repeat (first | exact (Kd.R_reads' HO_6.out).2.2 | (with_reducible refine Kd.C_alloc ?_ _) | (with_reducible refine Kd.C_drewN ?_ _) | (with_reducible refine Kd.C_drew ?_))); (case side2 => exact (Kd.R_reads' HO_6.out).2.1); rintro e w' ⟨rfl, ⟨nd, rfl⟩⟩; refine ⟨_, rfl, ?_⟩))
                  go_ret
                  exact ⟨by first | rfl | (simp [errW_none, errW_some] <;> rfl) | (simp [*, errW_none, errW_some] <;> rfl), by repeat (first | (with_reducible first | exact HB.out | apply below_alloc | apply pw_below_drewN | apply below_drew1) | exact HB.out)⟩
                · rw [if_neg c33] at H
                  have c33b0 : (t196 == 0) = false := beq_eq_false_iff_ne.mpr c33
                  have c33b1 : (t196 != 0) = true := bne_iff_ne.mpr c33
                  obtain rfl := Option.some.inj H
                  obtain ⟨Ao35, co35, eo35⟩ := Kd.R_slice HO_6.out
                  subst eo35
                  go_wp2_with (first | ((with_reducible refine gate_callee (f := 27) rfl ?_); refine goesL_ (some 61) rfl rfl Try.func27 (by kernel_rfl) rfl #[.slice Ao35 t190.length co35, .int .i64 0, .int .i64 (t190.length : Int), .int .i64 a1] rfl (by (try simp only [List.map_toArray, List.map_cons, List.map_nil]); first | done | rfl | (simp only [List.length_drop, List.length_take]; rfl)) ?_; (with_reducible refine (varint_Unfix.calls kj4 _ _ t190 0 (t190.length : Int) a1 t194 t195 t196 _ ?side1 ?side2 A18.out).mono ?_); (case side1 => repeat (first | exact (Kd.R_reads' HO_6.out).2.2 | (with_reducible refine Kd.C_alloc ?_ _) | (with_reducible refine Kd.C_drewN ?_ _) | (with_reducible refine Kd.C_drew ?_))); (case side2 => exact (Kd.R_reads' HO_6.out).2.1); rintro e w' ⟨rfl, ⟨nd, rfl⟩⟩; refine ⟨_, rfl, ?_⟩) | ((with_reducible refine gate_callee (f := 27) rfl ?_); refine goesL_ (some 70) rfl rfl Try.func27 (by kernel_rfl) rfl #[.slice Ao35 t190.length co35, .int .i64 1, .int .i64 (t190.length : Int), .int .i64 a1] rfl (by (try simp only [List.map_toArray, List.map_cons, List.map_nil]); first | done | rfl | (simp only [List.length_drop, List.length_take]; rfl)) ?_; (with_reducible refine (varint_Unfix.calls kj4 _ _ t190 1 (t190.length : Int) a1 t197 t198 t199 _ ?side1 ?side2 A19.out).mono ?_); (case side1 => repeat (first | exact (Kd.R_reads' HO_6.out).2.2 | (with_reducible refine Kd.C_alloc ?_ _) | (with_reducible refine Kd.C_drewN ?_ _) | (with_reducible refine Kd.C_drew ?_))); (case side2 => exact (Kd.R_reads' HO_6.out).2.1); rintro e w' ⟨rfl, ⟨nd, rfl⟩⟩; refine ⟨_, rfl, ?_⟩))
                  go_ret
                  exact ⟨by first | rfl | (simp [errW_none, errW_some] <;> rfl) | (simp [*, errW_none, errW_some] <;> rfl), by repeat (first | (with_reducible first | exact HB.out | apply below_alloc | apply pw_below_drewN | apply below_drew1) | exact HB.out)⟩
              · rw [if_neg c32] at H
                have c32b0 : (t195 == a1) = false := beq_eq_false_iff_ne.mpr c32
                have c32b1 : (t195 != a1) = true := bne_iff_ne.mpr c32
                obtain rfl := Option.some.inj H
                obtain ⟨Ao36, co36, eo36⟩ := Kd.R_slice HO_6.out
                subst eo36
                go_wp2_with (first | ((with_reducible refine gate_callee (f := 27) rfl ?_); refine goesL_ (some 61) rfl rfl Try.func27 (by kernel_rfl) rfl #[.slice Ao36 t190.length co36, .int .i64 0, .int .i64 (t190.length : Int), .int .i64 a1] rfl (by (try simp only [List.map_toArray, List.map_cons, List.map_nil]); first | done | rfl | (simp only [List.length_drop, List.length_take]; rfl)) ?_; (with_reducible refine (varint_Unfix.calls kj4 _ _ t190 0 (t190.length : Int) a1 t194 t195 t196 _ ?side1 ?side2 A18.out).mono ?_); (case side1 => repeat (first | exact (Kd.R_reads' HO_6.out).2.2 | (with_reducible refine Kd.C_alloc ?_ _) | (with_reducible refine Kd.C_drewN ?_ _) | (with_reducible refine Kd.C_drew ?_))); (case side2 => exact (Kd.R_reads' HO_6.out).2.1); rintro e w' ⟨rfl, ⟨nd, rfl⟩⟩; refine ⟨_, rfl, ?_⟩) | ((with_reducible refine gate_callee (f := 27) rfl ?_); refine goesL_ (some 70) rfl rfl Try.func27 (by kernel_rfl) rfl #[.slice Ao36 t190.length co36, .int .i64 1, .int .i64 (t190.length : Int), .int .i64 a1] rfl (by (try simp only [List.map_toArray, List.map_cons, List.map_nil]); first | done | rfl | (simp only [List.length_drop, List.length_take]; rfl)) ?_; (with_reducible refine (varint_Unfix.calls kj4 _ _ t190 1 (t190.length : Int) a1 t197 t198 t199 _ ?side1 ?side2 A19.out).mono ?_); (case side1 => repeat (first | exact (Kd.R_reads' HO_6.out).2.2 | (with_reducible refine Kd.C_alloc ?_ _) | (with_reducible refine Kd.C_drewN ?_ _) | (with_reducible refine Kd.C_drew ?_))); (case side2 => exact (Kd.R_reads' HO_6.out).2.1); rintro e w' ⟨rfl, ⟨nd, rfl⟩⟩; refine ⟨_, rfl, ?_⟩))
                go_ret
                exact ⟨by first | rfl | (simp [errW_none, errW_some] <;> rfl) | (simp [*, errW_none, errW_some] <;> rfl), by repeat (first | (with_reducible first | exact HB.out | apply below_alloc | apply pw_below_drewN | apply below_drew1) | exact HB.out)⟩
            · rw [if_neg c31] at H
              have c31b0 : (t194 == a0) = false := beq_eq_false_iff_ne.mpr c31
              have c31b1 : (t194 != a0) = true := bne_iff_ne.mpr c31
              obtain rfl := Option.some.inj H
              obtain ⟨Ao37, co37, eo37⟩ := Kd.R_slice HO_6.out
              subst eo37
              go_wp2_with (first | ((with_reducible refine gate_callee (f := 27) rfl ?_); refine goesL_ (some 61) rfl rfl Try.func27 (by kernel_rfl) rfl #[.slice Ao37 t190.length co37, .int .i64 0, .int .i64 (t190.length : Int), .int .i64 a1] rfl (by (try simp only [List.map_toArray, List.map_cons, List.map_nil]); first | done | rfl | (simp only [List.length_drop, List.length_take]; rfl)) ?_; (with_reducible refine (varint_Unfix.calls kj4 _ _ t190 0 (t190.length : Int) a1 t194 t195 t196 _ ?side1 ?side2 A18.out).mono ?_); (case side1 => repeat (first | exact (Kd.R_reads' HO_6.out).2.2 | (with_reducible refine Kd.C_alloc ?_ _) | (with_reducible refine Kd.C_drewN ?_ _) | (with_reducible refine Kd.C_drew ?_))); (case side2 => exact (Kd.R_reads' HO_6.out).2.1); rintro e w' ⟨rfl, ⟨nd, rfl⟩⟩; refine ⟨_, rfl, ?_⟩) | ((with_reducible refine gate_callee (f := 27) rfl ?_); refine goesL_ (some 70) rfl rfl Try.func27 (by kernel_rfl) rfl #[.slice Ao37 t190.length co37, .int .i64 1, .int .i64 (t190.length : Int), .int .i64 a1] rfl (by (try simp only [List.map_toArray, List.map_cons, List.map_nil]); first | done | rfl | (simp only [List.length_drop, List.length_take]; rfl)) ?_; (with_reducible refine (varint_Unfix.calls kj4 _ _ t190 1 (t190.length : Int) a1 t197 t198 t199 _ ?side1 ?side2 A19.out).mono ?_); (case side1 => repeat (first | exact (Kd.R_reads' HO_6.out).2.2 | (with_reducible refine Kd.C_alloc ?_ _) | (with_reducible refine Kd.C_drewN ?_ _) | (with_reducible refine Kd.C_drew ?_))); (case side2 => exact (Kd.R_reads' HO_6.out).2.1); rintro e w' ⟨rfl, ⟨nd, rfl⟩⟩; refine ⟨_, rfl, ?_⟩))
              go_ret
              exact ⟨by first | rfl | (simp [errW_none, errW_some] <;> rfl) | (simp [*, errW_none, errW_some] <;> rfl), by repeat (first | (with_reducible first | exact HB.out | apply below_alloc | apply pw_below_drewN | apply below_drew1) | exact HB.out)⟩
          · rw [if_neg c30] at H
            have c30b0 : ((t190.length : Int) == a1) = false := beq_eq_false_iff_ne.mpr c30
            have c30b1 : ((t190.length : Int) != a1) = true := bne_iff_ne.mpr c30
            obtain rfl := Option.some.inj H
            obtain ⟨Ao38, co38, eo38⟩ := Kd.R_slice HO_6.out
            subst eo38
            go_wp2_with (first | ((with_reducible refine gate_callee (f := 27) rfl ?_); refine goesL_ (some 61) rfl rfl Try.func27 (by kernel_rfl) rfl #[.slice Ao38 t190.length co38, .int .i64 0, .int .i64 (t190.length : Int), .int .i64 a1] rfl (by (try simp only [List.map_toArray, List.map_cons, List.map_nil]); first | done | rfl | (simp only [List.length_drop, List.length_take]; rfl)) ?_; (with_reducible refine (varint_Unfix.calls kj4 _ _ t190 0 (t190.length : Int) a1 t194 t195 t196 _ ?side1 ?side2 A18.out).mono ?_); (case side1 => repeat (first | exact (Kd.R_reads' HO_6.out).2.2 | (with_reducible refine Kd.C_alloc ?_ _) | (with_reducible refine Kd.C_drewN ?_ _) | (with_reducible refine Kd.C_drew ?_))); (case side2 => exact (Kd.R_reads' HO_6.out).2.1); rintro e w' ⟨rfl, ⟨nd, rfl⟩⟩; refine ⟨_, rfl, ?_⟩) | ((with_reducible refine gate_callee (f := 27) rfl ?_); refine goesL_ (some 70) rfl rfl Try.func27 (by kernel_rfl) rfl #[.slice Ao38 t190.length co38, .int .i64 1, .int .i64 (t190.length : Int), .int .i64 a1] rfl (by (try simp only [List.map_toArray, List.map_cons, List.map_nil]); first | done | rfl | (simp only [List.length_drop, List.length_take]; rfl)) ?_; (with_reducible refine (varint_Unfix.calls kj4 _ _ t190 1 (t190.length : Int) a1 t197 t198 t199 _ ?side1 ?side2 A19.out).mono ?_); (case side1 => repeat (first | exact (Kd.R_reads' HO_6.out).2.2 | (with_reducible refine Kd.C_alloc ?_ _) | (with_reducible refine Kd.C_drewN ?_ _) | (with_reducible refine Kd.C_drew ?_))); (case side2 => exact (Kd.R_reads' HO_6.out).2.1); rintro e w' ⟨rfl, ⟨nd, rfl⟩⟩; refine ⟨_, rfl, ?_⟩))
            go_ret
            exact ⟨by first | rfl | (simp [errW_none, errW_some] <;> rfl) | (simp [*, errW_none, errW_some] <;> rfl), by repeat (first | (with_reducible first | exact HB.out | apply below_alloc | apply pw_below_drewN | apply below_drew1) | exact HB.out)⟩

/-- THE ONE PURE STATEMENT of trufflelaw01_VarintFix: yours. -/
def trufflelaw01_VarintFix.Pure : Prop := ∀ (a0 : Int) (a1 : Int), (Lit.int .u64 a0).wf = true → (Lit.int .i64 a1).wf = true → ∃ k, trufflelaw01_VarintFix.f k a0 a1 = some true
theorem trufflelaw01_VarintFix.walk (P : trufflelaw01_VarintFix.Pure) (a0 : Int) (a1 : Int) (w : World) (w0 : (Lit.int .u64 a0).wf = true) (w1 : (Lit.int .i64 a1).wf = true) :
    Calls Try.prog 7 #[.int .u64 a0, .int .i64 a1] w fun e w' => e = .returned (.bool true) ∧ Below w.heap.size w w' := by
  obtain ⟨k, h⟩ := P a0 a1 w0 w1
  refine (trufflelaw01_VarintFix.calls k a0 a1 true w h).mono ?_
  rintro e w' ⟨rfl, hd⟩
  exact ⟨rfl, hd⟩

end Go.Proofs.Ytokbcenkgdpepaa.M
