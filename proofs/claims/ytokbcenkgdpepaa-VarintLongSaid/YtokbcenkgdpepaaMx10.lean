-- Written by wip/print18.py (this session's program, over the kit's print.py), for this seat's laws.
import Derived.Test.YtokbcenkgdpepaaMx0
import Derived.Test.YtokbcenkgdpepaaMx3
import Derived.Test.YtokbcenkgdpepaaMx5
import Derived.Test.YtokbcenkgdpepaaMx8
namespace Go.Proofs.Ytokbcenkgdpepaa.M
open Go.RowKit Go.Proofs.YtokbcenkgdpepaaW.PrintWords Go.Proofs.YtokbcenkgdpepaaW.PrintLast Go.Proofs.YtokbcenkgdpepaaW.PrintMore
attribute [local go_sem] max2_int min2_int max_two min_two max_three min_three max_four min_four   -- for this text's walks alone
set_option linter.unusedVariables false
set_option linter.unusedSimpArgs false

/-! ### trufflelaw01_VarintLong: function 6 -/
mutual
def trufflelaw01_VarintLong.j0 : Nat → Int → Int → Bool → Option (Bool)
  | 0, _, _, _ => none
  | k + 1, x0, x1, x5 => (varint_Long.f k x0).bind fun t180 => (trufflelaw01_VarintLong.l0 k x1 x5 t180 1 (IntKind.u64.wrap (Int.tdiv x0 128)))
def trufflelaw01_VarintLong.l0 : Nat → Int → Bool → Int → Int → Int → Option (Bool)
  | 0, _, _, _, _, _ => none
  | k + 1, x1, x5, x6, x7, x8 => if x8 > 0 then (trufflelaw01_VarintLong.l0 k x1 x5 x6 (wrap64 (x7 + 1)) (IntKind.u64.wrap (Int.tdiv x8 128))) else (if x5 = true then (if x6 = x7 then ((varint_Long.f k x1).bind fun t181 => (if x6 ≤ t181 then ((varint_Put.f k x1).bind fun t182 => ((varint_Long.f k x1).bind fun t185 => (some ((t182.length : Int) == t185)))) else (some false))) else (some false)) else (some false))
end
def trufflelaw01_VarintLong.f (k : Nat) (a0 : Int) (a1 : Int) : Option (Bool) := (trufflelaw01_awake.f k).bind fun t179 => (if a0 > a1 then (trufflelaw01_VarintLong.j0 k a1 a0 t179) else (trufflelaw01_VarintLong.j0 k a0 a1 t179))
theorem trufflelaw01_VarintLong.mono_l : ∀ k, (∀ y0 y1 y2, LeO (trufflelaw01_VarintLong.j0 k y0 y1 y2) (trufflelaw01_VarintLong.j0 (k + 1) y0 y1 y2)) ∧ (∀ y0 y1 y2 y3 y4, LeO (trufflelaw01_VarintLong.l0 k y0 y1 y2 y3 y4) (trufflelaw01_VarintLong.l0 (k + 1) y0 y1 y2 y3 y4))
  | 0 => ⟨fun _ _ _ r h => by simp [trufflelaw01_VarintLong.j0] at h, fun _ _ _ _ _ r h => by simp [trufflelaw01_VarintLong.l0] at h⟩
  | k + 1 => by
    obtain ⟨ih0, ih1⟩ := trufflelaw01_VarintLong.mono_l k
    refine ⟨?_, ?_⟩
    · intro y0 y1 y2
      unfold trufflelaw01_VarintLong.j0
      repeat' first
      | (with_reducible exact ih0 _ _ _)
      | (with_reducible exact ih1 _ _ _ _ _)
      | (with_reducible exact trufflelaw01_awake.mono _)
      | (with_reducible exact varint_Long.mono _ _)
      | (with_reducible exact varint_Put.mono _ _)
      | (with_reducible exact LeO.refl _)
      | (with_reducible exact LeO.none _)
      | (with_reducible refine LeO.ite ?_ ?_)
      | (with_reducible refine LeO.bind ?_ (fun _ => ?_))
      | exact ih0 _ _ _
      | exact ih1 _ _ _ _ _
      | exact trufflelaw01_awake.mono _
      | exact varint_Long.mono _ _
      | exact varint_Put.mono _ _
      | exact LeO.none _
      | refine LeO.ite ?_ ?_
      | refine LeO.bind ?_ (fun _ => ?_)
    · intro y0 y1 y2 y3 y4
      unfold trufflelaw01_VarintLong.l0
      repeat' first
      | (with_reducible exact ih0 _ _ _)
      | (with_reducible exact ih1 _ _ _ _ _)
      | (with_reducible exact trufflelaw01_awake.mono _)
      | (with_reducible exact varint_Long.mono _ _)
      | (with_reducible exact varint_Put.mono _ _)
      | (with_reducible exact LeO.refl _)
      | (with_reducible exact LeO.none _)
      | (with_reducible refine LeO.ite ?_ ?_)
      | (with_reducible refine LeO.bind ?_ (fun _ => ?_))
      | exact ih0 _ _ _
      | exact ih1 _ _ _ _ _
      | exact trufflelaw01_awake.mono _
      | exact varint_Long.mono _ _
      | exact varint_Put.mono _ _
      | exact LeO.none _
      | refine LeO.ite ?_ ?_
      | refine LeO.bind ?_ (fun _ => ?_)
theorem trufflelaw01_VarintLong.mono : ∀ a0 a1 k, LeO (trufflelaw01_VarintLong.f k a0 a1) (trufflelaw01_VarintLong.f (k + 1) a0 a1) := by
  intro a0 a1 k
  obtain ⟨ih0, ih1⟩ := trufflelaw01_VarintLong.mono_l k
  unfold trufflelaw01_VarintLong.f
  repeat' first
      | (with_reducible exact ih0 _ _ _)
      | (with_reducible exact ih1 _ _ _ _ _)
      | (with_reducible exact trufflelaw01_awake.mono _)
      | (with_reducible exact varint_Long.mono _ _)
      | (with_reducible exact varint_Put.mono _ _)
      | (with_reducible exact LeO.refl _)
      | (with_reducible exact LeO.none _)
      | (with_reducible refine LeO.ite ?_ ?_)
      | (with_reducible refine LeO.bind ?_ (fun _ => ?_))
      | exact ih0 _ _ _
      | exact ih1 _ _ _ _ _
      | exact trufflelaw01_awake.mono _
      | exact varint_Long.mono _ _
      | exact varint_Put.mono _ _
      | exact LeO.none _
      | refine LeO.ite ?_ ?_
      | refine LeO.bind ?_ (fun _ => ?_)
set_option maxHeartbeats 8000000 in
set_option maxRecDepth 100000 in
theorem trufflelaw01_VarintLong.calls (k : Nat) (a0 : Int) (a1 : Int) (r : Bool) (w : World) (h : trufflelaw01_VarintLong.f k a0 a1 = some r) :
    Calls Try.prog 6 #[.int .u64 a0, .int .u64 a1] w fun e w' => e = .returned (.bool r) ∧ Below w.heap.size w w' := by
  have HB := Aside0.mk (Below.refl w.heap.size w)
  have H : ((trufflelaw01_awake.f k).bind fun t179 => (if a0 > a1 then (trufflelaw01_VarintLong.j0 k a1 a0 t179) else (trufflelaw01_VarintLong.j0 k a0 a1 t179))) = some r := h
  clear h
  replace H := Option.bind_eq_some_iff.mp H
  obtain ⟨t179, A30, H⟩ := H
  replace H : (if a0 > a1 then (trufflelaw01_VarintLong.j0 k a1 a0 t179) else (trufflelaw01_VarintLong.j0 k a0 a1 t179)) = some r := H
  have A3 := Aside0.mk A30
  clear A30
  have HC4 := Aside0.mk H
  clear H
  go_enter Try.func6, Try.ntmps6
  go_upto_if 12 with (first | ((with_reducible refine gate_callee (f := 21) rfl ?_); refine goesL_ (some 9) rfl rfl Try.func21 (by kernel_rfl) rfl #[] rfl (by (try simp only [List.map_toArray, List.map_cons, List.map_nil]); first | done | rfl | (simp only [List.length_drop, List.length_take]; rfl)) ?_; (with_reducible refine (trufflelaw01_awake.calls k  t179 _ A3.out).mono ?_); rintro e w5 ⟨rfl, hb⟩; refine ⟨_, rfl, ?_⟩; have n0_ := Aside0.mk (below_step (by repeat (first | (with_reducible first | exact HB.out | apply below_alloc | apply pw_below_drewN | apply below_drew1) | exact HB.out)) hb); clear HB; have HB := n0_; clear n0_; (try clear hb); (try clear hb2); (try clear hk); (try clear hi)))
  (try simp only [Act.put, List.setIfInBounds_toArray, List.set_cons_zero, List.set_cons_succ])
  go_cut [0, 1] (fun v0 v1 wc => ∃ (kq : Nat) (x0_3 : Int) (x1_3 : Int), v0 = .int .u64 x0_3 ∧ v1 = .int .u64 x1_3 ∧ Aside0 (trufflelaw01_VarintLong.j0 kq x0_3 x1_3 t179 = some r) ∧ Aside0 (kq ≤ k) ∧ Aside0 (Below w.heap.size w wc))
  case first =>
    have H := HC4.out
    clear HC4
    by_cases c6 : a0 > a1
    · rw [if_pos c6] at H
      have c6b0 : decide (a1 < a0) = true := decide_eq_true c6
      clear c6
      (first | rw [c6b0] | (simp only [i64_w, i32_w]; rw [c6b0]) | skip)
      have H' := Aside0.mk H
      clear H
      go_wp2
      go_meet
      case rel => exact ⟨_, (a1), (a0), (by first | rfl | (simp; done) | (simp [*]; done)), (by first | rfl | (simp; done) | (simp [*]; done)), H', ⟨by first | omega | exact Nat.le_refl _⟩, ⟨by repeat (first | (with_reducible first | exact HB.out | apply below_alloc | apply pw_below_drewN | apply below_drew1) | exact HB.out)⟩⟩
    · rw [if_neg c6] at H
      have c6b0 : decide (a1 < a0) = false := decide_eq_false c6
      clear c6
      (first | rw [c6b0] | (simp only [i64_w, i32_w]; rw [c6b0]) | skip)
      have H' := Aside0.mk H
      clear H
      go_wp2
      go_meet
      case rel => exact ⟨_, (a0), (a1), (by first | rfl | (simp; done) | (simp [*]; done)), (by first | rfl | (simp; done) | (simp [*]; done)), H', ⟨by first | omega | exact Nat.le_refl _⟩, ⟨by repeat (first | (with_reducible first | exact HB.out | apply below_alloc | apply pw_below_drewN | apply below_drew1) | exact HB.out)⟩⟩
  case rest =>
    clear HC4
    try clear c2
    try clear p2
    try clear c6
    try clear c6b0
    obtain ⟨kq, x0_3, x1_3, rfl, rfl, HA, HJ3, HB⟩ := hcut
    cases kq with
    | zero => exact absurd HA.out (by simp [trufflelaw01_VarintLong.j0])
    | succ kj3 =>
      have H := HA.out
      clear HA
      simp only [trufflelaw01_VarintLong.j0] at H
      replace H := Option.bind_eq_some_iff.mp H
      obtain ⟨t180, A70, H⟩ := H
      replace H : (trufflelaw01_VarintLong.l0 kj3 x1_3 t179 t180 1 (IntKind.u64.wrap (Int.tdiv x0_3 128))) = some r := H
      have A7 := Aside0.mk A70
      clear A70
      have H' := Aside0.mk H
      clear H
      go_wp2_with (first | ((with_reducible refine gate_callee (f := 25) rfl ?_); refine goesL_ (some 16) rfl rfl Try.func25 (by kernel_rfl) rfl #[.int .u64 x0_3] rfl (by (try simp only [List.map_toArray, List.map_cons, List.map_nil]); first | done | rfl | (simp only [List.length_drop, List.length_take]; rfl)) ?_; (with_reducible refine (varint_Long.calls kj3 x0_3 t180 _ A7.out).mono ?_); rintro e w' ⟨rfl, ⟨nd, rfl⟩⟩; refine ⟨_, rfl, ?_⟩))
      go_loopg [7, 8] kj3 (fun kq v7 v8 w' => ∃ (x7_2 : Int) (x8_2 : Int), v7 = .int .i64 x7_2 ∧ v8 = .int .u64 x8_2 ∧ Aside0 (trufflelaw01_VarintLong.l0 kq x1_3 t179 t180 x7_2 x8_2 = some r) ∧ Aside0 (kq ≤ kj3) ∧ Aside0 (Below w.heap.size w w'))
      case atStart => exact ⟨(1), (IntKind.u64.wrap (Int.tdiv x0_3 128)), (by first | rfl | (simp; done) | (simp [*]; done)), (by first | rfl | (simp; done) | (simp [*]; done)), H', ⟨Nat.le_refl _⟩, ⟨by repeat (first | (with_reducible first | exact HB.out | apply below_alloc | apply pw_below_drewN | apply below_drew1) | exact HB.out)⟩⟩
      case round =>
        clear H'
        try clear c2
        try clear p2
        try clear c6
        try clear c6b0
        try clear p2
        obtain ⟨x7_2, x8_2, rfl, rfl, HA, HK2, HB⟩ := hrel
        cases gk with
        | zero => exact absurd HA.out (by simp [trufflelaw01_VarintLong.l0])
        | succ k2 =>
          have H := HA.out
          clear HA
          simp only [trufflelaw01_VarintLong.l0] at H
          by_cases c8 : x8_2 > 0
          · rw [if_pos c8] at H
            have c8b0 : decide (0 < x8_2) = true := decide_eq_true c8
            clear c8
            have H' := Aside0.mk H
            clear H
            go_wp2
            go_roundg k2
            case measure => have := HJ3.out; have := HK2.out; omega
            case rel => exact ⟨(wrap64 (x7_2 + 1)), (IntKind.u64.wrap (Int.tdiv x8_2 128)), (by first | rfl | (simp; done) | (simp [*]; done)), (by first | rfl | (simp; done) | (simp [*]; done)), H', ⟨by have := HJ3.out; have := HK2.out; omega⟩, ⟨by repeat (first | (with_reducible first | exact HB.out | apply below_alloc | apply pw_below_drewN | apply below_drew1) | exact HB.out)⟩⟩
          · rw [if_neg c8] at H
            have c8b0 : decide (0 < x8_2) = false := decide_eq_false c8
            clear c8
            by_cases c9 : t179 = true
            · subst c9
              have H1 : (if t180 = x7_2 then ((varint_Long.f k2 x1_3).bind fun t181 => (if t180 ≤ t181 then ((varint_Put.f k2 x1_3).bind fun t182 => ((varint_Long.f k2 x1_3).bind fun t185 => (some ((t182.length : Int) == t185)))) else (some false))) else (some false)) = some r := by rw [if_pos rfl] at H; exact H
              clear H
              have H := H1
              clear H1
              by_cases c10 : t180 = x7_2
              · rw [if_pos c10] at H
                have c10b0 : (t180 == x7_2) = true := beq_iff_eq.mpr c10
                have c10b1 : (t180 != x7_2) = false := bne_eq_false_iff_eq.mpr c10
                clear c10
                replace H := Option.bind_eq_some_iff.mp H
                obtain ⟨t181, A110, H⟩ := H
                replace H : (if t180 ≤ t181 then ((varint_Put.f k2 x1_3).bind fun t182 => ((varint_Long.f k2 x1_3).bind fun t185 => (some ((t182.length : Int) == t185)))) else (some false)) = some r := H
                have A11 := Aside0.mk A110
                clear A110
                by_cases c12 : t180 ≤ t181
                · rw [if_pos c12] at H
                  have c12b0 : decide (t180 ≤ t181) = true := decide_eq_true c12
                  clear c12
                  replace H := Option.bind_eq_some_iff.mp H
                  obtain ⟨t182, A130, H⟩ := H
                  replace H : ((varint_Long.f k2 x1_3).bind fun t185 => (some ((t182.length : Int) == t185))) = some r := H
                  have A13 := Aside0.mk A130
                  clear A130
                  replace H := Option.bind_eq_some_iff.mp H
                  obtain ⟨t185, A140, H⟩ := H
                  replace H : (some ((t182.length : Int) == t185)) = some r := H
                  have A14 := Aside0.mk A140
                  clear A140
                  obtain rfl : t181 = t185 := Option.some.inj (A11.out.symm.trans A14.out)
                  obtain rfl := Option.some.inj H
                  go_wp2_with (first | (go_at_call 25; (with_reducible refine (varint_Long.calls k2 x1_3 t181 _ A11.out).mono ?_); rintro e w' ⟨rfl, ⟨nd, rfl⟩⟩) | (go_at_call 23; (with_reducible refine (varint_Put.calls k2 x1_3 t182 _ A13.out).mono ?_); rintro e w15 ⟨v183, rfl, ho0, hb⟩; have n0_ := Aside0.mk (Kd.R_lower ho0 (below_size (by repeat (first | (with_reducible first | exact HB.out | apply below_alloc | apply pw_below_drewN | apply below_drew1) | exact HB.out)))); have n1_ := Aside0.mk (below_step (by repeat (first | (with_reducible first | exact HB.out | apply below_alloc | apply pw_below_drewN | apply below_drew1) | exact HB.out)) hb); clear HB; have HO184 := n0_; have HB := n1_; clear n0_ n1_; (try clear hb); (try clear hb2); (try clear hk); (try clear hi); (try clear ho0); obtain ⟨Ao16, co16, eo16⟩ := Kd.R_slice HO184.out; subst eo16) | (go_at_call 25; (with_reducible refine (varint_Long.calls k2 x1_3 t185 _ A14.out).mono ?_); rintro e w' ⟨rfl, ⟨nd, rfl⟩⟩))
                  go_ret
                  exact ⟨by first | rfl | (simp [errW_none, errW_some] <;> rfl) | (simp [*, errW_none, errW_some] <;> rfl), by repeat (first | (with_reducible first | exact HB.out | apply below_alloc | apply pw_below_drewN | apply below_drew1) | exact HB.out)⟩
                · rw [if_neg c12] at H
                  have c12b0 : decide (t180 ≤ t181) = false := decide_eq_false c12
                  clear c12
                  obtain rfl := Option.some.inj H
                  go_wp2_with (first | (go_at_call 25; (with_reducible refine (varint_Long.calls k2 x1_3 t181 _ A11.out).mono ?_); rintro e w' ⟨rfl, ⟨nd, rfl⟩⟩))
                  go_ret
                  exact ⟨by first | rfl | (simp [errW_none, errW_some] <;> rfl) | (simp [*, errW_none, errW_some] <;> rfl), by repeat (first | (with_reducible first | exact HB.out | apply below_alloc | apply pw_below_drewN | apply below_drew1) | exact HB.out)⟩
              · rw [if_neg c10] at H
                have c10b0 : (t180 == x7_2) = false := beq_eq_false_iff_ne.mpr c10
                have c10b1 : (t180 != x7_2) = true := bne_iff_ne.mpr c10
                obtain rfl := Option.some.inj H
                go_wp2
                go_ret
                exact ⟨by first | rfl | (simp [errW_none, errW_some] <;> rfl) | (simp [*, errW_none, errW_some] <;> rfl), by repeat (first | (with_reducible first | exact HB.out | apply below_alloc | apply pw_below_drewN | apply below_drew1) | exact HB.out)⟩
            · replace c9 := Bool.eq_false_iff.mpr c9
              subst c9
              have H1 : (some false) = some r := by rw [if_neg (show ¬ (false = true) by decide)] at H; exact H
              clear H
              have H := H1
              clear H1
              obtain rfl := Option.some.inj H
              go_wp2
              go_ret
              exact ⟨by first | rfl | (simp [errW_none, errW_some] <;> rfl) | (simp [*, errW_none, errW_some] <;> rfl), by repeat (first | (with_reducible first | exact HB.out | apply below_alloc | apply pw_below_drewN | apply below_drew1) | exact HB.out)⟩

/-- THE ONE PURE STATEMENT of trufflelaw01_VarintLong: yours. -/
def trufflelaw01_VarintLong.Pure : Prop := ∀ (a0 : Int) (a1 : Int), (Lit.int .u64 a0).wf = true → (Lit.int .u64 a1).wf = true → ∃ k, trufflelaw01_VarintLong.f k a0 a1 = some true
theorem trufflelaw01_VarintLong.walk (P : trufflelaw01_VarintLong.Pure) (a0 : Int) (a1 : Int) (w : World) (w0 : (Lit.int .u64 a0).wf = true) (w1 : (Lit.int .u64 a1).wf = true) :
    Calls Try.prog 6 #[.int .u64 a0, .int .u64 a1] w fun e w' => e = .returned (.bool true) ∧ Below w.heap.size w w' := by
  obtain ⟨k, h⟩ := P a0 a1 w0 w1
  refine (trufflelaw01_VarintLong.calls k a0 a1 true w h).mono ?_
  rintro e w' ⟨rfl, hd⟩
  exact ⟨rfl, hd⟩

end Go.Proofs.Ytokbcenkgdpepaa.M
