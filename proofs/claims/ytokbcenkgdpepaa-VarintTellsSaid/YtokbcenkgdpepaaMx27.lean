-- Written by wip/print18.py (this session's program, over the kit's print.py), for this seat's laws.
import Derived.Test.YtokbcenkgdpepaaMx0
import Derived.Test.YtokbcenkgdpepaaMx3
import Derived.Test.YtokbcenkgdpepaaMx4
import Derived.Test.YtokbcenkgdpepaaMx5
import Derived.Test.YtokbcenkgdpepaaMx8
import Derived.Test.YtokbcenkgdpepaaMx11
import Derived.Test.YtokbcenkgdpepaaMx17
import Derived.Test.YtokbcenkgdpepaaMx18
import Derived.Test.YtokbcenkgdpepaaMx25
import Derived.Test.YtokbcenkgdpepaaMx26
namespace Go.Proofs.Ytokbcenkgdpepaa.M
open Go.RowKit Go.Proofs.YtokbcenkgdpepaaW.PrintWords Go.Proofs.YtokbcenkgdpepaaW.PrintLast Go.Proofs.YtokbcenkgdpepaaW.PrintMore
attribute [local go_sem] max2_int min2_int max_two min_two max_three min_three max_four min_four   -- for this text's walks alone
set_option linter.unusedVariables false
set_option linter.unusedSimpArgs false

/-! ### trufflelaw01_VarintTells: function 14 -/
mutual
def trufflelaw01_VarintTells.j0 : Nat → Int → List Int → Int → Int → Int → Bool → Bool → Option (Bool)
  | 0, _, _, _, _, _, _, _ => none
  | k + 1, x0, x1, x2, x3, x4, x11, x37 => if x37 = true then (some x11) else ((varint_Get.f k x1 x2 x3).bind fun bt341 => ((truffleref01_Get.f k x1 x2 x3).bind fun bt344 => ((varint_Fix.f k x0 x4).bind fun bt347 => ((truffleref01_Fix.f k x0 x4).bind fun bt351 => ((varint_Unfix.f k x1 x2 x3 x4).bind fun bt355 => ((truffleref01_Unfix.f k x1 x2 x3 x4).bind fun bt358 => (if bt341.1 = bt344.1 then (if bt341.2.1 = bt344.2.1 then (trufflelaw01_VarintTells.j1 k x0 bt347.1 bt347.2 bt351.1 bt351.2 bt355.1 bt355.2.1 bt355.2.2 bt358.1 bt358.2.1 bt358.2.2 (bt341.2.2 == bt344.2.2)) else (trufflelaw01_VarintTells.j1 k x0 bt347.1 bt347.2 bt351.1 bt351.2 bt355.1 bt355.2.1 bt355.2.2 bt358.1 bt358.2.1 bt358.2.2 false)) else (trufflelaw01_VarintTells.j1 k x0 bt347.1 bt347.2 bt351.1 bt351.2 bt355.1 bt355.2.1 bt355.2.2 bt358.1 bt358.2.1 bt358.2.2 false))))))))
def trufflelaw01_VarintTells.j1 : Nat → Int → List Int → Bool → List Int → Bool → Int → Int → Int → Int → Int → Int → Bool → Option (Bool)
  | 0, _, _, _, _, _, _, _, _, _, _, _, _ => none
  | k + 1, x0, x18, x19, x20, x21, x22, x23, x24, x25, x26, x27, x28 => (truffleref01_Bytes.f k x18 x20).bind fun t361 => (if t361 = true then (if (x19 == x21) = true then (if x22 = x25 then (if x23 = x26 then (trufflelaw01_VarintTells.j2 k x0 x28 (x24 == x27)) else (trufflelaw01_VarintTells.j2 k x0 x28 false)) else (trufflelaw01_VarintTells.j2 k x0 x28 false)) else (trufflelaw01_VarintTells.j2 k x0 x28 false)) else (trufflelaw01_VarintTells.j2 k x0 x28 false))
def trufflelaw01_VarintTells.j2 : Nat → Int → Bool → Bool → Option (Bool)
  | 0, _, _, _ => none
  | k + 1, x0, x28, x29 => if x28 = true then (if x29 = true then ((varint_Put.f k x0).bind fun t362 => ((truffleref01_Put.f k x0).bind fun t365 => ((truffleref01_Bytes.f k t362 t365).bind fun t368 => (if t368 = true then ((varint_Long.f k x0).bind fun t369 => ((truffleref01_Long.f k x0).bind fun t370 => (some (t369 == t370)))) else (some false))))) else (some false)) else (some false)
end
def trufflelaw01_VarintTells.f (k : Nat) (a0 : Int) (l1 : List Int) (a2 : Int) (a3 : Int) (a4 : Int) : Option (Bool) := (trufflelaw01_awake.f k).bind fun t340 => (if t340 = true then (trufflelaw01_VarintTells.j0 k a0 l1 a2 a3 a4 t340 (decide ((l1.length : Int) > 3000))) else (trufflelaw01_VarintTells.j0 k a0 l1 a2 a3 a4 t340 true))
theorem trufflelaw01_VarintTells.mono_l : ∀ k, (∀ y0 y1 y2 y3 y4 y5 y6, LeO (trufflelaw01_VarintTells.j0 k y0 y1 y2 y3 y4 y5 y6) (trufflelaw01_VarintTells.j0 (k + 1) y0 y1 y2 y3 y4 y5 y6)) ∧ (∀ y0 y1 y2 y3 y4 y5 y6 y7 y8 y9 y10 y11, LeO (trufflelaw01_VarintTells.j1 k y0 y1 y2 y3 y4 y5 y6 y7 y8 y9 y10 y11) (trufflelaw01_VarintTells.j1 (k + 1) y0 y1 y2 y3 y4 y5 y6 y7 y8 y9 y10 y11)) ∧ (∀ y0 y1 y2, LeO (trufflelaw01_VarintTells.j2 k y0 y1 y2) (trufflelaw01_VarintTells.j2 (k + 1) y0 y1 y2))
  | 0 => ⟨fun _ _ _ _ _ _ _ r h => by simp [trufflelaw01_VarintTells.j0] at h, fun _ _ _ _ _ _ _ _ _ _ _ _ r h => by simp [trufflelaw01_VarintTells.j1] at h, fun _ _ _ r h => by simp [trufflelaw01_VarintTells.j2] at h⟩
  | k + 1 => by
    obtain ⟨ih0, ih1, ih2⟩ := trufflelaw01_VarintTells.mono_l k
    refine ⟨?_, ?_, ?_⟩
    · intro y0 y1 y2 y3 y4 y5 y6
      unfold trufflelaw01_VarintTells.j0
      repeat' first
      | (with_reducible exact ih0 _ _ _ _ _ _ _)
      | (with_reducible exact ih1 _ _ _ _ _ _ _ _ _ _ _ _)
      | (with_reducible exact ih2 _ _ _)
      | (with_reducible exact trufflelaw01_awake.mono _)
      | (with_reducible exact truffleref01_Bytes.mono _ _ _)
      | (with_reducible exact truffleref01_Fix.mono _ _ _)
      | (with_reducible exact truffleref01_Get.mono _ _ _ _)
      | (with_reducible exact truffleref01_Long.mono _ _)
      | (with_reducible exact truffleref01_Put.mono _ _)
      | (with_reducible exact truffleref01_Unfix.mono _ _ _ _ _)
      | (with_reducible exact varint_Fix.mono _ _ _)
      | (with_reducible exact varint_Get.mono _ _ _ _)
      | (with_reducible exact varint_Long.mono _ _)
      | (with_reducible exact varint_Put.mono _ _)
      | (with_reducible exact varint_Unfix.mono _ _ _ _ _)
      | (with_reducible exact LeO.refl _)
      | (with_reducible exact LeO.none _)
      | (with_reducible refine LeO.ite ?_ ?_)
      | (with_reducible refine LeO.bind ?_ (fun _ => ?_))
      | exact ih0 _ _ _ _ _ _ _
      | exact ih1 _ _ _ _ _ _ _ _ _ _ _ _
      | exact ih2 _ _ _
      | exact trufflelaw01_awake.mono _
      | exact truffleref01_Bytes.mono _ _ _
      | exact truffleref01_Fix.mono _ _ _
      | exact truffleref01_Get.mono _ _ _ _
      | exact truffleref01_Long.mono _ _
      | exact truffleref01_Put.mono _ _
      | exact truffleref01_Unfix.mono _ _ _ _ _
      | exact varint_Fix.mono _ _ _
      | exact varint_Get.mono _ _ _ _
      | exact varint_Long.mono _ _
      | exact varint_Put.mono _ _
      | exact varint_Unfix.mono _ _ _ _ _
      | exact LeO.none _
      | refine LeO.ite ?_ ?_
      | refine LeO.bind ?_ (fun _ => ?_)
    · intro y0 y1 y2 y3 y4 y5 y6 y7 y8 y9 y10 y11
      unfold trufflelaw01_VarintTells.j1
      repeat' first
      | (with_reducible exact ih0 _ _ _ _ _ _ _)
      | (with_reducible exact ih1 _ _ _ _ _ _ _ _ _ _ _ _)
      | (with_reducible exact ih2 _ _ _)
      | (with_reducible exact trufflelaw01_awake.mono _)
      | (with_reducible exact truffleref01_Bytes.mono _ _ _)
      | (with_reducible exact truffleref01_Fix.mono _ _ _)
      | (with_reducible exact truffleref01_Get.mono _ _ _ _)
      | (with_reducible exact truffleref01_Long.mono _ _)
      | (with_reducible exact truffleref01_Put.mono _ _)
      | (with_reducible exact truffleref01_Unfix.mono _ _ _ _ _)
      | (with_reducible exact varint_Fix.mono _ _ _)
      | (with_reducible exact varint_Get.mono _ _ _ _)
      | (with_reducible exact varint_Long.mono _ _)
      | (with_reducible exact varint_Put.mono _ _)
      | (with_reducible exact varint_Unfix.mono _ _ _ _ _)
      | (with_reducible exact LeO.refl _)
      | (with_reducible exact LeO.none _)
      | (with_reducible refine LeO.ite ?_ ?_)
      | (with_reducible refine LeO.bind ?_ (fun _ => ?_))
      | exact ih0 _ _ _ _ _ _ _
      | exact ih1 _ _ _ _ _ _ _ _ _ _ _ _
      | exact ih2 _ _ _
      | exact trufflelaw01_awake.mono _
      | exact truffleref01_Bytes.mono _ _ _
      | exact truffleref01_Fix.mono _ _ _
      | exact truffleref01_Get.mono _ _ _ _
      | exact truffleref01_Long.mono _ _
      | exact truffleref01_Put.mono _ _
      | exact truffleref01_Unfix.mono _ _ _ _ _
      | exact varint_Fix.mono _ _ _
      | exact varint_Get.mono _ _ _ _
      | exact varint_Long.mono _ _
      | exact varint_Put.mono _ _
      | exact varint_Unfix.mono _ _ _ _ _
      | exact LeO.none _
      | refine LeO.ite ?_ ?_
      | refine LeO.bind ?_ (fun _ => ?_)
    · intro y0 y1 y2
      unfold trufflelaw01_VarintTells.j2
      repeat' first
      | (with_reducible exact ih0 _ _ _ _ _ _ _)
      | (with_reducible exact ih1 _ _ _ _ _ _ _ _ _ _ _ _)
      | (with_reducible exact ih2 _ _ _)
      | (with_reducible exact trufflelaw01_awake.mono _)
      | (with_reducible exact truffleref01_Bytes.mono _ _ _)
      | (with_reducible exact truffleref01_Fix.mono _ _ _)
      | (with_reducible exact truffleref01_Get.mono _ _ _ _)
      | (with_reducible exact truffleref01_Long.mono _ _)
      | (with_reducible exact truffleref01_Put.mono _ _)
      | (with_reducible exact truffleref01_Unfix.mono _ _ _ _ _)
      | (with_reducible exact varint_Fix.mono _ _ _)
      | (with_reducible exact varint_Get.mono _ _ _ _)
      | (with_reducible exact varint_Long.mono _ _)
      | (with_reducible exact varint_Put.mono _ _)
      | (with_reducible exact varint_Unfix.mono _ _ _ _ _)
      | (with_reducible exact LeO.refl _)
      | (with_reducible exact LeO.none _)
      | (with_reducible refine LeO.ite ?_ ?_)
      | (with_reducible refine LeO.bind ?_ (fun _ => ?_))
      | exact ih0 _ _ _ _ _ _ _
      | exact ih1 _ _ _ _ _ _ _ _ _ _ _ _
      | exact ih2 _ _ _
      | exact trufflelaw01_awake.mono _
      | exact truffleref01_Bytes.mono _ _ _
      | exact truffleref01_Fix.mono _ _ _
      | exact truffleref01_Get.mono _ _ _ _
      | exact truffleref01_Long.mono _ _
      | exact truffleref01_Put.mono _ _
      | exact truffleref01_Unfix.mono _ _ _ _ _
      | exact varint_Fix.mono _ _ _
      | exact varint_Get.mono _ _ _ _
      | exact varint_Long.mono _ _
      | exact varint_Put.mono _ _
      | exact varint_Unfix.mono _ _ _ _ _
      | exact LeO.none _
      | refine LeO.ite ?_ ?_
      | refine LeO.bind ?_ (fun _ => ?_)
theorem trufflelaw01_VarintTells.mono : ∀ a0 a1 a2 a3 a4 k, LeO (trufflelaw01_VarintTells.f k a0 a1 a2 a3 a4) (trufflelaw01_VarintTells.f (k + 1) a0 a1 a2 a3 a4) := by
  intro a0 a1 a2 a3 a4 k
  obtain ⟨ih0, ih1, ih2⟩ := trufflelaw01_VarintTells.mono_l k
  unfold trufflelaw01_VarintTells.f
  repeat' first
      | (with_reducible exact ih0 _ _ _ _ _ _ _)
      | (with_reducible exact ih1 _ _ _ _ _ _ _ _ _ _ _ _)
      | (with_reducible exact ih2 _ _ _)
      | (with_reducible exact trufflelaw01_awake.mono _)
      | (with_reducible exact truffleref01_Bytes.mono _ _ _)
      | (with_reducible exact truffleref01_Fix.mono _ _ _)
      | (with_reducible exact truffleref01_Get.mono _ _ _ _)
      | (with_reducible exact truffleref01_Long.mono _ _)
      | (with_reducible exact truffleref01_Put.mono _ _)
      | (with_reducible exact truffleref01_Unfix.mono _ _ _ _ _)
      | (with_reducible exact varint_Fix.mono _ _ _)
      | (with_reducible exact varint_Get.mono _ _ _ _)
      | (with_reducible exact varint_Long.mono _ _)
      | (with_reducible exact varint_Put.mono _ _)
      | (with_reducible exact varint_Unfix.mono _ _ _ _ _)
      | (with_reducible exact LeO.refl _)
      | (with_reducible exact LeO.none _)
      | (with_reducible refine LeO.ite ?_ ?_)
      | (with_reducible refine LeO.bind ?_ (fun _ => ?_))
      | exact ih0 _ _ _ _ _ _ _
      | exact ih1 _ _ _ _ _ _ _ _ _ _ _ _
      | exact ih2 _ _ _
      | exact trufflelaw01_awake.mono _
      | exact truffleref01_Bytes.mono _ _ _
      | exact truffleref01_Fix.mono _ _ _
      | exact truffleref01_Get.mono _ _ _ _
      | exact truffleref01_Long.mono _ _
      | exact truffleref01_Put.mono _ _
      | exact truffleref01_Unfix.mono _ _ _ _ _
      | exact varint_Fix.mono _ _ _
      | exact varint_Get.mono _ _ _ _
      | exact varint_Long.mono _ _
      | exact varint_Put.mono _ _
      | exact varint_Unfix.mono _ _ _ _ _
      | exact LeO.none _
      | refine LeO.ite ?_ ?_
      | refine LeO.bind ?_ (fun _ => ?_)
set_option maxHeartbeats 8000000 in
set_option maxRecDepth 100000 in
theorem trufflelaw01_VarintTells.calls (k : Nat) (a0 : Int) (A1 : Option Addr) (c1 : Nat) (l1 : List Int) (a2 : Int) (a3 : Int) (a4 : Int) (r : Bool) (w : World) (hr1 : Kd.C (Kd.int .u8) w A1 l1.length l1) (hc1 : l1.length ≤ c1) (h : trufflelaw01_VarintTells.f k a0 l1 a2 a3 a4 = some r) :
    Calls Try.prog 14 #[.int .u64 a0, .slice A1 l1.length c1, .int .i64 a2, .int .i64 a3, .int .i64 a4] w fun e w' => e = .returned (.bool r) ∧ Below w.heap.size w w' := by
  have HR1 := Aside0.mk hr1
  have HC1 := Aside0.mk hc1
  clear hr1 hc1
  have HB := Aside0.mk (Below.refl w.heap.size w)
  have H : ((trufflelaw01_awake.f k).bind fun t340 => (if t340 = true then (trufflelaw01_VarintTells.j0 k a0 l1 a2 a3 a4 t340 (decide ((l1.length : Int) > 3000))) else (trufflelaw01_VarintTells.j0 k a0 l1 a2 a3 a4 t340 true))) = some r := h
  clear h
  replace H := Option.bind_eq_some_iff.mp H
  obtain ⟨t340, A60, H⟩ := H
  replace H : (if t340 = true then (trufflelaw01_VarintTells.j0 k a0 l1 a2 a3 a4 t340 (decide ((l1.length : Int) > 3000))) else (trufflelaw01_VarintTells.j0 k a0 l1 a2 a3 a4 t340 true)) = some r := H
  have A6 := Aside0.mk A60
  clear A60
  have HC7 := Aside0.mk H
  clear H
  go_enter Try.func14, Try.ntmps14
  go_upto_region 2 with (first | ((with_reducible refine gate_callee (f := 21) rfl ?_); refine goesL_ (some 30) rfl rfl Try.func21 (by kernel_rfl) rfl #[] rfl (by (try simp only [List.map_toArray, List.map_cons, List.map_nil]); first | done | rfl | (simp only [List.length_drop, List.length_take]; rfl)) ?_; (with_reducible refine (trufflelaw01_awake.calls k  t340 _ A6.out).mono ?_); rintro e w8 ⟨rfl, hb⟩; refine ⟨_, rfl, ?_⟩; have n0_ := Aside0.mk (below_step (by repeat (first | (with_reducible first | exact HB.out | apply below_alloc | apply pw_below_drewN | apply below_drew1) | exact HB.out)) hb); clear HB; have HB := n0_; clear n0_; (try clear hb); (try clear hb2); (try clear hk); (try clear hi)))
  (try simp only [Act.put, List.setIfInBounds_toArray, List.set_cons_zero, List.set_cons_succ])
  go_cut [37] (fun v37 wc => ∃ (kq : Nat) (x37_6 : Bool), v37 = .bool x37_6 ∧ Aside0 (trufflelaw01_VarintTells.j0 kq a0 l1 a2 a3 a4 t340 x37_6 = some r) ∧ Aside0 (kq ≤ k) ∧ Aside0 (Below w.heap.size w wc))
  case first =>
    have H := HC7.out
    clear HC7
    by_cases c9 : t340 = true
    · subst c9
      have H1 : (trufflelaw01_VarintTells.j0 k a0 l1 a2 a3 a4 true (decide ((l1.length : Int) > 3000))) = some r := by rw [if_pos rfl] at H; exact H
      clear H
      have H := H1
      clear H1
      have H' := Aside0.mk H
      clear H
      go_wp2
      go_meet
      case rel => exact ⟨_, (decide ((l1.length : Int) > 3000)), (by first | rfl | (simp; done) | (simp [*]; done)), H', ⟨by first | omega | exact Nat.le_refl _⟩, ⟨by repeat (first | (with_reducible first | exact HB.out | apply below_alloc | apply pw_below_drewN | apply below_drew1) | exact HB.out)⟩⟩
    · replace c9 := Bool.eq_false_iff.mpr c9
      subst c9
      have H1 : (trufflelaw01_VarintTells.j0 k a0 l1 a2 a3 a4 false true) = some r := by rw [if_neg (show ¬ (false = true) by decide)] at H; exact H
      clear H
      have H := H1
      clear H1
      have H' := Aside0.mk H
      clear H
      go_wp2
      go_meet
      case rel => exact ⟨_, (true), (by first | rfl | (simp; done) | (simp [*]; done)), H', ⟨by first | omega | exact Nat.le_refl _⟩, ⟨by repeat (first | (with_reducible first | exact HB.out | apply below_alloc | apply pw_below_drewN | apply below_drew1) | exact HB.out)⟩⟩
  case rest =>
    clear HC7
    try clear c1
    try clear c2
    try clear p2
    try clear c9
    obtain ⟨kq, x37_6, rfl, HA, HJ6, HB⟩ := hcut
    cases kq with
    | zero => exact absurd HA.out (by simp [trufflelaw01_VarintTells.j0])
    | succ kj6 =>
      have H := HA.out
      clear HA
      simp only [trufflelaw01_VarintTells.j0] at H
      by_cases c10 : x37_6 = true
      · subst c10
        have H1 : (some t340) = some r := by rw [if_pos rfl] at H; exact H
        clear H
        have H := H1
        clear H1
        obtain rfl := Option.some.inj H
        go_wp2
        go_ret
        exact ⟨by first | rfl | (simp [errW_none, errW_some] <;> rfl) | (simp [*, errW_none, errW_some] <;> rfl), by repeat (first | (with_reducible first | exact HB.out | apply below_alloc | apply pw_below_drewN | apply below_drew1) | exact HB.out)⟩
      · replace c10 := Bool.eq_false_iff.mpr c10
        subst c10
        have H1 : ((varint_Get.f kj6 l1 a2 a3).bind fun bt341 => ((truffleref01_Get.f kj6 l1 a2 a3).bind fun bt344 => ((varint_Fix.f kj6 a0 a4).bind fun bt347 => ((truffleref01_Fix.f kj6 a0 a4).bind fun bt351 => ((varint_Unfix.f kj6 l1 a2 a3 a4).bind fun bt355 => ((truffleref01_Unfix.f kj6 l1 a2 a3 a4).bind fun bt358 => (if bt341.1 = bt344.1 then (if bt341.2.1 = bt344.2.1 then (trufflelaw01_VarintTells.j1 kj6 a0 bt347.1 bt347.2 bt351.1 bt351.2 bt355.1 bt355.2.1 bt355.2.2 bt358.1 bt358.2.1 bt358.2.2 (bt341.2.2 == bt344.2.2)) else (trufflelaw01_VarintTells.j1 kj6 a0 bt347.1 bt347.2 bt351.1 bt351.2 bt355.1 bt355.2.1 bt355.2.2 bt358.1 bt358.2.1 bt358.2.2 false)) else (trufflelaw01_VarintTells.j1 kj6 a0 bt347.1 bt347.2 bt351.1 bt351.2 bt355.1 bt355.2.1 bt355.2.2 bt358.1 bt358.2.1 bt358.2.2 false)))))))) = some r := by rw [if_neg (show ¬ (false = true) by decide)] at H; exact H
        clear H
        have H := H1
        clear H1
        replace H := Option.bind_eq_some_iff.mp H
        obtain ⟨⟨t341, t342, t343⟩, A110, H⟩ := H
        replace H : ((truffleref01_Get.f kj6 l1 a2 a3).bind fun bt344 => ((varint_Fix.f kj6 a0 a4).bind fun bt347 => ((truffleref01_Fix.f kj6 a0 a4).bind fun bt351 => ((varint_Unfix.f kj6 l1 a2 a3 a4).bind fun bt355 => ((truffleref01_Unfix.f kj6 l1 a2 a3 a4).bind fun bt358 => (if t341 = bt344.1 then (if t342 = bt344.2.1 then (trufflelaw01_VarintTells.j1 kj6 a0 bt347.1 bt347.2 bt351.1 bt351.2 bt355.1 bt355.2.1 bt355.2.2 bt358.1 bt358.2.1 bt358.2.2 (t343 == bt344.2.2)) else (trufflelaw01_VarintTells.j1 kj6 a0 bt347.1 bt347.2 bt351.1 bt351.2 bt355.1 bt355.2.1 bt355.2.2 bt358.1 bt358.2.1 bt358.2.2 false)) else (trufflelaw01_VarintTells.j1 kj6 a0 bt347.1 bt347.2 bt351.1 bt351.2 bt355.1 bt355.2.1 bt355.2.2 bt358.1 bt358.2.1 bt358.2.2 false))))))) = some r := H
        have A11 := Aside0.mk A110
        clear A110
        replace H := Option.bind_eq_some_iff.mp H
        obtain ⟨⟨t344, t345, t346⟩, A120, H⟩ := H
        replace H : ((varint_Fix.f kj6 a0 a4).bind fun bt347 => ((truffleref01_Fix.f kj6 a0 a4).bind fun bt351 => ((varint_Unfix.f kj6 l1 a2 a3 a4).bind fun bt355 => ((truffleref01_Unfix.f kj6 l1 a2 a3 a4).bind fun bt358 => (if t341 = t344 then (if t342 = t345 then (trufflelaw01_VarintTells.j1 kj6 a0 bt347.1 bt347.2 bt351.1 bt351.2 bt355.1 bt355.2.1 bt355.2.2 bt358.1 bt358.2.1 bt358.2.2 (t343 == t346)) else (trufflelaw01_VarintTells.j1 kj6 a0 bt347.1 bt347.2 bt351.1 bt351.2 bt355.1 bt355.2.1 bt355.2.2 bt358.1 bt358.2.1 bt358.2.2 false)) else (trufflelaw01_VarintTells.j1 kj6 a0 bt347.1 bt347.2 bt351.1 bt351.2 bt355.1 bt355.2.1 bt355.2.2 bt358.1 bt358.2.1 bt358.2.2 false)))))) = some r := H
        have A12 := Aside0.mk A120
        clear A120
        replace H := Option.bind_eq_some_iff.mp H
        obtain ⟨⟨t347, t348⟩, A130, H⟩ := H
        replace H : ((truffleref01_Fix.f kj6 a0 a4).bind fun bt351 => ((varint_Unfix.f kj6 l1 a2 a3 a4).bind fun bt355 => ((truffleref01_Unfix.f kj6 l1 a2 a3 a4).bind fun bt358 => (if t341 = t344 then (if t342 = t345 then (trufflelaw01_VarintTells.j1 kj6 a0 t347 t348 bt351.1 bt351.2 bt355.1 bt355.2.1 bt355.2.2 bt358.1 bt358.2.1 bt358.2.2 (t343 == t346)) else (trufflelaw01_VarintTells.j1 kj6 a0 t347 t348 bt351.1 bt351.2 bt355.1 bt355.2.1 bt355.2.2 bt358.1 bt358.2.1 bt358.2.2 false)) else (trufflelaw01_VarintTells.j1 kj6 a0 t347 t348 bt351.1 bt351.2 bt355.1 bt355.2.1 bt355.2.2 bt358.1 bt358.2.1 bt358.2.2 false))))) = some r := H
        have A13 := Aside0.mk A130
        clear A130
        replace H := Option.bind_eq_some_iff.mp H
        obtain ⟨⟨t351, t352⟩, A140, H⟩ := H
        replace H : ((varint_Unfix.f kj6 l1 a2 a3 a4).bind fun bt355 => ((truffleref01_Unfix.f kj6 l1 a2 a3 a4).bind fun bt358 => (if t341 = t344 then (if t342 = t345 then (trufflelaw01_VarintTells.j1 kj6 a0 t347 t348 t351 t352 bt355.1 bt355.2.1 bt355.2.2 bt358.1 bt358.2.1 bt358.2.2 (t343 == t346)) else (trufflelaw01_VarintTells.j1 kj6 a0 t347 t348 t351 t352 bt355.1 bt355.2.1 bt355.2.2 bt358.1 bt358.2.1 bt358.2.2 false)) else (trufflelaw01_VarintTells.j1 kj6 a0 t347 t348 t351 t352 bt355.1 bt355.2.1 bt355.2.2 bt358.1 bt358.2.1 bt358.2.2 false)))) = some r := H
        have A14 := Aside0.mk A140
        clear A140
        replace H := Option.bind_eq_some_iff.mp H
        obtain ⟨⟨t355, t356, t357⟩, A150, H⟩ := H
        replace H : ((truffleref01_Unfix.f kj6 l1 a2 a3 a4).bind fun bt358 => (if t341 = t344 then (if t342 = t345 then (trufflelaw01_VarintTells.j1 kj6 a0 t347 t348 t351 t352 t355 t356 t357 bt358.1 bt358.2.1 bt358.2.2 (t343 == t346)) else (trufflelaw01_VarintTells.j1 kj6 a0 t347 t348 t351 t352 t355 t356 t357 bt358.1 bt358.2.1 bt358.2.2 false)) else (trufflelaw01_VarintTells.j1 kj6 a0 t347 t348 t351 t352 t355 t356 t357 bt358.1 bt358.2.1 bt358.2.2 false))) = some r := H
        have A15 := Aside0.mk A150
        clear A150
        replace H := Option.bind_eq_some_iff.mp H
        obtain ⟨⟨t358, t359, t360⟩, A160, H⟩ := H
        replace H : (if t341 = t344 then (if t342 = t345 then (trufflelaw01_VarintTells.j1 kj6 a0 t347 t348 t351 t352 t355 t356 t357 t358 t359 t360 (t343 == t346)) else (trufflelaw01_VarintTells.j1 kj6 a0 t347 t348 t351 t352 t355 t356 t357 t358 t359 t360 false)) else (trufflelaw01_VarintTells.j1 kj6 a0 t347 t348 t351 t352 t355 t356 t357 t358 t359 t360 false)) = some r := H
        have A16 := Aside0.mk A160
        clear A160
        have HC17 := Aside0.mk H
        clear H
        go_upto_region 10 with (first | ((with_reducible refine gate_callee (f := 22) rfl ?_); refine goesL_ (some 43) rfl rfl Try.func22 (by kernel_rfl) rfl #[.slice A1 l1.length c1, .int .i64 a2, .int .i64 a3] rfl (by (try simp only [List.map_toArray, List.map_cons, List.map_nil]); first | done | rfl | (simp only [List.length_drop, List.length_take]; rfl)) ?_; (with_reducible refine (varint_Get.calls kj6 _ _ l1 a2 a3 t341 t342 t343 _ ?side1 ?side2 A11.out).mono ?_); (case side1 => repeat (first | exact (Kd.C_below HR1.out HB.out) | (with_reducible refine Kd.C_alloc ?_ _) | (with_reducible refine Kd.C_drewN ?_ _) | (with_reducible refine Kd.C_drew ?_))); (case side2 => exact HC1.out); rintro e w' ⟨rfl, ⟨nd, rfl⟩⟩; refine ⟨_, rfl, ?_⟩) | ((with_reducible refine gate_callee (f := 35) rfl ?_); refine goesL_ (some 51) rfl rfl Try.func35 (by kernel_rfl) rfl #[.slice A1 l1.length c1, .int .i64 a2, .int .i64 a3] rfl (by (try simp only [List.map_toArray, List.map_cons, List.map_nil]); first | done | rfl | (simp only [List.length_drop, List.length_take]; rfl)) ?_; (with_reducible refine (truffleref01_Get.calls kj6 _ _ l1 a2 a3 t344 t345 t346 _ ?side1 ?side2 A12.out).mono ?_); (case side1 => repeat (first | exact (Kd.C_below HR1.out (by repeat (first | (with_reducible first | exact HB.out | apply below_alloc | apply pw_below_drewN | apply below_drew1) | exact HB.out))) | (with_reducible refine Kd.C_alloc ?_ _) | (with_reducible refine Kd.C_drewN ?_ _) | (with_reducible refine Kd.C_drew ?_))); (case side2 => exact HC1.out); rintro e w' ⟨rfl, ⟨nd, rfl⟩⟩; refine ⟨_, rfl, ?_⟩) | ((with_reducible refine gate_callee (f := 26) rfl ?_); refine goesL_ (some 58) rfl rfl Try.func26 (by kernel_rfl) rfl #[.int .u64 a0, .int .i64 a4] rfl (by (try simp only [List.map_toArray, List.map_cons, List.map_nil]); first | done | rfl | (simp only [List.length_drop, List.length_take]; rfl)) ?_; (with_reducible refine (varint_Fix.calls kj6 a0 a4 t347 t348 _ A13.out).mono ?_); rintro e w18 ⟨v349, rfl, ho0, hb⟩; refine ⟨_, rfl, ?_⟩; have n0_ := Aside0.mk (Kd.R_lower ho0 (below_size (by repeat (first | (with_reducible first | exact HB.out | apply below_alloc | apply pw_below_drewN | apply below_drew1) | exact HB.out)))); have n1_ := Aside0.mk (below_step (by repeat (first | (with_reducible first | exact HB.out | apply below_alloc | apply pw_below_drewN | apply below_drew1) | exact HB.out)) hb); clear HB; have HO350 := n0_; have HB := n1_; clear n0_ n1_; (try clear hb); (try clear hb2); (try clear hk); (try clear hi); (try clear ho0)) | ((with_reducible refine gate_callee (f := 36) rfl ?_); refine goesL_ (some 64) rfl rfl Try.func36 (by kernel_rfl) rfl #[.int .u64 a0, .int .i64 a4] rfl (by (try simp only [List.map_toArray, List.map_cons, List.map_nil]); first | done | rfl | (simp only [List.length_drop, List.length_take]; rfl)) ?_; (with_reducible refine (truffleref01_Fix.calls kj6 a0 a4 t351 t352 _ A14.out).mono ?_); rintro e w19 ⟨v353, rfl, ho0, hb⟩; refine ⟨_, rfl, ?_⟩; have n0_ := Aside0.mk (Kd.R_elder' (by (with_reducible repeat (first | apply Kd.R_alloc | apply Kd.R_drewN | apply Kd.R_drew)); exact HO350.out) (Kd.R_base ho0) hb); have n1_ := Aside0.mk (Kd.R_lower (Kd.R_new' ho0 (Kd.R_lt (by (with_reducible repeat (first | apply Kd.R_alloc | apply Kd.R_drewN | apply Kd.R_drew)); exact HO350.out))) (below_size (by repeat (first | (with_reducible first | exact HB.out | apply below_alloc | apply pw_below_drewN | apply below_drew1) | exact HB.out)))); have n2_ := Aside0.mk (below_step (by repeat (first | (with_reducible first | exact HB.out | apply below_alloc | apply pw_below_drewN | apply below_drew1) | exact HB.out)) hb); clear HO350; clear HB; have HO350 := n0_; have HO354 := n1_; have HB := n2_; clear n0_ n1_ n2_; (try clear hb); (try clear hb2); (try clear hk); (try clear hi); (try clear ho0)) | ((with_reducible refine gate_callee (f := 27) rfl ?_); refine goesL_ (some 72) rfl rfl Try.func27 (by kernel_rfl) rfl #[.slice A1 l1.length c1, .int .i64 a2, .int .i64 a3, .int .i64 a4] rfl (by (try simp only [List.map_toArray, List.map_cons, List.map_nil]); first | done | rfl | (simp only [List.length_drop, List.length_take]; rfl)) ?_; (with_reducible refine (varint_Unfix.calls kj6 _ _ l1 a2 a3 a4 t355 t356 t357 _ ?side1 ?side2 A15.out).mono ?_); (case side1 => repeat (first | exact (Kd.C_below HR1.out HB.out) | (with_reducible refine Kd.C_alloc ?_ _) | (with_reducible refine Kd.C_drewN ?_ _) | (with_reducible refine Kd.C_drew ?_))); (case side2 => exact HC1.out); rintro e w' ⟨rfl, ⟨nd, rfl⟩⟩; refine ⟨_, rfl, ?_⟩) | ((with_reducible refine gate_callee (f := 37) rfl ?_); refine goesL_ (some 81) rfl rfl Try.func37 (by kernel_rfl) rfl #[.slice A1 l1.length c1, .int .i64 a2, .int .i64 a3, .int .i64 a4] rfl (by (try simp only [List.map_toArray, List.map_cons, List.map_nil]); first | done | rfl | (simp only [List.length_drop, List.length_take]; rfl)) ?_; (with_reducible refine (truffleref01_Unfix.calls kj6 _ _ l1 a2 a3 a4 t358 t359 t360 _ ?side1 ?side2 A16.out).mono ?_); (case side1 => repeat (first | exact (Kd.C_below HR1.out (by repeat (first | (with_reducible first | exact HB.out | apply below_alloc | apply pw_below_drewN | apply below_drew1) | exact HB.out))) | (with_reducible refine Kd.C_alloc ?_ _) | (with_reducible refine Kd.C_drewN ?_ _) | (with_reducible refine Kd.C_drew ?_))); (case side2 => exact HC1.out); rintro e w' ⟨rfl, ⟨nd, rfl⟩⟩; refine ⟨_, rfl, ?_⟩))
        (try simp only [Act.put, List.setIfInBounds_toArray, List.set_cons_zero, List.set_cons_succ])
        go_cut [28] (fun v28 wc => ∃ (kq : Nat) (x28_16 : Bool), v28 = .bool x28_16 ∧ Aside0 (trufflelaw01_VarintTells.j1 kq a0 t347 t348 t351 t352 t355 t356 t357 t358 t359 t360 x28_16 = some r) ∧ Aside0 (kq ≤ kj6) ∧ Aside0 (Kd.R (Kd.int .u8) 5 wc w.heap.size (fun k_ => some k_ ≠ (v353 : Value).ownBlock) v349 t347) ∧ Aside0 (Kd.R (Kd.int .u8) 5 wc w.heap.size (fun k_ => some k_ ≠ (v349 : Value).ownBlock) v353 t351) ∧ Aside0 (Below w.heap.size w wc))
        case first =>
          have H := HC17.out
          clear HC17
          by_cases c20 : t341 = t344
          · rw [if_pos c20] at H
            have c20b0 : (t341 == t344) = true := beq_iff_eq.mpr c20
            have c20b1 : (t341 != t344) = false := bne_eq_false_iff_eq.mpr c20
            clear c20
            (first | rw [c20b0] | (simp only [i64_w, i32_w]; rw [c20b0]) | skip)
            by_cases c21 : t342 = t345
            · rw [if_pos c21] at H
              have c21b0 : (t342 == t345) = true := beq_iff_eq.mpr c21
              have c21b1 : (t342 != t345) = false := bne_eq_false_iff_eq.mpr c21
              clear c21
              have H' := Aside0.mk H
              clear H
              go_wp2
              go_meet
              case rel => exact ⟨_, ((t343 == t346)), (by first | rfl | (simp; done) | (simp [*]; done)), H', ⟨by have := HJ6.out; first | omega | exact Nat.le_refl _⟩, ⟨by (with_reducible repeat (first | apply Kd.R_alloc | apply Kd.R_drewN | apply Kd.R_drew)); exact Kd.R_mono HO350.out (fun _ hk => hk.2)⟩, ⟨by (with_reducible repeat (first | apply Kd.R_alloc | apply Kd.R_drewN | apply Kd.R_drew)); exact Kd.R_mono HO354.out (fun _ hk => hk.2)⟩, ⟨by repeat (first | (with_reducible first | exact HB.out | apply below_alloc | apply pw_below_drewN | apply below_drew1) | exact HB.out)⟩⟩
            · rw [if_neg c21] at H
              have c21b0 : (t342 == t345) = false := beq_eq_false_iff_ne.mpr c21
              have c21b1 : (t342 != t345) = true := bne_iff_ne.mpr c21
              have H' := Aside0.mk H
              clear H
              go_wp2
              go_meet
              case rel => exact ⟨_, (false), (by first | rfl | (simp; done) | (simp [*]; done)), H', ⟨by have := HJ6.out; first | omega | exact Nat.le_refl _⟩, ⟨by (with_reducible repeat (first | apply Kd.R_alloc | apply Kd.R_drewN | apply Kd.R_drew)); exact Kd.R_mono HO350.out (fun _ hk => hk.2)⟩, ⟨by (with_reducible repeat (first | apply Kd.R_alloc | apply Kd.R_drewN | apply Kd.R_drew)); exact Kd.R_mono HO354.out (fun _ hk => hk.2)⟩, ⟨by repeat (first | (with_reducible first | exact HB.out | apply below_alloc | apply pw_below_drewN | apply below_drew1) | exact HB.out)⟩⟩
          · rw [if_neg c20] at H
            have c20b0 : (t341 == t344) = false := beq_eq_false_iff_ne.mpr c20
            have c20b1 : (t341 != t344) = true := bne_iff_ne.mpr c20
            (first | rw [c20b0] | (simp only [i64_w, i32_w]; rw [c20b0]) | skip)
            have H' := Aside0.mk H
            clear H
            go_wp2
            go_meet
            case rel => exact ⟨_, (false), (by first | rfl | (simp; done) | (simp [*]; done)), H', ⟨by have := HJ6.out; first | omega | exact Nat.le_refl _⟩, ⟨by (with_reducible repeat (first | apply Kd.R_alloc | apply Kd.R_drewN | apply Kd.R_drew)); exact Kd.R_mono HO350.out (fun _ hk => hk.2)⟩, ⟨by (with_reducible repeat (first | apply Kd.R_alloc | apply Kd.R_drewN | apply Kd.R_drew)); exact Kd.R_mono HO354.out (fun _ hk => hk.2)⟩, ⟨by repeat (first | (with_reducible first | exact HB.out | apply below_alloc | apply pw_below_drewN | apply below_drew1) | exact HB.out)⟩⟩
        case rest =>
          clear HC17
          try clear c1
          try clear c2
          try clear p2
          try clear c3
          try clear c9
          try clear c10
          try clear c14
          try clear c20
          try clear c20b0
          try clear c20b1
          try clear c21
          try clear c21b0
          try clear c21b1
          try clear p2
          obtain ⟨kq, x28_16, rfl, HA, HJ16, HO_18, HO_20, HB⟩ := hcut
          cases kq with
          | zero => exact absurd HA.out (by simp [trufflelaw01_VarintTells.j1])
          | succ kj16 =>
            have H := HA.out
            clear HA
            simp only [trufflelaw01_VarintTells.j1] at H
            have HC22 := Aside0.mk H
            clear H
            go_upto_region 11 with (fail)
            go_cut [29] (fun v29 wc => ∃ (kq : Nat) (x29_21 : Bool), v29 = .bool x29_21 ∧ Aside0 (trufflelaw01_VarintTells.j2 kq a0 x28_16 x29_21 = some r) ∧ Aside0 (kq ≤ kj16) ∧ Aside0 (Below w.heap.size w wc))
            case first =>
              have H := HC22.out
              clear HC22
              replace H := Option.bind_eq_some_iff.mp H
              obtain ⟨t361, A230, H⟩ := H
              replace H : (if t361 = true then (if (t348 == t352) = true then (if t355 = t358 then (if t356 = t359 then (trufflelaw01_VarintTells.j2 kj16 a0 x28_16 (t357 == t360)) else (trufflelaw01_VarintTells.j2 kj16 a0 x28_16 false)) else (trufflelaw01_VarintTells.j2 kj16 a0 x28_16 false)) else (trufflelaw01_VarintTells.j2 kj16 a0 x28_16 false)) else (trufflelaw01_VarintTells.j2 kj16 a0 x28_16 false)) = some r := H
              have A23 := Aside0.mk A230
              clear A230
              by_cases c24 : t361 = true
              · subst c24
                have H1 : (if (t348 == t352) = true then (if t355 = t358 then (if t356 = t359 then (trufflelaw01_VarintTells.j2 kj16 a0 x28_16 (t357 == t360)) else (trufflelaw01_VarintTells.j2 kj16 a0 x28_16 false)) else (trufflelaw01_VarintTells.j2 kj16 a0 x28_16 false)) else (trufflelaw01_VarintTells.j2 kj16 a0 x28_16 false)) = some r := by rw [if_pos rfl] at H; exact H
                clear H
                have H := H1
                clear H1
                by_cases c25 : (t348 == t352) = true
                · rw [if_pos c25] at H
                  have c25b0 : (t348 == t352) = true := c25
                  (try (have c25b1 : decide (t348 = t352) = true := by simpa using c25))
                  (try (have c25b2 : (t348 == t352) = true := by simpa using c25))
                  clear c25
                  (first | rw [c25b0] | (simp only [i64_w, i32_w]; rw [c25b0]) | skip)
                  by_cases c26 : t355 = t358
                  · rw [if_pos c26] at H
                    have c26b0 : (t355 == t358) = true := beq_iff_eq.mpr c26
                    have c26b1 : (t355 != t358) = false := bne_eq_false_iff_eq.mpr c26
                    clear c26
                    by_cases c27 : t356 = t359
                    · rw [if_pos c27] at H
                      have c27b0 : (t356 == t359) = true := beq_iff_eq.mpr c27
                      have c27b1 : (t356 != t359) = false := bne_eq_false_iff_eq.mpr c27
                      clear c27
                      have H' := Aside0.mk H
                      clear H
                      obtain ⟨Ao28, co28, eo28⟩ := Kd.R_slice HO_18.out
                      subst eo28
                      obtain ⟨Ao29, co29, eo29⟩ := Kd.R_slice HO_20.out
                      subst eo29
                      go_wp2_with (first | ((with_reducible refine gate_callee (f := 24) rfl ?_); refine goesL_ (some 100) rfl rfl Try.func24 (by kernel_rfl) rfl #[.slice Ao28 t347.length co28, .slice Ao29 t351.length co29] rfl (by (try simp only [List.map_toArray, List.map_cons, List.map_nil]); first | done | rfl | (simp only [List.length_drop, List.length_take]; rfl)) ?_; (with_reducible refine (truffleref01_Bytes.calls kj16 _ _ t347 _ _ t351 true _ ?side1 ?side2 ?side3 ?side4 A23.out).mono ?_); (case side1 => repeat (first | exact (Kd.R_reads' HO_18.out).2.2 | (with_reducible refine Kd.C_alloc ?_ _) | (with_reducible refine Kd.C_drewN ?_ _) | (with_reducible refine Kd.C_drew ?_))); (case side2 => exact (Kd.R_reads' HO_18.out).2.1); (case side3 => repeat (first | exact (Kd.R_reads' HO_20.out).2.2 | (with_reducible refine Kd.C_alloc ?_ _) | (with_reducible refine Kd.C_drewN ?_ _) | (with_reducible refine Kd.C_drew ?_))); (case side4 => exact (Kd.R_reads' HO_20.out).2.1); rintro e w' ⟨rfl, ⟨nd, rfl⟩⟩; refine ⟨_, rfl, ?_⟩))
                      go_meet
                      case rel => exact ⟨_, ((t357 == t360)), (by first | rfl | (simp; done) | (simp [*]; done)), H', ⟨by have := HJ6.out; have := HJ16.out; first | omega | exact Nat.le_refl _⟩, ⟨by repeat (first | (with_reducible first | exact HB.out | apply below_alloc | apply pw_below_drewN | apply below_drew1) | exact HB.out)⟩⟩
                    · rw [if_neg c27] at H
                      have c27b0 : (t356 == t359) = false := beq_eq_false_iff_ne.mpr c27
                      have c27b1 : (t356 != t359) = true := bne_iff_ne.mpr c27
                      have H' := Aside0.mk H
                      clear H
                      obtain ⟨Ao30, co30, eo30⟩ := Kd.R_slice HO_18.out
                      subst eo30
                      obtain ⟨Ao31, co31, eo31⟩ := Kd.R_slice HO_20.out
                      subst eo31
                      go_wp2_with (first | ((with_reducible refine gate_callee (f := 24) rfl ?_); refine goesL_ (some 100) rfl rfl Try.func24 (by kernel_rfl) rfl #[.slice Ao30 t347.length co30, .slice Ao31 t351.length co31] rfl (by (try simp only [List.map_toArray, List.map_cons, List.map_nil]); first | done | rfl | (simp only [List.length_drop, List.length_take]; rfl)) ?_; (with_reducible refine (truffleref01_Bytes.calls kj16 _ _ t347 _ _ t351 true _ ?side1 ?side2 ?side3 ?side4 A23.out).mono ?_); (case side1 => repeat (first | exact (Kd.R_reads' HO_18.out).2.2 | (with_reducible refine Kd.C_alloc ?_ _) | (with_reducible refine Kd.C_drewN ?_ _) | (with_reducible refine Kd.C_drew ?_))); (case side2 => exact (Kd.R_reads' HO_18.out).2.1); (case side3 => repeat (first | exact (Kd.R_reads' HO_20.out).2.2 | (with_reducible refine Kd.C_alloc ?_ _) | (with_reducible refine Kd.C_drewN ?_ _) | (with_reducible refine Kd.C_drew ?_))); (case side4 => exact (Kd.R_reads' HO_20.out).2.1); rintro e w' ⟨rfl, ⟨nd, rfl⟩⟩; refine ⟨_, rfl, ?_⟩))
                      go_meet
                      case rel => exact ⟨_, (false), (by first | rfl | (simp; done) | (simp [*]; done)), H', ⟨by have := HJ6.out; have := HJ16.out; first | omega | exact Nat.le_refl _⟩, ⟨by repeat (first | (with_reducible first | exact HB.out | apply below_alloc | apply pw_below_drewN | apply below_drew1) | exact HB.out)⟩⟩
                  · rw [if_neg c26] at H
                    have c26b0 : (t355 == t358) = false := beq_eq_false_iff_ne.mpr c26
                    have c26b1 : (t355 != t358) = true := bne_iff_ne.mpr c26
                    have H' := Aside0.mk H
                    clear H
                    obtain ⟨Ao32, co32, eo32⟩ := Kd.R_slice HO_18.out
                    subst eo32
                    obtain ⟨Ao33, co33, eo33⟩ := Kd.R_slice HO_20.out
                    subst eo33
                    go_wp2_with (first | ((with_reducible refine gate_callee (f := 24) rfl ?_); refine goesL_ (some 100) rfl rfl Try.func24 (by kernel_rfl) rfl #[.slice Ao32 t347.length co32, .slice Ao33 t351.length co33] rfl (by (try simp only [List.map_toArray, List.map_cons, List.map_nil]); first | done | rfl | (simp only [List.length_drop, List.length_take]; rfl)) ?_; (with_reducible refine (truffleref01_Bytes.calls kj16 _ _ t347 _ _ t351 true _ ?side1 ?side2 ?side3 ?side4 A23.out).mono ?_); (case side1 => repeat (first | exact (Kd.R_reads' HO_18.out).2.2 | (with_reducible refine Kd.C_alloc ?_ _) | (with_reducible refine Kd.C_drewN ?_ _) | (with_reducible refine Kd.C_drew ?_))); (case side2 => exact (Kd.R_reads' HO_18.out).2.1); (case side3 => repeat (first | exact (Kd.R_reads' HO_20.out).2.2 | (with_reducible refine Kd.C_alloc ?_ _) | (with_reducible refine Kd.C_drewN ?_ _) | (with_reducible refine Kd.C_drew ?_))); (case side4 => exact (Kd.R_reads' HO_20.out).2.1); rintro e w' ⟨rfl, ⟨nd, rfl⟩⟩; refine ⟨_, rfl, ?_⟩))
                    go_meet
                    case rel => exact ⟨_, (false), (by first | rfl | (simp; done) | (simp [*]; done)), H', ⟨by have := HJ6.out; have := HJ16.out; first | omega | exact Nat.le_refl _⟩, ⟨by repeat (first | (with_reducible first | exact HB.out | apply below_alloc | apply pw_below_drewN | apply below_drew1) | exact HB.out)⟩⟩
                · rw [if_neg c25] at H
                  have c25b0 : (t348 == t352) = false := by simpa using c25
                  (try (have c25b1 : decide (t348 = t352) = false := by simpa using c25))
                  (try (have c25b2 : (t348 == t352) = false := by simpa using c25))
                  (try (have c25b3 : ¬ (t348 = t352) := by simpa using c25))
                  clear c25
                  (first | rw [c25b0] | (simp only [i64_w, i32_w]; rw [c25b0]) | skip)
                  have H' := Aside0.mk H
                  clear H
                  obtain ⟨Ao34, co34, eo34⟩ := Kd.R_slice HO_18.out
                  subst eo34
                  obtain ⟨Ao35, co35, eo35⟩ := Kd.R_slice HO_20.out
                  subst eo35
                  go_wp2_with (first | ((with_reducible refine gate_callee (f := 24) rfl ?_); refine goesL_ (some 100) rfl rfl Try.func24 (by kernel_rfl) rfl #[.slice Ao34 t347.length co34, .slice Ao35 t351.length co35] rfl (by (try simp only [List.map_toArray, List.map_cons, List.map_nil]); first | done | rfl | (simp only [List.length_drop, List.length_take]; rfl)) ?_; (with_reducible refine (truffleref01_Bytes.calls kj16 _ _ t347 _ _ t351 true _ ?side1 ?side2 ?side3 ?side4 A23.out).mono ?_); (case side1 => repeat (first | exact (Kd.R_reads' HO_18.out).2.2 | (with_reducible refine Kd.C_alloc ?_ _) | (with_reducible refine Kd.C_drewN ?_ _) | (with_reducible refine Kd.C_drew ?_))); (case side2 => exact (Kd.R_reads' HO_18.out).2.1); (case side3 => repeat (first | exact (Kd.R_reads' HO_20.out).2.2 | (with_reducible refine Kd.C_alloc ?_ _) | (with_reducible refine Kd.C_drewN ?_ _) | (with_reducible refine Kd.C_drew ?_))); (case side4 => exact (Kd.R_reads' HO_20.out).2.1); rintro e w' ⟨rfl, ⟨nd, rfl⟩⟩; refine ⟨_, rfl, ?_⟩))
                  go_meet
                  case rel => exact ⟨_, (false), (by first | rfl | (simp; done) | (simp [*]; done)), H', ⟨by have := HJ6.out; have := HJ16.out; first | omega | exact Nat.le_refl _⟩, ⟨by repeat (first | (with_reducible first | exact HB.out | apply below_alloc | apply pw_below_drewN | apply below_drew1) | exact HB.out)⟩⟩
              · replace c24 := Bool.eq_false_iff.mpr c24
                subst c24
                have H1 : (trufflelaw01_VarintTells.j2 kj16 a0 x28_16 false) = some r := by rw [if_neg (show ¬ (false = true) by decide)] at H; exact H
                clear H
                have H := H1
                clear H1
                have H' := Aside0.mk H
                clear H
                obtain ⟨Ao36, co36, eo36⟩ := Kd.R_slice HO_18.out
                subst eo36
                obtain ⟨Ao37, co37, eo37⟩ := Kd.R_slice HO_20.out
                subst eo37
                go_wp2_with (first | ((with_reducible refine gate_callee (f := 24) rfl ?_); refine goesL_ (some 100) rfl rfl Try.func24 (by kernel_rfl) rfl #[.slice Ao36 t347.length co36, .slice Ao37 t351.length co37] rfl (by (try simp only [List.map_toArray, List.map_cons, List.map_nil]); first | done | rfl | (simp only [List.length_drop, List.length_take]; rfl)) ?_; (with_reducible refine (truffleref01_Bytes.calls kj16 _ _ t347 _ _ t351 false _ ?side1 ?side2 ?side3 ?side4 A23.out).mono ?_); (case side1 => repeat (first | exact (Kd.R_reads' HO_18.out).2.2 | (with_reducible refine Kd.C_alloc ?_ _) | (with_reducible refine Kd.C_drewN ?_ _) | (with_reducible refine Kd.C_drew ?_))); (case side2 => exact (Kd.R_reads' HO_18.out).2.1); (case side3 => repeat (first | exact (Kd.R_reads' HO_20.out).2.2 | (with_reducible refine Kd.C_alloc ?_ _) | (with_reducible refine Kd.C_drewN ?_ _) | (with_reducible refine Kd.C_drew ?_))); (case side4 => exact (Kd.R_reads' HO_20.out).2.1); rintro e w' ⟨rfl, ⟨nd, rfl⟩⟩; refine ⟨_, rfl, ?_⟩))
                go_meet
                case rel => exact ⟨_, (false), (by first | rfl | (simp; done) | (simp [*]; done)), H', ⟨by have := HJ6.out; have := HJ16.out; first | omega | exact Nat.le_refl _⟩, ⟨by repeat (first | (with_reducible first | exact HB.out | apply below_alloc | apply pw_below_drewN | apply below_drew1) | exact HB.out)⟩⟩
            case rest =>
              clear HC22
              try clear c1
              try clear c2
              try clear p2
              try clear c3
              try clear c9
              try clear c10
              try clear c14
              try clear c20
              try clear c20b0
              try clear c20b1
              try clear c21
              try clear c21b0
              try clear c21b1
              try clear c22
              try clear c24
              try clear c25
              try clear c25b0
              try clear c25b1
              try clear c25b2
              try clear c26
              try clear c26b0
              try clear c26b1
              try clear c27
              try clear c27b0
              try clear c27b1
              try clear c35
              try clear c36
              try clear c37
              try clear p2
              obtain ⟨kq, x29_21, rfl, HA, HJ21, HB⟩ := hcut
              cases kq with
              | zero => exact absurd HA.out (by simp [trufflelaw01_VarintTells.j2])
              | succ kj21 =>
                have H := HA.out
                clear HA
                simp only [trufflelaw01_VarintTells.j2] at H
                by_cases c38 : x28_16 = true
                · subst c38
                  have H1 : (if x29_21 = true then ((varint_Put.f kj21 a0).bind fun t362 => ((truffleref01_Put.f kj21 a0).bind fun t365 => ((truffleref01_Bytes.f kj21 t362 t365).bind fun t368 => (if t368 = true then ((varint_Long.f kj21 a0).bind fun t369 => ((truffleref01_Long.f kj21 a0).bind fun t370 => (some (t369 == t370)))) else (some false))))) else (some false)) = some r := by rw [if_pos rfl] at H; exact H
                  clear H
                  have H := H1
                  clear H1
                  by_cases c39 : x29_21 = true
                  · subst c39
                    have H1 : ((varint_Put.f kj21 a0).bind fun t362 => ((truffleref01_Put.f kj21 a0).bind fun t365 => ((truffleref01_Bytes.f kj21 t362 t365).bind fun t368 => (if t368 = true then ((varint_Long.f kj21 a0).bind fun t369 => ((truffleref01_Long.f kj21 a0).bind fun t370 => (some (t369 == t370)))) else (some false))))) = some r := by rw [if_pos rfl] at H; exact H
                    clear H
                    have H := H1
                    clear H1
                    replace H := Option.bind_eq_some_iff.mp H
                    obtain ⟨t362, A400, H⟩ := H
                    replace H : ((truffleref01_Put.f kj21 a0).bind fun t365 => ((truffleref01_Bytes.f kj21 t362 t365).bind fun t368 => (if t368 = true then ((varint_Long.f kj21 a0).bind fun t369 => ((truffleref01_Long.f kj21 a0).bind fun t370 => (some (t369 == t370)))) else (some false)))) = some r := H
                    have A40 := Aside0.mk A400
                    clear A400
                    replace H := Option.bind_eq_some_iff.mp H
                    obtain ⟨t365, A410, H⟩ := H
                    replace H : ((truffleref01_Bytes.f kj21 t362 t365).bind fun t368 => (if t368 = true then ((varint_Long.f kj21 a0).bind fun t369 => ((truffleref01_Long.f kj21 a0).bind fun t370 => (some (t369 == t370)))) else (some false))) = some r := H
                    have A41 := Aside0.mk A410
                    clear A410
                    replace H := Option.bind_eq_some_iff.mp H
                    obtain ⟨t368, A420, H⟩ := H
                    replace H : (if t368 = true then ((varint_Long.f kj21 a0).bind fun t369 => ((truffleref01_Long.f kj21 a0).bind fun t370 => (some (t369 == t370)))) else (some false)) = some r := H
                    have A42 := Aside0.mk A420
                    clear A420
                    by_cases c43 : t368 = true
                    · subst c43
                      have H1 : ((varint_Long.f kj21 a0).bind fun t369 => ((truffleref01_Long.f kj21 a0).bind fun t370 => (some (t369 == t370)))) = some r := by rw [if_pos rfl] at H; exact H
                      clear H
                      have H := H1
                      clear H1
                      replace H := Option.bind_eq_some_iff.mp H
                      obtain ⟨t369, A440, H⟩ := H
                      replace H : ((truffleref01_Long.f kj21 a0).bind fun t370 => (some (t369 == t370))) = some r := H
                      have A44 := Aside0.mk A440
                      clear A440
                      replace H := Option.bind_eq_some_iff.mp H
                      obtain ⟨t370, A450, H⟩ := H
                      replace H : (some (t369 == t370)) = some r := H
                      have A45 := Aside0.mk A450
                      clear A450
                      obtain rfl := Option.some.inj H
                      go_wp2_with (first | (go_at_call 23; (with_reducible refine (varint_Put.calls kj21 a0 t362 _ A40.out).mono ?_); rintro e w46 ⟨v363, rfl, ho0, hb⟩; have n0_ := Aside0.mk (Kd.R_lower ho0 (below_size (by repeat (first | (with_reducible first | exact HB.out | apply below_alloc | apply pw_below_drewN | apply below_drew1) | exact HB.out)))); have n1_ := Aside0.mk (below_step (by repeat (first | (with_reducible first | exact HB.out | apply below_alloc | apply pw_below_drewN | apply below_drew1) | exact HB.out)) hb); clear HB; have HO364 := n0_; have HB := n1_; clear n0_ n1_; (try clear hb); (try clear hb2); (try clear hk); (try clear hi); (try clear ho0)) | (go_at_call 38; (with_reducible refine (truffleref01_Put.calls kj21 a0 t365 _ A41.out).mono ?_); rintro e w47 ⟨v366, rfl, ho0, hb⟩; have n0_ := Aside0.mk (Kd.R_elder' (by (with_reducible repeat (first | apply Kd.R_alloc | apply Kd.R_drewN | apply Kd.R_drew)); exact HO364.out) (Kd.R_base ho0) hb); have n1_ := Aside0.mk (Kd.R_lower (Kd.R_new' ho0 (Kd.R_lt (by (with_reducible repeat (first | apply Kd.R_alloc | apply Kd.R_drewN | apply Kd.R_drew)); exact HO364.out))) (below_size (by repeat (first | (with_reducible first | exact HB.out | apply below_alloc | apply pw_below_drewN | apply below_drew1) | exact HB.out)))); have n2_ := Aside0.mk (below_step (by repeat (first | (with_reducible first | exact HB.out | apply below_alloc | apply pw_below_drewN | apply below_drew1) | exact HB.out)) hb); clear HO364; clear HB; have HO364 := n0_; have HO367 := n1_; have HB := n2_; clear n0_ n1_ n2_; (try clear hb); (try clear hb2); (try clear hk); (try clear hi); (try clear ho0); obtain ⟨Ao48, co48, eo48⟩ := Kd.R_slice HO364.out; subst eo48; obtain ⟨Ao49, co49, eo49⟩ := Kd.R_slice HO367.out; subst eo49) | (go_at_call 24; (with_reducible refine (truffleref01_Bytes.calls kj21 _ _ t362 _ _ t365 true _ ?side1 ?side2 ?side3 ?side4 A42.out).mono ?_); (case side1 => repeat (first | exact (Kd.R_reads' HO364.out).2.2 | (with_reducible refine Kd.C_alloc ?_ _) | (with_reducible refine Kd.C_drewN ?_ _) | (with_reducible refine Kd.C_drew ?_))); (case side2 => exact (Kd.R_reads' HO364.out).2.1); (case side3 => repeat (first | exact (Kd.R_reads' HO367.out).2.2 | (with_reducible refine Kd.C_alloc ?_ _) | (with_reducible refine Kd.C_drewN ?_ _) | (with_reducible refine Kd.C_drew ?_))); (case side4 => exact (Kd.R_reads' HO367.out).2.1); rintro e w' ⟨rfl, ⟨nd, rfl⟩⟩) | (go_at_call 25; (with_reducible refine (varint_Long.calls kj21 a0 t369 _ A44.out).mono ?_); rintro e w' ⟨rfl, ⟨nd, rfl⟩⟩) | (go_at_call 39; (with_reducible refine (truffleref01_Long.calls kj21 a0 t370 _ A45.out).mono ?_); rintro e w50 ⟨rfl, hb⟩; have n0_ := Aside0.mk (Kd.R_below (by (with_reducible repeat (first | apply Kd.R_alloc | apply Kd.R_drewN | apply Kd.R_drew)); exact HO364.out) hb); have n1_ := Aside0.mk (Kd.R_below (by (with_reducible repeat (first | apply Kd.R_alloc | apply Kd.R_drewN | apply Kd.R_drew)); exact HO367.out) hb); have n2_ := Aside0.mk (below_step (by repeat (first | (with_reducible first | exact HB.out | apply below_alloc | apply pw_below_drewN | apply below_drew1) | exact HB.out)) hb); clear HO364; clear HO367; clear HB; have HO364 := n0_; have HO367 := n1_; have HB := n2_; clear n0_ n1_ n2_; (try clear hb); (try clear hb2); (try clear hk); (try clear hi)))
                      go_ret
                      exact ⟨by first | rfl | (simp [errW_none, errW_some] <;> rfl) | (simp [*, errW_none, errW_some] <;> rfl), by repeat (first | (with_reducible first | exact HB.out | apply below_alloc | apply pw_below_drewN | apply below_drew1) | exact HB.out)⟩
                    · replace c43 := Bool.eq_false_iff.mpr c43
                      subst c43
                      have H1 : (some false) = some r := by rw [if_neg (show ¬ (false = true) by decide)] at H; exact H
                      clear H
                      have H := H1
                      clear H1
                      obtain rfl := Option.some.inj H
                      go_wp2_with (first | (go_at_call 23; (with_reducible refine (varint_Put.calls kj21 a0 t362 _ A40.out).mono ?_); rintro e w51 ⟨v363, rfl, ho0, hb⟩; have n0_ := Aside0.mk (Kd.R_lower ho0 (below_size (by repeat (first | (with_reducible first | exact HB.out | apply below_alloc | apply pw_below_drewN | apply below_drew1) | exact HB.out)))); have n1_ := Aside0.mk (below_step (by repeat (first | (with_reducible first | exact HB.out | apply below_alloc | apply pw_below_drewN | apply below_drew1) | exact HB.out)) hb); clear HB; have HO364 := n0_; have HB := n1_; clear n0_ n1_; (try clear hb); (try clear hb2); (try clear hk); (try clear hi); (try clear ho0)) | (go_at_call 38; (with_reducible refine (truffleref01_Put.calls kj21 a0 t365 _ A41.out).mono ?_); rintro e w52 ⟨v366, rfl, ho0, hb⟩; have n0_ := Aside0.mk (Kd.R_elder' (by (with_reducible repeat (first | apply Kd.R_alloc | apply Kd.R_drewN | apply Kd.R_drew)); exact HO364.out) (Kd.R_base ho0) hb); have n1_ := Aside0.mk (Kd.R_lower (Kd.R_new' ho0 (Kd.R_lt (by (with_reducible repeat (first | apply Kd.R_alloc | apply Kd.R_drewN | apply Kd.R_drew)); exact HO364.out))) (below_size (by repeat (first | (with_reducible first | exact HB.out | apply below_alloc | apply pw_below_drewN | apply below_drew1) | exact HB.out)))); have n2_ := Aside0.mk (below_step (by repeat (first | (with_reducible first | exact HB.out | apply below_alloc | apply pw_below_drewN | apply below_drew1) | exact HB.out)) hb); clear HO364; clear HB; have HO364 := n0_; have HO367 := n1_; have HB := n2_; clear n0_ n1_ n2_; (try clear hb); (try clear hb2); (try clear hk); (try clear hi); (try clear ho0); obtain ⟨Ao53, co53, eo53⟩ := Kd.R_slice HO364.out; subst eo53; obtain ⟨Ao54, co54, eo54⟩ := Kd.R_slice HO367.out; subst eo54) | (go_at_call 24; (with_reducible refine (truffleref01_Bytes.calls kj21 _ _ t362 _ _ t365 false _ ?side1 ?side2 ?side3 ?side4 A42.out).mono ?_); (case side1 => repeat (first | exact (Kd.R_reads' HO364.out).2.2 | (with_reducible refine Kd.C_alloc ?_ _) | (with_reducible refine Kd.C_drewN ?_ _) | (with_reducible refine Kd.C_drew ?_))); (case side2 => exact (Kd.R_reads' HO364.out).2.1); (case side3 => repeat (first | exact (Kd.R_reads' HO367.out).2.2 | (with_reducible refine Kd.C_alloc ?_ _) | (with_reducible refine Kd.C_drewN ?_ _) | (with_reducible refine Kd.C_drew ?_))); (case side4 => exact (Kd.R_reads' HO367.out).2.1); rintro e w' ⟨rfl, ⟨nd, rfl⟩⟩))
                      go_ret
                      exact ⟨by first | rfl | (simp [errW_none, errW_some] <;> rfl) | (simp [*, errW_none, errW_some] <;> rfl), by repeat (first | (with_reducible first | exact HB.out | apply below_alloc | apply pw_below_drewN | apply below_drew1) | exact HB.out)⟩
                  · replace c39 := Bool.eq_false_iff.mpr c39
                    subst c39
                    have H1 : (some false) = some r := by rw [if_neg (show ¬ (false = true) by decide)] at H; exact H
                    clear H
                    have H := H1
                    clear H1
                    obtain rfl := Option.some.inj H
                    go_wp2
                    go_ret
                    exact ⟨by first | rfl | (simp [errW_none, errW_some] <;> rfl) | (simp [*, errW_none, errW_some] <;> rfl), by repeat (first | (with_reducible first | exact HB.out | apply below_alloc | apply pw_below_drewN | apply below_drew1) | exact HB.out)⟩
                · replace c38 := Bool.eq_false_iff.mpr c38
                  subst c38
                  have H1 : (some false) = some r := by rw [if_neg (show ¬ (false = true) by decide)] at H; exact H
                  clear H
                  have H := H1
                  clear H1
                  obtain rfl := Option.some.inj H
                  go_wp2
                  go_ret
                  exact ⟨by first | rfl | (simp [errW_none, errW_some] <;> rfl) | (simp [*, errW_none, errW_some] <;> rfl), by repeat (first | (with_reducible first | exact HB.out | apply below_alloc | apply pw_below_drewN | apply below_drew1) | exact HB.out)⟩

/-- THE ONE PURE STATEMENT of trufflelaw01_VarintTells: yours. -/
def trufflelaw01_VarintTells.Pure : Prop := ∀ (a0 : Int) (l1 : List Int) (a2 : Int) (a3 : Int) (a4 : Int), (Lit.int .u64 a0).wf = true → l1.length ≤ maxLen → l1.length * 1 ≤ 140737488351232 → (∀ x ∈ l1, (Lit.int .u8 x).wf = true) → (Lit.int .i64 a2).wf = true → (Lit.int .i64 a3).wf = true → (Lit.int .i64 a4).wf = true → ∃ k, trufflelaw01_VarintTells.f k a0 l1 a2 a3 a4 = some true
theorem trufflelaw01_VarintTells.walk (P : trufflelaw01_VarintTells.Pure) (a0 : Int) (a1 : Option Addr) (len1 cap1 : Nat) (z1 : List Int) (a2 : Int) (a3 : Int) (a4 : Int) (w : World) (w0 : (Lit.int .u64 a0).wf = true) (w1 : (a1 = none ∧ len1 = 0 ∧ cap1 = 0 ∧ z1 = []) ∨ ∃ x, a1 = some x ∧ len1 ≤ cap1 ∧ cap1 ≤ maxLen ∧ z1.length = cap1 ∧ (∀ i, i < z1.length → w.cell? (x.add i) = some (.int .u8 (z1.getD i 0))) ∧ ∀ n ∈ z1, (Lit.int .u8 n).wf = true) (y1 : len1 * 1 ≤ 140737488351232) (w2 : (Lit.int .i64 a2).wf = true) (w3 : (Lit.int .i64 a3).wf = true) (w4 : (Lit.int .i64 a4).wf = true) :
    Calls Try.prog 14 #[.int .u64 a0, .slice a1 len1 cap1, .int .i64 a2, .int .i64 a3, .int .i64 a4] w fun e w' => e = .returned (.bool true) ∧ Below w.heap.size w w' := by
  obtain ⟨l1, rfl, hr1, hm1, hw1, hc1⟩ := ReadsInt.ofRowC w1
  obtain ⟨k, h⟩ := P a0 l1 a2 a3 a4 w0 hm1 y1 hw1 w2 w3 w4
  refine (trufflelaw01_VarintTells.calls k a0 _ _ l1 a2 a3 a4 true w (Kd.C_of_reads (d := (0 : Int)) (h1 := fun _ => rfl) hr1) hc1 h).mono ?_
  rintro e w' ⟨rfl, hd⟩
  exact ⟨rfl, hd⟩

end Go.Proofs.Ytokbcenkgdpepaa.M
