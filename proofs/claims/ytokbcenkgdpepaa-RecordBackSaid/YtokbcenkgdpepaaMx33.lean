-- Written by wip/print18.py (this session's program, over the kit's print.py), for this seat's laws.
import Derived.Test.YtokbcenkgdpepaaMx0
import Derived.Test.YtokbcenkgdpepaaMx4
import Derived.Test.YtokbcenkgdpepaaMx28
import Derived.Test.YtokbcenkgdpepaaMx32
namespace Go.Proofs.Ytokbcenkgdpepaa.M
open Go.RowKit Go.Proofs.YtokbcenkgdpepaaW.PrintWords Go.Proofs.YtokbcenkgdpepaaW.PrintLast Go.Proofs.YtokbcenkgdpepaaW.PrintMore
attribute [local go_sem] max2_int min2_int max_two min_two max_three min_three max_four min_four   -- for this text's walks alone
set_option linter.unusedVariables false
set_option linter.unusedSimpArgs false

/-! ### trufflelaw05_RecordBack: function 16 -/
mutual
def trufflelaw05_RecordBack.j0 : Nat → List Int → List Int → Bool → List Int → Bool → Bool → Int → Int → Int → Int → Int → Option (Bool)
  | 0, _, _, _, _, _, _, _, _, _, _, _ => none
  | k + 1, x1, x2, x7, x8, x9, x37, x473000, x473001, x473002, x473003, x473004 => if x37 = true then (if x7 = true then (if x9 = true then (some true) else (some ((x8.length : Int) == 0))) else (some false)) else (if ([] : List Int).length + x2.length < 140737488355328 then ((some (([] : List Int) ++ x2 : List Int)).bind fun y478 => (if y478.length + x8.length < 140737488355328 then ((some (y478 ++ x8 : List Int)).bind fun y481 => ((record_Next.f k y481 (x2.length : Int) (y481.length : Int)).bind fun bt484 => (if bt484.2.2.2.2.2.2 = 0 then (if bt484.2.2.2.2.2.1 = (y481.length : Int) then (if bt484.1 = x473000 then (if bt484.2.1 = x473001 then (if bt484.2.2.2.2.1 = (y481.length : Int) then (if bt484.2.2.2.1 < (x2.length : Int) then (trufflelaw05_RecordBack.j1 k x1 y481 true x473000 x473001 x473002 x473003 x473004 bt484.1 bt484.2.1 bt484.2.2.1 bt484.2.2.2.1 bt484.2.2.2.2.1) else (trufflelaw05_RecordBack.j1 k x1 y481 (decide (bt484.2.2.2.1 > (y481.length : Int))) x473000 x473001 x473002 x473003 x473004 bt484.1 bt484.2.1 bt484.2.2.1 bt484.2.2.2.1 bt484.2.2.2.2.1)) else (trufflelaw05_RecordBack.j1 k x1 y481 true x473000 x473001 x473002 x473003 x473004 bt484.1 bt484.2.1 bt484.2.2.1 bt484.2.2.2.1 bt484.2.2.2.2.1)) else (trufflelaw05_RecordBack.j1 k x1 y481 true x473000 x473001 x473002 x473003 x473004 bt484.1 bt484.2.1 bt484.2.2.1 bt484.2.2.2.1 bt484.2.2.2.2.1)) else (trufflelaw05_RecordBack.j1 k x1 y481 true x473000 x473001 x473002 x473003 x473004 bt484.1 bt484.2.1 bt484.2.2.1 bt484.2.2.2.1 bt484.2.2.2.2.1)) else (trufflelaw05_RecordBack.j1 k x1 y481 true x473000 x473001 x473002 x473003 x473004 bt484.1 bt484.2.1 bt484.2.2.1 bt484.2.2.2.1 bt484.2.2.2.2.1)) else (trufflelaw05_RecordBack.j1 k x1 y481 true x473000 x473001 x473002 x473003 x473004 bt484.1 bt484.2.1 bt484.2.2.1 bt484.2.2.2.1 bt484.2.2.2.2.1)))) else (none))) else (none))
def trufflelaw05_RecordBack.j1 : Nat → List Int → List Int → Bool → Int → Int → Int → Int → Int → Int → Int → Int → Int → Int → Option (Bool)
  | 0, _, _, _, _, _, _, _, _, _, _, _, _, _ => none
  | k + 1, x1, x10, x103, x473000, x473001, x473002, x473003, x473004, x492000, x492001, x492002, x492003, x492004 => if x103 = true then (some false) else (if x473001 = 2 then (if 0 ≤ x492003 then (if x492003 ≤ x492004 then (if x492004 ≤ (x10.length : Int) then ((truffleref01_Bytes.f k ((x10.take (x492004 : Int).toNat).drop (x492003 : Int).toNat) x1).bind fun t496 => (if t496 = true then (some (x492002 == (IntKind.u64.wrap ((x1.length : Int))))) else (some false))) else (none)) else (none)) else (none)) else (if x473001 = 5 then (some (x492002 == (Int.tmod x473002 4294967296))) else (some (x492002 == x473002))))
end
def trufflelaw05_RecordBack.f (k : Nat) (a0_0 : Int) (a0_1 : Int) (a0_2 : Int) (a0_3 : Int) (a0_4 : Int) (l1 : List Int) (l2 : List Int) : Option (Bool) := (trufflelaw05_awake.f k).bind fun t473 => ((record_Put.f k a0_0 a0_1 a0_2 a0_3 a0_4 l1).bind fun bt474 => (if t473 = true then (if bt474.2 = true then (if (l1.length : Int) > 1000 then (trufflelaw05_RecordBack.j0 k l1 l2 t473 bt474.1 bt474.2 true a0_0 a0_1 a0_2 a0_3 a0_4) else (trufflelaw05_RecordBack.j0 k l1 l2 t473 bt474.1 bt474.2 (decide ((l2.length : Int) > 1000)) a0_0 a0_1 a0_2 a0_3 a0_4)) else (trufflelaw05_RecordBack.j0 k l1 l2 t473 bt474.1 bt474.2 true a0_0 a0_1 a0_2 a0_3 a0_4)) else (trufflelaw05_RecordBack.j0 k l1 l2 t473 bt474.1 bt474.2 true a0_0 a0_1 a0_2 a0_3 a0_4)))
theorem trufflelaw05_RecordBack.mono_l : ∀ k, (∀ y0 y1 y2 y3 y4 y5 y6 y7 y8 y9 y10, LeO (trufflelaw05_RecordBack.j0 k y0 y1 y2 y3 y4 y5 y6 y7 y8 y9 y10) (trufflelaw05_RecordBack.j0 (k + 1) y0 y1 y2 y3 y4 y5 y6 y7 y8 y9 y10)) ∧ (∀ y0 y1 y2 y3 y4 y5 y6 y7 y8 y9 y10 y11 y12, LeO (trufflelaw05_RecordBack.j1 k y0 y1 y2 y3 y4 y5 y6 y7 y8 y9 y10 y11 y12) (trufflelaw05_RecordBack.j1 (k + 1) y0 y1 y2 y3 y4 y5 y6 y7 y8 y9 y10 y11 y12))
  | 0 => ⟨fun _ _ _ _ _ _ _ _ _ _ _ r h => by simp [trufflelaw05_RecordBack.j0] at h, fun _ _ _ _ _ _ _ _ _ _ _ _ _ r h => by simp [trufflelaw05_RecordBack.j1] at h⟩
  | k + 1 => by
    obtain ⟨ih0, ih1⟩ := trufflelaw05_RecordBack.mono_l k
    refine ⟨?_, ?_⟩
    · intro y0 y1 y2 y3 y4 y5 y6 y7 y8 y9 y10
      unfold trufflelaw05_RecordBack.j0
      repeat' first
      | (with_reducible exact ih0 _ _ _ _ _ _ _ _ _ _ _)
      | (with_reducible exact ih1 _ _ _ _ _ _ _ _ _ _ _ _ _)
      | (with_reducible exact record_Next.mono _ _ _ _)
      | (with_reducible exact record_Put.mono _ _ _ _ _ _ _)
      | (with_reducible exact trufflelaw05_awake.mono _)
      | (with_reducible exact truffleref01_Bytes.mono _ _ _)
      | (with_reducible exact LeO.refl _)
      | (with_reducible exact LeO.none _)
      | (with_reducible refine LeO.ite ?_ ?_)
      | (with_reducible refine LeO.bind ?_ (fun _ => ?_))
      | exact ih0 _ _ _ _ _ _ _ _ _ _ _
      | exact ih1 _ _ _ _ _ _ _ _ _ _ _ _ _
      | exact record_Next.mono _ _ _ _
      | exact record_Put.mono _ _ _ _ _ _ _
      | exact trufflelaw05_awake.mono _
      | exact truffleref01_Bytes.mono _ _ _
      | exact LeO.none _
      | refine LeO.ite ?_ ?_
      | refine LeO.bind ?_ (fun _ => ?_)
    · intro y0 y1 y2 y3 y4 y5 y6 y7 y8 y9 y10 y11 y12
      unfold trufflelaw05_RecordBack.j1
      repeat' first
      | (with_reducible exact ih0 _ _ _ _ _ _ _ _ _ _ _)
      | (with_reducible exact ih1 _ _ _ _ _ _ _ _ _ _ _ _ _)
      | (with_reducible exact record_Next.mono _ _ _ _)
      | (with_reducible exact record_Put.mono _ _ _ _ _ _ _)
      | (with_reducible exact trufflelaw05_awake.mono _)
      | (with_reducible exact truffleref01_Bytes.mono _ _ _)
      | (with_reducible exact LeO.refl _)
      | (with_reducible exact LeO.none _)
      | (with_reducible refine LeO.ite ?_ ?_)
      | (with_reducible refine LeO.bind ?_ (fun _ => ?_))
      | exact ih0 _ _ _ _ _ _ _ _ _ _ _
      | exact ih1 _ _ _ _ _ _ _ _ _ _ _ _ _
      | exact record_Next.mono _ _ _ _
      | exact record_Put.mono _ _ _ _ _ _ _
      | exact trufflelaw05_awake.mono _
      | exact truffleref01_Bytes.mono _ _ _
      | exact LeO.none _
      | refine LeO.ite ?_ ?_
      | refine LeO.bind ?_ (fun _ => ?_)
theorem trufflelaw05_RecordBack.mono : ∀ a0 a1 a2 a3 a4 a5 a6 k, LeO (trufflelaw05_RecordBack.f k a0 a1 a2 a3 a4 a5 a6) (trufflelaw05_RecordBack.f (k + 1) a0 a1 a2 a3 a4 a5 a6) := by
  intro a0 a1 a2 a3 a4 a5 a6 k
  obtain ⟨ih0, ih1⟩ := trufflelaw05_RecordBack.mono_l k
  unfold trufflelaw05_RecordBack.f
  repeat' first
      | (with_reducible exact ih0 _ _ _ _ _ _ _ _ _ _ _)
      | (with_reducible exact ih1 _ _ _ _ _ _ _ _ _ _ _ _ _)
      | (with_reducible exact record_Next.mono _ _ _ _)
      | (with_reducible exact record_Put.mono _ _ _ _ _ _ _)
      | (with_reducible exact trufflelaw05_awake.mono _)
      | (with_reducible exact truffleref01_Bytes.mono _ _ _)
      | (with_reducible exact LeO.refl _)
      | (with_reducible exact LeO.none _)
      | (with_reducible refine LeO.ite ?_ ?_)
      | (with_reducible refine LeO.bind ?_ (fun _ => ?_))
      | exact ih0 _ _ _ _ _ _ _ _ _ _ _
      | exact ih1 _ _ _ _ _ _ _ _ _ _ _ _ _
      | exact record_Next.mono _ _ _ _
      | exact record_Put.mono _ _ _ _ _ _ _
      | exact trufflelaw05_awake.mono _
      | exact truffleref01_Bytes.mono _ _ _
      | exact LeO.none _
      | refine LeO.ite ?_ ?_
      | refine LeO.bind ?_ (fun _ => ?_)
set_option maxHeartbeats 8000000 in
set_option maxRecDepth 100000 in
theorem trufflelaw05_RecordBack.calls (k : Nat) (a0_0 : Int) (a0_1 : Int) (a0_2 : Int) (a0_3 : Int) (a0_4 : Int) (A1 : Option Addr) (c1 : Nat) (l1 : List Int) (A2 : Option Addr) (c2 : Nat) (l2 : List Int) (r : Bool) (w : World) (hr1 : Kd.C (Kd.int .u8) w A1 l1.length l1) (hc1 : l1.length ≤ c1) (hr2 : Kd.C (Kd.int .u8) w A2 l2.length l2) (hc2 : l2.length ≤ c2) (h : trufflelaw05_RecordBack.f k a0_0 a0_1 a0_2 a0_3 a0_4 l1 l2 = some r) :
    Calls Try.prog 16 #[.agg #[.int .i64 a0_0, .int .i64 a0_1, .int .u64 a0_2, .int .i64 a0_3, .int .i64 a0_4], .slice A1 l1.length c1, .slice A2 l2.length c2] w fun e w' => e = .returned (.bool r) ∧ Below w.heap.size w w' := by
  have hu53 := Try.underlying53
  have HR1 := Aside0.mk hr1
  have HC1 := Aside0.mk hc1
  clear hr1 hc1
  have HR2 := Aside0.mk hr2
  have HC2 := Aside0.mk hc2
  clear hr2 hc2
  have HB := Aside0.mk (Below.refl w.heap.size w)
  have H : ((trufflelaw05_awake.f k).bind fun t473 => ((record_Put.f k a0_0 a0_1 a0_2 a0_3 a0_4 l1).bind fun bt474 => (if t473 = true then (if bt474.2 = true then (if (l1.length : Int) > 1000 then (trufflelaw05_RecordBack.j0 k l1 l2 t473 bt474.1 bt474.2 true a0_0 a0_1 a0_2 a0_3 a0_4) else (trufflelaw05_RecordBack.j0 k l1 l2 t473 bt474.1 bt474.2 (decide ((l2.length : Int) > 1000)) a0_0 a0_1 a0_2 a0_3 a0_4)) else (trufflelaw05_RecordBack.j0 k l1 l2 t473 bt474.1 bt474.2 true a0_0 a0_1 a0_2 a0_3 a0_4)) else (trufflelaw05_RecordBack.j0 k l1 l2 t473 bt474.1 bt474.2 true a0_0 a0_1 a0_2 a0_3 a0_4)))) = some r := h
  clear h
  replace H := Option.bind_eq_some_iff.mp H
  obtain ⟨t473, A40, H⟩ := H
  replace H : ((record_Put.f k a0_0 a0_1 a0_2 a0_3 a0_4 l1).bind fun bt474 => (if t473 = true then (if bt474.2 = true then (if (l1.length : Int) > 1000 then (trufflelaw05_RecordBack.j0 k l1 l2 t473 bt474.1 bt474.2 true a0_0 a0_1 a0_2 a0_3 a0_4) else (trufflelaw05_RecordBack.j0 k l1 l2 t473 bt474.1 bt474.2 (decide ((l2.length : Int) > 1000)) a0_0 a0_1 a0_2 a0_3 a0_4)) else (trufflelaw05_RecordBack.j0 k l1 l2 t473 bt474.1 bt474.2 true a0_0 a0_1 a0_2 a0_3 a0_4)) else (trufflelaw05_RecordBack.j0 k l1 l2 t473 bt474.1 bt474.2 true a0_0 a0_1 a0_2 a0_3 a0_4))) = some r := H
  have A4 := Aside0.mk A40
  clear A40
  replace H := Option.bind_eq_some_iff.mp H
  obtain ⟨⟨t474, t477⟩, A50, H⟩ := H
  replace H : (if t473 = true then (if t477 = true then (if (l1.length : Int) > 1000 then (trufflelaw05_RecordBack.j0 k l1 l2 t473 t474 t477 true a0_0 a0_1 a0_2 a0_3 a0_4) else (trufflelaw05_RecordBack.j0 k l1 l2 t473 t474 t477 (decide ((l2.length : Int) > 1000)) a0_0 a0_1 a0_2 a0_3 a0_4)) else (trufflelaw05_RecordBack.j0 k l1 l2 t473 t474 t477 true a0_0 a0_1 a0_2 a0_3 a0_4)) else (trufflelaw05_RecordBack.j0 k l1 l2 t473 t474 t477 true a0_0 a0_1 a0_2 a0_3 a0_4)) = some r := H
  have A5 := Aside0.mk A50
  clear A50
  have HC6 := Aside0.mk H
  clear H
  go_enter Try.func16, Try.ntmps16
  go_upto_region 3 with (first | ((with_reducible refine gate_dst (N := 3) rfl ?_); (try (refine gate_guard (by rfl) ?_; dsimp only)); refine box_event ?hg (N := 3) ?hd (cs := #[.int .i64 a0_0, .int .i64 a0_1, .int .u64 a0_2, .int .i64 a0_3, .int .i64 a0_4]) (t := 53) ?hr ?_; (case hd => rfl); (case hg => rfl); (case hr => first | (go_simp; done) | (go_simp; rfl)); intro gb472 hg w7 hbox hb; have n0_ := Aside0.mk (below_step (by repeat (first | (with_reducible first | exact HB.out | apply below_alloc | apply pw_below_drewN | apply below_drew1) | exact HB.out)) hb); have n1_ := Aside0.mk (hbox); have n2_ := Aside0.mk ((by rw [hg]; exact (below_size (by repeat (first | (with_reducible first | exact HB.out | apply below_alloc | apply pw_below_drewN | apply below_drew1) | exact HB.out))) : w.heap.size ≤ gb472)); have n3_ := Aside0.mk ((by rw [hg]; exact (below_size (by repeat (first | (with_reducible first | exact HB.out | apply below_alloc | apply pw_below_drewN | apply below_drew1) | exact HB.out))) : w.heap.size ≤ gb472)); clear HB; have HB := n0_; have BK472 := n1_; have GW472 := n2_; have GE472 := n3_; clear n0_ n1_ n2_ n3_; clear hb hbox hg) | ((with_reducible refine gate_callee (f := 40) rfl ?_); refine goesL_ (some 15) rfl rfl Try.func40 (by kernel_rfl) rfl #[] rfl (by (try simp only [List.map_toArray, List.map_cons, List.map_nil]); first | done | rfl | (simp only [List.length_drop, List.length_take]; rfl)) ?_; (with_reducible refine (trufflelaw05_awake.calls k  t473 _ A4.out).mono ?_); rintro e w8 ⟨rfl, hb⟩; refine ⟨_, rfl, ?_⟩; have n0_ := Aside0.mk (blk_below (g := gb472) (o := .cells #[.int .i64 a0_0, .int .i64 a0_1, .int .u64 a0_2, .int .i64 a0_3, .int .i64 a0_4] 53 (0, 0)) (by (with_reducible repeat (first | refine blk_drewN ?_ _ | refine blk_drew ?_ | refine blk_alloc ?_ _)); exact BK472.out) hb); have n1_ := Aside0.mk (below_step (by repeat (first | (with_reducible first | exact HB.out | apply below_alloc | apply pw_below_drewN | apply below_drew1 | refine below_set ?_ GE472.out) | exact HB.out)) hb); clear BK472; clear HB; have BK472 := n0_; have HB := n1_; clear n0_ n1_; (try clear hb); (try clear hb2); (try clear hk); (try clear hi); have hcz9_0 : w8.cell? ⟨gb472, 0, none⟩ = some (.int .i64 a0_0) := (blk_cell BK472.out 0).trans rfl; have hcz9_1 : w8.cell? ⟨gb472, 1, none⟩ = some (.int .i64 a0_1) := (blk_cell BK472.out 1).trans rfl; have hcz9_2 : w8.cell? ⟨gb472, 2, none⟩ = some (.int .u64 a0_2) := (blk_cell BK472.out 2).trans rfl; have hcz9_3 : w8.cell? ⟨gb472, 3, none⟩ = some (.int .i64 a0_3) := (blk_cell BK472.out 3).trans rfl; have hcz9_4 : w8.cell? ⟨gb472, 4, none⟩ = some (.int .i64 a0_4) := (blk_cell BK472.out 4).trans rfl; have hfz9_0 := blk_frozen BK472.out 0; have hfz9_1 := blk_frozen BK472.out 1; have hfz9_2 := blk_frozen BK472.out 2; have hfz9_3 := blk_frozen BK472.out 3; have hfz9_4 := blk_frozen BK472.out 4) | ((with_reducible refine gate_callee (f := 43) rfl ?_); refine goesL_ (some 19) rfl rfl Try.func43 (by kernel_rfl) rfl #[.agg #[.int .i64 a0_0, .int .i64 a0_1, .int .u64 a0_2, .int .i64 a0_3, .int .i64 a0_4], .slice A1 l1.length c1] rfl (by (try simp only [List.map_toArray, List.map_cons, List.map_nil]); first | done | rfl | (simp only [List.length_drop, List.length_take]; rfl)) ?_; (with_reducible refine (record_Put.calls k a0_0 a0_1 a0_2 a0_3 a0_4 _ _ l1 t474 t477 _ ?side1 ?side2 A5.out).mono ?_); (case side1 => repeat (first | exact (Kd.C_below HR1.out HB.out) | (with_reducible refine Kd.C_alloc ?_ _) | (with_reducible refine Kd.C_drewN ?_ _) | (with_reducible refine Kd.C_drew ?_))); (case side2 => exact HC1.out); rintro e w10 ⟨v475, rfl, ho0, hb⟩; refine ⟨_, rfl, ?_⟩; have n0_ := Aside0.mk (Kd.R_lower ho0 (below_size (by repeat (first | (with_reducible first | exact HB.out | apply below_alloc | apply pw_below_drewN | apply below_drew1 | refine below_set ?_ GE472.out) | exact HB.out)))); have n1_ := Aside0.mk (blk_below (g := gb472) (o := .cells #[.int .i64 a0_0, .int .i64 a0_1, .int .u64 a0_2, .int .i64 a0_3, .int .i64 a0_4] 53 (0, 0)) (by (with_reducible repeat (first | refine blk_drewN ?_ _ | refine blk_drew ?_ | refine blk_alloc ?_ _)); exact BK472.out) hb); have n2_ := Aside0.mk (below_step (by repeat (first | (with_reducible first | exact HB.out | apply below_alloc | apply pw_below_drewN | apply below_drew1 | refine below_set ?_ GE472.out) | exact HB.out)) hb); clear BK472; clear HB; have HO476 := n0_; have BK472 := n1_; have HB := n2_; clear n0_ n1_ n2_; (try clear hb); (try clear hb2); (try clear hk); (try clear hi); (try clear ho0)))
  (try simp only [Act.put, List.setIfInBounds_toArray, List.set_cons_zero, List.set_cons_succ])
  go_cut [37] (fun v37 wc => ∃ (kq : Nat) (x37_5 : Bool), v37 = .bool x37_5 ∧ Aside0 (trufflelaw05_RecordBack.j0 kq l1 l2 t473 t474 t477 x37_5 a0_0 a0_1 a0_2 a0_3 a0_4 = some r) ∧ Aside0 (kq ≤ k) ∧ Aside0 (Kd.R (Kd.int .u8) 5 wc w.heap.size (fun _ => True) v475 t474) ∧ Aside0 (wc.heap[gb472]? = some (.cells #[.int .i64 a0_0, .int .i64 a0_1, .int .u64 a0_2, .int .i64 a0_3, .int .i64 a0_4] 53 (0, 0))) ∧ Aside0 (Below w.heap.size w wc))
  case first =>
    have H := HC6.out
    clear HC6
    by_cases c11 : t473 = true
    · subst c11
      have H1 : (if t477 = true then (if (l1.length : Int) > 1000 then (trufflelaw05_RecordBack.j0 k l1 l2 true t474 t477 true a0_0 a0_1 a0_2 a0_3 a0_4) else (trufflelaw05_RecordBack.j0 k l1 l2 true t474 t477 (decide ((l2.length : Int) > 1000)) a0_0 a0_1 a0_2 a0_3 a0_4)) else (trufflelaw05_RecordBack.j0 k l1 l2 true t474 t477 true a0_0 a0_1 a0_2 a0_3 a0_4)) = some r := by rw [if_pos rfl] at H; exact H
      clear H
      have H := H1
      clear H1
      by_cases c12 : t477 = true
      · subst c12
        have H1 : (if (l1.length : Int) > 1000 then (trufflelaw05_RecordBack.j0 k l1 l2 true t474 true true a0_0 a0_1 a0_2 a0_3 a0_4) else (trufflelaw05_RecordBack.j0 k l1 l2 true t474 true (decide ((l2.length : Int) > 1000)) a0_0 a0_1 a0_2 a0_3 a0_4)) = some r := by rw [if_pos rfl] at H; exact H
        clear H
        have H := H1
        clear H1
        by_cases c13 : (l1.length : Int) > 1000
        · rw [if_pos c13] at H
          have c13b0 : decide (1000 < (l1.length : Int)) = true := decide_eq_true c13
          have c13b1 : decide (1000 < l1.length) = true := decide_eq_true (by omega)
          clear c13
          (first | rw [c13b0] | (simp only [i64_w, i32_w]; rw [c13b0]) | skip)
          have H' := Aside0.mk H
          clear H
          go_wp2
          go_meet
          case rel => exact ⟨_, (true), (by first | rfl | (simp; done) | (simp [*]; done)), H', ⟨by first | omega | exact Nat.le_refl _⟩, ⟨by (with_reducible repeat (first | apply Kd.R_alloc | apply Kd.R_drewN | apply Kd.R_drew)); exact HO476.out⟩, ⟨by (with_reducible repeat (first | refine blk_drewN ?_ _ | refine blk_drew ?_ | refine blk_alloc ?_ _)); exact BK472.out⟩, ⟨by repeat (first | (with_reducible first | exact HB.out | apply below_alloc | apply pw_below_drewN | apply below_drew1 | refine below_set ?_ GE472.out) | exact HB.out)⟩⟩
        · rw [if_neg c13] at H
          have c13b0 : decide (1000 < (l1.length : Int)) = false := decide_eq_false c13
          have c13b1 : decide (1000 < l1.length) = false := decide_eq_false (by omega)
          clear c13
          (first | rw [c13b0] | (simp only [i64_w, i32_w]; rw [c13b0]) | skip)
          have H' := Aside0.mk H
          clear H
          go_wp2
          go_meet
          case rel => exact ⟨_, (decide ((l2.length : Int) > 1000)), (by first | rfl | (simp; done) | (simp [*]; done)), H', ⟨by first | omega | exact Nat.le_refl _⟩, ⟨by (with_reducible repeat (first | apply Kd.R_alloc | apply Kd.R_drewN | apply Kd.R_drew)); exact HO476.out⟩, ⟨by (with_reducible repeat (first | refine blk_drewN ?_ _ | refine blk_drew ?_ | refine blk_alloc ?_ _)); exact BK472.out⟩, ⟨by repeat (first | (with_reducible first | exact HB.out | apply below_alloc | apply pw_below_drewN | apply below_drew1 | refine below_set ?_ GE472.out) | exact HB.out)⟩⟩
      · replace c12 := Bool.eq_false_iff.mpr c12
        subst c12
        have H1 : (trufflelaw05_RecordBack.j0 k l1 l2 true t474 false true a0_0 a0_1 a0_2 a0_3 a0_4) = some r := by rw [if_neg (show ¬ (false = true) by decide)] at H; exact H
        clear H
        have H := H1
        clear H1
        have H' := Aside0.mk H
        clear H
        go_wp2
        go_meet
        case rel => exact ⟨_, (true), (by first | rfl | (simp; done) | (simp [*]; done)), H', ⟨by first | omega | exact Nat.le_refl _⟩, ⟨by (with_reducible repeat (first | apply Kd.R_alloc | apply Kd.R_drewN | apply Kd.R_drew)); exact HO476.out⟩, ⟨by (with_reducible repeat (first | refine blk_drewN ?_ _ | refine blk_drew ?_ | refine blk_alloc ?_ _)); exact BK472.out⟩, ⟨by repeat (first | (with_reducible first | exact HB.out | apply below_alloc | apply pw_below_drewN | apply below_drew1 | refine below_set ?_ GE472.out) | exact HB.out)⟩⟩
    · replace c11 := Bool.eq_false_iff.mpr c11
      subst c11
      have H1 : (trufflelaw05_RecordBack.j0 k l1 l2 false t474 t477 true a0_0 a0_1 a0_2 a0_3 a0_4) = some r := by rw [if_neg (show ¬ (false = true) by decide)] at H; exact H
      clear H
      have H := H1
      clear H1
      have H' := Aside0.mk H
      clear H
      go_wp2
      go_meet
      case rel => exact ⟨_, (true), (by first | rfl | (simp; done) | (simp [*]; done)), H', ⟨by first | omega | exact Nat.le_refl _⟩, ⟨by (with_reducible repeat (first | apply Kd.R_alloc | apply Kd.R_drewN | apply Kd.R_drew)); exact HO476.out⟩, ⟨by (with_reducible repeat (first | refine blk_drewN ?_ _ | refine blk_drew ?_ | refine blk_alloc ?_ _)); exact BK472.out⟩, ⟨by repeat (first | (with_reducible first | exact HB.out | apply below_alloc | apply pw_below_drewN | apply below_drew1 | refine below_set ?_ GE472.out) | exact HB.out)⟩⟩
  case rest =>
    clear HC6
    try clear c1
    try clear c2
    try clear p2
    try clear c4
    try clear c11
    try clear c12
    try clear c13
    try clear c13b0
    try clear c13b1
    try clear hcz9_0
    try clear hcz9_1
    try clear hcz9_2
    try clear hcz9_3
    try clear hcz9_4
    try clear hfz9_0
    try clear hfz9_1
    try clear hfz9_2
    try clear hfz9_3
    try clear hfz9_4
    obtain ⟨kq, x37_5, rfl, HA, HJ5, HO_8, BK472, HB⟩ := hcut
    cases kq with
    | zero => exact absurd HA.out (by simp [trufflelaw05_RecordBack.j0])
    | succ kj5 =>
      have H := HA.out
      clear HA
      simp only [trufflelaw05_RecordBack.j0] at H
      by_cases c14 : x37_5 = true
      · subst c14
        have H1 : (if t473 = true then (if t477 = true then (some true) else (some ((t474.length : Int) == 0))) else (some false)) = some r := by rw [if_pos rfl] at H; exact H
        clear H
        have H := H1
        clear H1
        by_cases c15 : t473 = true
        · subst c15
          have H1 : (if t477 = true then (some true) else (some ((t474.length : Int) == 0))) = some r := by rw [if_pos rfl] at H; exact H
          clear H
          have H := H1
          clear H1
          by_cases c16 : t477 = true
          · subst c16
            have H1 : (some true) = some r := by rw [if_pos rfl] at H; exact H
            clear H
            have H := H1
            clear H1
            obtain rfl := Option.some.inj H
            go_wp2
            go_ret
            exact ⟨by first | rfl | (simp [errW_none, errW_some] <;> rfl) | (simp [*, errW_none, errW_some] <;> rfl), by repeat (first | (with_reducible first | exact HB.out | apply below_alloc | apply pw_below_drewN | apply below_drew1 | refine below_set ?_ GE472.out) | exact HB.out)⟩
          · replace c16 := Bool.eq_false_iff.mpr c16
            subst c16
            have H1 : (some ((t474.length : Int) == 0)) = some r := by rw [if_neg (show ¬ (false = true) by decide)] at H; exact H
            clear H
            have H := H1
            clear H1
            obtain rfl := Option.some.inj H
            obtain ⟨Ao17, co17, eo17⟩ := Kd.R_slice HO_8.out
            subst eo17
            go_wp2
            go_ret
            exact ⟨by first | rfl | (simp [errW_none, errW_some] <;> rfl) | (simp [*, errW_none, errW_some] <;> rfl), by repeat (first | (with_reducible first | exact HB.out | apply below_alloc | apply pw_below_drewN | apply below_drew1 | refine below_set ?_ GE472.out) | exact HB.out)⟩
        · replace c15 := Bool.eq_false_iff.mpr c15
          subst c15
          have H1 : (some false) = some r := by rw [if_neg (show ¬ (false = true) by decide)] at H; exact H
          clear H
          have H := H1
          clear H1
          obtain rfl := Option.some.inj H
          go_wp2
          go_ret
          exact ⟨by first | rfl | (simp [errW_none, errW_some] <;> rfl) | (simp [*, errW_none, errW_some] <;> rfl), by repeat (first | (with_reducible first | exact HB.out | apply below_alloc | apply pw_below_drewN | apply below_drew1 | refine below_set ?_ GE472.out) | exact HB.out)⟩
      · replace c14 := Bool.eq_false_iff.mpr c14
        subst c14
        have H1 : (if ([] : List Int).length + l2.length < 140737488355328 then ((some (([] : List Int) ++ l2 : List Int)).bind fun y478 => (if y478.length + t474.length < 140737488355328 then ((some (y478 ++ t474 : List Int)).bind fun y481 => ((record_Next.f kj5 y481 (l2.length : Int) (y481.length : Int)).bind fun bt484 => (if bt484.2.2.2.2.2.2 = 0 then (if bt484.2.2.2.2.2.1 = (y481.length : Int) then (if bt484.1 = a0_0 then (if bt484.2.1 = a0_1 then (if bt484.2.2.2.2.1 = (y481.length : Int) then (if bt484.2.2.2.1 < (l2.length : Int) then (trufflelaw05_RecordBack.j1 kj5 l1 y481 true a0_0 a0_1 a0_2 a0_3 a0_4 bt484.1 bt484.2.1 bt484.2.2.1 bt484.2.2.2.1 bt484.2.2.2.2.1) else (trufflelaw05_RecordBack.j1 kj5 l1 y481 (decide (bt484.2.2.2.1 > (y481.length : Int))) a0_0 a0_1 a0_2 a0_3 a0_4 bt484.1 bt484.2.1 bt484.2.2.1 bt484.2.2.2.1 bt484.2.2.2.2.1)) else (trufflelaw05_RecordBack.j1 kj5 l1 y481 true a0_0 a0_1 a0_2 a0_3 a0_4 bt484.1 bt484.2.1 bt484.2.2.1 bt484.2.2.2.1 bt484.2.2.2.2.1)) else (trufflelaw05_RecordBack.j1 kj5 l1 y481 true a0_0 a0_1 a0_2 a0_3 a0_4 bt484.1 bt484.2.1 bt484.2.2.1 bt484.2.2.2.1 bt484.2.2.2.2.1)) else (trufflelaw05_RecordBack.j1 kj5 l1 y481 true a0_0 a0_1 a0_2 a0_3 a0_4 bt484.1 bt484.2.1 bt484.2.2.1 bt484.2.2.2.1 bt484.2.2.2.2.1)) else (trufflelaw05_RecordBack.j1 kj5 l1 y481 true a0_0 a0_1 a0_2 a0_3 a0_4 bt484.1 bt484.2.1 bt484.2.2.1 bt484.2.2.2.1 bt484.2.2.2.2.1)) else (trufflelaw05_RecordBack.j1 kj5 l1 y481 true a0_0 a0_1 a0_2 a0_3 a0_4 bt484.1 bt484.2.1 bt484.2.2.1 bt484.2.2.2.1 bt484.2.2.2.2.1)))) else (none))) else (none)) = some r := by rw [if_neg (show ¬ (false = true) by decide)] at H; exact H
        clear H
        have H := H1
        clear H1
        by_cases c18 : ([] : List Int).length + l2.length < 140737488355328
        · rw [if_pos c18] at H
          have LMc18 := Aside0.mk c18
          clear c18
          obtain ⟨y478, hy478⟩ : ∃ y_ : List Int, y_ = (([] : List Int) ++ l2) := ⟨_, rfl⟩
          replace H : (if y478.length + t474.length < 140737488355328 then ((some (y478 ++ t474 : List Int)).bind fun y481 => ((record_Next.f kj5 y481 (l2.length : Int) (y481.length : Int)).bind fun bt484 => (if bt484.2.2.2.2.2.2 = 0 then (if bt484.2.2.2.2.2.1 = (y481.length : Int) then (if bt484.1 = a0_0 then (if bt484.2.1 = a0_1 then (if bt484.2.2.2.2.1 = (y481.length : Int) then (if bt484.2.2.2.1 < (l2.length : Int) then (trufflelaw05_RecordBack.j1 kj5 l1 y481 true a0_0 a0_1 a0_2 a0_3 a0_4 bt484.1 bt484.2.1 bt484.2.2.1 bt484.2.2.2.1 bt484.2.2.2.2.1) else (trufflelaw05_RecordBack.j1 kj5 l1 y481 (decide (bt484.2.2.2.1 > (y481.length : Int))) a0_0 a0_1 a0_2 a0_3 a0_4 bt484.1 bt484.2.1 bt484.2.2.1 bt484.2.2.2.1 bt484.2.2.2.2.1)) else (trufflelaw05_RecordBack.j1 kj5 l1 y481 true a0_0 a0_1 a0_2 a0_3 a0_4 bt484.1 bt484.2.1 bt484.2.2.1 bt484.2.2.2.1 bt484.2.2.2.2.1)) else (trufflelaw05_RecordBack.j1 kj5 l1 y481 true a0_0 a0_1 a0_2 a0_3 a0_4 bt484.1 bt484.2.1 bt484.2.2.1 bt484.2.2.2.1 bt484.2.2.2.2.1)) else (trufflelaw05_RecordBack.j1 kj5 l1 y481 true a0_0 a0_1 a0_2 a0_3 a0_4 bt484.1 bt484.2.1 bt484.2.2.1 bt484.2.2.2.1 bt484.2.2.2.2.1)) else (trufflelaw05_RecordBack.j1 kj5 l1 y481 true a0_0 a0_1 a0_2 a0_3 a0_4 bt484.1 bt484.2.1 bt484.2.2.1 bt484.2.2.2.1 bt484.2.2.2.2.1)) else (trufflelaw05_RecordBack.j1 kj5 l1 y481 true a0_0 a0_1 a0_2 a0_3 a0_4 bt484.1 bt484.2.1 bt484.2.2.1 bt484.2.2.2.1 bt484.2.2.2.2.1)))) else (none)) = some r := by first | (rw [hy478]; with_reducible exact H) | (have H2_ := (Option.bind_some _ _).symm.trans H; rw [hy478]; with_reducible exact H2_) | (have H2_ := (Option.bind_some _ _).symm.trans H; with_reducible exact H2_) | with_reducible exact H | (rw [hy478]; exact H) | exact H
          have Ny478 := Aside0.mk hy478
          clear hy478
          by_cases c19 : y478.length + t474.length < 140737488355328
          · rw [if_pos c19] at H
            have LMc19 := Aside0.mk c19
            clear c19
            obtain ⟨y481, hy481⟩ : ∃ y_ : List Int, y_ = (y478 ++ t474) := ⟨_, rfl⟩
            replace H : ((record_Next.f kj5 y481 (l2.length : Int) (y481.length : Int)).bind fun bt484 => (if bt484.2.2.2.2.2.2 = 0 then (if bt484.2.2.2.2.2.1 = (y481.length : Int) then (if bt484.1 = a0_0 then (if bt484.2.1 = a0_1 then (if bt484.2.2.2.2.1 = (y481.length : Int) then (if bt484.2.2.2.1 < (l2.length : Int) then (trufflelaw05_RecordBack.j1 kj5 l1 y481 true a0_0 a0_1 a0_2 a0_3 a0_4 bt484.1 bt484.2.1 bt484.2.2.1 bt484.2.2.2.1 bt484.2.2.2.2.1) else (trufflelaw05_RecordBack.j1 kj5 l1 y481 (decide (bt484.2.2.2.1 > (y481.length : Int))) a0_0 a0_1 a0_2 a0_3 a0_4 bt484.1 bt484.2.1 bt484.2.2.1 bt484.2.2.2.1 bt484.2.2.2.2.1)) else (trufflelaw05_RecordBack.j1 kj5 l1 y481 true a0_0 a0_1 a0_2 a0_3 a0_4 bt484.1 bt484.2.1 bt484.2.2.1 bt484.2.2.2.1 bt484.2.2.2.2.1)) else (trufflelaw05_RecordBack.j1 kj5 l1 y481 true a0_0 a0_1 a0_2 a0_3 a0_4 bt484.1 bt484.2.1 bt484.2.2.1 bt484.2.2.2.1 bt484.2.2.2.2.1)) else (trufflelaw05_RecordBack.j1 kj5 l1 y481 true a0_0 a0_1 a0_2 a0_3 a0_4 bt484.1 bt484.2.1 bt484.2.2.1 bt484.2.2.2.1 bt484.2.2.2.2.1)) else (trufflelaw05_RecordBack.j1 kj5 l1 y481 true a0_0 a0_1 a0_2 a0_3 a0_4 bt484.1 bt484.2.1 bt484.2.2.1 bt484.2.2.2.1 bt484.2.2.2.2.1)) else (trufflelaw05_RecordBack.j1 kj5 l1 y481 true a0_0 a0_1 a0_2 a0_3 a0_4 bt484.1 bt484.2.1 bt484.2.2.1 bt484.2.2.2.1 bt484.2.2.2.2.1))) = some r := by first | (rw [hy481]; with_reducible exact H) | (have H2_ := (Option.bind_some _ _).symm.trans H; rw [hy481]; with_reducible exact H2_) | (have H2_ := (Option.bind_some _ _).symm.trans H; with_reducible exact H2_) | with_reducible exact H | (rw [hy481]; exact H) | exact H
            have Ny481 := Aside0.mk hy481
            clear hy481
            replace H := Option.bind_eq_some_iff.mp H
            obtain ⟨⟨t484, t485, t486, t487, t488, t489, t490⟩, A200, H⟩ := H
            replace H : (if t490 = 0 then (if t489 = (y481.length : Int) then (if t484 = a0_0 then (if t485 = a0_1 then (if t488 = (y481.length : Int) then (if t487 < (l2.length : Int) then (trufflelaw05_RecordBack.j1 kj5 l1 y481 true a0_0 a0_1 a0_2 a0_3 a0_4 t484 t485 t486 t487 t488) else (trufflelaw05_RecordBack.j1 kj5 l1 y481 (decide (t487 > (y481.length : Int))) a0_0 a0_1 a0_2 a0_3 a0_4 t484 t485 t486 t487 t488)) else (trufflelaw05_RecordBack.j1 kj5 l1 y481 true a0_0 a0_1 a0_2 a0_3 a0_4 t484 t485 t486 t487 t488)) else (trufflelaw05_RecordBack.j1 kj5 l1 y481 true a0_0 a0_1 a0_2 a0_3 a0_4 t484 t485 t486 t487 t488)) else (trufflelaw05_RecordBack.j1 kj5 l1 y481 true a0_0 a0_1 a0_2 a0_3 a0_4 t484 t485 t486 t487 t488)) else (trufflelaw05_RecordBack.j1 kj5 l1 y481 true a0_0 a0_1 a0_2 a0_3 a0_4 t484 t485 t486 t487 t488)) else (trufflelaw05_RecordBack.j1 kj5 l1 y481 true a0_0 a0_1 a0_2 a0_3 a0_4 t484 t485 t486 t487 t488)) = some r := H
            have A20 := Aside0.mk A200
            clear A200
            have HC21 := Aside0.mk H
            clear H
            go_upto_region 7 with (first | ((with_reducible refine gate_builtin (b := .append) (xs := #[.const (.slice none 0 0), .tmp 47]) rfl ?_); (try (refine gate_guard (by rfl) ?_; dsimp only)); at_builtin; refine Kd.R_append_rows (Kd.int .u8) (w0 := w) w.heap.size rfl (.const (.slice none 0 0)) (.tmp 47) 22 5 (.int .u8 0) 1 rfl Try.underlying22 info5 rfl (by decide) (by omega) (.slice none 0 0) ([] : List Int) l2 _ _ _ (fun k_ => some k_ ≠ (v475 : Value).ownBlock) (fun _ => False) rfl rfl ?aO ?aR (fun _ _ h => h) (fun _ h => h.elim) ?aF ?aB ?aS ?aL ?_; (case aR => repeat (first | exact (Kd.C_below HR2.out HB.out) | (with_reducible refine Kd.C_alloc ?_ _) | (with_reducible refine Kd.C_drewN ?_ _) | (with_reducible refine Kd.C_drew ?_))); (case aB => exact (by repeat (first | (with_reducible first | exact HB.out | apply below_alloc | apply pw_below_drewN | apply below_drew1 | refine below_set ?_ GE472.out) | exact HB.out))); (case aF => exact (fun k_ hk => Kd.fresh' (Kd.R_lt (by (with_reducible repeat (first | apply Kd.R_alloc | apply Kd.R_drewN | apply Kd.R_drew)); exact HO_8.out)) k_ hk)); (case aO => exact ((Kd.R_nil _ _ _ _ (fun k_ => some k_ ≠ (v475 : Value).ownBlock)))); (case aS => exact (below_size (by repeat (first | (with_reducible first | exact HB.out | apply below_alloc | apply pw_below_drewN | apply below_drew1 | refine below_set ?_ GE472.out) | exact HB.out)))); (case aL => have := LMc18.out; omega); intro v479 w22 ho hb hg hat; rw [← Ny478.out] at ho; have n0_ := Aside0.mk (Kd.R_after (Kd.R_apart_nil (by (with_reducible repeat (first | apply Kd.R_alloc | apply Kd.R_drewN | apply Kd.R_drew)); exact HO_8.out)) hg hat); have n1_ := Aside0.mk (blk_grown (g := gb472) (o := .cells #[.int .i64 a0_0, .int .i64 a0_1, .int .u64 a0_2, .int .i64 a0_3, .int .i64 a0_4] 53 (0, 0)) (by (with_reducible repeat (first | refine blk_drewN ?_ _ | refine blk_drew ?_ | refine blk_alloc ?_ _)); exact BK472.out) hg (by simp [Value.ownBlock])); have n2_ := Aside0.mk (hb); have n3_ := Aside0.mk (ho); clear HO_8; clear BK472; clear HB; have HO_8 := n0_; have BK472 := n1_; have HB := n2_; have HO480 := n3_; clear n0_ n1_ n2_ n3_; clear ho hb hg hat; obtain ⟨Ao24, co24, eo24⟩ := Kd.R_slice HO_8.out; subst eo24) | ((with_reducible refine gate_builtin (b := .append) (xs := #[.tmp 48, .tmp 49]) rfl ?_); (try (refine gate_guard (by rfl) ?_; dsimp only)); at_builtin; refine Kd.R_append_rows (Kd.int .u8) (w0 := w) w.heap.size rfl (.tmp 48) (.tmp 49) 22 5 (.int .u8 0) 1 rfl Try.underlying22 info5 rfl (by decide) (by omega) v479 y478 t474 _ _ _ (fun k_ => some k_ ≠ (.slice Ao24 t474.length co24 : Value).ownBlock) (fun _ => False) rfl rfl ?aO ?aR (fun _ _ h => h) (fun _ h => h.elim) ?aF ?aB ?aS ?aL ?_; (case aR => repeat (first | exact (Kd.R_reads' HO_8.out).2.2 | (with_reducible refine Kd.C_alloc ?_ _) | (with_reducible refine Kd.C_drewN ?_ _) | (with_reducible refine Kd.C_drew ?_))); (case aB => exact (by repeat (first | (with_reducible first | exact HB.out | apply below_alloc | apply pw_below_drewN | apply below_drew1 | refine below_set ?_ GE472.out) | exact HB.out))); (case aF => exact (fun k_ hk => Kd.fresh' (Kd.R_lt (by (with_reducible repeat (first | apply Kd.R_alloc | apply Kd.R_drewN | apply Kd.R_drew)); exact HO_8.out)) k_ hk)); (case aO => exact (by (with_reducible repeat (first | apply Kd.R_alloc | apply Kd.R_drewN | apply Kd.R_drew)); exact HO480.out)); (case aS => exact (below_size (by repeat (first | (with_reducible first | exact HB.out | apply below_alloc | apply pw_below_drewN | apply below_drew1 | refine below_set ?_ GE472.out) | exact HB.out)))); (case aL => have := LMc19.out; omega); intro v482 w23 ho hb hg hat; rw [← Ny481.out] at ho; have n0_ := Aside0.mk (Kd.R_after (ok := (fun _ => True)) (by (with_reducible repeat (first | apply Kd.R_alloc | apply Kd.R_drewN | apply Kd.R_drew)); exact HO_8.out) hg hat); have n1_ := Aside0.mk (blk_grown (g := gb472) (o := .cells #[.int .i64 a0_0, .int .i64 a0_1, .int .u64 a0_2, .int .i64 a0_3, .int .i64 a0_4] 53 (0, 0)) (by (with_reducible repeat (first | refine blk_drewN ?_ _ | refine blk_drew ?_ | refine blk_alloc ?_ _)); exact BK472.out) hg (Kd.R_ne HO480.out BK472.out (by decide))); have n2_ := Aside0.mk (hb); have n3_ := Aside0.mk (ho); clear HO_8; clear BK472; clear HB; clear HO480; have HO_8 := n0_; have BK472 := n1_; have HB := n2_; have HO483 := n3_; clear n0_ n1_ n2_ n3_; clear ho hb hg hat; obtain ⟨Ao25, co25, eo25⟩ := Kd.R_slice HO483.out; subst eo25) | ((with_reducible refine gate_callee (f := 44) rfl ?_); refine goesL_ (some 57) rfl rfl Try.func44 (by kernel_rfl) rfl #[.slice Ao25 y481.length co25, .int .i64 (l2.length : Int), .int .i64 (y481.length : Int)] rfl (by (try simp only [List.map_toArray, List.map_cons, List.map_nil]); first | done | rfl | (simp only [List.length_drop, List.length_take]; rfl)) ?_; (with_reducible refine (record_Next.calls kj5 _ _ y481 (l2.length : Int) (y481.length : Int) t484 t485 t486 t487 t488 t489 t490 _ ?side1 ?side2 A20.out).mono ?_); (case side1 => repeat (first | exact (Kd.R_reads' HO483.out).2.2 | (with_reducible refine Kd.C_alloc ?_ _) | (with_reducible refine Kd.C_drewN ?_ _) | (with_reducible refine Kd.C_drew ?_))); (case side2 => exact (Kd.R_reads' HO483.out).2.1); rintro e w26 ⟨rfl, hb⟩; refine ⟨_, rfl, ?_⟩; have n0_ := Aside0.mk (Kd.R_below (by (with_reducible repeat (first | apply Kd.R_alloc | apply Kd.R_drewN | apply Kd.R_drew)); exact HO_8.out) hb); have n1_ := Aside0.mk (Kd.R_below (by (with_reducible repeat (first | apply Kd.R_alloc | apply Kd.R_drewN | apply Kd.R_drew)); exact HO483.out) hb); have n2_ := Aside0.mk (blk_below (g := gb472) (o := .cells #[.int .i64 a0_0, .int .i64 a0_1, .int .u64 a0_2, .int .i64 a0_3, .int .i64 a0_4] 53 (0, 0)) (by (with_reducible repeat (first | refine blk_drewN ?_ _ | refine blk_drew ?_ | refine blk_alloc ?_ _)); exact BK472.out) hb); have n3_ := Aside0.mk (below_step (by repeat (first | (with_reducible first | exact HB.out | apply below_alloc | apply pw_below_drewN | apply below_drew1 | refine below_set ?_ GE472.out) | exact HB.out)) hb); clear HO_8; clear HO483; clear BK472; clear HB; have HO_8 := n0_; have HO483 := n1_; have BK472 := n2_; have HB := n3_; clear n0_ n1_ n2_ n3_; (try clear hb); (try clear hb2); (try clear hk); (try clear hi)) | ((with_reducible refine gate_dst (N := 11) rfl ?_); (try (refine gate_guard (by rfl) ?_; dsimp only)); refine box_event ?hg (N := 11) ?hd (cs := #[.int .i64 0, .int .i64 0, .int .u64 0, .int .i64 0, .int .i64 0]) (t := 53) ?hr ?_; (case hd => rfl); (case hg => rfl); (case hr => first | (go_simp; done) | (go_simp; rfl)); intro gb491 hg w27 hbox hb; have n0_ := Aside0.mk (Kd.R_below (by (with_reducible repeat (first | apply Kd.R_alloc | apply Kd.R_drewN | apply Kd.R_drew)); exact HO_8.out) hb); have n1_ := Aside0.mk (Kd.R_below (by (with_reducible repeat (first | apply Kd.R_alloc | apply Kd.R_drewN | apply Kd.R_drew)); exact HO483.out) hb); have n2_ := Aside0.mk (blk_below (g := gb472) (o := .cells #[.int .i64 a0_0, .int .i64 a0_1, .int .u64 a0_2, .int .i64 a0_3, .int .i64 a0_4] 53 (0, 0)) (by (with_reducible repeat (first | refine blk_drewN ?_ _ | refine blk_drew ?_ | refine blk_alloc ?_ _)); exact BK472.out) hb); have n3_ := Aside0.mk (below_step (by repeat (first | (with_reducible first | exact HB.out | apply below_alloc | apply pw_below_drewN | apply below_drew1 | refine below_set ?_ GE472.out) | exact HB.out)) hb); have n4_ := Aside0.mk (hbox); have n5_ := Aside0.mk ((by rw [hg]; exact (below_size (by repeat (first | (with_reducible first | exact HB.out | apply below_alloc | apply pw_below_drewN | apply below_drew1 | refine below_set ?_ GE472.out) | exact HB.out))) : w.heap.size ≤ gb491)); have n6_ := Aside0.mk ((by rw [hg]; exact (below_size (by repeat (first | (with_reducible first | exact HB.out | apply below_alloc | apply pw_below_drewN | apply below_drew1 | refine below_set ?_ GE472.out) | exact HB.out))) : w.heap.size ≤ gb491)); have n7_ := Aside0.mk ((by rw [hg]; exact Nat.ne_of_lt (blk_lt (g := gb472) (o := .cells #[.int .i64 a0_0, .int .i64 a0_1, .int .u64 a0_2, .int .i64 a0_3, .int .i64 a0_4] 53 (0, 0)) (by (with_reducible repeat (first | refine blk_drewN ?_ _ | refine blk_drew ?_ | refine blk_alloc ?_ _)); exact BK472.out)) : gb472 ≠ gb491)); have n8_ := Aside0.mk ((by rw [hg]; exact Nat.ne_of_gt (blk_lt (g := gb472) (o := .cells #[.int .i64 a0_0, .int .i64 a0_1, .int .u64 a0_2, .int .i64 a0_3, .int .i64 a0_4] 53 (0, 0)) (by (with_reducible repeat (first | refine blk_drewN ?_ _ | refine blk_drew ?_ | refine blk_alloc ?_ _)); exact BK472.out)) : gb491 ≠ gb472)); clear HO_8; clear HO483; clear BK472; clear HB; have HO_8 := n0_; have HO483 := n1_; have BK472 := n2_; have HB := n3_; have BK491 := n4_; have GW491 := n5_; have GE491 := n6_; have NB472_491 := n7_; have NB491_472 := n8_; clear n0_ n1_ n2_ n3_ n4_ n5_ n6_ n7_ n8_; clear hb hbox hg; have hnb28 := NB491_472.out; have hnc28 := NB472_491.out; have hcz29_0 : w27.cell? ⟨gb491, 0, none⟩ = some (.int .i64 0) := (blk_cell BK491.out 0).trans rfl; have hcz29_1 : w27.cell? ⟨gb491, 1, none⟩ = some (.int .i64 0) := (blk_cell BK491.out 1).trans rfl; have hcz29_2 : w27.cell? ⟨gb491, 2, none⟩ = some (.int .u64 0) := (blk_cell BK491.out 2).trans rfl; have hcz29_3 : w27.cell? ⟨gb491, 3, none⟩ = some (.int .i64 0) := (blk_cell BK491.out 3).trans rfl; have hcz29_4 : w27.cell? ⟨gb491, 4, none⟩ = some (.int .i64 0) := (blk_cell BK491.out 4).trans rfl; have hfz29_0 := blk_frozen BK491.out 0; have hfz29_1 := blk_frozen BK491.out 1; have hfz29_2 := blk_frozen BK491.out 2; have hfz29_3 := blk_frozen BK491.out 3; have hfz29_4 := blk_frozen BK491.out 4))
            (try simp only [Act.put, List.setIfInBounds_toArray, List.set_cons_zero, List.set_cons_succ])
            go_cut [103] (fun v103 wc => ∃ (kq : Nat) (x103_20 : Bool), v103 = .bool x103_20 ∧ Aside0 (trufflelaw05_RecordBack.j1 kq l1 y481 x103_20 a0_0 a0_1 a0_2 a0_3 a0_4 t484 t485 t486 t487 t488 = some r) ∧ Aside0 (kq ≤ kj5) ∧ Aside0 (Kd.R (Kd.int .u8) 5 wc w.heap.size (fun _ => True) (.slice Ao25 y481.length co25) y481) ∧ Aside0 (wc.heap[gb472]? = some (.cells #[.int .i64 a0_0, .int .i64 a0_1, .int .u64 a0_2, .int .i64 a0_3, .int .i64 a0_4] 53 (0, 0))) ∧ Aside0 (wc.heap[gb491]? = some (.cells #[.int .i64 t484, .int .i64 t485, .int .u64 t486, .int .i64 t487, .int .i64 t488] 53 (0, 0))) ∧ Aside0 (Below w.heap.size w wc))
            case first =>
              have H := HC21.out
              clear HC21
              by_cases c30 : t490 = 0
              · rw [if_pos c30] at H
                have c30b0 : (t490 == 0) = true := beq_iff_eq.mpr c30
                have c30b1 : (t490 != 0) = false := bne_eq_false_iff_eq.mpr c30
                clear c30
                (first | rw [c30b0] | (simp only [i64_w, i32_w]; rw [c30b0]) | skip)
                by_cases c31 : t489 = (y481.length : Int)
                · rw [if_pos c31] at H
                  have c31b0 : (t489 == (y481.length : Int)) = true := beq_iff_eq.mpr c31
                  have c31b1 : (t489 != (y481.length : Int)) = false := bne_eq_false_iff_eq.mpr c31
                  clear c31
                  by_cases c32 : t484 = a0_0
                  · rw [if_pos c32] at H
                    have c32b0 : (t484 == a0_0) = true := beq_iff_eq.mpr c32
                    have c32b1 : (t484 != a0_0) = false := bne_eq_false_iff_eq.mpr c32
                    clear c32
                    by_cases c33 : t485 = a0_1
                    · rw [if_pos c33] at H
                      have c33b0 : (t485 == a0_1) = true := beq_iff_eq.mpr c33
                      have c33b1 : (t485 != a0_1) = false := bne_eq_false_iff_eq.mpr c33
                      clear c33
                      by_cases c34 : t488 = (y481.length : Int)
                      · rw [if_pos c34] at H
                        have c34b0 : (t488 == (y481.length : Int)) = true := beq_iff_eq.mpr c34
                        have c34b1 : (t488 != (y481.length : Int)) = false := bne_eq_false_iff_eq.mpr c34
                        clear c34
                        by_cases c35 : t487 < (l2.length : Int)
                        · rw [if_pos c35] at H
                          have c35b0 : decide (t487 < (l2.length : Int)) = true := decide_eq_true c35
                          clear c35
                          have H' := Aside0.mk H
                          clear H
                          have hnb36 := NB491_472.out
                          have hnc36 := NB472_491.out
                          have hcz37_0 : w27.cell? ⟨gb491, 0, none⟩ = some (.int .i64 0) := (blk_cell BK491.out 0).trans rfl
                          have hcz37_1 : w27.cell? ⟨gb491, 1, none⟩ = some (.int .i64 0) := (blk_cell BK491.out 1).trans rfl
                          have hcz37_2 : w27.cell? ⟨gb491, 2, none⟩ = some (.int .u64 0) := (blk_cell BK491.out 2).trans rfl
                          have hcz37_3 : w27.cell? ⟨gb491, 3, none⟩ = some (.int .i64 0) := (blk_cell BK491.out 3).trans rfl
                          have hcz37_4 : w27.cell? ⟨gb491, 4, none⟩ = some (.int .i64 0) := (blk_cell BK491.out 4).trans rfl
                          have hfz37_0 := blk_frozen BK491.out 0
                          have hfz37_1 := blk_frozen BK491.out 1
                          have hfz37_2 := blk_frozen BK491.out 2
                          have hfz37_3 := blk_frozen BK491.out 3
                          have hfz37_4 := blk_frozen BK491.out 4
                          have hcz38_0 : w27.cell? ⟨gb472, 0, none⟩ = some (.int .i64 a0_0) := (blk_cell BK472.out 0).trans rfl
                          have hcz38_1 : w27.cell? ⟨gb472, 1, none⟩ = some (.int .i64 a0_1) := (blk_cell BK472.out 1).trans rfl
                          have hcz38_2 : w27.cell? ⟨gb472, 2, none⟩ = some (.int .u64 a0_2) := (blk_cell BK472.out 2).trans rfl
                          have hcz38_3 : w27.cell? ⟨gb472, 3, none⟩ = some (.int .i64 a0_3) := (blk_cell BK472.out 3).trans rfl
                          have hcz38_4 : w27.cell? ⟨gb472, 4, none⟩ = some (.int .i64 a0_4) := (blk_cell BK472.out 4).trans rfl
                          have hfz38_0 := blk_frozen BK472.out 0
                          have hfz38_1 := blk_frozen BK472.out 1
                          have hfz38_2 := blk_frozen BK472.out 2
                          have hfz38_3 := blk_frozen BK472.out 3
                          have hfz38_4 := blk_frozen BK472.out 4
                          go_wp2
                          go_meet
                          case rel => exact ⟨_, (true), (by first | rfl | (simp; done) | (simp [*]; done)), H', ⟨by have := HJ5.out; first | omega | exact Nat.le_refl _⟩, ⟨by (with_reducible repeat (first | apply Kd.R_alloc | apply Kd.R_drewN | apply Kd.R_drew)); exact Kd.R_mono (Kd.R_far (p := ⟨gb491, 4, none⟩) (Kd.R_far (p := ⟨gb491, 3, none⟩) (Kd.R_far (p := ⟨gb491, 2, none⟩) (Kd.R_far (p := ⟨gb491, 1, none⟩) (Kd.R_far (p := ⟨gb491, 0, none⟩) (Kd.R_types HO483.out BK491.out (by decide)) (fun _ hk => hk.2) (.int .i64 t484)) (fun _ hk => hk.2) (.int .i64 t485)) (fun _ hk => hk.2) (.int .u64 t486)) (fun _ hk => hk.2) (.int .i64 t487)) (fun _ hk => hk.2) (.int .i64 t488)) (fun _ hk => trivial)⟩, ⟨by (with_reducible repeat (first | refine blk_drewN ?_ _ | refine blk_drew ?_ | refine blk_alloc ?_ _)); refine blk_far ?_ NB472_491.out _; (with_reducible repeat (first | refine blk_drewN ?_ _ | refine blk_drew ?_ | refine blk_alloc ?_ _)); refine blk_far ?_ NB472_491.out _; (with_reducible repeat (first | refine blk_drewN ?_ _ | refine blk_drew ?_ | refine blk_alloc ?_ _)); refine blk_far ?_ NB472_491.out _; (with_reducible repeat (first | refine blk_drewN ?_ _ | refine blk_drew ?_ | refine blk_alloc ?_ _)); refine blk_far ?_ NB472_491.out _; (with_reducible repeat (first | refine blk_drewN ?_ _ | refine blk_drew ?_ | refine blk_alloc ?_ _)); refine blk_far ?_ NB472_491.out _; (with_reducible repeat (first | refine blk_drewN ?_ _ | refine blk_drew ?_ | refine blk_alloc ?_ _)); exact BK472.out⟩, ⟨by (with_reducible repeat (first | refine blk_drewN ?_ _ | refine blk_drew ?_ | refine blk_alloc ?_ _)); refine blk_put (cs := #[.int .i64 t484, .int .i64 t485, .int .u64 t486, .int .i64 t487, .int .i64 0]) ?_ 4 _ rfl; (with_reducible repeat (first | refine blk_drewN ?_ _ | refine blk_drew ?_ | refine blk_alloc ?_ _)); refine blk_put (cs := #[.int .i64 t484, .int .i64 t485, .int .u64 t486, .int .i64 0, .int .i64 0]) ?_ 3 _ rfl; (with_reducible repeat (first | refine blk_drewN ?_ _ | refine blk_drew ?_ | refine blk_alloc ?_ _)); refine blk_put (cs := #[.int .i64 t484, .int .i64 t485, .int .u64 0, .int .i64 0, .int .i64 0]) ?_ 2 _ rfl; (with_reducible repeat (first | refine blk_drewN ?_ _ | refine blk_drew ?_ | refine blk_alloc ?_ _)); refine blk_put (cs := #[.int .i64 t484, .int .i64 0, .int .u64 0, .int .i64 0, .int .i64 0]) ?_ 1 _ rfl; (with_reducible repeat (first | refine blk_drewN ?_ _ | refine blk_drew ?_ | refine blk_alloc ?_ _)); refine blk_put (cs := #[.int .i64 0, .int .i64 0, .int .u64 0, .int .i64 0, .int .i64 0]) ?_ 0 _ rfl; (with_reducible repeat (first | refine blk_drewN ?_ _ | refine blk_drew ?_ | refine blk_alloc ?_ _)); exact BK491.out⟩, ⟨by repeat (first | (with_reducible first | exact HB.out | apply below_alloc | apply pw_below_drewN | apply below_drew1 | refine below_set ?_ GE472.out | refine below_set ?_ GE491.out) | exact HB.out)⟩⟩
                        · rw [if_neg c35] at H
                          have c35b0 : decide (t487 < (l2.length : Int)) = false := decide_eq_false c35
                          clear c35
                          have H' := Aside0.mk H
                          clear H
                          have hnb39 := NB491_472.out
                          have hnc39 := NB472_491.out
                          have hcz40_0 : w27.cell? ⟨gb491, 0, none⟩ = some (.int .i64 0) := (blk_cell BK491.out 0).trans rfl
                          have hcz40_1 : w27.cell? ⟨gb491, 1, none⟩ = some (.int .i64 0) := (blk_cell BK491.out 1).trans rfl
                          have hcz40_2 : w27.cell? ⟨gb491, 2, none⟩ = some (.int .u64 0) := (blk_cell BK491.out 2).trans rfl
                          have hcz40_3 : w27.cell? ⟨gb491, 3, none⟩ = some (.int .i64 0) := (blk_cell BK491.out 3).trans rfl
                          have hcz40_4 : w27.cell? ⟨gb491, 4, none⟩ = some (.int .i64 0) := (blk_cell BK491.out 4).trans rfl
                          have hfz40_0 := blk_frozen BK491.out 0
                          have hfz40_1 := blk_frozen BK491.out 1
                          have hfz40_2 := blk_frozen BK491.out 2
                          have hfz40_3 := blk_frozen BK491.out 3
                          have hfz40_4 := blk_frozen BK491.out 4
                          have hcz41_0 : w27.cell? ⟨gb472, 0, none⟩ = some (.int .i64 a0_0) := (blk_cell BK472.out 0).trans rfl
                          have hcz41_1 : w27.cell? ⟨gb472, 1, none⟩ = some (.int .i64 a0_1) := (blk_cell BK472.out 1).trans rfl
                          have hcz41_2 : w27.cell? ⟨gb472, 2, none⟩ = some (.int .u64 a0_2) := (blk_cell BK472.out 2).trans rfl
                          have hcz41_3 : w27.cell? ⟨gb472, 3, none⟩ = some (.int .i64 a0_3) := (blk_cell BK472.out 3).trans rfl
                          have hcz41_4 : w27.cell? ⟨gb472, 4, none⟩ = some (.int .i64 a0_4) := (blk_cell BK472.out 4).trans rfl
                          have hfz41_0 := blk_frozen BK472.out 0
                          have hfz41_1 := blk_frozen BK472.out 1
                          have hfz41_2 := blk_frozen BK472.out 2
                          have hfz41_3 := blk_frozen BK472.out 3
                          have hfz41_4 := blk_frozen BK472.out 4
                          go_wp2
                          go_meet
                          case rel => exact ⟨_, (decide (t487 > (y481.length : Int))), (by first | rfl | (simp; done) | (simp [*]; done)), H', ⟨by have := HJ5.out; first | omega | exact Nat.le_refl _⟩, ⟨by (with_reducible repeat (first | apply Kd.R_alloc | apply Kd.R_drewN | apply Kd.R_drew)); exact Kd.R_mono (Kd.R_far (p := ⟨gb491, 4, none⟩) (Kd.R_far (p := ⟨gb491, 3, none⟩) (Kd.R_far (p := ⟨gb491, 2, none⟩) (Kd.R_far (p := ⟨gb491, 1, none⟩) (Kd.R_far (p := ⟨gb491, 0, none⟩) (Kd.R_types HO483.out BK491.out (by decide)) (fun _ hk => hk.2) (.int .i64 t484)) (fun _ hk => hk.2) (.int .i64 t485)) (fun _ hk => hk.2) (.int .u64 t486)) (fun _ hk => hk.2) (.int .i64 t487)) (fun _ hk => hk.2) (.int .i64 t488)) (fun _ hk => trivial)⟩, ⟨by (with_reducible repeat (first | refine blk_drewN ?_ _ | refine blk_drew ?_ | refine blk_alloc ?_ _)); refine blk_far ?_ NB472_491.out _; (with_reducible repeat (first | refine blk_drewN ?_ _ | refine blk_drew ?_ | refine blk_alloc ?_ _)); refine blk_far ?_ NB472_491.out _; (with_reducible repeat (first | refine blk_drewN ?_ _ | refine blk_drew ?_ | refine blk_alloc ?_ _)); refine blk_far ?_ NB472_491.out _; (with_reducible repeat (first | refine blk_drewN ?_ _ | refine blk_drew ?_ | refine blk_alloc ?_ _)); refine blk_far ?_ NB472_491.out _; (with_reducible repeat (first | refine blk_drewN ?_ _ | refine blk_drew ?_ | refine blk_alloc ?_ _)); refine blk_far ?_ NB472_491.out _; (with_reducible repeat (first | refine blk_drewN ?_ _ | refine blk_drew ?_ | refine blk_alloc ?_ _)); exact BK472.out⟩, ⟨by (with_reducible repeat (first | refine blk_drewN ?_ _ | refine blk_drew ?_ | refine blk_alloc ?_ _)); refine blk_put (cs := #[.int .i64 t484, .int .i64 t485, .int .u64 t486, .int .i64 t487, .int .i64 0]) ?_ 4 _ rfl; (with_reducible repeat (first | refine blk_drewN ?_ _ | refine blk_drew ?_ | refine blk_alloc ?_ _)); refine blk_put (cs := #[.int .i64 t484, .int .i64 t485, .int .u64 t486, .int .i64 0, .int .i64 0]) ?_ 3 _ rfl; (with_reducible repeat (first | refine blk_drewN ?_ _ | refine blk_drew ?_ | refine blk_alloc ?_ _)); refine blk_put (cs := #[.int .i64 t484, .int .i64 t485, .int .u64 0, .int .i64 0, .int .i64 0]) ?_ 2 _ rfl; (with_reducible repeat (first | refine blk_drewN ?_ _ | refine blk_drew ?_ | refine blk_alloc ?_ _)); refine blk_put (cs := #[.int .i64 t484, .int .i64 0, .int .u64 0, .int .i64 0, .int .i64 0]) ?_ 1 _ rfl; (with_reducible repeat (first | refine blk_drewN ?_ _ | refine blk_drew ?_ | refine blk_alloc ?_ _)); refine blk_put (cs := #[.int .i64 0, .int .i64 0, .int .u64 0, .int .i64 0, .int .i64 0]) ?_ 0 _ rfl; (with_reducible repeat (first | refine blk_drewN ?_ _ | refine blk_drew ?_ | refine blk_alloc ?_ _)); exact BK491.out⟩, ⟨by repeat (first | (with_reducible first | exact HB.out | apply below_alloc | apply pw_below_drewN | apply below_drew1 | refine below_set ?_ GE472.out | refine below_set ?_ GE491.out) | exact HB.out)⟩⟩
                      · rw [if_neg c34] at H
                        have c34b0 : (t488 == (y481.length : Int)) = false := beq_eq_false_iff_ne.mpr c34
                        have c34b1 : (t488 != (y481.length : Int)) = true := bne_iff_ne.mpr c34
                        have H' := Aside0.mk H
                        clear H
                        have hnb42 := NB491_472.out
                        have hnc42 := NB472_491.out
                        have hcz43_0 : w27.cell? ⟨gb491, 0, none⟩ = some (.int .i64 0) := (blk_cell BK491.out 0).trans rfl
                        have hcz43_1 : w27.cell? ⟨gb491, 1, none⟩ = some (.int .i64 0) := (blk_cell BK491.out 1).trans rfl
                        have hcz43_2 : w27.cell? ⟨gb491, 2, none⟩ = some (.int .u64 0) := (blk_cell BK491.out 2).trans rfl
                        have hcz43_3 : w27.cell? ⟨gb491, 3, none⟩ = some (.int .i64 0) := (blk_cell BK491.out 3).trans rfl
                        have hcz43_4 : w27.cell? ⟨gb491, 4, none⟩ = some (.int .i64 0) := (blk_cell BK491.out 4).trans rfl
                        have hfz43_0 := blk_frozen BK491.out 0
                        have hfz43_1 := blk_frozen BK491.out 1
                        have hfz43_2 := blk_frozen BK491.out 2
                        have hfz43_3 := blk_frozen BK491.out 3
                        have hfz43_4 := blk_frozen BK491.out 4
                        have hcz44_0 : w27.cell? ⟨gb472, 0, none⟩ = some (.int .i64 a0_0) := (blk_cell BK472.out 0).trans rfl
                        have hcz44_1 : w27.cell? ⟨gb472, 1, none⟩ = some (.int .i64 a0_1) := (blk_cell BK472.out 1).trans rfl
                        have hcz44_2 : w27.cell? ⟨gb472, 2, none⟩ = some (.int .u64 a0_2) := (blk_cell BK472.out 2).trans rfl
                        have hcz44_3 : w27.cell? ⟨gb472, 3, none⟩ = some (.int .i64 a0_3) := (blk_cell BK472.out 3).trans rfl
                        have hcz44_4 : w27.cell? ⟨gb472, 4, none⟩ = some (.int .i64 a0_4) := (blk_cell BK472.out 4).trans rfl
                        have hfz44_0 := blk_frozen BK472.out 0
                        have hfz44_1 := blk_frozen BK472.out 1
                        have hfz44_2 := blk_frozen BK472.out 2
                        have hfz44_3 := blk_frozen BK472.out 3
                        have hfz44_4 := blk_frozen BK472.out 4
                        go_wp2
                        go_meet
                        case rel => exact ⟨_, (true), (by first | rfl | (simp; done) | (simp [*]; done)), H', ⟨by have := HJ5.out; first | omega | exact Nat.le_refl _⟩, ⟨by (with_reducible repeat (first | apply Kd.R_alloc | apply Kd.R_drewN | apply Kd.R_drew)); exact Kd.R_mono (Kd.R_far (p := ⟨gb491, 4, none⟩) (Kd.R_far (p := ⟨gb491, 3, none⟩) (Kd.R_far (p := ⟨gb491, 2, none⟩) (Kd.R_far (p := ⟨gb491, 1, none⟩) (Kd.R_far (p := ⟨gb491, 0, none⟩) (Kd.R_types HO483.out BK491.out (by decide)) (fun _ hk => hk.2) (.int .i64 t484)) (fun _ hk => hk.2) (.int .i64 t485)) (fun _ hk => hk.2) (.int .u64 t486)) (fun _ hk => hk.2) (.int .i64 t487)) (fun _ hk => hk.2) (.int .i64 t488)) (fun _ hk => trivial)⟩, ⟨by (with_reducible repeat (first | refine blk_drewN ?_ _ | refine blk_drew ?_ | refine blk_alloc ?_ _)); refine blk_far ?_ NB472_491.out _; (with_reducible repeat (first | refine blk_drewN ?_ _ | refine blk_drew ?_ | refine blk_alloc ?_ _)); refine blk_far ?_ NB472_491.out _; (with_reducible repeat (first | refine blk_drewN ?_ _ | refine blk_drew ?_ | refine blk_alloc ?_ _)); refine blk_far ?_ NB472_491.out _; (with_reducible repeat (first | refine blk_drewN ?_ _ | refine blk_drew ?_ | refine blk_alloc ?_ _)); refine blk_far ?_ NB472_491.out _; (with_reducible repeat (first | refine blk_drewN ?_ _ | refine blk_drew ?_ | refine blk_alloc ?_ _)); refine blk_far ?_ NB472_491.out _; (with_reducible repeat (first | refine blk_drewN ?_ _ | refine blk_drew ?_ | refine blk_alloc ?_ _)); exact BK472.out⟩, ⟨by (with_reducible repeat (first | refine blk_drewN ?_ _ | refine blk_drew ?_ | refine blk_alloc ?_ _)); refine blk_put (cs := #[.int .i64 t484, .int .i64 t485, .int .u64 t486, .int .i64 t487, .int .i64 0]) ?_ 4 _ rfl; (with_reducible repeat (first | refine blk_drewN ?_ _ | refine blk_drew ?_ | refine blk_alloc ?_ _)); refine blk_put (cs := #[.int .i64 t484, .int .i64 t485, .int .u64 t486, .int .i64 0, .int .i64 0]) ?_ 3 _ rfl; (with_reducible repeat (first | refine blk_drewN ?_ _ | refine blk_drew ?_ | refine blk_alloc ?_ _)); refine blk_put (cs := #[.int .i64 t484, .int .i64 t485, .int .u64 0, .int .i64 0, .int .i64 0]) ?_ 2 _ rfl; (with_reducible repeat (first | refine blk_drewN ?_ _ | refine blk_drew ?_ | refine blk_alloc ?_ _)); refine blk_put (cs := #[.int .i64 t484, .int .i64 0, .int .u64 0, .int .i64 0, .int .i64 0]) ?_ 1 _ rfl; (with_reducible repeat (first | refine blk_drewN ?_ _ | refine blk_drew ?_ | refine blk_alloc ?_ _)); refine blk_put (cs := #[.int .i64 0, .int .i64 0, .int .u64 0, .int .i64 0, .int .i64 0]) ?_ 0 _ rfl; (with_reducible repeat (first | refine blk_drewN ?_ _ | refine blk_drew ?_ | refine blk_alloc ?_ _)); exact BK491.out⟩, ⟨by repeat (first | (with_reducible first | exact HB.out | apply below_alloc | apply pw_below_drewN | apply below_drew1 | refine below_set ?_ GE472.out | refine below_set ?_ GE491.out) | exact HB.out)⟩⟩
                    · rw [if_neg c33] at H
                      have c33b0 : (t485 == a0_1) = false := beq_eq_false_iff_ne.mpr c33
                      have c33b1 : (t485 != a0_1) = true := bne_iff_ne.mpr c33
                      have H' := Aside0.mk H
                      clear H
                      have hnb45 := NB491_472.out
                      have hnc45 := NB472_491.out
                      have hcz46_0 : w27.cell? ⟨gb491, 0, none⟩ = some (.int .i64 0) := (blk_cell BK491.out 0).trans rfl
                      have hcz46_1 : w27.cell? ⟨gb491, 1, none⟩ = some (.int .i64 0) := (blk_cell BK491.out 1).trans rfl
                      have hcz46_2 : w27.cell? ⟨gb491, 2, none⟩ = some (.int .u64 0) := (blk_cell BK491.out 2).trans rfl
                      have hcz46_3 : w27.cell? ⟨gb491, 3, none⟩ = some (.int .i64 0) := (blk_cell BK491.out 3).trans rfl
                      have hcz46_4 : w27.cell? ⟨gb491, 4, none⟩ = some (.int .i64 0) := (blk_cell BK491.out 4).trans rfl
                      have hfz46_0 := blk_frozen BK491.out 0
                      have hfz46_1 := blk_frozen BK491.out 1
                      have hfz46_2 := blk_frozen BK491.out 2
                      have hfz46_3 := blk_frozen BK491.out 3
                      have hfz46_4 := blk_frozen BK491.out 4
                      have hcz47_0 : w27.cell? ⟨gb472, 0, none⟩ = some (.int .i64 a0_0) := (blk_cell BK472.out 0).trans rfl
                      have hcz47_1 : w27.cell? ⟨gb472, 1, none⟩ = some (.int .i64 a0_1) := (blk_cell BK472.out 1).trans rfl
                      have hcz47_2 : w27.cell? ⟨gb472, 2, none⟩ = some (.int .u64 a0_2) := (blk_cell BK472.out 2).trans rfl
                      have hcz47_3 : w27.cell? ⟨gb472, 3, none⟩ = some (.int .i64 a0_3) := (blk_cell BK472.out 3).trans rfl
                      have hcz47_4 : w27.cell? ⟨gb472, 4, none⟩ = some (.int .i64 a0_4) := (blk_cell BK472.out 4).trans rfl
                      have hfz47_0 := blk_frozen BK472.out 0
                      have hfz47_1 := blk_frozen BK472.out 1
                      have hfz47_2 := blk_frozen BK472.out 2
                      have hfz47_3 := blk_frozen BK472.out 3
                      have hfz47_4 := blk_frozen BK472.out 4
                      go_wp2
                      go_meet
                      case rel => exact ⟨_, (true), (by first | rfl | (simp; done) | (simp [*]; done)), H', ⟨by have := HJ5.out; first | omega | exact Nat.le_refl _⟩, ⟨by (with_reducible repeat (first | apply Kd.R_alloc | apply Kd.R_drewN | apply Kd.R_drew)); exact Kd.R_mono (Kd.R_far (p := ⟨gb491, 4, none⟩) (Kd.R_far (p := ⟨gb491, 3, none⟩) (Kd.R_far (p := ⟨gb491, 2, none⟩) (Kd.R_far (p := ⟨gb491, 1, none⟩) (Kd.R_far (p := ⟨gb491, 0, none⟩) (Kd.R_types HO483.out BK491.out (by decide)) (fun _ hk => hk.2) (.int .i64 t484)) (fun _ hk => hk.2) (.int .i64 t485)) (fun _ hk => hk.2) (.int .u64 t486)) (fun _ hk => hk.2) (.int .i64 t487)) (fun _ hk => hk.2) (.int .i64 t488)) (fun _ hk => trivial)⟩, ⟨by (with_reducible repeat (first | refine blk_drewN ?_ _ | refine blk_drew ?_ | refine blk_alloc ?_ _)); refine blk_far ?_ NB472_491.out _; (with_reducible repeat (first | refine blk_drewN ?_ _ | refine blk_drew ?_ | refine blk_alloc ?_ _)); refine blk_far ?_ NB472_491.out _; (with_reducible repeat (first | refine blk_drewN ?_ _ | refine blk_drew ?_ | refine blk_alloc ?_ _)); refine blk_far ?_ NB472_491.out _; (with_reducible repeat (first | refine blk_drewN ?_ _ | refine blk_drew ?_ | refine blk_alloc ?_ _)); refine blk_far ?_ NB472_491.out _; (with_reducible repeat (first | refine blk_drewN ?_ _ | refine blk_drew ?_ | refine blk_alloc ?_ _)); refine blk_far ?_ NB472_491.out _; (with_reducible repeat (first | refine blk_drewN ?_ _ | refine blk_drew ?_ | refine blk_alloc ?_ _)); exact BK472.out⟩, ⟨by (with_reducible repeat (first | refine blk_drewN ?_ _ | refine blk_drew ?_ | refine blk_alloc ?_ _)); refine blk_put (cs := #[.int .i64 t484, .int .i64 t485, .int .u64 t486, .int .i64 t487, .int .i64 0]) ?_ 4 _ rfl; (with_reducible repeat (first | refine blk_drewN ?_ _ | refine blk_drew ?_ | refine blk_alloc ?_ _)); refine blk_put (cs := #[.int .i64 t484, .int .i64 t485, .int .u64 t486, .int .i64 0, .int .i64 0]) ?_ 3 _ rfl; (with_reducible repeat (first | refine blk_drewN ?_ _ | refine blk_drew ?_ | refine blk_alloc ?_ _)); refine blk_put (cs := #[.int .i64 t484, .int .i64 t485, .int .u64 0, .int .i64 0, .int .i64 0]) ?_ 2 _ rfl; (with_reducible repeat (first | refine blk_drewN ?_ _ | refine blk_drew ?_ | refine blk_alloc ?_ _)); refine blk_put (cs := #[.int .i64 t484, .int .i64 0, .int .u64 0, .int .i64 0, .int .i64 0]) ?_ 1 _ rfl; (with_reducible repeat (first | refine blk_drewN ?_ _ | refine blk_drew ?_ | refine blk_alloc ?_ _)); refine blk_put (cs := #[.int .i64 0, .int .i64 0, .int .u64 0, .int .i64 0, .int .i64 0]) ?_ 0 _ rfl; (with_reducible repeat (first | refine blk_drewN ?_ _ | refine blk_drew ?_ | refine blk_alloc ?_ _)); exact BK491.out⟩, ⟨by repeat (first | (with_reducible first | exact HB.out | apply below_alloc | apply pw_below_drewN | apply below_drew1 | refine below_set ?_ GE472.out | refine below_set ?_ GE491.out) | exact HB.out)⟩⟩
                  · rw [if_neg c32] at H
                    have c32b0 : (t484 == a0_0) = false := beq_eq_false_iff_ne.mpr c32
                    have c32b1 : (t484 != a0_0) = true := bne_iff_ne.mpr c32
                    have H' := Aside0.mk H
                    clear H
                    have hnb48 := NB491_472.out
                    have hnc48 := NB472_491.out
                    have hcz49_0 : w27.cell? ⟨gb491, 0, none⟩ = some (.int .i64 0) := (blk_cell BK491.out 0).trans rfl
                    have hcz49_1 : w27.cell? ⟨gb491, 1, none⟩ = some (.int .i64 0) := (blk_cell BK491.out 1).trans rfl
                    have hcz49_2 : w27.cell? ⟨gb491, 2, none⟩ = some (.int .u64 0) := (blk_cell BK491.out 2).trans rfl
                    have hcz49_3 : w27.cell? ⟨gb491, 3, none⟩ = some (.int .i64 0) := (blk_cell BK491.out 3).trans rfl
                    have hcz49_4 : w27.cell? ⟨gb491, 4, none⟩ = some (.int .i64 0) := (blk_cell BK491.out 4).trans rfl
                    have hfz49_0 := blk_frozen BK491.out 0
                    have hfz49_1 := blk_frozen BK491.out 1
                    have hfz49_2 := blk_frozen BK491.out 2
                    have hfz49_3 := blk_frozen BK491.out 3
                    have hfz49_4 := blk_frozen BK491.out 4
                    have hcz50_0 : w27.cell? ⟨gb472, 0, none⟩ = some (.int .i64 a0_0) := (blk_cell BK472.out 0).trans rfl
                    have hcz50_1 : w27.cell? ⟨gb472, 1, none⟩ = some (.int .i64 a0_1) := (blk_cell BK472.out 1).trans rfl
                    have hcz50_2 : w27.cell? ⟨gb472, 2, none⟩ = some (.int .u64 a0_2) := (blk_cell BK472.out 2).trans rfl
                    have hcz50_3 : w27.cell? ⟨gb472, 3, none⟩ = some (.int .i64 a0_3) := (blk_cell BK472.out 3).trans rfl
                    have hcz50_4 : w27.cell? ⟨gb472, 4, none⟩ = some (.int .i64 a0_4) := (blk_cell BK472.out 4).trans rfl
                    have hfz50_0 := blk_frozen BK472.out 0
                    have hfz50_1 := blk_frozen BK472.out 1
                    have hfz50_2 := blk_frozen BK472.out 2
                    have hfz50_3 := blk_frozen BK472.out 3
                    have hfz50_4 := blk_frozen BK472.out 4
                    go_wp2
                    go_meet
                    case rel => exact ⟨_, (true), (by first | rfl | (simp; done) | (simp [*]; done)), H', ⟨by have := HJ5.out; first | omega | exact Nat.le_refl _⟩, ⟨by (with_reducible repeat (first | apply Kd.R_alloc | apply Kd.R_drewN | apply Kd.R_drew)); exact Kd.R_mono (Kd.R_far (p := ⟨gb491, 4, none⟩) (Kd.R_far (p := ⟨gb491, 3, none⟩) (Kd.R_far (p := ⟨gb491, 2, none⟩) (Kd.R_far (p := ⟨gb491, 1, none⟩) (Kd.R_far (p := ⟨gb491, 0, none⟩) (Kd.R_types HO483.out BK491.out (by decide)) (fun _ hk => hk.2) (.int .i64 t484)) (fun _ hk => hk.2) (.int .i64 t485)) (fun _ hk => hk.2) (.int .u64 t486)) (fun _ hk => hk.2) (.int .i64 t487)) (fun _ hk => hk.2) (.int .i64 t488)) (fun _ hk => trivial)⟩, ⟨by (with_reducible repeat (first | refine blk_drewN ?_ _ | refine blk_drew ?_ | refine blk_alloc ?_ _)); refine blk_far ?_ NB472_491.out _; (with_reducible repeat (first | refine blk_drewN ?_ _ | refine blk_drew ?_ | refine blk_alloc ?_ _)); refine blk_far ?_ NB472_491.out _; (with_reducible repeat (first | refine blk_drewN ?_ _ | refine blk_drew ?_ | refine blk_alloc ?_ _)); refine blk_far ?_ NB472_491.out _; (with_reducible repeat (first | refine blk_drewN ?_ _ | refine blk_drew ?_ | refine blk_alloc ?_ _)); refine blk_far ?_ NB472_491.out _; (with_reducible repeat (first | refine blk_drewN ?_ _ | refine blk_drew ?_ | refine blk_alloc ?_ _)); refine blk_far ?_ NB472_491.out _; (with_reducible repeat (first | refine blk_drewN ?_ _ | refine blk_drew ?_ | refine blk_alloc ?_ _)); exact BK472.out⟩, ⟨by (with_reducible repeat (first | refine blk_drewN ?_ _ | refine blk_drew ?_ | refine blk_alloc ?_ _)); refine blk_put (cs := #[.int .i64 t484, .int .i64 t485, .int .u64 t486, .int .i64 t487, .int .i64 0]) ?_ 4 _ rfl; (with_reducible repeat (first | refine blk_drewN ?_ _ | refine blk_drew ?_ | refine blk_alloc ?_ _)); refine blk_put (cs := #[.int .i64 t484, .int .i64 t485, .int .u64 t486, .int .i64 0, .int .i64 0]) ?_ 3 _ rfl; (with_reducible repeat (first | refine blk_drewN ?_ _ | refine blk_drew ?_ | refine blk_alloc ?_ _)); refine blk_put (cs := #[.int .i64 t484, .int .i64 t485, .int .u64 0, .int .i64 0, .int .i64 0]) ?_ 2 _ rfl; (with_reducible repeat (first | refine blk_drewN ?_ _ | refine blk_drew ?_ | refine blk_alloc ?_ _)); refine blk_put (cs := #[.int .i64 t484, .int .i64 0, .int .u64 0, .int .i64 0, .int .i64 0]) ?_ 1 _ rfl; (with_reducible repeat (first | refine blk_drewN ?_ _ | refine blk_drew ?_ | refine blk_alloc ?_ _)); refine blk_put (cs := #[.int .i64 0, .int .i64 0, .int .u64 0, .int .i64 0, .int .i64 0]) ?_ 0 _ rfl; (with_reducible repeat (first | refine blk_drewN ?_ _ | refine blk_drew ?_ | refine blk_alloc ?_ _)); exact BK491.out⟩, ⟨by repeat (first | (with_reducible first | exact HB.out | apply below_alloc | apply pw_below_drewN | apply below_drew1 | refine below_set ?_ GE472.out | refine below_set ?_ GE491.out) | exact HB.out)⟩⟩
                · rw [if_neg c31] at H
                  have c31b0 : (t489 == (y481.length : Int)) = false := beq_eq_false_iff_ne.mpr c31
                  have c31b1 : (t489 != (y481.length : Int)) = true := bne_iff_ne.mpr c31
                  have H' := Aside0.mk H
                  clear H
                  go_wp2
                  go_meet
                  case rel => exact ⟨_, (true), (by first | rfl | (simp; done) | (simp [*]; done)), H', ⟨by have := HJ5.out; first | omega | exact Nat.le_refl _⟩, ⟨by (with_reducible repeat (first | apply Kd.R_alloc | apply Kd.R_drewN | apply Kd.R_drew)); exact Kd.R_mono (Kd.R_far (p := ⟨gb491, 4, none⟩) (Kd.R_far (p := ⟨gb491, 3, none⟩) (Kd.R_far (p := ⟨gb491, 2, none⟩) (Kd.R_far (p := ⟨gb491, 1, none⟩) (Kd.R_far (p := ⟨gb491, 0, none⟩) (Kd.R_types HO483.out BK491.out (by decide)) (fun _ hk => hk.2) (.int .i64 t484)) (fun _ hk => hk.2) (.int .i64 t485)) (fun _ hk => hk.2) (.int .u64 t486)) (fun _ hk => hk.2) (.int .i64 t487)) (fun _ hk => hk.2) (.int .i64 t488)) (fun _ hk => trivial)⟩, ⟨by (with_reducible repeat (first | refine blk_drewN ?_ _ | refine blk_drew ?_ | refine blk_alloc ?_ _)); refine blk_far ?_ NB472_491.out _; (with_reducible repeat (first | refine blk_drewN ?_ _ | refine blk_drew ?_ | refine blk_alloc ?_ _)); refine blk_far ?_ NB472_491.out _; (with_reducible repeat (first | refine blk_drewN ?_ _ | refine blk_drew ?_ | refine blk_alloc ?_ _)); refine blk_far ?_ NB472_491.out _; (with_reducible repeat (first | refine blk_drewN ?_ _ | refine blk_drew ?_ | refine blk_alloc ?_ _)); refine blk_far ?_ NB472_491.out _; (with_reducible repeat (first | refine blk_drewN ?_ _ | refine blk_drew ?_ | refine blk_alloc ?_ _)); refine blk_far ?_ NB472_491.out _; (with_reducible repeat (first | refine blk_drewN ?_ _ | refine blk_drew ?_ | refine blk_alloc ?_ _)); exact BK472.out⟩, ⟨by (with_reducible repeat (first | refine blk_drewN ?_ _ | refine blk_drew ?_ | refine blk_alloc ?_ _)); refine blk_put (cs := #[.int .i64 t484, .int .i64 t485, .int .u64 t486, .int .i64 t487, .int .i64 0]) ?_ 4 _ rfl; (with_reducible repeat (first | refine blk_drewN ?_ _ | refine blk_drew ?_ | refine blk_alloc ?_ _)); refine blk_put (cs := #[.int .i64 t484, .int .i64 t485, .int .u64 t486, .int .i64 0, .int .i64 0]) ?_ 3 _ rfl; (with_reducible repeat (first | refine blk_drewN ?_ _ | refine blk_drew ?_ | refine blk_alloc ?_ _)); refine blk_put (cs := #[.int .i64 t484, .int .i64 t485, .int .u64 0, .int .i64 0, .int .i64 0]) ?_ 2 _ rfl; (with_reducible repeat (first | refine blk_drewN ?_ _ | refine blk_drew ?_ | refine blk_alloc ?_ _)); refine blk_put (cs := #[.int .i64 t484, .int .i64 0, .int .u64 0, .int .i64 0, .int .i64 0]) ?_ 1 _ rfl; (with_reducible repeat (first | refine blk_drewN ?_ _ | refine blk_drew ?_ | refine blk_alloc ?_ _)); refine blk_put (cs := #[.int .i64 0, .int .i64 0, .int .u64 0, .int .i64 0, .int .i64 0]) ?_ 0 _ rfl; (with_reducible repeat (first | refine blk_drewN ?_ _ | refine blk_drew ?_ | refine blk_alloc ?_ _)); exact BK491.out⟩, ⟨by repeat (first | (with_reducible first | exact HB.out | apply below_alloc | apply pw_below_drewN | apply below_drew1 | refine below_set ?_ GE472.out | refine below_set ?_ GE491.out) | exact HB.out)⟩⟩
              · rw [if_neg c30] at H
                have c30b0 : (t490 == 0) = false := beq_eq_false_iff_ne.mpr c30
                have c30b1 : (t490 != 0) = true := bne_iff_ne.mpr c30
                (first | rw [c30b0] | (simp only [i64_w, i32_w]; rw [c30b0]) | skip)
                have H' := Aside0.mk H
                clear H
                go_wp2
                go_meet
                case rel => exact ⟨_, (true), (by first | rfl | (simp; done) | (simp [*]; done)), H', ⟨by have := HJ5.out; first | omega | exact Nat.le_refl _⟩, ⟨by (with_reducible repeat (first | apply Kd.R_alloc | apply Kd.R_drewN | apply Kd.R_drew)); exact Kd.R_mono (Kd.R_far (p := ⟨gb491, 4, none⟩) (Kd.R_far (p := ⟨gb491, 3, none⟩) (Kd.R_far (p := ⟨gb491, 2, none⟩) (Kd.R_far (p := ⟨gb491, 1, none⟩) (Kd.R_far (p := ⟨gb491, 0, none⟩) (Kd.R_types HO483.out BK491.out (by decide)) (fun _ hk => hk.2) (.int .i64 t484)) (fun _ hk => hk.2) (.int .i64 t485)) (fun _ hk => hk.2) (.int .u64 t486)) (fun _ hk => hk.2) (.int .i64 t487)) (fun _ hk => hk.2) (.int .i64 t488)) (fun _ hk => trivial)⟩, ⟨by (with_reducible repeat (first | refine blk_drewN ?_ _ | refine blk_drew ?_ | refine blk_alloc ?_ _)); refine blk_far ?_ NB472_491.out _; (with_reducible repeat (first | refine blk_drewN ?_ _ | refine blk_drew ?_ | refine blk_alloc ?_ _)); refine blk_far ?_ NB472_491.out _; (with_reducible repeat (first | refine blk_drewN ?_ _ | refine blk_drew ?_ | refine blk_alloc ?_ _)); refine blk_far ?_ NB472_491.out _; (with_reducible repeat (first | refine blk_drewN ?_ _ | refine blk_drew ?_ | refine blk_alloc ?_ _)); refine blk_far ?_ NB472_491.out _; (with_reducible repeat (first | refine blk_drewN ?_ _ | refine blk_drew ?_ | refine blk_alloc ?_ _)); refine blk_far ?_ NB472_491.out _; (with_reducible repeat (first | refine blk_drewN ?_ _ | refine blk_drew ?_ | refine blk_alloc ?_ _)); exact BK472.out⟩, ⟨by (with_reducible repeat (first | refine blk_drewN ?_ _ | refine blk_drew ?_ | refine blk_alloc ?_ _)); refine blk_put (cs := #[.int .i64 t484, .int .i64 t485, .int .u64 t486, .int .i64 t487, .int .i64 0]) ?_ 4 _ rfl; (with_reducible repeat (first | refine blk_drewN ?_ _ | refine blk_drew ?_ | refine blk_alloc ?_ _)); refine blk_put (cs := #[.int .i64 t484, .int .i64 t485, .int .u64 t486, .int .i64 0, .int .i64 0]) ?_ 3 _ rfl; (with_reducible repeat (first | refine blk_drewN ?_ _ | refine blk_drew ?_ | refine blk_alloc ?_ _)); refine blk_put (cs := #[.int .i64 t484, .int .i64 t485, .int .u64 0, .int .i64 0, .int .i64 0]) ?_ 2 _ rfl; (with_reducible repeat (first | refine blk_drewN ?_ _ | refine blk_drew ?_ | refine blk_alloc ?_ _)); refine blk_put (cs := #[.int .i64 t484, .int .i64 0, .int .u64 0, .int .i64 0, .int .i64 0]) ?_ 1 _ rfl; (with_reducible repeat (first | refine blk_drewN ?_ _ | refine blk_drew ?_ | refine blk_alloc ?_ _)); refine blk_put (cs := #[.int .i64 0, .int .i64 0, .int .u64 0, .int .i64 0, .int .i64 0]) ?_ 0 _ rfl; (with_reducible repeat (first | refine blk_drewN ?_ _ | refine blk_drew ?_ | refine blk_alloc ?_ _)); exact BK491.out⟩, ⟨by repeat (first | (with_reducible first | exact HB.out | apply below_alloc | apply pw_below_drewN | apply below_drew1 | refine below_set ?_ GE472.out | refine below_set ?_ GE491.out) | exact HB.out)⟩⟩
            case rest =>
              clear HC21
              try clear c1
              try clear c2
              try clear p2
              try clear c3
              try clear c4
              try clear c11
              try clear c12
              try clear c13
              try clear c13b0
              try clear c13b1
              try clear c14
              try clear c15
              try clear c16
              try clear c18
              try clear c19
              try clear c28
              try clear c30
              try clear c30b0
              try clear c30b1
              try clear c31
              try clear c31b0
              try clear c31b1
              try clear c32
              try clear c32b0
              try clear c32b1
              try clear c33
              try clear c33b0
              try clear c33b1
              try clear c34
              try clear c34b0
              try clear c34b1
              try clear c35
              try clear c35b0
              try clear c36
              try clear c39
              try clear c40
              try clear c42
              try clear c43
              try clear c44
              try clear c45
              try clear c48
              try clear hcz29_0
              try clear hcz29_1
              try clear hcz29_2
              try clear hcz29_3
              try clear hcz29_4
              try clear hcz37_0
              try clear hcz37_1
              try clear hcz37_2
              try clear hcz37_3
              try clear hcz37_4
              try clear hcz38_0
              try clear hcz38_1
              try clear hcz38_2
              try clear hcz38_3
              try clear hcz38_4
              try clear hcz40_0
              try clear hcz40_1
              try clear hcz40_2
              try clear hcz40_3
              try clear hcz40_4
              try clear hcz41_0
              try clear hcz41_1
              try clear hcz41_2
              try clear hcz41_3
              try clear hcz41_4
              try clear hcz43_0
              try clear hcz43_1
              try clear hcz43_2
              try clear hcz43_3
              try clear hcz43_4
              try clear hcz44_0
              try clear hcz44_1
              try clear hcz44_2
              try clear hcz44_3
              try clear hcz44_4
              try clear hcz46_0
              try clear hcz46_1
              try clear hcz46_2
              try clear hcz46_3
              try clear hcz46_4
              try clear hcz47_0
              try clear hcz47_1
              try clear hcz47_2
              try clear hcz47_3
              try clear hcz47_4
              try clear hcz49_0
              try clear hcz49_1
              try clear hcz49_2
              try clear hcz49_3
              try clear hcz49_4
              try clear hcz50_0
              try clear hcz50_1
              try clear hcz50_2
              try clear hcz50_3
              try clear hcz50_4
              try clear hcz9_0
              try clear hcz9_1
              try clear hcz9_2
              try clear hcz9_3
              try clear hcz9_4
              try clear hfz29_0
              try clear hfz29_1
              try clear hfz29_2
              try clear hfz29_3
              try clear hfz29_4
              try clear hfz37_0
              try clear hfz37_1
              try clear hfz37_2
              try clear hfz37_3
              try clear hfz37_4
              try clear hfz38_0
              try clear hfz38_1
              try clear hfz38_2
              try clear hfz38_3
              try clear hfz38_4
              try clear hfz40_0
              try clear hfz40_1
              try clear hfz40_2
              try clear hfz40_3
              try clear hfz40_4
              try clear hfz41_0
              try clear hfz41_1
              try clear hfz41_2
              try clear hfz41_3
              try clear hfz41_4
              try clear hfz43_0
              try clear hfz43_1
              try clear hfz43_2
              try clear hfz43_3
              try clear hfz43_4
              try clear hfz44_0
              try clear hfz44_1
              try clear hfz44_2
              try clear hfz44_3
              try clear hfz44_4
              try clear hfz46_0
              try clear hfz46_1
              try clear hfz46_2
              try clear hfz46_3
              try clear hfz46_4
              try clear hfz47_0
              try clear hfz47_1
              try clear hfz47_2
              try clear hfz47_3
              try clear hfz47_4
              try clear hfz49_0
              try clear hfz49_1
              try clear hfz49_2
              try clear hfz49_3
              try clear hfz49_4
              try clear hfz50_0
              try clear hfz50_1
              try clear hfz50_2
              try clear hfz50_3
              try clear hfz50_4
              try clear hfz9_0
              try clear hfz9_1
              try clear hfz9_2
              try clear hfz9_3
              try clear hfz9_4
              try clear p2
              obtain ⟨kq, x103_20, rfl, HA, HJ20, HO_10, BK472, BK491, HB⟩ := hcut
              cases kq with
              | zero => exact absurd HA.out (by simp [trufflelaw05_RecordBack.j1])
              | succ kj20 =>
                have H := HA.out
                clear HA
                simp only [trufflelaw05_RecordBack.j1] at H
                by_cases c51 : x103_20 = true
                · subst c51
                  have H1 : (some false) = some r := by rw [if_pos rfl] at H; exact H
                  clear H
                  have H := H1
                  clear H1
                  obtain rfl := Option.some.inj H
                  go_wp2
                  go_ret
                  exact ⟨by first | rfl | (simp [errW_none, errW_some] <;> rfl) | (simp [*, errW_none, errW_some] <;> rfl), by repeat (first | (with_reducible first | exact HB.out | apply below_alloc | apply pw_below_drewN | apply below_drew1 | refine below_set ?_ GE472.out | refine below_set ?_ GE491.out) | exact HB.out)⟩
                · replace c51 := Bool.eq_false_iff.mpr c51
                  subst c51
                  have H1 : (if a0_1 = 2 then (if 0 ≤ t487 then (if t487 ≤ t488 then (if t488 ≤ (y481.length : Int) then ((truffleref01_Bytes.f kj20 ((y481.take (t488 : Int).toNat).drop (t487 : Int).toNat) l1).bind fun t496 => (if t496 = true then (some (t486 == (IntKind.u64.wrap ((l1.length : Int))))) else (some false))) else (none)) else (none)) else (none)) else (if a0_1 = 5 then (some (t486 == (Int.tmod a0_2 4294967296))) else (some (t486 == a0_2)))) = some r := by rw [if_neg (show ¬ (false = true) by decide)] at H; exact H
                  clear H
                  have H := H1
                  clear H1
                  by_cases c52 : a0_1 = 2
                  · rw [if_pos c52] at H
                    have c52b0 : (a0_1 == 2) = true := beq_iff_eq.mpr c52
                    have c52b1 : (a0_1 != 2) = false := bne_eq_false_iff_eq.mpr c52
                    clear c52
                    by_cases c53 : 0 ≤ t487
                    · rw [if_pos c53] at H
                      have c53b0 := eq_true c53
                      have c53b1 : decide (0 ≤ t487) = true := decide_eq_true c53
                      clear c53
                      by_cases c54 : t487 ≤ t488
                      · rw [if_pos c54] at H
                        have c54b0 := eq_true c54
                        have c54b1 : decide (t487 ≤ t488) = true := decide_eq_true c54
                        clear c54
                        by_cases c55 : t488 ≤ (y481.length : Int)
                        · rw [if_pos c55] at H
                          have c55b0 := eq_true c55
                          have c55b1 : decide (t488 ≤ (y481.length : Int)) = true := decide_eq_true c55
                          clear c55
                          obtain ⟨y492, hy492⟩ : ∃ y_ : List Int, y_ = ((y481.take (t488 : Int).toNat).drop (t487 : Int).toNat) := ⟨_, rfl⟩
                          replace H : ((truffleref01_Bytes.f kj20 y492 l1).bind fun t496 => (if t496 = true then (some (t486 == (IntKind.u64.wrap ((l1.length : Int))))) else (some false))) = some r := by first | (rw [hy492]; with_reducible exact H) | (have H2_ := (Option.bind_some _ _).symm.trans H; rw [hy492]; with_reducible exact H2_) | (have H2_ := (Option.bind_some _ _).symm.trans H; with_reducible exact H2_) | with_reducible exact H | (rw [hy492]; exact H) | exact H
                          have Ny492 := Aside0.mk hy492
                          clear hy492
                          replace H := Option.bind_eq_some_iff.mp H
                          obtain ⟨t496, A560, H⟩ := H
                          replace H : (if t496 = true then (some (t486 == (IntKind.u64.wrap ((l1.length : Int))))) else (some false)) = some r := H
                          have A56 := Aside0.mk A560
                          clear A560
                          by_cases c57 : t496 = true
                          · subst c57
                            have H1 : (some (t486 == (IntKind.u64.wrap ((l1.length : Int))))) = some r := by rw [if_pos rfl] at H; exact H
                            clear H
                            have H := H1
                            clear H1
                            obtain rfl := Option.some.inj H
                            have hnb58 := NB472_491.out
                            have hnc58 := NB491_472.out
                            have hcz59_0 : wc.cell? ⟨gb472, 0, none⟩ = some (.int .i64 a0_0) := (blk_cell BK472.out 0).trans rfl
                            have hcz59_1 : wc.cell? ⟨gb472, 1, none⟩ = some (.int .i64 a0_1) := (blk_cell BK472.out 1).trans rfl
                            have hcz59_2 : wc.cell? ⟨gb472, 2, none⟩ = some (.int .u64 a0_2) := (blk_cell BK472.out 2).trans rfl
                            have hcz59_3 : wc.cell? ⟨gb472, 3, none⟩ = some (.int .i64 a0_3) := (blk_cell BK472.out 3).trans rfl
                            have hcz59_4 : wc.cell? ⟨gb472, 4, none⟩ = some (.int .i64 a0_4) := (blk_cell BK472.out 4).trans rfl
                            have hfz59_0 := blk_frozen BK472.out 0
                            have hfz59_1 := blk_frozen BK472.out 1
                            have hfz59_2 := blk_frozen BK472.out 2
                            have hfz59_3 := blk_frozen BK472.out 3
                            have hfz59_4 := blk_frozen BK472.out 4
                            have hcz60_0 : wc.cell? ⟨gb491, 0, none⟩ = some (.int .i64 t484) := (blk_cell BK491.out 0).trans rfl
                            have hcz60_1 : wc.cell? ⟨gb491, 1, none⟩ = some (.int .i64 t485) := (blk_cell BK491.out 1).trans rfl
                            have hcz60_2 : wc.cell? ⟨gb491, 2, none⟩ = some (.int .u64 t486) := (blk_cell BK491.out 2).trans rfl
                            have hcz60_3 : wc.cell? ⟨gb491, 3, none⟩ = some (.int .i64 t487) := (blk_cell BK491.out 3).trans rfl
                            have hcz60_4 : wc.cell? ⟨gb491, 4, none⟩ = some (.int .i64 t488) := (blk_cell BK491.out 4).trans rfl
                            have hfz60_0 := blk_frozen BK491.out 0
                            have hfz60_1 := blk_frozen BK491.out 1
                            have hfz60_2 := blk_frozen BK491.out 2
                            have hfz60_3 := blk_frozen BK491.out 3
                            have hfz60_4 := blk_frozen BK491.out 4
                            have q61 : (t488 : Int) ≤ ((y481.length : Int) : Int) := of_decide_eq_true (by first | (with_reducible assumption) | assumption)
                            obtain ⟨i061, hi061, _, hsz61, _⟩ := info_parts info5
                            have hroom61 : y481.length ≤ co25 := (Kd.R_reads' HO_10.out).2.1
                            have hC61 : Kd.C (Kd.int .u8) _ Ao25 y481.length y481 := (Kd.R_reads' HO_10.out).2.2
                            have ql61 : (t487 : Int) ≤ (t488 : Int) := of_decide_eq_true (by first | (with_reducible assumption) | assumption)
                            have q061 : (0 : Int) ≤ (t487 : Int) := of_decide_eq_true (by first | (with_reducible assumption) | assumption)
                            have hcut61 := cut_mid (P := Try.prog) 22 5 .i64 .i64 Try.underlying22 hi061 1 hsz61 Ao25 y481.length co25 t487 t488 q061 ql61 q61 hroom61
                            have hr61 := Kd.C_mid (lo := (t487 : Int).toNat) (hi := (t488 : Int).toNat) (c := co25) hC61 (by omega) (by omega) hroom61
                            obtain ⟨A61, hA61⟩ : ∃ A1, A1 = (if co25 = (t487 : Int).toNat then Ao25 else (Ao25 : Option Addr).map (·.add ((t487 : Int).toNat * 1))) := ⟨_, rfl⟩
                            obtain ⟨c61, hc61⟩ : ∃ c1, c1 = co25 - (t487 : Int).toNat := ⟨_, rfl⟩
                            have hy61 : y492.length = (t488 : Int).toNat - (t487 : Int).toNat := (by rw [Ny492.out, List.length_drop, List.length_take] <;> omega)
                            rw [show ((y481).take (t488 : Int).toNat).drop (t487 : Int).toNat = y492 from Ny492.out.symm] at hr61
                            replace hr61 : Kd.C (Kd.int .u8) _ A61 y492.length y492 := (by rw [hA61]; exact hr61)
                            rw [← hy61, ← hA61, ← hc61] at hcut61
                            have HR495 := Aside0.mk hr61
                            have HC495 := Aside0.mk (show y492.length ≤ c61 from by rw [hy61, hc61]; exact Nat.sub_le_sub_right (Nat.le_trans (by omega) hroom61) _)
                            clear hr61 hC61 hroom61 hi061 hsz61 hc61
                            have KY61 := Aside0.mk hy61
                            have KA61 := Aside0.mk hA61
                            clear hy61 hA61
                            have KL61 := Aside0.mk (show (t488 : Int).toNat ≤ y481.length from by omega)
                            have KM61 := Aside0.mk (show (t487 : Int).toNat ≤ (t488 : Int).toNat from by omega)
                            replace q61 := eq_true q61
                            go_wp2_with (first | ((with_reducible refine gate_callee (f := 24) rfl ?_); refine goesL_ (some 114) rfl rfl Try.func24 (by kernel_rfl) rfl #[.slice A61 y492.length c61, .slice A1 l1.length c1] rfl (by (try simp only [List.map_toArray, List.map_cons, List.map_nil]); first | done | rfl | (simp only [List.length_drop, List.length_take]; rfl)) ?_; (with_reducible refine (truffleref01_Bytes.calls kj20 _ _ y492 _ _ l1 true _ ?side1 ?side2 ?side3 ?side4 A56.out).mono ?_); (case side1 => repeat (first | exact (by repeat (first | (with_reducible exact HR495.out) | (with_reducible refine Kd.C_alloc ?_ _) | (with_reducible refine Kd.C_drewN ?_ _) | (with_reducible refine Kd.C_drew ?_) | exact HR495.out)) | (with_reducible refine Kd.C_alloc ?_ _) | (with_reducible refine Kd.C_drewN ?_ _) | (with_reducible refine Kd.C_drew ?_))); (case side2 => exact HC495.out); (case side3 => repeat (first | exact (Kd.C_below HR1.out HB.out) | (with_reducible refine Kd.C_alloc ?_ _) | (with_reducible refine Kd.C_drewN ?_ _) | (with_reducible refine Kd.C_drew ?_))); (case side4 => exact HC1.out); rintro e w' ⟨rfl, ⟨nd, rfl⟩⟩; refine ⟨_, rfl, ?_⟩))
                            go_ret
                            exact ⟨by first | rfl | (simp [errW_none, errW_some] <;> rfl) | (simp [*, errW_none, errW_some] <;> rfl), by repeat (first | (with_reducible first | exact HB.out | apply below_alloc | apply pw_below_drewN | apply below_drew1 | refine below_set ?_ GE472.out | refine below_set ?_ GE491.out) | exact HB.out)⟩
                          · replace c57 := Bool.eq_false_iff.mpr c57
                            subst c57
                            have H1 : (some false) = some r := by rw [if_neg (show ¬ (false = true) by decide)] at H; exact H
                            clear H
                            have H := H1
                            clear H1
                            obtain rfl := Option.some.inj H
                            have hnb62 := NB472_491.out
                            have hnc62 := NB491_472.out
                            have hcz63_0 : wc.cell? ⟨gb472, 0, none⟩ = some (.int .i64 a0_0) := (blk_cell BK472.out 0).trans rfl
                            have hcz63_1 : wc.cell? ⟨gb472, 1, none⟩ = some (.int .i64 a0_1) := (blk_cell BK472.out 1).trans rfl
                            have hcz63_2 : wc.cell? ⟨gb472, 2, none⟩ = some (.int .u64 a0_2) := (blk_cell BK472.out 2).trans rfl
                            have hcz63_3 : wc.cell? ⟨gb472, 3, none⟩ = some (.int .i64 a0_3) := (blk_cell BK472.out 3).trans rfl
                            have hcz63_4 : wc.cell? ⟨gb472, 4, none⟩ = some (.int .i64 a0_4) := (blk_cell BK472.out 4).trans rfl
                            have hfz63_0 := blk_frozen BK472.out 0
                            have hfz63_1 := blk_frozen BK472.out 1
                            have hfz63_2 := blk_frozen BK472.out 2
                            have hfz63_3 := blk_frozen BK472.out 3
                            have hfz63_4 := blk_frozen BK472.out 4
                            have hcz64_0 : wc.cell? ⟨gb491, 0, none⟩ = some (.int .i64 t484) := (blk_cell BK491.out 0).trans rfl
                            have hcz64_1 : wc.cell? ⟨gb491, 1, none⟩ = some (.int .i64 t485) := (blk_cell BK491.out 1).trans rfl
                            have hcz64_2 : wc.cell? ⟨gb491, 2, none⟩ = some (.int .u64 t486) := (blk_cell BK491.out 2).trans rfl
                            have hcz64_3 : wc.cell? ⟨gb491, 3, none⟩ = some (.int .i64 t487) := (blk_cell BK491.out 3).trans rfl
                            have hcz64_4 : wc.cell? ⟨gb491, 4, none⟩ = some (.int .i64 t488) := (blk_cell BK491.out 4).trans rfl
                            have hfz64_0 := blk_frozen BK491.out 0
                            have hfz64_1 := blk_frozen BK491.out 1
                            have hfz64_2 := blk_frozen BK491.out 2
                            have hfz64_3 := blk_frozen BK491.out 3
                            have hfz64_4 := blk_frozen BK491.out 4
                            have q65 : (t488 : Int) ≤ ((y481.length : Int) : Int) := of_decide_eq_true (by first | (with_reducible assumption) | assumption)
                            obtain ⟨i065, hi065, _, hsz65, _⟩ := info_parts info5
                            have hroom65 : y481.length ≤ co25 := (Kd.R_reads' HO_10.out).2.1
                            have hC65 : Kd.C (Kd.int .u8) _ Ao25 y481.length y481 := (Kd.R_reads' HO_10.out).2.2
                            have ql65 : (t487 : Int) ≤ (t488 : Int) := of_decide_eq_true (by first | (with_reducible assumption) | assumption)
                            have q065 : (0 : Int) ≤ (t487 : Int) := of_decide_eq_true (by first | (with_reducible assumption) | assumption)
                            have hcut65 := cut_mid (P := Try.prog) 22 5 .i64 .i64 Try.underlying22 hi065 1 hsz65 Ao25 y481.length co25 t487 t488 q065 ql65 q65 hroom65
                            have hr65 := Kd.C_mid (lo := (t487 : Int).toNat) (hi := (t488 : Int).toNat) (c := co25) hC65 (by omega) (by omega) hroom65
                            obtain ⟨A65, hA65⟩ : ∃ A1, A1 = (if co25 = (t487 : Int).toNat then Ao25 else (Ao25 : Option Addr).map (·.add ((t487 : Int).toNat * 1))) := ⟨_, rfl⟩
                            obtain ⟨c65, hc65⟩ : ∃ c1, c1 = co25 - (t487 : Int).toNat := ⟨_, rfl⟩
                            have hy65 : y492.length = (t488 : Int).toNat - (t487 : Int).toNat := (by rw [Ny492.out, List.length_drop, List.length_take] <;> omega)
                            rw [show ((y481).take (t488 : Int).toNat).drop (t487 : Int).toNat = y492 from Ny492.out.symm] at hr65
                            replace hr65 : Kd.C (Kd.int .u8) _ A65 y492.length y492 := (by rw [hA65]; exact hr65)
                            rw [← hy65, ← hA65, ← hc65] at hcut65
                            have HR495 := Aside0.mk hr65
                            have HC495 := Aside0.mk (show y492.length ≤ c65 from by rw [hy65, hc65]; exact Nat.sub_le_sub_right (Nat.le_trans (by omega) hroom65) _)
                            clear hr65 hC65 hroom65 hi065 hsz65 hc65
                            have KY65 := Aside0.mk hy65
                            have KA65 := Aside0.mk hA65
                            clear hy65 hA65
                            have KL65 := Aside0.mk (show (t488 : Int).toNat ≤ y481.length from by omega)
                            have KM65 := Aside0.mk (show (t487 : Int).toNat ≤ (t488 : Int).toNat from by omega)
                            replace q65 := eq_true q65
                            go_wp2_with (first | ((with_reducible refine gate_callee (f := 24) rfl ?_); refine goesL_ (some 114) rfl rfl Try.func24 (by kernel_rfl) rfl #[.slice A65 y492.length c65, .slice A1 l1.length c1] rfl (by (try simp only [List.map_toArray, List.map_cons, List.map_nil]); first | done | rfl | (simp only [List.length_drop, List.length_take]; rfl)) ?_; (with_reducible refine (truffleref01_Bytes.calls kj20 _ _ y492 _ _ l1 false _ ?side1 ?side2 ?side3 ?side4 A56.out).mono ?_); (case side1 => repeat (first | exact (by repeat (first | (with_reducible exact HR495.out) | (with_reducible refine Kd.C_alloc ?_ _) | (with_reducible refine Kd.C_drewN ?_ _) | (with_reducible refine Kd.C_drew ?_) | exact HR495.out)) | (with_reducible refine Kd.C_alloc ?_ _) | (with_reducible refine Kd.C_drewN ?_ _) | (with_reducible refine Kd.C_drew ?_))); (case side2 => exact HC495.out); (case side3 => repeat (first | exact (Kd.C_below HR1.out HB.out) | (with_reducible refine Kd.C_alloc ?_ _) | (with_reducible refine Kd.C_drewN ?_ _) | (with_reducible refine Kd.C_drew ?_))); (case side4 => exact HC1.out); rintro e w' ⟨rfl, ⟨nd, rfl⟩⟩; refine ⟨_, rfl, ?_⟩))
                            go_ret
                            exact ⟨by first | rfl | (simp [errW_none, errW_some] <;> rfl) | (simp [*, errW_none, errW_some] <;> rfl), by repeat (first | (with_reducible first | exact HB.out | apply below_alloc | apply pw_below_drewN | apply below_drew1 | refine below_set ?_ GE472.out | refine below_set ?_ GE491.out) | exact HB.out)⟩
                        · rw [if_neg c55] at H
                          exact absurd H (by simp)
                      · rw [if_neg c54] at H
                        exact absurd H (by simp)
                    · rw [if_neg c53] at H
                      exact absurd H (by simp)
                  · rw [if_neg c52] at H
                    have c52b0 : (a0_1 == 2) = false := beq_eq_false_iff_ne.mpr c52
                    have c52b1 : (a0_1 != 2) = true := bne_iff_ne.mpr c52
                    by_cases c66 : a0_1 = 5
                    · rw [if_pos c66] at H
                      have c66b0 : (a0_1 == 5) = true := beq_iff_eq.mpr c66
                      have c66b1 : (a0_1 != 5) = false := bne_eq_false_iff_eq.mpr c66
                      clear c66
                      obtain rfl := Option.some.inj H
                      have hnb67 := NB472_491.out
                      have hnc67 := NB491_472.out
                      have hcz68_0 : wc.cell? ⟨gb472, 0, none⟩ = some (.int .i64 a0_0) := (blk_cell BK472.out 0).trans rfl
                      have hcz68_1 : wc.cell? ⟨gb472, 1, none⟩ = some (.int .i64 a0_1) := (blk_cell BK472.out 1).trans rfl
                      have hcz68_2 : wc.cell? ⟨gb472, 2, none⟩ = some (.int .u64 a0_2) := (blk_cell BK472.out 2).trans rfl
                      have hcz68_3 : wc.cell? ⟨gb472, 3, none⟩ = some (.int .i64 a0_3) := (blk_cell BK472.out 3).trans rfl
                      have hcz68_4 : wc.cell? ⟨gb472, 4, none⟩ = some (.int .i64 a0_4) := (blk_cell BK472.out 4).trans rfl
                      have hfz68_0 := blk_frozen BK472.out 0
                      have hfz68_1 := blk_frozen BK472.out 1
                      have hfz68_2 := blk_frozen BK472.out 2
                      have hfz68_3 := blk_frozen BK472.out 3
                      have hfz68_4 := blk_frozen BK472.out 4
                      have hcz69_0 : wc.cell? ⟨gb491, 0, none⟩ = some (.int .i64 t484) := (blk_cell BK491.out 0).trans rfl
                      have hcz69_1 : wc.cell? ⟨gb491, 1, none⟩ = some (.int .i64 t485) := (blk_cell BK491.out 1).trans rfl
                      have hcz69_2 : wc.cell? ⟨gb491, 2, none⟩ = some (.int .u64 t486) := (blk_cell BK491.out 2).trans rfl
                      have hcz69_3 : wc.cell? ⟨gb491, 3, none⟩ = some (.int .i64 t487) := (blk_cell BK491.out 3).trans rfl
                      have hcz69_4 : wc.cell? ⟨gb491, 4, none⟩ = some (.int .i64 t488) := (blk_cell BK491.out 4).trans rfl
                      have hfz69_0 := blk_frozen BK491.out 0
                      have hfz69_1 := blk_frozen BK491.out 1
                      have hfz69_2 := blk_frozen BK491.out 2
                      have hfz69_3 := blk_frozen BK491.out 3
                      have hfz69_4 := blk_frozen BK491.out 4
                      go_wp2
                      go_ret
                      exact ⟨by first | rfl | (simp [errW_none, errW_some] <;> rfl) | (simp [*, errW_none, errW_some] <;> rfl), by repeat (first | (with_reducible first | exact HB.out | apply below_alloc | apply pw_below_drewN | apply below_drew1 | refine below_set ?_ GE472.out | refine below_set ?_ GE491.out) | exact HB.out)⟩
                    · rw [if_neg c66] at H
                      have c66b0 : (a0_1 == 5) = false := beq_eq_false_iff_ne.mpr c66
                      have c66b1 : (a0_1 != 5) = true := bne_iff_ne.mpr c66
                      obtain rfl := Option.some.inj H
                      have hnb70 := NB472_491.out
                      have hnc70 := NB491_472.out
                      have hcz71_0 : wc.cell? ⟨gb472, 0, none⟩ = some (.int .i64 a0_0) := (blk_cell BK472.out 0).trans rfl
                      have hcz71_1 : wc.cell? ⟨gb472, 1, none⟩ = some (.int .i64 a0_1) := (blk_cell BK472.out 1).trans rfl
                      have hcz71_2 : wc.cell? ⟨gb472, 2, none⟩ = some (.int .u64 a0_2) := (blk_cell BK472.out 2).trans rfl
                      have hcz71_3 : wc.cell? ⟨gb472, 3, none⟩ = some (.int .i64 a0_3) := (blk_cell BK472.out 3).trans rfl
                      have hcz71_4 : wc.cell? ⟨gb472, 4, none⟩ = some (.int .i64 a0_4) := (blk_cell BK472.out 4).trans rfl
                      have hfz71_0 := blk_frozen BK472.out 0
                      have hfz71_1 := blk_frozen BK472.out 1
                      have hfz71_2 := blk_frozen BK472.out 2
                      have hfz71_3 := blk_frozen BK472.out 3
                      have hfz71_4 := blk_frozen BK472.out 4
                      have hcz72_0 : wc.cell? ⟨gb491, 0, none⟩ = some (.int .i64 t484) := (blk_cell BK491.out 0).trans rfl
                      have hcz72_1 : wc.cell? ⟨gb491, 1, none⟩ = some (.int .i64 t485) := (blk_cell BK491.out 1).trans rfl
                      have hcz72_2 : wc.cell? ⟨gb491, 2, none⟩ = some (.int .u64 t486) := (blk_cell BK491.out 2).trans rfl
                      have hcz72_3 : wc.cell? ⟨gb491, 3, none⟩ = some (.int .i64 t487) := (blk_cell BK491.out 3).trans rfl
                      have hcz72_4 : wc.cell? ⟨gb491, 4, none⟩ = some (.int .i64 t488) := (blk_cell BK491.out 4).trans rfl
                      have hfz72_0 := blk_frozen BK491.out 0
                      have hfz72_1 := blk_frozen BK491.out 1
                      have hfz72_2 := blk_frozen BK491.out 2
                      have hfz72_3 := blk_frozen BK491.out 3
                      have hfz72_4 := blk_frozen BK491.out 4
                      go_wp2
                      go_ret
                      exact ⟨by first | rfl | (simp [errW_none, errW_some] <;> rfl) | (simp [*, errW_none, errW_some] <;> rfl), by repeat (first | (with_reducible first | exact HB.out | apply below_alloc | apply pw_below_drewN | apply below_drew1 | refine below_set ?_ GE472.out | refine below_set ?_ GE491.out) | exact HB.out)⟩
          · rw [if_neg c19] at H
            exact absurd H (by simp)
        · rw [if_neg c18] at H
          exact absurd H (by simp)

/-- THE ONE PURE STATEMENT of trufflelaw05_RecordBack: yours. -/
def trufflelaw05_RecordBack.Pure : Prop := ∀ (a0_0 : Int) (a0_1 : Int) (a0_2 : Int) (a0_3 : Int) (a0_4 : Int) (l1 : List Int) (l2 : List Int), (Lit.int .i64 a0_0).wf = true → (Lit.int .i64 a0_1).wf = true → (Lit.int .u64 a0_2).wf = true → (Lit.int .i64 a0_3).wf = true → (Lit.int .i64 a0_4).wf = true → l1.length ≤ maxLen → l1.length * 1 ≤ 140737488351232 → (∀ x ∈ l1, (Lit.int .u8 x).wf = true) → l2.length ≤ maxLen → l2.length * 1 ≤ 140737488351232 → (∀ x ∈ l2, (Lit.int .u8 x).wf = true) → ∃ k, trufflelaw05_RecordBack.f k a0_0 a0_1 a0_2 a0_3 a0_4 l1 l2 = some true
theorem trufflelaw05_RecordBack.walk (P : trufflelaw05_RecordBack.Pure) (a0_0 : Int) (a0_1 : Int) (a0_2 : Int) (a0_3 : Int) (a0_4 : Int) (a1 : Option Addr) (len1 cap1 : Nat) (z1 : List Int) (a2 : Option Addr) (len2 cap2 : Nat) (z2 : List Int) (w : World) (w0_0 : (Lit.int .i64 a0_0).wf = true) (w0_1 : (Lit.int .i64 a0_1).wf = true) (w0_2 : (Lit.int .u64 a0_2).wf = true) (w0_3 : (Lit.int .i64 a0_3).wf = true) (w0_4 : (Lit.int .i64 a0_4).wf = true) (w1 : (a1 = none ∧ len1 = 0 ∧ cap1 = 0 ∧ z1 = []) ∨ ∃ x, a1 = some x ∧ len1 ≤ cap1 ∧ cap1 ≤ maxLen ∧ z1.length = cap1 ∧ (∀ i, i < z1.length → w.cell? (x.add i) = some (.int .u8 (z1.getD i 0))) ∧ ∀ n ∈ z1, (Lit.int .u8 n).wf = true) (y1 : len1 * 1 ≤ 140737488351232) (w2 : (a2 = none ∧ len2 = 0 ∧ cap2 = 0 ∧ z2 = []) ∨ ∃ x, a2 = some x ∧ len2 ≤ cap2 ∧ cap2 ≤ maxLen ∧ z2.length = cap2 ∧ (∀ i, i < z2.length → w.cell? (x.add i) = some (.int .u8 (z2.getD i 0))) ∧ ∀ n ∈ z2, (Lit.int .u8 n).wf = true) (y2 : len2 * 1 ≤ 140737488351232) :
    Calls Try.prog 16 #[.agg #[.int .i64 a0_0, .int .i64 a0_1, .int .u64 a0_2, .int .i64 a0_3, .int .i64 a0_4], .slice a1 len1 cap1, .slice a2 len2 cap2] w fun e w' => e = .returned (.bool true) ∧ Below w.heap.size w w' := by
  obtain ⟨l1, rfl, hr1, hm1, hw1, hc1⟩ := ReadsInt.ofRowC w1
  obtain ⟨l2, rfl, hr2, hm2, hw2, hc2⟩ := ReadsInt.ofRowC w2
  obtain ⟨k, h⟩ := P a0_0 a0_1 a0_2 a0_3 a0_4 l1 l2 w0_0 w0_1 w0_2 w0_3 w0_4 hm1 y1 hw1 hm2 y2 hw2
  refine (trufflelaw05_RecordBack.calls k a0_0 a0_1 a0_2 a0_3 a0_4 _ _ l1 _ _ l2 true w (Kd.C_of_reads (d := (0 : Int)) (h1 := fun _ => rfl) hr1) hc1 (Kd.C_of_reads (d := (0 : Int)) (h1 := fun _ => rfl) hr2) hc2 h).mono ?_
  rintro e w' ⟨rfl, hd⟩
  exact ⟨rfl, hd⟩

end Go.Proofs.Ytokbcenkgdpepaa.M
