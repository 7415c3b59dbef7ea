-- Written by wip/print18.py (this session's program, over the kit's print.py), for this seat's laws.
import Derived.Test.YtokbcenkgdpepaaMx0
import Derived.Test.YtokbcenkgdpepaaMx4
import Derived.Test.YtokbcenkgdpepaaMx28
import Derived.Test.YtokbcenkgdpepaaMx32
namespace Go.Proofs.Ytokbcenkgdpepaa.M
open Go.RowKit Go.Proofs.YtokbcenkgdpepaaW.PrintWords Go.Proofs.YtokbcenkgdpepaaW.PrintLast Go.Proofs.YtokbcenkgdpepaaW.PrintMore
attribute [local go_sem] max2_int min2_int max_two min_two max_three min_three max_four min_four   -- for this text's walks alone
set_option linter.unusedVariables false
set_option linter.unusedSimpArgs false

/-! ### trufflelaw05_RecordOne: function 18 -/
mutual
def trufflelaw05_RecordOne.j0 : Nat → List Int → List Int → Bool → List Int → List Int → Bool → Int → Int → Int → Int → Int → Int → Int → Int → Int → Int → Option (Bool)
  | 0, _, _, _, _, _, _, _, _, _, _, _, _, _, _, _, _ => none
  | k + 1, x2, x3, x9, x10, x12, x47, x512000, x512001, x512002, x512003, x512004, x513000, x513001, x513002, x513003, x513004 => if x47 = true then (some x9) else (if x512000 = x513000 then (trufflelaw05_RecordOne.j1 k x2 x3 x10 x12 (x512001 == x513001) x512000 x512001 x512002 x512003 x512004 x513000 x513001 x513002 x513003 x513004) else (trufflelaw05_RecordOne.j1 k x2 x3 x10 x12 false x512000 x512001 x512002 x512003 x512004 x513000 x513001 x513002 x513003 x513004))
def trufflelaw05_RecordOne.j1 : Nat → List Int → List Int → List Int → List Int → Bool → Int → Int → Int → Int → Int → Int → Int → Int → Int → Int → Option (Bool)
  | 0, _, _, _, _, _, _, _, _, _, _, _, _, _, _, _ => none
  | k + 1, x2, x3, x10, x12, x14, x512000, x512001, x512002, x512003, x512004, x513000, x513001, x513002, x513003, x513004 => if x512001 = 2 then (if x14 = true then ((truffleref01_Bytes.f k x2 x3).bind fun t522 => ((truffleref01_Bytes.f k x10 x12).bind fun t523 => (some (t523 == t522)))) else ((truffleref01_Bytes.f k x10 x12).bind fun t524 => (some (t524 == false)))) else (if x512001 = 5 then (if x14 = true then ((truffleref01_Bytes.f k x10 x12).bind fun t525 => (some (t525 == ((Int.tmod x512002 4294967296) == (Int.tmod x513002 4294967296))))) else ((truffleref01_Bytes.f k x10 x12).bind fun t526 => (some (t526 == false)))) else (if x14 = true then ((truffleref01_Bytes.f k x10 x12).bind fun t527 => (some (t527 == (x512002 == x513002)))) else ((truffleref01_Bytes.f k x10 x12).bind fun t528 => (some (t528 == false)))))
end
def trufflelaw05_RecordOne.f (k : Nat) (a0_0 : Int) (a0_1 : Int) (a0_2 : Int) (a0_3 : Int) (a0_4 : Int) (a1_0 : Int) (a1_1 : Int) (a1_2 : Int) (a1_3 : Int) (a1_4 : Int) (l2 : List Int) (l3 : List Int) : Option (Bool) := (trufflelaw05_awake.f k).bind fun t513 => ((record_Put.f k a0_0 a0_1 a0_2 a0_3 a0_4 l2).bind fun bt514 => ((record_Put.f k a1_0 a1_1 a1_2 a1_3 a1_4 l3).bind fun bt518 => (if t513 = true then (if bt514.2 = true then (if bt518.2 = true then (if (l2.length : Int) > 1000 then (trufflelaw05_RecordOne.j0 k l2 l3 t513 bt514.1 bt518.1 true a0_0 a0_1 a0_2 a0_3 a0_4 a1_0 a1_1 a1_2 a1_3 a1_4) else (trufflelaw05_RecordOne.j0 k l2 l3 t513 bt514.1 bt518.1 (decide ((l3.length : Int) > 1000)) a0_0 a0_1 a0_2 a0_3 a0_4 a1_0 a1_1 a1_2 a1_3 a1_4)) else (trufflelaw05_RecordOne.j0 k l2 l3 t513 bt514.1 bt518.1 true a0_0 a0_1 a0_2 a0_3 a0_4 a1_0 a1_1 a1_2 a1_3 a1_4)) else (trufflelaw05_RecordOne.j0 k l2 l3 t513 bt514.1 bt518.1 true a0_0 a0_1 a0_2 a0_3 a0_4 a1_0 a1_1 a1_2 a1_3 a1_4)) else (trufflelaw05_RecordOne.j0 k l2 l3 t513 bt514.1 bt518.1 true a0_0 a0_1 a0_2 a0_3 a0_4 a1_0 a1_1 a1_2 a1_3 a1_4))))
theorem trufflelaw05_RecordOne.mono_l : ∀ k, (∀ y0 y1 y2 y3 y4 y5 y6 y7 y8 y9 y10 y11 y12 y13 y14 y15, LeO (trufflelaw05_RecordOne.j0 k y0 y1 y2 y3 y4 y5 y6 y7 y8 y9 y10 y11 y12 y13 y14 y15) (trufflelaw05_RecordOne.j0 (k + 1) y0 y1 y2 y3 y4 y5 y6 y7 y8 y9 y10 y11 y12 y13 y14 y15)) ∧ (∀ y0 y1 y2 y3 y4 y5 y6 y7 y8 y9 y10 y11 y12 y13 y14, LeO (trufflelaw05_RecordOne.j1 k y0 y1 y2 y3 y4 y5 y6 y7 y8 y9 y10 y11 y12 y13 y14) (trufflelaw05_RecordOne.j1 (k + 1) y0 y1 y2 y3 y4 y5 y6 y7 y8 y9 y10 y11 y12 y13 y14))
  | 0 => ⟨fun _ _ _ _ _ _ _ _ _ _ _ _ _ _ _ _ r h => by simp [trufflelaw05_RecordOne.j0] at h, fun _ _ _ _ _ _ _ _ _ _ _ _ _ _ _ r h => by simp [trufflelaw05_RecordOne.j1] at h⟩
  | k + 1 => by
    obtain ⟨ih0, ih1⟩ := trufflelaw05_RecordOne.mono_l k
    refine ⟨?_, ?_⟩
    · intro y0 y1 y2 y3 y4 y5 y6 y7 y8 y9 y10 y11 y12 y13 y14 y15
      unfold trufflelaw05_RecordOne.j0
      repeat' first
      | (with_reducible exact ih0 _ _ _ _ _ _ _ _ _ _ _ _ _ _ _ _)
      | (with_reducible exact ih1 _ _ _ _ _ _ _ _ _ _ _ _ _ _ _)
      | (with_reducible exact record_Put.mono _ _ _ _ _ _ _)
      | (with_reducible exact trufflelaw05_awake.mono _)
      | (with_reducible exact truffleref01_Bytes.mono _ _ _)
      | (with_reducible exact LeO.refl _)
      | (with_reducible exact LeO.none _)
      | (with_reducible refine LeO.ite ?_ ?_)
      | (with_reducible refine LeO.bind ?_ (fun _ => ?_))
      | exact ih0 _ _ _ _ _ _ _ _ _ _ _ _ _ _ _ _
      | exact ih1 _ _ _ _ _ _ _ _ _ _ _ _ _ _ _
      | exact record_Put.mono _ _ _ _ _ _ _
      | exact trufflelaw05_awake.mono _
      | exact truffleref01_Bytes.mono _ _ _
      | exact LeO.none _
      | refine LeO.ite ?_ ?_
      | refine LeO.bind ?_ (fun _ => ?_)
    · intro y0 y1 y2 y3 y4 y5 y6 y7 y8 y9 y10 y11 y12 y13 y14
      unfold trufflelaw05_RecordOne.j1
      repeat' first
      | (with_reducible exact ih0 _ _ _ _ _ _ _ _ _ _ _ _ _ _ _ _)
      | (with_reducible exact ih1 _ _ _ _ _ _ _ _ _ _ _ _ _ _ _)
      | (with_reducible exact record_Put.mono _ _ _ _ _ _ _)
      | (with_reducible exact trufflelaw05_awake.mono _)
      | (with_reducible exact truffleref01_Bytes.mono _ _ _)
      | (with_reducible exact LeO.refl _)
      | (with_reducible exact LeO.none _)
      | (with_reducible refine LeO.ite ?_ ?_)
      | (with_reducible refine LeO.bind ?_ (fun _ => ?_))
      | exact ih0 _ _ _ _ _ _ _ _ _ _ _ _ _ _ _ _
      | exact ih1 _ _ _ _ _ _ _ _ _ _ _ _ _ _ _
      | exact record_Put.mono _ _ _ _ _ _ _
      | exact trufflelaw05_awake.mono _
      | exact truffleref01_Bytes.mono _ _ _
      | exact LeO.none _
      | refine LeO.ite ?_ ?_
      | refine LeO.bind ?_ (fun _ => ?_)
theorem trufflelaw05_RecordOne.mono : ∀ a0 a1 a2 a3 a4 a5 a6 a7 a8 a9 a10 a11 k, LeO (trufflelaw05_RecordOne.f k a0 a1 a2 a3 a4 a5 a6 a7 a8 a9 a10 a11) (trufflelaw05_RecordOne.f (k + 1) a0 a1 a2 a3 a4 a5 a6 a7 a8 a9 a10 a11) := by
  intro a0 a1 a2 a3 a4 a5 a6 a7 a8 a9 a10 a11 k
  obtain ⟨ih0, ih1⟩ := trufflelaw05_RecordOne.mono_l k
  unfold trufflelaw05_RecordOne.f
  repeat' first
      | (with_reducible exact ih0 _ _ _ _ _ _ _ _ _ _ _ _ _ _ _ _)
      | (with_reducible exact ih1 _ _ _ _ _ _ _ _ _ _ _ _ _ _ _)
      | (with_reducible exact record_Put.mono _ _ _ _ _ _ _)
      | (with_reducible exact trufflelaw05_awake.mono _)
      | (with_reducible exact truffleref01_Bytes.mono _ _ _)
      | (with_reducible exact LeO.refl _)
      | (with_reducible exact LeO.none _)
      | (with_reducible refine LeO.ite ?_ ?_)
      | (with_reducible refine LeO.bind ?_ (fun _ => ?_))
      | exact ih0 _ _ _ _ _ _ _ _ _ _ _ _ _ _ _ _
      | exact ih1 _ _ _ _ _ _ _ _ _ _ _ _ _ _ _
      | exact record_Put.mono _ _ _ _ _ _ _
      | exact trufflelaw05_awake.mono _
      | exact truffleref01_Bytes.mono _ _ _
      | exact LeO.none _
      | refine LeO.ite ?_ ?_
      | refine LeO.bind ?_ (fun _ => ?_)
set_option maxHeartbeats 8000000 in
set_option maxRecDepth 100000 in
theorem trufflelaw05_RecordOne.calls (k : Nat) (a0_0 : Int) (a0_1 : Int) (a0_2 : Int) (a0_3 : Int) (a0_4 : Int) (a1_0 : Int) (a1_1 : Int) (a1_2 : Int) (a1_3 : Int) (a1_4 : Int) (A2 : Option Addr) (c2 : Nat) (l2 : List Int) (A3 : Option Addr) (c3 : Nat) (l3 : List Int) (r : Bool) (w : World) (hr2 : Kd.C (Kd.int .u8) w A2 l2.length l2) (hc2 : l2.length ≤ c2) (hr3 : Kd.C (Kd.int .u8) w A3 l3.length l3) (hc3 : l3.length ≤ c3) (h : trufflelaw05_RecordOne.f k a0_0 a0_1 a0_2 a0_3 a0_4 a1_0 a1_1 a1_2 a1_3 a1_4 l2 l3 = some r) :
    Calls Try.prog 18 #[.agg #[.int .i64 a0_0, .int .i64 a0_1, .int .u64 a0_2, .int .i64 a0_3, .int .i64 a0_4], .agg #[.int .i64 a1_0, .int .i64 a1_1, .int .u64 a1_2, .int .i64 a1_3, .int .i64 a1_4], .slice A2 l2.length c2, .slice A3 l3.length c3] w fun e w' => e = .returned (.bool r) ∧ Below w.heap.size w w' := by
  have hu53 := Try.underlying53
  have HR2 := Aside0.mk hr2
  have HC2 := Aside0.mk hc2
  clear hr2 hc2
  have HR3 := Aside0.mk hr3
  have HC3 := Aside0.mk hc3
  clear hr3 hc3
  have HB := Aside0.mk (Below.refl w.heap.size w)
  have H : ((trufflelaw05_awake.f k).bind fun t513 => ((record_Put.f k a0_0 a0_1 a0_2 a0_3 a0_4 l2).bind fun bt514 => ((record_Put.f k a1_0 a1_1 a1_2 a1_3 a1_4 l3).bind fun bt518 => (if t513 = true then (if bt514.2 = true then (if bt518.2 = true then (if (l2.length : Int) > 1000 then (trufflelaw05_RecordOne.j0 k l2 l3 t513 bt514.1 bt518.1 true a0_0 a0_1 a0_2 a0_3 a0_4 a1_0 a1_1 a1_2 a1_3 a1_4) else (trufflelaw05_RecordOne.j0 k l2 l3 t513 bt514.1 bt518.1 (decide ((l3.length : Int) > 1000)) a0_0 a0_1 a0_2 a0_3 a0_4 a1_0 a1_1 a1_2 a1_3 a1_4)) else (trufflelaw05_RecordOne.j0 k l2 l3 t513 bt514.1 bt518.1 true a0_0 a0_1 a0_2 a0_3 a0_4 a1_0 a1_1 a1_2 a1_3 a1_4)) else (trufflelaw05_RecordOne.j0 k l2 l3 t513 bt514.1 bt518.1 true a0_0 a0_1 a0_2 a0_3 a0_4 a1_0 a1_1 a1_2 a1_3 a1_4)) else (trufflelaw05_RecordOne.j0 k l2 l3 t513 bt514.1 bt518.1 true a0_0 a0_1 a0_2 a0_3 a0_4 a1_0 a1_1 a1_2 a1_3 a1_4))))) = some r := h
  clear h
  replace H := Option.bind_eq_some_iff.mp H
  obtain ⟨t513, A50, H⟩ := H
  replace H : ((record_Put.f k a0_0 a0_1 a0_2 a0_3 a0_4 l2).bind fun bt514 => ((record_Put.f k a1_0 a1_1 a1_2 a1_3 a1_4 l3).bind fun bt518 => (if t513 = true then (if bt514.2 = true then (if bt518.2 = true then (if (l2.length : Int) > 1000 then (trufflelaw05_RecordOne.j0 k l2 l3 t513 bt514.1 bt518.1 true a0_0 a0_1 a0_2 a0_3 a0_4 a1_0 a1_1 a1_2 a1_3 a1_4) else (trufflelaw05_RecordOne.j0 k l2 l3 t513 bt514.1 bt518.1 (decide ((l3.length : Int) > 1000)) a0_0 a0_1 a0_2 a0_3 a0_4 a1_0 a1_1 a1_2 a1_3 a1_4)) else (trufflelaw05_RecordOne.j0 k l2 l3 t513 bt514.1 bt518.1 true a0_0 a0_1 a0_2 a0_3 a0_4 a1_0 a1_1 a1_2 a1_3 a1_4)) else (trufflelaw05_RecordOne.j0 k l2 l3 t513 bt514.1 bt518.1 true a0_0 a0_1 a0_2 a0_3 a0_4 a1_0 a1_1 a1_2 a1_3 a1_4)) else (trufflelaw05_RecordOne.j0 k l2 l3 t513 bt514.1 bt518.1 true a0_0 a0_1 a0_2 a0_3 a0_4 a1_0 a1_1 a1_2 a1_3 a1_4)))) = some r := H
  have A5 := Aside0.mk A50
  clear A50
  replace H := Option.bind_eq_some_iff.mp H
  obtain ⟨⟨t514, t517⟩, A60, H⟩ := H
  replace H : ((record_Put.f k a1_0 a1_1 a1_2 a1_3 a1_4 l3).bind fun bt518 => (if t513 = true then (if t517 = true then (if bt518.2 = true then (if (l2.length : Int) > 1000 then (trufflelaw05_RecordOne.j0 k l2 l3 t513 t514 bt518.1 true a0_0 a0_1 a0_2 a0_3 a0_4 a1_0 a1_1 a1_2 a1_3 a1_4) else (trufflelaw05_RecordOne.j0 k l2 l3 t513 t514 bt518.1 (decide ((l3.length : Int) > 1000)) a0_0 a0_1 a0_2 a0_3 a0_4 a1_0 a1_1 a1_2 a1_3 a1_4)) else (trufflelaw05_RecordOne.j0 k l2 l3 t513 t514 bt518.1 true a0_0 a0_1 a0_2 a0_3 a0_4 a1_0 a1_1 a1_2 a1_3 a1_4)) else (trufflelaw05_RecordOne.j0 k l2 l3 t513 t514 bt518.1 true a0_0 a0_1 a0_2 a0_3 a0_4 a1_0 a1_1 a1_2 a1_3 a1_4)) else (trufflelaw05_RecordOne.j0 k l2 l3 t513 t514 bt518.1 true a0_0 a0_1 a0_2 a0_3 a0_4 a1_0 a1_1 a1_2 a1_3 a1_4))) = some r := H
  have A6 := Aside0.mk A60
  clear A60
  replace H := Option.bind_eq_some_iff.mp H
  obtain ⟨⟨t518, t521⟩, A70, H⟩ := H
  replace H : (if t513 = true then (if t517 = true then (if t521 = true then (if (l2.length : Int) > 1000 then (trufflelaw05_RecordOne.j0 k l2 l3 t513 t514 t518 true a0_0 a0_1 a0_2 a0_3 a0_4 a1_0 a1_1 a1_2 a1_3 a1_4) else (trufflelaw05_RecordOne.j0 k l2 l3 t513 t514 t518 (decide ((l3.length : Int) > 1000)) a0_0 a0_1 a0_2 a0_3 a0_4 a1_0 a1_1 a1_2 a1_3 a1_4)) else (trufflelaw05_RecordOne.j0 k l2 l3 t513 t514 t518 true a0_0 a0_1 a0_2 a0_3 a0_4 a1_0 a1_1 a1_2 a1_3 a1_4)) else (trufflelaw05_RecordOne.j0 k l2 l3 t513 t514 t518 true a0_0 a0_1 a0_2 a0_3 a0_4 a1_0 a1_1 a1_2 a1_3 a1_4)) else (trufflelaw05_RecordOne.j0 k l2 l3 t513 t514 t518 true a0_0 a0_1 a0_2 a0_3 a0_4 a1_0 a1_1 a1_2 a1_3 a1_4)) = some r := H
  have A7 := Aside0.mk A70
  clear A70
  have HC8 := Aside0.mk H
  clear H
  go_enter Try.func18, Try.ntmps18
  go_upto_region 4 with (first | ((with_reducible refine gate_dst (N := 4) rfl ?_); (try (refine gate_guard (by rfl) ?_; dsimp only)); refine box_event ?hg (N := 4) ?hd (cs := #[.int .i64 a0_0, .int .i64 a0_1, .int .u64 a0_2, .int .i64 a0_3, .int .i64 a0_4]) (t := 53) ?hr ?_; (case hd => rfl); (case hg => rfl); (case hr => first | (go_simp; done) | (go_simp; rfl)); intro gb511 hg w9 hbox hb; have n0_ := Aside0.mk (below_step (by repeat (first | (with_reducible first | exact HB.out | apply below_alloc | apply pw_below_drewN | apply below_drew1) | exact HB.out)) hb); have n1_ := Aside0.mk (hbox); have n2_ := Aside0.mk ((by rw [hg]; exact (below_size (by repeat (first | (with_reducible first | exact HB.out | apply below_alloc | apply pw_below_drewN | apply below_drew1) | exact HB.out))) : w.heap.size ≤ gb511)); have n3_ := Aside0.mk ((by rw [hg]; exact (below_size (by repeat (first | (with_reducible first | exact HB.out | apply below_alloc | apply pw_below_drewN | apply below_drew1) | exact HB.out))) : w.heap.size ≤ gb511)); clear HB; have HB := n0_; have BK511 := n1_; have GW511 := n2_; have GE511 := n3_; clear n0_ n1_ n2_ n3_; clear hb hbox hg) | ((with_reducible refine gate_dst (N := 5) rfl ?_); (try (refine gate_guard (by rfl) ?_; dsimp only)); refine box_event ?hg (N := 5) ?hd (cs := #[.int .i64 a1_0, .int .i64 a1_1, .int .u64 a1_2, .int .i64 a1_3, .int .i64 a1_4]) (t := 53) ?hr ?_; (case hd => rfl); (case hg => rfl); (case hr => first | (go_simp; done) | (go_simp; rfl)); intro gb512 hg w10 hbox hb; have n0_ := Aside0.mk (blk_below (g := gb511) (o := .cells #[.int .i64 a0_0, .int .i64 a0_1, .int .u64 a0_2, .int .i64 a0_3, .int .i64 a0_4] 53 (0, 0)) (by (with_reducible repeat (first | refine blk_drewN ?_ _ | refine blk_drew ?_ | refine blk_alloc ?_ _)); exact BK511.out) hb); have n1_ := Aside0.mk (below_step (by repeat (first | (with_reducible first | exact HB.out | apply below_alloc | apply pw_below_drewN | apply below_drew1 | refine below_set ?_ GE511.out) | exact HB.out)) hb); have n2_ := Aside0.mk (hbox); have n3_ := Aside0.mk ((by rw [hg]; exact (below_size (by repeat (first | (with_reducible first | exact HB.out | apply below_alloc | apply pw_below_drewN | apply below_drew1 | refine below_set ?_ GE511.out) | exact HB.out))) : w.heap.size ≤ gb512)); have n4_ := Aside0.mk ((by rw [hg]; exact (below_size (by repeat (first | (with_reducible first | exact HB.out | apply below_alloc | apply pw_below_drewN | apply below_drew1 | refine below_set ?_ GE511.out) | exact HB.out))) : w.heap.size ≤ gb512)); have n5_ := Aside0.mk ((by rw [hg]; exact Nat.ne_of_lt (blk_lt (g := gb511) (o := .cells #[.int .i64 a0_0, .int .i64 a0_1, .int .u64 a0_2, .int .i64 a0_3, .int .i64 a0_4] 53 (0, 0)) (by (with_reducible repeat (first | refine blk_drewN ?_ _ | refine blk_drew ?_ | refine blk_alloc ?_ _)); exact BK511.out)) : gb511 ≠ gb512)); have n6_ := Aside0.mk ((by rw [hg]; exact Nat.ne_of_gt (blk_lt (g := gb511) (o := .cells #[.int .i64 a0_0, .int .i64 a0_1, .int .u64 a0_2, .int .i64 a0_3, .int .i64 a0_4] 53 (0, 0)) (by (with_reducible repeat (first | refine blk_drewN ?_ _ | refine blk_drew ?_ | refine blk_alloc ?_ _)); exact BK511.out)) : gb512 ≠ gb511)); clear BK511; clear HB; have BK511 := n0_; have HB := n1_; have BK512 := n2_; have GW512 := n3_; have GE512 := n4_; have NB511_512 := n5_; have NB512_511 := n6_; clear n0_ n1_ n2_ n3_ n4_ n5_ n6_; clear hb hbox hg) | ((with_reducible refine gate_callee (f := 40) rfl ?_); refine goesL_ (some 15) rfl rfl Try.func40 (by kernel_rfl) rfl #[] rfl (by (try simp only [List.map_toArray, List.map_cons, List.map_nil]); first | done | rfl | (simp only [List.length_drop, List.length_take]; rfl)) ?_; (with_reducible refine (trufflelaw05_awake.calls k  t513 _ A5.out).mono ?_); rintro e w11 ⟨rfl, hb⟩; refine ⟨_, rfl, ?_⟩; have n0_ := Aside0.mk (blk_below (g := gb511) (o := .cells #[.int .i64 a0_0, .int .i64 a0_1, .int .u64 a0_2, .int .i64 a0_3, .int .i64 a0_4] 53 (0, 0)) (by (with_reducible repeat (first | refine blk_drewN ?_ _ | refine blk_drew ?_ | refine blk_alloc ?_ _)); exact BK511.out) hb); have n1_ := Aside0.mk (blk_below (g := gb512) (o := .cells #[.int .i64 a1_0, .int .i64 a1_1, .int .u64 a1_2, .int .i64 a1_3, .int .i64 a1_4] 53 (0, 0)) (by (with_reducible repeat (first | refine blk_drewN ?_ _ | refine blk_drew ?_ | refine blk_alloc ?_ _)); exact BK512.out) hb); have n2_ := Aside0.mk (below_step (by repeat (first | (with_reducible first | exact HB.out | apply below_alloc | apply pw_below_drewN | apply below_drew1 | refine below_set ?_ GE511.out | refine below_set ?_ GE512.out) | exact HB.out)) hb); clear BK511; clear BK512; clear HB; have BK511 := n0_; have BK512 := n1_; have HB := n2_; clear n0_ n1_ n2_; (try clear hb); (try clear hb2); (try clear hk); (try clear hi); have hnb12 := NB511_512.out; have hnc12 := NB512_511.out; have hcz13_0 : w11.cell? ⟨gb511, 0, none⟩ = some (.int .i64 a0_0) := (blk_cell BK511.out 0).trans rfl; have hcz13_1 : w11.cell? ⟨gb511, 1, none⟩ = some (.int .i64 a0_1) := (blk_cell BK511.out 1).trans rfl; have hcz13_2 : w11.cell? ⟨gb511, 2, none⟩ = some (.int .u64 a0_2) := (blk_cell BK511.out 2).trans rfl; have hcz13_3 : w11.cell? ⟨gb511, 3, none⟩ = some (.int .i64 a0_3) := (blk_cell BK511.out 3).trans rfl; have hcz13_4 : w11.cell? ⟨gb511, 4, none⟩ = some (.int .i64 a0_4) := (blk_cell BK511.out 4).trans rfl; have hfz13_0 := blk_frozen BK511.out 0; have hfz13_1 := blk_frozen BK511.out 1; have hfz13_2 := blk_frozen BK511.out 2; have hfz13_3 := blk_frozen BK511.out 3; have hfz13_4 := blk_frozen BK511.out 4) | ((with_reducible refine gate_callee (f := 43) rfl ?_); refine goesL_ (some 19) rfl rfl Try.func43 (by kernel_rfl) rfl #[.agg #[.int .i64 a0_0, .int .i64 a0_1, .int .u64 a0_2, .int .i64 a0_3, .int .i64 a0_4], .slice A2 l2.length c2] rfl (by (try simp only [List.map_toArray, List.map_cons, List.map_nil]); first | done | rfl | (simp only [List.length_drop, List.length_take]; rfl)) ?_; (with_reducible refine (record_Put.calls k a0_0 a0_1 a0_2 a0_3 a0_4 _ _ l2 t514 t517 _ ?side1 ?side2 A6.out).mono ?_); (case side1 => repeat (first | exact (Kd.C_below HR2.out HB.out) | (with_reducible refine Kd.C_alloc ?_ _) | (with_reducible refine Kd.C_drewN ?_ _) | (with_reducible refine Kd.C_drew ?_))); (case side2 => exact HC2.out); rintro e w14 ⟨v515, rfl, ho0, hb⟩; refine ⟨_, rfl, ?_⟩; have n0_ := Aside0.mk (Kd.R_lower ho0 (below_size (by repeat (first | (with_reducible first | exact HB.out | apply below_alloc | apply pw_below_drewN | apply below_drew1 | refine below_set ?_ GE511.out | refine below_set ?_ GE512.out) | exact HB.out)))); have n1_ := Aside0.mk (blk_below (g := gb511) (o := .cells #[.int .i64 a0_0, .int .i64 a0_1, .int .u64 a0_2, .int .i64 a0_3, .int .i64 a0_4] 53 (0, 0)) (by (with_reducible repeat (first | refine blk_drewN ?_ _ | refine blk_drew ?_ | refine blk_alloc ?_ _)); exact BK511.out) hb); have n2_ := Aside0.mk (blk_below (g := gb512) (o := .cells #[.int .i64 a1_0, .int .i64 a1_1, .int .u64 a1_2, .int .i64 a1_3, .int .i64 a1_4] 53 (0, 0)) (by (with_reducible repeat (first | refine blk_drewN ?_ _ | refine blk_drew ?_ | refine blk_alloc ?_ _)); exact BK512.out) hb); have n3_ := Aside0.mk (below_step (by repeat (first | (with_reducible first | exact HB.out | apply below_alloc | apply pw_below_drewN | apply below_drew1 | refine below_set ?_ GE511.out | refine below_set ?_ GE512.out) | exact HB.out)) hb); clear BK511; clear BK512; clear HB; have HO516 := n0_; have BK511 := n1_; have BK512 := n2_; have HB := n3_; clear n0_ n1_ n2_ n3_; (try clear hb); (try clear hb2); (try clear hk); (try clear hi); (try clear ho0); have hcz15_0 : w14.cell? ⟨gb512, 0, none⟩ = some (.int .i64 a1_0) := (blk_cell BK512.out 0).trans rfl; have hcz15_1 : w14.cell? ⟨gb512, 1, none⟩ = some (.int .i64 a1_1) := (blk_cell BK512.out 1).trans rfl; have hcz15_2 : w14.cell? ⟨gb512, 2, none⟩ = some (.int .u64 a1_2) := (blk_cell BK512.out 2).trans rfl; have hcz15_3 : w14.cell? ⟨gb512, 3, none⟩ = some (.int .i64 a1_3) := (blk_cell BK512.out 3).trans rfl; have hcz15_4 : w14.cell? ⟨gb512, 4, none⟩ = some (.int .i64 a1_4) := (blk_cell BK512.out 4).trans rfl; have hfz15_0 := blk_frozen BK512.out 0; have hfz15_1 := blk_frozen BK512.out 1; have hfz15_2 := blk_frozen BK512.out 2; have hfz15_3 := blk_frozen BK512.out 3; have hfz15_4 := blk_frozen BK512.out 4) | ((with_reducible refine gate_callee (f := 43) rfl ?_); refine goesL_ (some 25) rfl rfl Try.func43 (by kernel_rfl) rfl #[.agg #[.int .i64 a1_0, .int .i64 a1_1, .int .u64 a1_2, .int .i64 a1_3, .int .i64 a1_4], .slice A3 l3.length c3] rfl (by (try simp only [List.map_toArray, List.map_cons, List.map_nil]); first | done | rfl | (simp only [List.length_drop, List.length_take]; rfl)) ?_; (with_reducible refine (record_Put.calls k a1_0 a1_1 a1_2 a1_3 a1_4 _ _ l3 t518 t521 _ ?side1 ?side2 A7.out).mono ?_); (case side1 => repeat (first | exact (Kd.C_below HR3.out HB.out) | (with_reducible refine Kd.C_alloc ?_ _) | (with_reducible refine Kd.C_drewN ?_ _) | (with_reducible refine Kd.C_drew ?_))); (case side2 => exact HC3.out); rintro e w16 ⟨v519, rfl, ho0, hb⟩; refine ⟨_, rfl, ?_⟩; have n0_ := Aside0.mk (Kd.R_elder' (by (with_reducible repeat (first | apply Kd.R_alloc | apply Kd.R_drewN | apply Kd.R_drew)); exact HO516.out) (Kd.R_base ho0) hb); have n1_ := Aside0.mk (Kd.R_lower (Kd.R_new' ho0 (Kd.R_lt (by (with_reducible repeat (first | apply Kd.R_alloc | apply Kd.R_drewN | apply Kd.R_drew)); exact HO516.out))) (below_size (by repeat (first | (with_reducible first | exact HB.out | apply below_alloc | apply pw_below_drewN | apply below_drew1 | refine below_set ?_ GE511.out | refine below_set ?_ GE512.out) | exact HB.out)))); have n2_ := Aside0.mk (blk_below (g := gb511) (o := .cells #[.int .i64 a0_0, .int .i64 a0_1, .int .u64 a0_2, .int .i64 a0_3, .int .i64 a0_4] 53 (0, 0)) (by (with_reducible repeat (first | refine blk_drewN ?_ _ | refine blk_drew ?_ | refine blk_alloc ?_ _)); exact BK511.out) hb); have n3_ := Aside0.mk (blk_below (g := gb512) (o := .cells #[.int .i64 a1_0, .int .i64 a1_1, .int .u64 a1_2, .int .i64 a1_3, .int .i64 a1_4] 53 (0, 0)) (by (with_reducible repeat (first | refine blk_drewN ?_ _ | refine blk_drew ?_ | refine blk_alloc ?_ _)); exact BK512.out) hb); have n4_ := Aside0.mk (below_step (by repeat (first | (with_reducible first | exact HB.out | apply below_alloc | apply pw_below_drewN | apply below_drew1 | refine below_set ?_ GE511.out | refine below_set ?_ GE512.out) | exact HB.out)) hb); clear HO516; clear BK511; clear BK512; clear HB; have HO516 := n0_; have HO520 := n1_; have BK511 := n2_; have BK512 := n3_; have HB := n4_; clear n0_ n1_ n2_ n3_ n4_; (try clear hb); (try clear hb2); (try clear hk); (try clear hi); (try clear ho0)))
  (try simp only [Act.put, List.setIfInBounds_toArray, List.set_cons_zero, List.set_cons_succ])
  go_cut [47] (fun v47 wc => ∃ (kq : Nat) (x47_7 : Bool), v47 = .bool x47_7 ∧ Aside0 (trufflelaw05_RecordOne.j0 kq l2 l3 t513 t514 t518 x47_7 a0_0 a0_1 a0_2 a0_3 a0_4 a1_0 a1_1 a1_2 a1_3 a1_4 = some r) ∧ Aside0 (kq ≤ k) ∧ Aside0 (Kd.R (Kd.int .u8) 5 wc w.heap.size (fun k_ => some k_ ≠ (v519 : Value).ownBlock) v515 t514) ∧ Aside0 (Kd.R (Kd.int .u8) 5 wc w.heap.size (fun k_ => some k_ ≠ (v515 : Value).ownBlock) v519 t518) ∧ Aside0 (wc.heap[gb511]? = some (.cells #[.int .i64 a0_0, .int .i64 a0_1, .int .u64 a0_2, .int .i64 a0_3, .int .i64 a0_4] 53 (0, 0))) ∧ Aside0 (wc.heap[gb512]? = some (.cells #[.int .i64 a1_0, .int .i64 a1_1, .int .u64 a1_2, .int .i64 a1_3, .int .i64 a1_4] 53 (0, 0))) ∧ Aside0 (Below w.heap.size w wc))
  case first =>
    have H := HC8.out
    clear HC8
    by_cases c17 : t513 = true
    · subst c17
      have H1 : (if t517 = true then (if t521 = true then (if (l2.length : Int) > 1000 then (trufflelaw05_RecordOne.j0 k l2 l3 true t514 t518 true a0_0 a0_1 a0_2 a0_3 a0_4 a1_0 a1_1 a1_2 a1_3 a1_4) else (trufflelaw05_RecordOne.j0 k l2 l3 true t514 t518 (decide ((l3.length : Int) > 1000)) a0_0 a0_1 a0_2 a0_3 a0_4 a1_0 a1_1 a1_2 a1_3 a1_4)) else (trufflelaw05_RecordOne.j0 k l2 l3 true t514 t518 true a0_0 a0_1 a0_2 a0_3 a0_4 a1_0 a1_1 a1_2 a1_3 a1_4)) else (trufflelaw05_RecordOne.j0 k l2 l3 true t514 t518 true a0_0 a0_1 a0_2 a0_3 a0_4 a1_0 a1_1 a1_2 a1_3 a1_4)) = some r := by rw [if_pos rfl] at H; exact H
      clear H
      have H := H1
      clear H1
      by_cases c18 : t517 = true
      · subst c18
        have H1 : (if t521 = true then (if (l2.length : Int) > 1000 then (trufflelaw05_RecordOne.j0 k l2 l3 true t514 t518 true a0_0 a0_1 a0_2 a0_3 a0_4 a1_0 a1_1 a1_2 a1_3 a1_4) else (trufflelaw05_RecordOne.j0 k l2 l3 true t514 t518 (decide ((l3.length : Int) > 1000)) a0_0 a0_1 a0_2 a0_3 a0_4 a1_0 a1_1 a1_2 a1_3 a1_4)) else (trufflelaw05_RecordOne.j0 k l2 l3 true t514 t518 true a0_0 a0_1 a0_2 a0_3 a0_4 a1_0 a1_1 a1_2 a1_3 a1_4)) = some r := by rw [if_pos rfl] at H; exact H
        clear H
        have H := H1
        clear H1
        by_cases c19 : t521 = true
        · subst c19
          have H1 : (if (l2.length : Int) > 1000 then (trufflelaw05_RecordOne.j0 k l2 l3 true t514 t518 true a0_0 a0_1 a0_2 a0_3 a0_4 a1_0 a1_1 a1_2 a1_3 a1_4) else (trufflelaw05_RecordOne.j0 k l2 l3 true t514 t518 (decide ((l3.length : Int) > 1000)) a0_0 a0_1 a0_2 a0_3 a0_4 a1_0 a1_1 a1_2 a1_3 a1_4)) = some r := by rw [if_pos rfl] at H; exact H
          clear H
          have H := H1
          clear H1
          by_cases c20 : (l2.length : Int) > 1000
          · rw [if_pos c20] at H
            have c20b0 : decide (1000 < (l2.length : Int)) = true := decide_eq_true c20
            have c20b1 : decide (1000 < l2.length) = true := decide_eq_true (by omega)
            clear c20
            (first | rw [c20b0] | (simp only [i64_w, i32_w]; rw [c20b0]) | skip)
            have H' := Aside0.mk H
            clear H
            go_wp2
            go_meet
            case rel => exact ⟨_, (true), (by first | rfl | (simp; done) | (simp [*]; done)), H', ⟨by first | omega | exact Nat.le_refl _⟩, ⟨by (with_reducible repeat (first | apply Kd.R_alloc | apply Kd.R_drewN | apply Kd.R_drew)); exact Kd.R_mono HO516.out (fun _ hk => hk.2)⟩, ⟨by (with_reducible repeat (first | apply Kd.R_alloc | apply Kd.R_drewN | apply Kd.R_drew)); exact Kd.R_mono HO520.out (fun _ hk => hk.2)⟩, ⟨by (with_reducible repeat (first | refine blk_drewN ?_ _ | refine blk_drew ?_ | refine blk_alloc ?_ _)); exact BK511.out⟩, ⟨by (with_reducible repeat (first | refine blk_drewN ?_ _ | refine blk_drew ?_ | refine blk_alloc ?_ _)); exact BK512.out⟩, ⟨by repeat (first | (with_reducible first | exact HB.out | apply below_alloc | apply pw_below_drewN | apply below_drew1 | refine below_set ?_ GE511.out | refine below_set ?_ GE512.out) | exact HB.out)⟩⟩
          · rw [if_neg c20] at H
            have c20b0 : decide (1000 < (l2.length : Int)) = false := decide_eq_false c20
            have c20b1 : decide (1000 < l2.length) = false := decide_eq_false (by omega)
            clear c20
            (first | rw [c20b0] | (simp only [i64_w, i32_w]; rw [c20b0]) | skip)
            have H' := Aside0.mk H
            clear H
            go_wp2
            go_meet
            case rel => exact ⟨_, (decide ((l3.length : Int) > 1000)), (by first | rfl | (simp; done) | (simp [*]; done)), H', ⟨by first | omega | exact Nat.le_refl _⟩, ⟨by (with_reducible repeat (first | apply Kd.R_alloc | apply Kd.R_drewN | apply Kd.R_drew)); exact Kd.R_mono HO516.out (fun _ hk => hk.2)⟩, ⟨by (with_reducible repeat (first | apply Kd.R_alloc | apply Kd.R_drewN | apply Kd.R_drew)); exact Kd.R_mono HO520.out (fun _ hk => hk.2)⟩, ⟨by (with_reducible repeat (first | refine blk_drewN ?_ _ | refine blk_drew ?_ | refine blk_alloc ?_ _)); exact BK511.out⟩, ⟨by (with_reducible repeat (first | refine blk_drewN ?_ _ | refine blk_drew ?_ | refine blk_alloc ?_ _)); exact BK512.out⟩, ⟨by repeat (first | (with_reducible first | exact HB.out | apply below_alloc | apply pw_below_drewN | apply below_drew1 | refine below_set ?_ GE511.out | refine below_set ?_ GE512.out) | exact HB.out)⟩⟩
        · replace c19 := Bool.eq_false_iff.mpr c19
          subst c19
          have H1 : (trufflelaw05_RecordOne.j0 k l2 l3 true t514 t518 true a0_0 a0_1 a0_2 a0_3 a0_4 a1_0 a1_1 a1_2 a1_3 a1_4) = some r := by rw [if_neg (show ¬ (false = true) by decide)] at H; exact H
          clear H
          have H := H1
          clear H1
          have H' := Aside0.mk H
          clear H
          go_wp2
          go_meet
          case rel => exact ⟨_, (true), (by first | rfl | (simp; done) | (simp [*]; done)), H', ⟨by first | omega | exact Nat.le_refl _⟩, ⟨by (with_reducible repeat (first | apply Kd.R_alloc | apply Kd.R_drewN | apply Kd.R_drew)); exact Kd.R_mono HO516.out (fun _ hk => hk.2)⟩, ⟨by (with_reducible repeat (first | apply Kd.R_alloc | apply Kd.R_drewN | apply Kd.R_drew)); exact Kd.R_mono HO520.out (fun _ hk => hk.2)⟩, ⟨by (with_reducible repeat (first | refine blk_drewN ?_ _ | refine blk_drew ?_ | refine blk_alloc ?_ _)); exact BK511.out⟩, ⟨by (with_reducible repeat (first | refine blk_drewN ?_ _ | refine blk_drew ?_ | refine blk_alloc ?_ _)); exact BK512.out⟩, ⟨by repeat (first | (with_reducible first | exact HB.out | apply below_alloc | apply pw_below_drewN | apply below_drew1 | refine below_set ?_ GE511.out | refine below_set ?_ GE512.out) | exact HB.out)⟩⟩
      · replace c18 := Bool.eq_false_iff.mpr c18
        subst c18
        have H1 : (trufflelaw05_RecordOne.j0 k l2 l3 true t514 t518 true a0_0 a0_1 a0_2 a0_3 a0_4 a1_0 a1_1 a1_2 a1_3 a1_4) = some r := by rw [if_neg (show ¬ (false = true) by decide)] at H; exact H
        clear H
        have H := H1
        clear H1
        have H' := Aside0.mk H
        clear H
        go_wp2
        go_meet
        case rel => exact ⟨_, (true), (by first | rfl | (simp; done) | (simp [*]; done)), H', ⟨by first | omega | exact Nat.le_refl _⟩, ⟨by (with_reducible repeat (first | apply Kd.R_alloc | apply Kd.R_drewN | apply Kd.R_drew)); exact Kd.R_mono HO516.out (fun _ hk => hk.2)⟩, ⟨by (with_reducible repeat (first | apply Kd.R_alloc | apply Kd.R_drewN | apply Kd.R_drew)); exact Kd.R_mono HO520.out (fun _ hk => hk.2)⟩, ⟨by (with_reducible repeat (first | refine blk_drewN ?_ _ | refine blk_drew ?_ | refine blk_alloc ?_ _)); exact BK511.out⟩, ⟨by (with_reducible repeat (first | refine blk_drewN ?_ _ | refine blk_drew ?_ | refine blk_alloc ?_ _)); exact BK512.out⟩, ⟨by repeat (first | (with_reducible first | exact HB.out | apply below_alloc | apply pw_below_drewN | apply below_drew1 | refine below_set ?_ GE511.out | refine below_set ?_ GE512.out) | exact HB.out)⟩⟩
    · replace c17 := Bool.eq_false_iff.mpr c17
      subst c17
      have H1 : (trufflelaw05_RecordOne.j0 k l2 l3 false t514 t518 true a0_0 a0_1 a0_2 a0_3 a0_4 a1_0 a1_1 a1_2 a1_3 a1_4) = some r := by rw [if_neg (show ¬ (false = true) by decide)] at H; exact H
      clear H
      have H := H1
      clear H1
      have H' := Aside0.mk H
      clear H
      go_wp2
      go_meet
      case rel => exact ⟨_, (true), (by first | rfl | (simp; done) | (simp [*]; done)), H', ⟨by first | omega | exact Nat.le_refl _⟩, ⟨by (with_reducible repeat (first | apply Kd.R_alloc | apply Kd.R_drewN | apply Kd.R_drew)); exact Kd.R_mono HO516.out (fun _ hk => hk.2)⟩, ⟨by (with_reducible repeat (first | apply Kd.R_alloc | apply Kd.R_drewN | apply Kd.R_drew)); exact Kd.R_mono HO520.out (fun _ hk => hk.2)⟩, ⟨by (with_reducible repeat (first | refine blk_drewN ?_ _ | refine blk_drew ?_ | refine blk_alloc ?_ _)); exact BK511.out⟩, ⟨by (with_reducible repeat (first | refine blk_drewN ?_ _ | refine blk_drew ?_ | refine blk_alloc ?_ _)); exact BK512.out⟩, ⟨by repeat (first | (with_reducible first | exact HB.out | apply below_alloc | apply pw_below_drewN | apply below_drew1 | refine below_set ?_ GE511.out | refine below_set ?_ GE512.out) | exact HB.out)⟩⟩
  case rest =>
    clear HC8
    try clear c1
    try clear c2
    try clear p2
    try clear c3
    try clear c4
    try clear c12
    try clear c17
    try clear c18
    try clear c19
    try clear c20
    try clear c20b0
    try clear c20b1
    try clear hcz13_0
    try clear hcz13_1
    try clear hcz13_2
    try clear hcz13_3
    try clear hcz13_4
    try clear hcz15_0
    try clear hcz15_1
    try clear hcz15_2
    try clear hcz15_3
    try clear hcz15_4
    try clear hfz13_0
    try clear hfz13_1
    try clear hfz13_2
    try clear hfz13_3
    try clear hfz13_4
    try clear hfz15_0
    try clear hfz15_1
    try clear hfz15_2
    try clear hfz15_3
    try clear hfz15_4
    obtain ⟨kq, x47_7, rfl, HA, HJ7, HO_10, HO_12, BK511, BK512, HB⟩ := hcut
    cases kq with
    | zero => exact absurd HA.out (by simp [trufflelaw05_RecordOne.j0])
    | succ kj7 =>
      have H := HA.out
      clear HA
      simp only [trufflelaw05_RecordOne.j0] at H
      by_cases c21 : x47_7 = true
      · subst c21
        have H1 : (some t513) = some r := by rw [if_pos rfl] at H; exact H
        clear H
        have H := H1
        clear H1
        obtain rfl := Option.some.inj H
        go_wp2
        go_ret
        exact ⟨by first | rfl | (simp [errW_none, errW_some] <;> rfl) | (simp [*, errW_none, errW_some] <;> rfl), by repeat (first | (with_reducible first | exact HB.out | apply below_alloc | apply pw_below_drewN | apply below_drew1 | refine below_set ?_ GE511.out | refine below_set ?_ GE512.out) | exact HB.out)⟩
      · replace c21 := Bool.eq_false_iff.mpr c21
        subst c21
        have H1 : (if a0_0 = a1_0 then (trufflelaw05_RecordOne.j1 kj7 l2 l3 t514 t518 (a0_1 == a1_1) a0_0 a0_1 a0_2 a0_3 a0_4 a1_0 a1_1 a1_2 a1_3 a1_4) else (trufflelaw05_RecordOne.j1 kj7 l2 l3 t514 t518 false a0_0 a0_1 a0_2 a0_3 a0_4 a1_0 a1_1 a1_2 a1_3 a1_4)) = some r := by rw [if_neg (show ¬ (false = true) by decide)] at H; exact H
        clear H
        have H := H1
        clear H1
        have HC22 := Aside0.mk H
        clear H
        go_upto_region 6 with (fail)
        go_cut [14] (fun v14 wc => ∃ (kq : Nat) (x14_21 : Bool), v14 = .bool x14_21 ∧ Aside0 (trufflelaw05_RecordOne.j1 kq l2 l3 t514 t518 x14_21 a0_0 a0_1 a0_2 a0_3 a0_4 a1_0 a1_1 a1_2 a1_3 a1_4 = some r) ∧ Aside0 (kq ≤ kj7) ∧ Aside0 (Kd.R (Kd.int .u8) 5 wc w.heap.size (fun k_ => some k_ ≠ (v519 : Value).ownBlock) v515 t514) ∧ Aside0 (Kd.R (Kd.int .u8) 5 wc w.heap.size (fun k_ => some k_ ≠ (v515 : Value).ownBlock) v519 t518) ∧ Aside0 (wc.heap[gb511]? = some (.cells #[.int .i64 a0_0, .int .i64 a0_1, .int .u64 a0_2, .int .i64 a0_3, .int .i64 a0_4] 53 (0, 0))) ∧ Aside0 (wc.heap[gb512]? = some (.cells #[.int .i64 a1_0, .int .i64 a1_1, .int .u64 a1_2, .int .i64 a1_3, .int .i64 a1_4] 53 (0, 0))) ∧ Aside0 (Below w.heap.size w wc))
        case first =>
          have H := HC22.out
          clear HC22
          by_cases c23 : a0_0 = a1_0
          · rw [if_pos c23] at H
            have c23b0 : (a0_0 == a1_0) = true := beq_iff_eq.mpr c23
            have c23b1 : (a0_0 != a1_0) = false := bne_eq_false_iff_eq.mpr c23
            clear c23
            (first | rw [c23b0] | (simp only [i64_w, i32_w]; rw [c23b0]) | skip)
            have H' := Aside0.mk H
            clear H
            have hnb24 := NB511_512.out
            have hnc24 := NB512_511.out
            have hcz25_0 : wc.cell? ⟨gb511, 0, none⟩ = some (.int .i64 a0_0) := (blk_cell BK511.out 0).trans rfl
            have hcz25_1 : wc.cell? ⟨gb511, 1, none⟩ = some (.int .i64 a0_1) := (blk_cell BK511.out 1).trans rfl
            have hcz25_2 : wc.cell? ⟨gb511, 2, none⟩ = some (.int .u64 a0_2) := (blk_cell BK511.out 2).trans rfl
            have hcz25_3 : wc.cell? ⟨gb511, 3, none⟩ = some (.int .i64 a0_3) := (blk_cell BK511.out 3).trans rfl
            have hcz25_4 : wc.cell? ⟨gb511, 4, none⟩ = some (.int .i64 a0_4) := (blk_cell BK511.out 4).trans rfl
            have hfz25_0 := blk_frozen BK511.out 0
            have hfz25_1 := blk_frozen BK511.out 1
            have hfz25_2 := blk_frozen BK511.out 2
            have hfz25_3 := blk_frozen BK511.out 3
            have hfz25_4 := blk_frozen BK511.out 4
            have hcz26_0 : wc.cell? ⟨gb512, 0, none⟩ = some (.int .i64 a1_0) := (blk_cell BK512.out 0).trans rfl
            have hcz26_1 : wc.cell? ⟨gb512, 1, none⟩ = some (.int .i64 a1_1) := (blk_cell BK512.out 1).trans rfl
            have hcz26_2 : wc.cell? ⟨gb512, 2, none⟩ = some (.int .u64 a1_2) := (blk_cell BK512.out 2).trans rfl
            have hcz26_3 : wc.cell? ⟨gb512, 3, none⟩ = some (.int .i64 a1_3) := (blk_cell BK512.out 3).trans rfl
            have hcz26_4 : wc.cell? ⟨gb512, 4, none⟩ = some (.int .i64 a1_4) := (blk_cell BK512.out 4).trans rfl
            have hfz26_0 := blk_frozen BK512.out 0
            have hfz26_1 := blk_frozen BK512.out 1
            have hfz26_2 := blk_frozen BK512.out 2
            have hfz26_3 := blk_frozen BK512.out 3
            have hfz26_4 := blk_frozen BK512.out 4
            go_wp2
            go_meet
            case rel => exact ⟨_, ((a0_1 == a1_1)), (by first | rfl | (simp; done) | (simp [*]; done)), H', ⟨by have := HJ7.out; first | omega | exact Nat.le_refl _⟩, ⟨by (with_reducible repeat (first | apply Kd.R_alloc | apply Kd.R_drewN | apply Kd.R_drew)); exact HO_10.out⟩, ⟨by (with_reducible repeat (first | apply Kd.R_alloc | apply Kd.R_drewN | apply Kd.R_drew)); exact HO_12.out⟩, ⟨by (with_reducible repeat (first | refine blk_drewN ?_ _ | refine blk_drew ?_ | refine blk_alloc ?_ _)); exact BK511.out⟩, ⟨by (with_reducible repeat (first | refine blk_drewN ?_ _ | refine blk_drew ?_ | refine blk_alloc ?_ _)); exact BK512.out⟩, ⟨by repeat (first | (with_reducible first | exact HB.out | apply below_alloc | apply pw_below_drewN | apply below_drew1 | refine below_set ?_ GE511.out | refine below_set ?_ GE512.out) | exact HB.out)⟩⟩
          · rw [if_neg c23] at H
            have c23b0 : (a0_0 == a1_0) = false := beq_eq_false_iff_ne.mpr c23
            have c23b1 : (a0_0 != a1_0) = true := bne_iff_ne.mpr c23
            (first | rw [c23b0] | (simp only [i64_w, i32_w]; rw [c23b0]) | skip)
            have H' := Aside0.mk H
            clear H
            have hnb27 := NB511_512.out
            have hnc27 := NB512_511.out
            have hcz28_0 : wc.cell? ⟨gb511, 0, none⟩ = some (.int .i64 a0_0) := (blk_cell BK511.out 0).trans rfl
            have hcz28_1 : wc.cell? ⟨gb511, 1, none⟩ = some (.int .i64 a0_1) := (blk_cell BK511.out 1).trans rfl
            have hcz28_2 : wc.cell? ⟨gb511, 2, none⟩ = some (.int .u64 a0_2) := (blk_cell BK511.out 2).trans rfl
            have hcz28_3 : wc.cell? ⟨gb511, 3, none⟩ = some (.int .i64 a0_3) := (blk_cell BK511.out 3).trans rfl
            have hcz28_4 : wc.cell? ⟨gb511, 4, none⟩ = some (.int .i64 a0_4) := (blk_cell BK511.out 4).trans rfl
            have hfz28_0 := blk_frozen BK511.out 0
            have hfz28_1 := blk_frozen BK511.out 1
            have hfz28_2 := blk_frozen BK511.out 2
            have hfz28_3 := blk_frozen BK511.out 3
            have hfz28_4 := blk_frozen BK511.out 4
            have hcz29_0 : wc.cell? ⟨gb512, 0, none⟩ = some (.int .i64 a1_0) := (blk_cell BK512.out 0).trans rfl
            have hcz29_1 : wc.cell? ⟨gb512, 1, none⟩ = some (.int .i64 a1_1) := (blk_cell BK512.out 1).trans rfl
            have hcz29_2 : wc.cell? ⟨gb512, 2, none⟩ = some (.int .u64 a1_2) := (blk_cell BK512.out 2).trans rfl
            have hcz29_3 : wc.cell? ⟨gb512, 3, none⟩ = some (.int .i64 a1_3) := (blk_cell BK512.out 3).trans rfl
            have hcz29_4 : wc.cell? ⟨gb512, 4, none⟩ = some (.int .i64 a1_4) := (blk_cell BK512.out 4).trans rfl
            have hfz29_0 := blk_frozen BK512.out 0
            have hfz29_1 := blk_frozen BK512.out 1
            have hfz29_2 := blk_frozen BK512.out 2
            have hfz29_3 := blk_frozen BK512.out 3
            have hfz29_4 := blk_frozen BK512.out 4
            go_wp2
            go_meet
            case rel => exact ⟨_, (false), (by first | rfl | (simp; done) | (simp [*]; done)), H', ⟨by have := HJ7.out; first | omega | exact Nat.le_refl _⟩, ⟨by (with_reducible repeat (first | apply Kd.R_alloc | apply Kd.R_drewN | apply Kd.R_drew)); exact HO_10.out⟩, ⟨by (with_reducible repeat (first | apply Kd.R_alloc | apply Kd.R_drewN | apply Kd.R_drew)); exact HO_12.out⟩, ⟨by (with_reducible repeat (first | refine blk_drewN ?_ _ | refine blk_drew ?_ | refine blk_alloc ?_ _)); exact BK511.out⟩, ⟨by (with_reducible repeat (first | refine blk_drewN ?_ _ | refine blk_drew ?_ | refine blk_alloc ?_ _)); exact BK512.out⟩, ⟨by repeat (first | (with_reducible first | exact HB.out | apply below_alloc | apply pw_below_drewN | apply below_drew1 | refine below_set ?_ GE511.out | refine below_set ?_ GE512.out) | exact HB.out)⟩⟩
        case rest =>
          clear HC22
          try clear c1
          try clear c2
          try clear p2
          try clear c3
          try clear c4
          try clear c12
          try clear c17
          try clear c18
          try clear c19
          try clear c20
          try clear c20b0
          try clear c20b1
          try clear c21
          try clear c23
          try clear c23b0
          try clear c23b1
          try clear c24
          try clear c27
          try clear hcz13_0
          try clear hcz13_1
          try clear hcz13_2
          try clear hcz13_3
          try clear hcz13_4
          try clear hcz15_0
          try clear hcz15_1
          try clear hcz15_2
          try clear hcz15_3
          try clear hcz15_4
          try clear hcz25_0
          try clear hcz25_1
          try clear hcz25_2
          try clear hcz25_3
          try clear hcz25_4
          try clear hcz26_0
          try clear hcz26_1
          try clear hcz26_2
          try clear hcz26_3
          try clear hcz26_4
          try clear hcz28_0
          try clear hcz28_1
          try clear hcz28_2
          try clear hcz28_3
          try clear hcz28_4
          try clear hcz29_0
          try clear hcz29_1
          try clear hcz29_2
          try clear hcz29_3
          try clear hcz29_4
          try clear hfz13_0
          try clear hfz13_1
          try clear hfz13_2
          try clear hfz13_3
          try clear hfz13_4
          try clear hfz15_0
          try clear hfz15_1
          try clear hfz15_2
          try clear hfz15_3
          try clear hfz15_4
          try clear hfz25_0
          try clear hfz25_1
          try clear hfz25_2
          try clear hfz25_3
          try clear hfz25_4
          try clear hfz26_0
          try clear hfz26_1
          try clear hfz26_2
          try clear hfz26_3
          try clear hfz26_4
          try clear hfz28_0
          try clear hfz28_1
          try clear hfz28_2
          try clear hfz28_3
          try clear hfz28_4
          try clear hfz29_0
          try clear hfz29_1
          try clear hfz29_2
          try clear hfz29_3
          try clear hfz29_4
          try clear p2
          obtain ⟨kq, x14_21, rfl, HA, HJ21, HO_10, HO_12, BK511, BK512, HB⟩ := hcut
          cases kq with
          | zero => exact absurd HA.out (by simp [trufflelaw05_RecordOne.j1])
          | succ kj21 =>
            have H := HA.out
            clear HA
            simp only [trufflelaw05_RecordOne.j1] at H
            by_cases c30 : a0_1 = 2
            · rw [if_pos c30] at H
              have c30b0 : (a0_1 == 2) = true := beq_iff_eq.mpr c30
              have c30b1 : (a0_1 != 2) = false := bne_eq_false_iff_eq.mpr c30
              clear c30
              by_cases c31 : x14_21 = true
              · subst c31
                have H1 : ((truffleref01_Bytes.f kj21 l2 l3).bind fun t522 => ((truffleref01_Bytes.f kj21 t514 t518).bind fun t523 => (some (t523 == t522)))) = some r := by rw [if_pos rfl] at H; exact H
                clear H
                have H := H1
                clear H1
                replace H := Option.bind_eq_some_iff.mp H
                obtain ⟨t522, A320, H⟩ := H
                replace H : ((truffleref01_Bytes.f kj21 t514 t518).bind fun t523 => (some (t523 == t522))) = some r := H
                have A32 := Aside0.mk A320
                clear A320
                replace H := Option.bind_eq_some_iff.mp H
                obtain ⟨t523, A330, H⟩ := H
                replace H : (some (t523 == t522)) = some r := H
                have A33 := Aside0.mk A330
                clear A330
                obtain rfl := Option.some.inj H
                have hnb34 := NB511_512.out
                have hnc34 := NB512_511.out
                have hcz35_0 : wc.cell? ⟨gb511, 0, none⟩ = some (.int .i64 a0_0) := (blk_cell BK511.out 0).trans rfl
                have hcz35_1 : wc.cell? ⟨gb511, 1, none⟩ = some (.int .i64 a0_1) := (blk_cell BK511.out 1).trans rfl
                have hcz35_2 : wc.cell? ⟨gb511, 2, none⟩ = some (.int .u64 a0_2) := (blk_cell BK511.out 2).trans rfl
                have hcz35_3 : wc.cell? ⟨gb511, 3, none⟩ = some (.int .i64 a0_3) := (blk_cell BK511.out 3).trans rfl
                have hcz35_4 : wc.cell? ⟨gb511, 4, none⟩ = some (.int .i64 a0_4) := (blk_cell BK511.out 4).trans rfl
                have hfz35_0 := blk_frozen BK511.out 0
                have hfz35_1 := blk_frozen BK511.out 1
                have hfz35_2 := blk_frozen BK511.out 2
                have hfz35_3 := blk_frozen BK511.out 3
                have hfz35_4 := blk_frozen BK511.out 4
                go_wp2_with (first | (go_at_call 24; (with_reducible refine (truffleref01_Bytes.calls kj21 _ _ l2 _ _ l3 t522 _ ?side1 ?side2 ?side3 ?side4 A32.out).mono ?_); (case side1 => repeat (first | exact (Kd.C_below HR2.out HB.out) | (with_reducible refine Kd.C_alloc ?_ _) | (with_reducible refine Kd.C_drewN ?_ _) | (with_reducible refine Kd.C_drew ?_))); (case side2 => exact HC2.out); (case side3 => repeat (first | exact (Kd.C_below HR3.out HB.out) | (with_reducible refine Kd.C_alloc ?_ _) | (with_reducible refine Kd.C_drewN ?_ _) | (with_reducible refine Kd.C_drew ?_))); (case side4 => exact HC3.out); rintro e w' ⟨rfl, ⟨nd, rfl⟩⟩; obtain ⟨Ao36, co36, eo36⟩ := Kd.R_slice HO_10.out; subst eo36; obtain ⟨Ao37, co37, eo37⟩ := Kd.R_slice HO_12.out; subst eo37) | ((with_reducible refine gate_callee (f := 24) rfl ?_); refine goesL_ (some 93) rfl rfl Try.func24 (by kernel_rfl) rfl #[.slice Ao36 t514.length co36, .slice Ao37 t518.length co37] rfl (by (try simp only [List.map_toArray, List.map_cons, List.map_nil]); first | done | rfl | (simp only [List.length_drop, List.length_take]; rfl)) ?_; (with_reducible refine (truffleref01_Bytes.calls kj21 _ _ t514 _ _ t518 t523 _ ?side1 ?side2 ?side3 ?side4 A33.out).mono ?_); (case side1 => repeat (first | exact (Kd.R_reads' HO_10.out).2.2 | (with_reducible refine Kd.C_alloc ?_ _) | (with_reducible refine Kd.C_drewN ?_ _) | (with_reducible refine Kd.C_drew ?_))); (case side2 => exact (Kd.R_reads' HO_10.out).2.1); (case side3 => repeat (first | exact (Kd.R_reads' HO_12.out).2.2 | (with_reducible refine Kd.C_alloc ?_ _) | (with_reducible refine Kd.C_drewN ?_ _) | (with_reducible refine Kd.C_drew ?_))); (case side4 => exact (Kd.R_reads' HO_12.out).2.1); rintro e w' ⟨rfl, ⟨nd, rfl⟩⟩; refine ⟨_, rfl, ?_⟩))
                go_ret
                exact ⟨by first | rfl | (simp [errW_none, errW_some] <;> rfl) | (simp [*, errW_none, errW_some] <;> rfl), by repeat (first | (with_reducible first | exact HB.out | apply below_alloc | apply pw_below_drewN | apply below_drew1 | refine below_set ?_ GE511.out | refine below_set ?_ GE512.out) | exact HB.out)⟩
              · replace c31 := Bool.eq_false_iff.mpr c31
                subst c31
                have H1 : ((truffleref01_Bytes.f kj21 t514 t518).bind fun t524 => (some (t524 == false))) = some r := by rw [if_neg (show ¬ (false = true) by decide)] at H; exact H
                clear H
                have H := H1
                clear H1
                replace H := Option.bind_eq_some_iff.mp H
                obtain ⟨t524, A380, H⟩ := H
                replace H : (some (t524 == false)) = some r := H
                have A38 := Aside0.mk A380
                clear A380
                obtain rfl := Option.some.inj H
                have hnb39 := NB511_512.out
                have hnc39 := NB512_511.out
                have hcz40_0 : wc.cell? ⟨gb511, 0, none⟩ = some (.int .i64 a0_0) := (blk_cell BK511.out 0).trans rfl
                have hcz40_1 : wc.cell? ⟨gb511, 1, none⟩ = some (.int .i64 a0_1) := (blk_cell BK511.out 1).trans rfl
                have hcz40_2 : wc.cell? ⟨gb511, 2, none⟩ = some (.int .u64 a0_2) := (blk_cell BK511.out 2).trans rfl
                have hcz40_3 : wc.cell? ⟨gb511, 3, none⟩ = some (.int .i64 a0_3) := (blk_cell BK511.out 3).trans rfl
                have hcz40_4 : wc.cell? ⟨gb511, 4, none⟩ = some (.int .i64 a0_4) := (blk_cell BK511.out 4).trans rfl
                have hfz40_0 := blk_frozen BK511.out 0
                have hfz40_1 := blk_frozen BK511.out 1
                have hfz40_2 := blk_frozen BK511.out 2
                have hfz40_3 := blk_frozen BK511.out 3
                have hfz40_4 := blk_frozen BK511.out 4
                obtain ⟨Ao41, co41, eo41⟩ := Kd.R_slice HO_10.out
                subst eo41
                obtain ⟨Ao42, co42, eo42⟩ := Kd.R_slice HO_12.out
                subst eo42
                go_wp2_with (first | ((with_reducible refine gate_callee (f := 24) rfl ?_); refine goesL_ (some 93) rfl rfl Try.func24 (by kernel_rfl) rfl #[.slice Ao41 t514.length co41, .slice Ao42 t518.length co42] rfl (by (try simp only [List.map_toArray, List.map_cons, List.map_nil]); first | done | rfl | (simp only [List.length_drop, List.length_take]; rfl)) ?_; (with_reducible refine (truffleref01_Bytes.calls kj21 _ _ t514 _ _ t518 t524 _ ?side1 ?side2 ?side3 ?side4 A38.out).mono ?_); (case side1 => repeat (first | exact (Kd.R_reads' HO_10.out).2.2 | (with_reducible refine Kd.C_alloc ?_ _) | (with_reducible refine Kd.C_drewN ?_ _) | (with_reducible refine Kd.C_drew ?_))); (case side2 => exact (Kd.R_reads' HO_10.out).2.1); (case side3 => repeat (first | exact (Kd.R_reads' HO_12.out).2.2 | (with_reducible refine Kd.C_alloc ?_ _) | (with_reducible refine Kd.C_drewN ?_ _) | (with_reducible refine Kd.C_drew ?_))); (case side4 => exact (Kd.R_reads' HO_12.out).2.1); rintro e w' ⟨rfl, ⟨nd, rfl⟩⟩; refine ⟨_, rfl, ?_⟩))
                go_ret
                exact ⟨by first | rfl | (simp [errW_none, errW_some] <;> rfl) | (simp [*, errW_none, errW_some] <;> rfl), by repeat (first | (with_reducible first | exact HB.out | apply below_alloc | apply pw_below_drewN | apply below_drew1 | refine below_set ?_ GE511.out | refine below_set ?_ GE512.out) | exact HB.out)⟩
            · rw [if_neg c30] at H
              have c30b0 : (a0_1 == 2) = false := beq_eq_false_iff_ne.mpr c30
              have c30b1 : (a0_1 != 2) = true := bne_iff_ne.mpr c30
              by_cases c43 : a0_1 = 5
              · rw [if_pos c43] at H
                have c43b0 : (a0_1 == 5) = true := beq_iff_eq.mpr c43
                have c43b1 : (a0_1 != 5) = false := bne_eq_false_iff_eq.mpr c43
                clear c43
                by_cases c44 : x14_21 = true
                · subst c44
                  have H1 : ((truffleref01_Bytes.f kj21 t514 t518).bind fun t525 => (some (t525 == ((Int.tmod a0_2 4294967296) == (Int.tmod a1_2 4294967296))))) = some r := by rw [if_pos rfl] at H; exact H
                  clear H
                  have H := H1
                  clear H1
                  replace H := Option.bind_eq_some_iff.mp H
                  obtain ⟨t525, A450, H⟩ := H
                  replace H : (some (t525 == ((Int.tmod a0_2 4294967296) == (Int.tmod a1_2 4294967296)))) = some r := H
                  have A45 := Aside0.mk A450
                  clear A450
                  obtain rfl := Option.some.inj H
                  have hnb46 := NB511_512.out
                  have hnc46 := NB512_511.out
                  have hcz47_0 : wc.cell? ⟨gb511, 0, none⟩ = some (.int .i64 a0_0) := (blk_cell BK511.out 0).trans rfl
                  have hcz47_1 : wc.cell? ⟨gb511, 1, none⟩ = some (.int .i64 a0_1) := (blk_cell BK511.out 1).trans rfl
                  have hcz47_2 : wc.cell? ⟨gb511, 2, none⟩ = some (.int .u64 a0_2) := (blk_cell BK511.out 2).trans rfl
                  have hcz47_3 : wc.cell? ⟨gb511, 3, none⟩ = some (.int .i64 a0_3) := (blk_cell BK511.out 3).trans rfl
                  have hcz47_4 : wc.cell? ⟨gb511, 4, none⟩ = some (.int .i64 a0_4) := (blk_cell BK511.out 4).trans rfl
                  have hfz47_0 := blk_frozen BK511.out 0
                  have hfz47_1 := blk_frozen BK511.out 1
                  have hfz47_2 := blk_frozen BK511.out 2
                  have hfz47_3 := blk_frozen BK511.out 3
                  have hfz47_4 := blk_frozen BK511.out 4
                  have hcz48_0 : wc.cell? ⟨gb512, 0, none⟩ = some (.int .i64 a1_0) := (blk_cell BK512.out 0).trans rfl
                  have hcz48_1 : wc.cell? ⟨gb512, 1, none⟩ = some (.int .i64 a1_1) := (blk_cell BK512.out 1).trans rfl
                  have hcz48_2 : wc.cell? ⟨gb512, 2, none⟩ = some (.int .u64 a1_2) := (blk_cell BK512.out 2).trans rfl
                  have hcz48_3 : wc.cell? ⟨gb512, 3, none⟩ = some (.int .i64 a1_3) := (blk_cell BK512.out 3).trans rfl
                  have hcz48_4 : wc.cell? ⟨gb512, 4, none⟩ = some (.int .i64 a1_4) := (blk_cell BK512.out 4).trans rfl
                  have hfz48_0 := blk_frozen BK512.out 0
                  have hfz48_1 := blk_frozen BK512.out 1
                  have hfz48_2 := blk_frozen BK512.out 2
                  have hfz48_3 := blk_frozen BK512.out 3
                  have hfz48_4 := blk_frozen BK512.out 4
                  obtain ⟨Ao49, co49, eo49⟩ := Kd.R_slice HO_10.out
                  subst eo49
                  obtain ⟨Ao50, co50, eo50⟩ := Kd.R_slice HO_12.out
                  subst eo50
                  go_wp2_with (first | ((with_reducible refine gate_callee (f := 24) rfl ?_); refine goesL_ (some 93) rfl rfl Try.func24 (by kernel_rfl) rfl #[.slice Ao49 t514.length co49, .slice Ao50 t518.length co50] rfl (by (try simp only [List.map_toArray, List.map_cons, List.map_nil]); first | done | rfl | (simp only [List.length_drop, List.length_take]; rfl)) ?_; (with_reducible refine (truffleref01_Bytes.calls kj21 _ _ t514 _ _ t518 t525 _ ?side1 ?side2 ?side3 ?side4 A45.out).mono ?_); (case side1 => repeat (first | exact (Kd.R_reads' HO_10.out).2.2 | (with_reducible refine Kd.C_alloc ?_ _) | (with_reducible refine Kd.C_drewN ?_ _) | (with_reducible refine Kd.C_drew ?_))); (case side2 => exact (Kd.R_reads' HO_10.out).2.1); (case side3 => repeat (first | exact (Kd.R_reads' HO_12.out).2.2 | (with_reducible refine Kd.C_alloc ?_ _) | (with_reducible refine Kd.C_drewN ?_ _) | (with_reducible refine Kd.C_drew ?_))); (case side4 => exact (Kd.R_reads' HO_12.out).2.1); rintro e w' ⟨rfl, ⟨nd, rfl⟩⟩; refine ⟨_, rfl, ?_⟩))
                  go_ret
                  exact ⟨by first | rfl | (simp [errW_none, errW_some] <;> rfl) | (simp [*, errW_none, errW_some] <;> rfl), by repeat (first | (with_reducible first | exact HB.out | apply below_alloc | apply pw_below_drewN | apply below_drew1 | refine below_set ?_ GE511.out | refine below_set ?_ GE512.out) | exact HB.out)⟩
                · replace c44 := Bool.eq_false_iff.mpr c44
                  subst c44
                  have H1 : ((truffleref01_Bytes.f kj21 t514 t518).bind fun t526 => (some (t526 == false))) = some r := by rw [if_neg (show ¬ (false = true) by decide)] at H; exact H
                  clear H
                  have H := H1
                  clear H1
                  replace H := Option.bind_eq_some_iff.mp H
                  obtain ⟨t526, A510, H⟩ := H
                  replace H : (some (t526 == false)) = some r := H
                  have A51 := Aside0.mk A510
                  clear A510
                  obtain rfl := Option.some.inj H
                  have hnb52 := NB511_512.out
                  have hnc52 := NB512_511.out
                  have hcz53_0 : wc.cell? ⟨gb511, 0, none⟩ = some (.int .i64 a0_0) := (blk_cell BK511.out 0).trans rfl
                  have hcz53_1 : wc.cell? ⟨gb511, 1, none⟩ = some (.int .i64 a0_1) := (blk_cell BK511.out 1).trans rfl
                  have hcz53_2 : wc.cell? ⟨gb511, 2, none⟩ = some (.int .u64 a0_2) := (blk_cell BK511.out 2).trans rfl
                  have hcz53_3 : wc.cell? ⟨gb511, 3, none⟩ = some (.int .i64 a0_3) := (blk_cell BK511.out 3).trans rfl
                  have hcz53_4 : wc.cell? ⟨gb511, 4, none⟩ = some (.int .i64 a0_4) := (blk_cell BK511.out 4).trans rfl
                  have hfz53_0 := blk_frozen BK511.out 0
                  have hfz53_1 := blk_frozen BK511.out 1
                  have hfz53_2 := blk_frozen BK511.out 2
                  have hfz53_3 := blk_frozen BK511.out 3
                  have hfz53_4 := blk_frozen BK511.out 4
                  obtain ⟨Ao54, co54, eo54⟩ := Kd.R_slice HO_10.out
                  subst eo54
                  obtain ⟨Ao55, co55, eo55⟩ := Kd.R_slice HO_12.out
                  subst eo55
                  go_wp2_with (first | ((with_reducible refine gate_callee (f := 24) rfl ?_); refine goesL_ (some 93) rfl rfl Try.func24 (by kernel_rfl) rfl #[.slice Ao54 t514.length co54, .slice Ao55 t518.length co55] rfl (by (try simp only [List.map_toArray, List.map_cons, List.map_nil]); first | done | rfl | (simp only [List.length_drop, List.length_take]; rfl)) ?_; (with_reducible refine (truffleref01_Bytes.calls kj21 _ _ t514 _ _ t518 t526 _ ?side1 ?side2 ?side3 ?side4 A51.out).mono ?_); (case side1 => repeat (first | exact (Kd.R_reads' HO_10.out).2.2 | (with_reducible refine Kd.C_alloc ?_ _) | (with_reducible refine Kd.C_drewN ?_ _) | (with_reducible refine Kd.C_drew ?_))); (case side2 => exact (Kd.R_reads' HO_10.out).2.1); (case side3 => repeat (first | exact (Kd.R_reads' HO_12.out).2.2 | (with_reducible refine Kd.C_alloc ?_ _) | (with_reducible refine Kd.C_drewN ?_ _) | (with_reducible refine Kd.C_drew ?_))); (case side4 => exact (Kd.R_reads' HO_12.out).2.1); rintro e w' ⟨rfl, ⟨nd, rfl⟩⟩; refine ⟨_, rfl, ?_⟩))
                  go_ret
                  exact ⟨by first | rfl | (simp [errW_none, errW_some] <;> rfl) | (simp [*, errW_none, errW_some] <;> rfl), by repeat (first | (with_reducible first | exact HB.out | apply below_alloc | apply pw_below_drewN | apply below_drew1 | refine below_set ?_ GE511.out | refine below_set ?_ GE512.out) | exact HB.out)⟩
              · rw [if_neg c43] at H
                have c43b0 : (a0_1 == 5) = false := beq_eq_false_iff_ne.mpr c43
                have c43b1 : (a0_1 != 5) = true := bne_iff_ne.mpr c43
                by_cases c56 : x14_21 = true
                · subst c56
                  have H1 : ((truffleref01_Bytes.f kj21 t514 t518).bind fun t527 => (some (t527 == (a0_2 == a1_2)))) = some r := by rw [if_pos rfl] at H; exact H
                  clear H
                  have H := H1
                  clear H1
                  replace H := Option.bind_eq_some_iff.mp H
                  obtain ⟨t527, A570, H⟩ := H
                  replace H : (some (t527 == (a0_2 == a1_2))) = some r := H
                  have A57 := Aside0.mk A570
                  clear A570
                  obtain rfl := Option.some.inj H
                  have hnb58 := NB511_512.out
                  have hnc58 := NB512_511.out
                  have hcz59_0 : wc.cell? ⟨gb511, 0, none⟩ = some (.int .i64 a0_0) := (blk_cell BK511.out 0).trans rfl
                  have hcz59_1 : wc.cell? ⟨gb511, 1, none⟩ = some (.int .i64 a0_1) := (blk_cell BK511.out 1).trans rfl
                  have hcz59_2 : wc.cell? ⟨gb511, 2, none⟩ = some (.int .u64 a0_2) := (blk_cell BK511.out 2).trans rfl
                  have hcz59_3 : wc.cell? ⟨gb511, 3, none⟩ = some (.int .i64 a0_3) := (blk_cell BK511.out 3).trans rfl
                  have hcz59_4 : wc.cell? ⟨gb511, 4, none⟩ = some (.int .i64 a0_4) := (blk_cell BK511.out 4).trans rfl
                  have hfz59_0 := blk_frozen BK511.out 0
                  have hfz59_1 := blk_frozen BK511.out 1
                  have hfz59_2 := blk_frozen BK511.out 2
                  have hfz59_3 := blk_frozen BK511.out 3
                  have hfz59_4 := blk_frozen BK511.out 4
                  have hcz60_0 : wc.cell? ⟨gb512, 0, none⟩ = some (.int .i64 a1_0) := (blk_cell BK512.out 0).trans rfl
                  have hcz60_1 : wc.cell? ⟨gb512, 1, none⟩ = some (.int .i64 a1_1) := (blk_cell BK512.out 1).trans rfl
                  have hcz60_2 : wc.cell? ⟨gb512, 2, none⟩ = some (.int .u64 a1_2) := (blk_cell BK512.out 2).trans rfl
                  have hcz60_3 : wc.cell? ⟨gb512, 3, none⟩ = some (.int .i64 a1_3) := (blk_cell BK512.out 3).trans rfl
                  have hcz60_4 : wc.cell? ⟨gb512, 4, none⟩ = some (.int .i64 a1_4) := (blk_cell BK512.out 4).trans rfl
                  have hfz60_0 := blk_frozen BK512.out 0
                  have hfz60_1 := blk_frozen BK512.out 1
                  have hfz60_2 := blk_frozen BK512.out 2
                  have hfz60_3 := blk_frozen BK512.out 3
                  have hfz60_4 := blk_frozen BK512.out 4
                  obtain ⟨Ao61, co61, eo61⟩ := Kd.R_slice HO_10.out
                  subst eo61
                  obtain ⟨Ao62, co62, eo62⟩ := Kd.R_slice HO_12.out
                  subst eo62
                  go_wp2_with (first | ((with_reducible refine gate_callee (f := 24) rfl ?_); refine goesL_ (some 93) rfl rfl Try.func24 (by kernel_rfl) rfl #[.slice Ao61 t514.length co61, .slice Ao62 t518.length co62] rfl (by (try simp only [List.map_toArray, List.map_cons, List.map_nil]); first | done | rfl | (simp only [List.length_drop, List.length_take]; rfl)) ?_; (with_reducible refine (truffleref01_Bytes.calls kj21 _ _ t514 _ _ t518 t527 _ ?side1 ?side2 ?side3 ?side4 A57.out).mono ?_); (case side1 => repeat (first | exact (Kd.R_reads' HO_10.out).2.2 | (with_reducible refine Kd.C_alloc ?_ _) | (with_reducible refine Kd.C_drewN ?_ _) | (with_reducible refine Kd.C_drew ?_))); (case side2 => exact (Kd.R_reads' HO_10.out).2.1); (case side3 => repeat (first | exact (Kd.R_reads' HO_12.out).2.2 | (with_reducible refine Kd.C_alloc ?_ _) | (with_reducible refine Kd.C_drewN ?_ _) | (with_reducible refine Kd.C_drew ?_))); (case side4 => exact (Kd.R_reads' HO_12.out).2.1); rintro e w' ⟨rfl, ⟨nd, rfl⟩⟩; refine ⟨_, rfl, ?_⟩))
                  go_ret
                  exact ⟨by first | rfl | (simp [errW_none, errW_some] <;> rfl) | (simp [*, errW_none, errW_some] <;> rfl), by repeat (first | (with_reducible first | exact HB.out | apply below_alloc | apply pw_below_drewN | apply below_drew1 | refine below_set ?_ GE511.out | refine below_set ?_ GE512.out) | exact HB.out)⟩
                · replace c56 := Bool.eq_false_iff.mpr c56
                  subst c56
                  have H1 : ((truffleref01_Bytes.f kj21 t514 t518).bind fun t528 => (some (t528 == false))) = some r := by rw [if_neg (show ¬ (false = true) by decide)] at H; exact H
                  clear H
                  have H := H1
                  clear H1
                  replace H := Option.bind_eq_some_iff.mp H
                  obtain ⟨t528, A630, H⟩ := H
                  replace H : (some (t528 == false)) = some r := H
                  have A63 := Aside0.mk A630
                  clear A630
                  obtain rfl := Option.some.inj H
                  have hnb64 := NB511_512.out
                  have hnc64 := NB512_511.out
                  have hcz65_0 : wc.cell? ⟨gb511, 0, none⟩ = some (.int .i64 a0_0) := (blk_cell BK511.out 0).trans rfl
                  have hcz65_1 : wc.cell? ⟨gb511, 1, none⟩ = some (.int .i64 a0_1) := (blk_cell BK511.out 1).trans rfl
                  have hcz65_2 : wc.cell? ⟨gb511, 2, none⟩ = some (.int .u64 a0_2) := (blk_cell BK511.out 2).trans rfl
                  have hcz65_3 : wc.cell? ⟨gb511, 3, none⟩ = some (.int .i64 a0_3) := (blk_cell BK511.out 3).trans rfl
                  have hcz65_4 : wc.cell? ⟨gb511, 4, none⟩ = some (.int .i64 a0_4) := (blk_cell BK511.out 4).trans rfl
                  have hfz65_0 := blk_frozen BK511.out 0
                  have hfz65_1 := blk_frozen BK511.out 1
                  have hfz65_2 := blk_frozen BK511.out 2
                  have hfz65_3 := blk_frozen BK511.out 3
                  have hfz65_4 := blk_frozen BK511.out 4
                  obtain ⟨Ao66, co66, eo66⟩ := Kd.R_slice HO_10.out
                  subst eo66
                  obtain ⟨Ao67, co67, eo67⟩ := Kd.R_slice HO_12.out
                  subst eo67
                  go_wp2_with (first | ((with_reducible refine gate_callee (f := 24) rfl ?_); refine goesL_ (some 93) rfl rfl Try.func24 (by kernel_rfl) rfl #[.slice Ao66 t514.length co66, .slice Ao67 t518.length co67] rfl (by (try simp only [List.map_toArray, List.map_cons, List.map_nil]); first | done | rfl | (simp only [List.length_drop, List.length_take]; rfl)) ?_; (with_reducible refine (truffleref01_Bytes.calls kj21 _ _ t514 _ _ t518 t528 _ ?side1 ?side2 ?side3 ?side4 A63.out).mono ?_); (case side1 => repeat (first | exact (Kd.R_reads' HO_10.out).2.2 | (with_reducible refine Kd.C_alloc ?_ _) | (with_reducible refine Kd.C_drewN ?_ _) | (with_reducible refine Kd.C_drew ?_))); (case side2 => exact (Kd.R_reads' HO_10.out).2.1); (case side3 => repeat (first | exact (Kd.R_reads' HO_12.out).2.2 | (with_reducible refine Kd.C_alloc ?_ _) | (with_reducible refine Kd.C_drewN ?_ _) | (with_reducible refine Kd.C_drew ?_))); (case side4 => exact (Kd.R_reads' HO_12.out).2.1); rintro e w' ⟨rfl, ⟨nd, rfl⟩⟩; refine ⟨_, rfl, ?_⟩))
                  go_ret
                  exact ⟨by first | rfl | (simp [errW_none, errW_some] <;> rfl) | (simp [*, errW_none, errW_some] <;> rfl), by repeat (first | (with_reducible first | exact HB.out | apply below_alloc | apply pw_below_drewN | apply below_drew1 | refine below_set ?_ GE511.out | refine below_set ?_ GE512.out) | exact HB.out)⟩

/-- THE ONE PURE STATEMENT of trufflelaw05_RecordOne: yours. -/
def trufflelaw05_RecordOne.Pure : Prop := ∀ (a0_0 : Int) (a0_1 : Int) (a0_2 : Int) (a0_3 : Int) (a0_4 : Int) (a1_0 : Int) (a1_1 : Int) (a1_2 : Int) (a1_3 : Int) (a1_4 : Int) (l2 : List Int) (l3 : List Int), (Lit.int .i64 a0_0).wf = true → (Lit.int .i64 a0_1).wf = true → (Lit.int .u64 a0_2).wf = true → (Lit.int .i64 a0_3).wf = true → (Lit.int .i64 a0_4).wf = true → (Lit.int .i64 a1_0).wf = true → (Lit.int .i64 a1_1).wf = true → (Lit.int .u64 a1_2).wf = true → (Lit.int .i64 a1_3).wf = true → (Lit.int .i64 a1_4).wf = true → l2.length ≤ maxLen → l2.length * 1 ≤ 140737488351232 → (∀ x ∈ l2, (Lit.int .u8 x).wf = true) → l3.length ≤ maxLen → l3.length * 1 ≤ 140737488351232 → (∀ x ∈ l3, (Lit.int .u8 x).wf = true) → ∃ k, trufflelaw05_RecordOne.f k a0_0 a0_1 a0_2 a0_3 a0_4 a1_0 a1_1 a1_2 a1_3 a1_4 l2 l3 = some true
theorem trufflelaw05_RecordOne.walk (P : trufflelaw05_RecordOne.Pure) (a0_0 : Int) (a0_1 : Int) (a0_2 : Int) (a0_3 : Int) (a0_4 : Int) (a1_0 : Int) (a1_1 : Int) (a1_2 : Int) (a1_3 : Int) (a1_4 : Int) (a2 : Option Addr) (len2 cap2 : Nat) (z2 : List Int) (a3 : Option Addr) (len3 cap3 : Nat) (z3 : List Int) (w : World) (w0_0 : (Lit.int .i64 a0_0).wf = true) (w0_1 : (Lit.int .i64 a0_1).wf = true) (w0_2 : (Lit.int .u64 a0_2).wf = true) (w0_3 : (Lit.int .i64 a0_3).wf = true) (w0_4 : (Lit.int .i64 a0_4).wf = true) (w1_0 : (Lit.int .i64 a1_0).wf = true) (w1_1 : (Lit.int .i64 a1_1).wf = true) (w1_2 : (Lit.int .u64 a1_2).wf = true) (w1_3 : (Lit.int .i64 a1_3).wf = true) (w1_4 : (Lit.int .i64 a1_4).wf = true) (w2 : (a2 = none ∧ len2 = 0 ∧ cap2 = 0 ∧ z2 = []) ∨ ∃ x, a2 = some x ∧ len2 ≤ cap2 ∧ cap2 ≤ maxLen ∧ z2.length = cap2 ∧ (∀ i, i < z2.length → w.cell? (x.add i) = some (.int .u8 (z2.getD i 0))) ∧ ∀ n ∈ z2, (Lit.int .u8 n).wf = true) (y2 : len2 * 1 ≤ 140737488351232) (w3 : (a3 = none ∧ len3 = 0 ∧ cap3 = 0 ∧ z3 = []) ∨ ∃ x, a3 = some x ∧ len3 ≤ cap3 ∧ cap3 ≤ maxLen ∧ z3.length = cap3 ∧ (∀ i, i < z3.length → w.cell? (x.add i) = some (.int .u8 (z3.getD i 0))) ∧ ∀ n ∈ z3, (Lit.int .u8 n).wf = true) (y3 : len3 * 1 ≤ 140737488351232) :
    Calls Try.prog 18 #[.agg #[.int .i64 a0_0, .int .i64 a0_1, .int .u64 a0_2, .int .i64 a0_3, .int .i64 a0_4], .agg #[.int .i64 a1_0, .int .i64 a1_1, .int .u64 a1_2, .int .i64 a1_3, .int .i64 a1_4], .slice a2 len2 cap2, .slice a3 len3 cap3] w fun e w' => e = .returned (.bool true) ∧ Below w.heap.size w w' := by
  obtain ⟨l2, rfl, hr2, hm2, hw2, hc2⟩ := ReadsInt.ofRowC w2
  obtain ⟨l3, rfl, hr3, hm3, hw3, hc3⟩ := ReadsInt.ofRowC w3
  obtain ⟨k, h⟩ := P a0_0 a0_1 a0_2 a0_3 a0_4 a1_0 a1_1 a1_2 a1_3 a1_4 l2 l3 w0_0 w0_1 w0_2 w0_3 w0_4 w1_0 w1_1 w1_2 w1_3 w1_4 hm2 y2 hw2 hm3 y3 hw3
  refine (trufflelaw05_RecordOne.calls k a0_0 a0_1 a0_2 a0_3 a0_4 a1_0 a1_1 a1_2 a1_3 a1_4 _ _ l2 _ _ l3 true w (Kd.C_of_reads (d := (0 : Int)) (h1 := fun _ => rfl) hr2) hc2 (Kd.C_of_reads (d := (0 : Int)) (h1 := fun _ => rfl) hr3) hc3 h).mono ?_
  rintro e w' ⟨rfl, hd⟩
  exact ⟨rfl, hd⟩

end Go.Proofs.Ytokbcenkgdpepaa.M
