-- Written by wip/print18.py (this session's program, over the kit's print.py), for this seat's laws.
import Derived.Test.YtokbcenkgdpepaaMx0
import Derived.ScopeJumps
namespace Go.Proofs.Ytokbcenkgdpepaa.M
open Go.RowKit Go.Proofs.YtokbcenkgdpepaaW.PrintWords Go.Proofs.YtokbcenkgdpepaaW.PrintLast Go.Proofs.YtokbcenkgdpepaaW.PrintMore
attribute [local go_sem] max2_int min2_int max_two min_two max_three min_three max_four min_four   -- for this text's walks alone
set_option linter.unusedVariables false
set_option linter.unusedSimpArgs false

/-! ### tag_Known: function 33 -/
def tag_Known.f (a0 : Int) : Option (Bool) := if a0 = 0 then (some true) else (if a0 = 1 then (some true) else (if a0 = 2 then (some true) else (some (a0 == 5))))
theorem known_skip {v r : Bool} {a0 : Int} (h0 : a0 ≠ 0) (h1 : a0 ≠ 1) (h2 : a0 ≠ 2) (H : (if a0 = 0 then (some true) else (if a0 = 1 then (some true) else (if a0 = 2 then (some true) else (some (a0 == 5))))) = some r) (hv : (a0 == 5) = v) : v = r := by
  rw [if_neg h0, if_neg h1, if_neg h2] at H
  rw [← hv]; exact Option.some.inj H
@[local go_sem] theorem run_index_known (i : Int) (w : World) (h0 : 0 ≤ i) (h4 : i < 4) : (Instr.index 69 (.agg #[.int .i64 0, .int .i64 1, .int .i64 2, .int .i64 5]) (.int .i64 i)).run Try.prog w = .ok (#[Value.int .i64 0, .int .i64 1, .int .i64 2, .int .i64 5].getD i.toNat undef) w := by
  have hc : i = 0 ∨ i = 1 ∨ i = 2 ∨ i = 3 := by omega
  rcases hc with rfl | rfl | rfl | rfl <;> simp [Instr.index, asIntOf, run_underlying Try.underlying69, go_sem]
set_option maxHeartbeats 8000000 in
set_option maxRecDepth 100000 in
theorem tag_Known.calls (a0 : Int) (r : Bool) (w : World) (h : tag_Known.f a0 = some r) :
    Calls Try.prog 33 #[.int .i64 a0] w fun e w' => e = .returned (.bool r) ∧ Drawn0 w w' := by
  have H := Aside0.mk h
  clear h
  go_enter Try.func33, Try.ntmps33
  go_wp2
  go_loopg [6] 4 (fun kq v6 w' => ∃ i : Int, v6 = .int .i64 i ∧ Aside0 (0 ≤ i ∧ i + kq = 4) ∧ Aside0 ((0 < i → a0 ≠ 0) ∧ (1 < i → a0 ≠ 1) ∧ (2 < i → a0 ≠ 2) ∧ (3 < i → a0 ≠ 5)) ∧ Drawn0 w w')
  case atStart => exact ⟨0, rfl, ⟨by omega⟩, ⟨by omega⟩, Drawn0.refl _⟩
  case round =>
    obtain ⟨i, rfl, HI, HN, ⟨m, rfl⟩⟩ := hrel
    obtain ⟨hi0, hi⟩ := HI.out
    have hc : i = 0 ∨ i = 1 ∨ i = 2 ∨ i = 3 ∨ i = 4 := by omega
    rcases hc with rfl | rfl | rfl | rfl | rfl
    · obtain ⟨g, hg⟩ : ∃ g, gk = g + 1 := ⟨gk - 1, by omega⟩
      have G := Aside0.mk (And.intro hg hi)
      clear hg hi hi0 HI
      by_cases c : a0 = 0
      · have cb : ((0 : Int) == a0) = true := beq_iff_eq.mpr c.symm
        have R := Aside0.mk (show true = r by have h := H.out; unfold tag_Known.f at h; rw [if_pos c] at h; exact Option.some.inj h)
        clear c
        go_wp2
        go_ret
        exact ⟨by have e := R.out; subst e; rfl, by repeat (first | exact Drawn0.refl _ | apply Drawn0.step)⟩
      · have cb : ((0 : Int) == a0) = false := beq_eq_false_iff_ne.mpr fun e => c e.symm
        have C := Aside0.mk c
        clear c
        go_wp2
        go_roundg g
        case measure => have := G.out; omega
        case rel => exact ⟨1, rfl, ⟨by have := G.out; omega⟩, ⟨by have := C.out; omega⟩, by repeat (first | exact Drawn0.refl _ | apply Drawn0.step)⟩
    · obtain ⟨g, hg⟩ : ∃ g, gk = g + 1 := ⟨gk - 1, by omega⟩
      have G := Aside0.mk (And.intro hg hi)
      clear hg hi hi0 HI
      by_cases c : a0 = 1
      · have cb : ((1 : Int) == a0) = true := beq_iff_eq.mpr c.symm
        have R := Aside0.mk (show true = r by have h := H.out; unfold tag_Known.f at h; rw [if_neg (by omega), if_pos c] at h; exact Option.some.inj h)
        clear c
        go_wp2
        go_ret
        exact ⟨by have e := R.out; subst e; rfl, by repeat (first | exact Drawn0.refl _ | apply Drawn0.step)⟩
      · have cb : ((1 : Int) == a0) = false := beq_eq_false_iff_ne.mpr fun e => c e.symm
        have C := Aside0.mk c
        clear c
        go_wp2
        go_roundg g
        case measure => have := G.out; omega
        case rel => exact ⟨2, rfl, ⟨by have := G.out; omega⟩, ⟨by have := C.out; have := HN.out; omega⟩, by repeat (first | exact Drawn0.refl _ | apply Drawn0.step)⟩
    · obtain ⟨g, hg⟩ : ∃ g, gk = g + 1 := ⟨gk - 1, by omega⟩
      have G := Aside0.mk (And.intro hg hi)
      clear hg hi hi0 HI
      by_cases c : a0 = 2
      · have cb : ((2 : Int) == a0) = true := beq_iff_eq.mpr c.symm
        have R := Aside0.mk (show true = r by have h := H.out; unfold tag_Known.f at h; rw [if_neg (by omega), if_neg (by omega), if_pos c] at h; exact Option.some.inj h)
        clear c
        go_wp2
        go_ret
        exact ⟨by have e := R.out; subst e; rfl, by repeat (first | exact Drawn0.refl _ | apply Drawn0.step)⟩
      · have cb : ((2 : Int) == a0) = false := beq_eq_false_iff_ne.mpr fun e => c e.symm
        have C := Aside0.mk c
        clear c
        go_wp2
        go_roundg g
        case measure => have := G.out; omega
        case rel => exact ⟨3, rfl, ⟨by have := G.out; omega⟩, ⟨by have := C.out; have := HN.out; omega⟩, by repeat (first | exact Drawn0.refl _ | apply Drawn0.step)⟩
    · obtain ⟨g, hg⟩ : ∃ g, gk = g + 1 := ⟨gk - 1, by omega⟩
      have G := Aside0.mk (And.intro hg hi)
      clear hg hi hi0 HI
      by_cases c : a0 = 5
      · have cb : ((5 : Int) == a0) = true := beq_iff_eq.mpr c.symm
        have R := Aside0.mk (show true = r from by have h := H.out; unfold tag_Known.f at h; exact known_skip (by omega) (by omega) (by omega) h (beq_iff_eq.mpr c))
        clear c
        go_wp2
        go_ret
        exact ⟨by have e := R.out; subst e; rfl, by repeat (first | exact Drawn0.refl _ | apply Drawn0.step)⟩
      · have cb : ((5 : Int) == a0) = false := beq_eq_false_iff_ne.mpr fun e => c e.symm
        have C := Aside0.mk c
        clear c
        go_wp2
        go_roundg g
        case measure => have := G.out; omega
        case rel => exact ⟨4, rfl, ⟨by have := G.out; omega⟩, ⟨by have := C.out; have := HN.out; omega⟩, by repeat (first | exact Drawn0.refl _ | apply Drawn0.step)⟩
    · have R := Aside0.mk (show false = r from by have h := H.out; unfold tag_Known.f at h; exact known_skip (HN.out.1 (by omega)) (HN.out.2.1 (by omega)) (HN.out.2.2.1 (by omega)) h (beq_eq_false_iff_ne.mpr (HN.out.2.2.2 (by omega))))
      clear hi hi0
      go_wp2
      go_ret
      exact ⟨by have e := R.out; subst e; rfl, by repeat (first | exact Drawn0.refl _ | apply Drawn0.step)⟩

/-! ### tag_of: function 50 -/
def tag_of.f (a0 : Int) : Option (Int × Int) := some (wrap64 (a0 / 8), wrap64 (Go.bits .and .u64 a0 7))
set_option maxHeartbeats 8000000 in
set_option maxRecDepth 100000 in
theorem tag_of.calls (a0 : Int) (r1 : Int) (r2 : Int) (w : World) (h : tag_of.f a0 = some (r1, r2)) :
    Calls Try.prog 50 #[.int .u64 a0] w fun e w' => e = .returned (.agg #[.int .i64 r1, .int .i64 r2]) ∧ Below w.heap.size w w' := by
  have hu66 := Try.underlying66
  have HB := Aside0.mk (Below.refl w.heap.size w)
  have H : (some (wrap64 (a0 / 8), wrap64 (Go.bits .and .u64 a0 7))) = some (r1, r2) := h
  clear h
  simp only [Option.some.injEq, Prod.mk.injEq] at H
  obtain ⟨rfl, rfl⟩ := H
  go_enter Try.func50, Try.ntmps50
  go_wp2_with (first | ((with_reducible refine gate_dst (N := 2) rfl ?_); refine box_event ?hg (N := 2) ?hd (cs := #[.int .i64 0, .int .i64 0]) (t := 66) ?hr ?_; (case hd => rfl); (case hg => rfl); (case hr => first | (go_simp; done) | (go_simp; rfl)); intro gb219 hg w2 hbox hb; have n0_ := Aside0.mk (below_step (by repeat (first | (with_reducible first | exact HB.out | apply below_alloc | apply pw_below_drewN | apply below_drew1) | exact HB.out)) hb); have n1_ := Aside0.mk (hbox); have n2_ := Aside0.mk ((by rw [hg]; exact (below_size (by repeat (first | (with_reducible first | exact HB.out | apply below_alloc | apply pw_below_drewN | apply below_drew1) | exact HB.out))) : w.heap.size ≤ gb219)); have n3_ := Aside0.mk ((by rw [hg]; exact (below_size (by repeat (first | (with_reducible first | exact HB.out | apply below_alloc | apply pw_below_drewN | apply below_drew1) | exact HB.out))) : w.heap.size ≤ gb219)); clear HB; have HB := n0_; have BK219 := n1_; have GW219 := n2_; have GE219 := n3_; clear n0_ n1_ n2_ n3_; clear hb hbox hg; have hcz3_0 : w2.cell? ⟨gb219, 0, none⟩ = some (.int .i64 0) := (blk_cell BK219.out 0).trans rfl; have hcz3_1 : w2.cell? ⟨gb219, 1, none⟩ = some (.int .i64 0) := (blk_cell BK219.out 1).trans rfl; have hfz3_0 := blk_frozen BK219.out 0; have hfz3_1 := blk_frozen BK219.out 1))
  refine bodyPost_ret (results_cell_row rfl _ _ gb219 66 #[.int .i64 (wrap64 (a0 / 8)), .int .i64 (wrap64 (Go.bits .and .u64 a0 7))] (0, 0) _ rfl (by (with_reducible repeat (first | refine blk_drewN ?_ _ | refine blk_drew ?_ | refine blk_alloc ?_ _)); refine blk_put (cs := #[.int .i64 (wrap64 (a0 / 8)), .int .i64 0]) ?_ 1 _ rfl; (with_reducible repeat (first | refine blk_drewN ?_ _ | refine blk_drew ?_ | refine blk_alloc ?_ _)); refine blk_put (cs := #[.int .i64 0, .int .i64 0]) ?_ 0 _ rfl; (with_reducible repeat (first | refine blk_drewN ?_ _ | refine blk_drew ?_ | refine blk_alloc ?_ _)); exact BK219.out) Try.underlying66 rfl (by kernel_rfl)) rfl ?_
  exact ⟨by first | rfl | (simp [errW_none, errW_some] <;> rfl) | (simp [*, errW_none, errW_some] <;> rfl), by repeat (first | (with_reducible first | exact HB.out | apply below_alloc | apply pw_below_drewN | apply below_drew1 | refine below_set ?_ GE219.out) | exact HB.out)⟩

/-! ### tag_head_number: function 51 -/
def tag_head_number.f (a0_0 : Int) (a0_1 : Int) : Option (Int) := some (Go.bits .or .u64 (IntKind.u64.wrap ((IntKind.u64.wrap (a0_0)) * 8)) (IntKind.u64.wrap (a0_1)))
set_option maxHeartbeats 8000000 in
set_option maxRecDepth 100000 in
theorem tag_head_number.calls (a0_0 : Int) (a0_1 : Int) (r : Int) (w : World) (h : tag_head_number.f a0_0 a0_1 = some r) :
    Calls Try.prog 51 #[.agg #[.int .i64 a0_0, .int .i64 a0_1]] w fun e w' => e = .returned (.int .u64 r) ∧ Below w.heap.size w w' := by
  have hu66 := Try.underlying66
  have HB := Aside0.mk (Below.refl w.heap.size w)
  have H : (some (Go.bits .or .u64 (IntKind.u64.wrap ((IntKind.u64.wrap (a0_0)) * 8)) (IntKind.u64.wrap (a0_1)))) = some r := h
  clear h
  obtain rfl := Option.some.inj H
  go_enter Try.func51, Try.ntmps51
  go_wp2_with (first | ((with_reducible refine gate_dst (N := 1) rfl ?_); refine box_event ?hg (N := 1) ?hd (cs := #[.int .i64 a0_0, .int .i64 a0_1]) (t := 66) ?hr ?_; (case hd => rfl); (case hg => rfl); (case hr => first | (go_simp; done) | (go_simp; rfl)); intro gb220 hg w2 hbox hb; have n0_ := Aside0.mk (below_step (by repeat (first | (with_reducible first | exact HB.out | apply below_alloc | apply pw_below_drewN | apply below_drew1) | exact HB.out)) hb); have n1_ := Aside0.mk (hbox); have n2_ := Aside0.mk ((by rw [hg]; exact (below_size (by repeat (first | (with_reducible first | exact HB.out | apply below_alloc | apply pw_below_drewN | apply below_drew1) | exact HB.out))) : w.heap.size ≤ gb220)); have n3_ := Aside0.mk ((by rw [hg]; exact (below_size (by repeat (first | (with_reducible first | exact HB.out | apply below_alloc | apply pw_below_drewN | apply below_drew1) | exact HB.out))) : w.heap.size ≤ gb220)); clear HB; have HB := n0_; have BK220 := n1_; have GW220 := n2_; have GE220 := n3_; clear n0_ n1_ n2_ n3_; clear hb hbox hg; have hcz3_0 : w2.cell? ⟨gb220, 0, none⟩ = some (.int .i64 a0_0) := (blk_cell BK220.out 0).trans rfl; have hcz3_1 : w2.cell? ⟨gb220, 1, none⟩ = some (.int .i64 a0_1) := (blk_cell BK220.out 1).trans rfl; have hfz3_0 := blk_frozen BK220.out 0; have hfz3_1 := blk_frozen BK220.out 1))
  go_ret
  exact ⟨by first | rfl | (simp [errW_none, errW_some] <;> rfl) | (simp [*, errW_none, errW_some] <;> rfl), by repeat (first | (with_reducible first | exact HB.out | apply below_alloc | apply pw_below_drewN | apply below_drew1 | refine below_set ?_ GE220.out) | exact HB.out)⟩

end Go.Proofs.Ytokbcenkgdpepaa.M
