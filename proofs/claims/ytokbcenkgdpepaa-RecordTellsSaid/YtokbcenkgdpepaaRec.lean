/-
  An argument of type api.Rec (five whole numbers), opened: its value written out, each number of its kind.
-/
import Derived.Test.YtokbcenkgdpepaaProg
import Derived.WalkKit
import Derived.OpenShut
import Derived.Deep.Fields
import Derived.ChangeArms
import Derived.WideShapes
import Derived.ProofKit
namespace Go.Proofs.Ytokbcenkgdpepaa.Rec
open Go.ChangeShapes Go.WideShapes Go.RowKit Go.Deep
theorem open_rec {H : Type} {enc : TypeId × Value → H} {w : World} {base b0 : Nat} {spare : Nat → Bool} {held : Bool} {r : Reach} {v : Value} {d : DataW H} {p : List MemPlace}
    (hv : Value.okWide Try.prog w r b0 53 v) (h : DataW.Trod enc Try.prog w base spare held 53 v d p) :
    ∃ a0 a1 a2 a3 a4 : Int, v = .agg #[.int .i64 a0, .int .i64 a1, .int .u64 a2, .int .i64 a3, .int .i64 a4] ∧
      (Lit.int .i64 a0).wf = true ∧ (Lit.int .i64 a1).wf = true ∧ (Lit.int .u64 a2).wf = true ∧ (Lit.int .i64 a3).wf = true ∧ (Lit.int .i64 a4).wf = true := by
  obtain ⟨cs, rfl, hsz⟩ := okWide_struct Try.underlying53 hv
  have hC : Try.prog.cellsOf 53 = 5 := by kernel_rfl
  rw [hC] at hsz
  obtain ⟨l⟩ := cs
  obtain ⟨fuel, hf⟩ := h
  obtain ⟨xs, n, _, _, _, hl, hg⟩ := DataW.trod_struct Try.underlying53 hf
  have k3 : Try.prog.cellsOf 3 = 1 := by kernel_rfl
  have k24 : Try.prog.cellsOf 24 = 1 := by kernel_rfl
  match l, hsz, xs, hl with
  | [c0, c1, c2, c3, c4], _, [x0, x1, x2, x3, x4], _ =>
    have g0 : DataW.trod enc Try.prog w base spare held n 3 ([c0, c1, c2, c3, c4].take (Try.prog.cellsOf 3)) = some x0 := hg 0 _ rfl
    have g1 : DataW.trod enc Try.prog w base spare held n 3 ([c1, c2, c3, c4].take (Try.prog.cellsOf 3)) = some x1 := hg 1 _ rfl
    have g2 : DataW.trod enc Try.prog w base spare held n 24 ([c2, c3, c4].take (Try.prog.cellsOf 24)) = some x2 := hg 2 _ rfl
    have g3 : DataW.trod enc Try.prog w base spare held n 3 ([c3, c4].take (Try.prog.cellsOf 3)) = some x3 := hg 3 _ rfl
    have g4 : DataW.trod enc Try.prog w base spare held n 3 ([c4].take (Try.prog.cellsOf 3)) = some x4 := hg 4 _ rfl
    rw [k3] at g0 g1 g3 g4
    rw [k24] at g2
    obtain ⟨a0, e0, _, w0⟩ := DataW.trod_int Try.underlying3 g0
    obtain ⟨a1, e1, _, w1⟩ := DataW.trod_int Try.underlying3 g1
    obtain ⟨a2, e2, _, w2⟩ := DataW.trod_int Try.underlying24 g2
    obtain ⟨a3, e3, _, w3⟩ := DataW.trod_int Try.underlying3 g3
    obtain ⟨a4, e4, _, w4⟩ := DataW.trod_int Try.underlying3 g4
    simp only [List.take_succ_cons, List.take_zero, List.cons.injEq, and_true] at e0 e1 e2 e3 e4
    subst e0 e1 e2 e3 e4
    exact ⟨a0, a1, a2, a3, a4, rfl, w0, w1, w2, w3, w4⟩
end Go.Proofs.Ytokbcenkgdpepaa.Rec
