/-
  The plain law of record.All, and what its records are.
-/
import Derived.Test.YtokbcenkgdpepaaSpecD
import Derived.Test.YtokbcenkgdpepaaMx29
import Derived.Test.YtokbcenkgdpepaaMx30
namespace Go.Proofs.Ytokbcenkgdpepaa.Spec
open Go.RowKit Go.Proofs.Ytokbcenkgdpepaa.M Go.Proofs.YtokbcenkgdpepaaW.PrintWords Go.Proofs.YtokbcenkgdpepaaW.PrintLast Go.Proofs.YtokbcenkgdpepaaW.PrintMore

def rec_ (t : RN) : S53 := ⟨t.1, t.2.1, t.2.2.1, t.2.2.2.1, t.2.2.2.2.1⟩
def nx (t : RN) : Int := t.2.2.2.2.2.1
def er (t : RN) : Int := t.2.2.2.2.2.2
/-- All records from a place on; the error. d: at most so many. -/
def rallN : Nat → List Int → Int → Int → List S53 × Int
  | 0, _, _, _ => ([], 0)
  | d + 1, l, a, b => if a < b then (if er (rnext l a b) = 0 then (rec_ (rnext l a b) :: (rallN d l (nx (rnext l a b)) b).1, (rallN d l (nx (rnext l a b)) b).2) else ([], er (rnext l a b))) else ([], 0)
def rall (l : List Int) (a b : Int) : List S53 × Int := if mayB l.length a b = true then rallN (b - a).toNat l a b else ([], 1)

/-- What a record is that is told. -/
structure Good (l : List Int) (a b : Int) : Prop where
  a0 : 0 ≤ a
  bl : b ≤ l.length
  put : tputB (rec_ (rnext l a b)).f0 (rec_ (rnext l a b)).f1 = true
  n0 : 0 ≤ (rec_ (rnext l a b)).f2
  n1 : (rec_ (rnext l a b)).f2 < 18446744073709551616
  from_ : a < (rec_ (rnext l a b)).f3
  upto : (rec_ (rnext l a b)).f3 ≤ (rec_ (rnext l a b)).f4
  next : nx (rnext l a b) = (rec_ (rnext l a b)).f4
  two : a + 2 ≤ nx (rnext l a b)
  end_ : nx (rnext l a b) ≤ b
theorem tget_ok {l : List Int} {a b : Int} (h : (tget l a b).2.2.2 = 0) : (vget l a b).2.2 = 0 ∧ tputB (tget l a b).1 (tget l a b).2.1 = true ∧ (tget l a b).2.2.1 = (vget l a b).2.1 := by
  unfold tget at h ⊢
  by_cases c : (vget l a b).2.2 = 0
  · have ok := vget_ok c
    rw [if_pos c] at h ⊢
    by_cases c1 : (vget l a b).1 > 4294967295 ∨ (vget l a b).1 / 8 = 0
    · rw [if_pos c1] at h; exact absurd h (by decide)
    · rw [if_neg c1] at h ⊢
      by_cases c2 : knownB ((vget l a b).1 % 8) = true
      · rw [if_pos c2]
        refine ⟨c, ?_, rfl⟩
        unfold tputB
        rw [Bool.and_eq_true]
        exact ⟨decide_eq_true (by simp only; omega), c2⟩
      · rw [if_neg c2] at h; exact absurd h (by decide)
  · rw [if_neg c] at h; exact absurd h c
theorem rnext_cases {l : List Int} {a b : Int} (h : er (rnext l a b) = 0) : (tget l a b).2.2.2 = 0 ∧ (rnum l (tget l a b).2.2.1 b (tget l a b).2.1).2.2 = 0 ∧
    (((tget l a b).2.1 = 2 ∧ ¬ (rnum l (tget l a b).2.2.1 b (tget l a b).2.1).1 > b - (rnum l (tget l a b).2.2.1 b (tget l a b).2.1).2.1 ∧
      rnext l a b = ((tget l a b).1, (tget l a b).2.1, (rnum l (tget l a b).2.2.1 b (tget l a b).2.1).1, (rnum l (tget l a b).2.2.1 b (tget l a b).2.1).2.1, (rnum l (tget l a b).2.2.1 b (tget l a b).2.1).2.1 + (rnum l (tget l a b).2.2.1 b (tget l a b).2.1).1, (rnum l (tget l a b).2.2.1 b (tget l a b).2.1).2.1 + (rnum l (tget l a b).2.2.1 b (tget l a b).2.1).1, 0)) ∨
     (¬ (tget l a b).2.1 = 2 ∧ rnext l a b = ((tget l a b).1, (tget l a b).2.1, (rnum l (tget l a b).2.2.1 b (tget l a b).2.1).1, (tget l a b).2.2.1, (rnum l (tget l a b).2.2.1 b (tget l a b).2.1).2.1, (rnum l (tget l a b).2.2.1 b (tget l a b).2.1).2.1, 0))) := by
  unfold er rnext at h
  unfold rnext
  by_cases c : (tget l a b).2.2.2 = 0
  · rw [if_pos c] at h ⊢
    by_cases c1 : (rnum l (tget l a b).2.2.1 b (tget l a b).2.1).2.2 = 0
    · rw [if_pos c1] at h ⊢
      by_cases c2 : (tget l a b).2.1 = 2
      · rw [if_pos c2] at h ⊢
        by_cases c3 : (rnum l (tget l a b).2.2.1 b (tget l a b).2.1).1 > b - (rnum l (tget l a b).2.2.1 b (tget l a b).2.1).2.1
        · rw [if_pos c3] at h; exact absurd h (by decide)
        · rw [if_neg c3]; exact ⟨c, c1, .inl ⟨c2, c3, rfl⟩⟩
      · rw [if_neg c2]; exact ⟨c, c1, .inr ⟨c2, rfl⟩⟩
    · rw [if_neg c1] at h; exact absurd h c1
  · rw [if_neg c] at h; exact absurd h c
theorem good_of {l : List Int} (hb : Byt l) {a b : Int} (h : er (rnext l a b) = 0) : Good l a b := by
  obtain ⟨h1, h2, h3⟩ := rnext_cases h
  obtain ⟨v0, tp, tv⟩ := tget_ok h1
  have ok := vget_ok v0
  have rk := rnum_ok hb h2
  rcases h3 with ⟨_, c, e⟩ | ⟨_, e⟩
  all_goals
    have e0 : (rec_ (rnext l a b)).f0 = (tget l a b).1 := by rw [e]; rfl
    have e1 : (rec_ (rnext l a b)).f1 = (tget l a b).2.1 := by rw [e]; rfl
    have e2 : (rec_ (rnext l a b)).f2 = (rnum l (tget l a b).2.2.1 b (tget l a b).2.1).1 := by rw [e]; rfl
  · have e3 : (rec_ (rnext l a b)).f3 = (rnum l (tget l a b).2.2.1 b (tget l a b).2.1).2.1 := by rw [e]; rfl
    have e4 : (rec_ (rnext l a b)).f4 = (rnum l (tget l a b).2.2.1 b (tget l a b).2.1).2.1 + (rnum l (tget l a b).2.2.1 b (tget l a b).2.1).1 := by rw [e]; rfl
    have e5 : nx (rnext l a b) = (rnum l (tget l a b).2.2.1 b (tget l a b).2.1).2.1 + (rnum l (tget l a b).2.2.1 b (tget l a b).2.1).1 := by rw [e]; rfl
    exact ⟨ok.1, ok.2.2.1, by rw [e0, e1]; exact tp, by omega, by omega, by omega, by omega, by omega, by omega, by omega⟩
  · have e3 : (rec_ (rnext l a b)).f3 = (tget l a b).2.2.1 := by rw [e]; rfl
    have e4 : (rec_ (rnext l a b)).f4 = (rnum l (tget l a b).2.2.1 b (tget l a b).2.1).2.1 := by rw [e]; rfl
    have e5 : nx (rnext l a b) = (rnum l (tget l a b).2.2.1 b (tget l a b).2.1).2.1 := by rw [e]; rfl
    exact ⟨ok.1, ok.2.2.1, by rw [e0, e1]; exact tp, by omega, by omega, by omega, by omega, by omega, by omega, by omega⟩
theorem rall_loop (l : List Int) (hb : Byt l) (hs : l.length < 3518437208883) (b : Int) (hbl : b ≤ l.length) (d : Nat) : ∀ (a : Int) (out : List S53), 0 ≤ a → b - a ≤ d → (out.length : Int) + (b - a) < 3518437208883 → out.length < 3518437208883 →
    Ev (fun k => record_All.l0 k l a b out) (out ++ (rallN d l a b).1, (rallN d l a b).2) := by
  induction d with
  | zero =>
    intro a out h0 hd _ _
    refine Ev.step (f := fun _ => some (out, 0)) (fun k => ?_) (by simpa [rallN] using Ev.now (out, (0 : Int)))
    simp only [record_All.l0]
    rw [if_neg (by omega)]
  | succ d ih =>
    intro a out h0 hd hl hol
    by_cases c : a < b
    · refine Ev.step (f := fun k => (record_Next.f k l a b).bind fun t => (if t.2.2.2.2.2.2 = 0 then (if out.length < 3518437208883 then (record_All.l0 k l t.2.2.2.2.2.1 b (out ++ [(⟨t.1, t.2.1, t.2.2.1, t.2.2.2.1, t.2.2.2.2.1⟩ : S53)])) else (none)) else (some (out, t.2.2.2.2.2.2)))) (fun k => ?_) ?_
      · simp only [record_All.l0]; rw [if_pos c]
      · refine Ev.bind (f := fun k t => (if t.2.2.2.2.2.2 = 0 then (if out.length < 3518437208883 then (record_All.l0 k l t.2.2.2.2.2.1 b (out ++ [(⟨t.1, t.2.1, t.2.2.1, t.2.2.2.1, t.2.2.2.2.1⟩ : S53)])) else (none)) else (some (out, t.2.2.2.2.2.2)))) (rnext_tells l hb (by omega) a b) ?_
        by_cases he : er (rnext l a b) = 0
        · have g := good_of hb he
          have e1 : rallN (d + 1) l a b = (rec_ (rnext l a b) :: (rallN d l (nx (rnext l a b)) b).1, (rallN d l (nx (rnext l a b)) b).2) := by rw [rallN, if_pos c, if_pos he]
          have he' : (rnext l a b).2.2.2.2.2.2 = 0 := he
          rw [e1]
          refine Ev.congr (f := fun k => record_All.l0 k l (nx (rnext l a b)) b (out ++ [rec_ (rnext l a b)])) (fun k => ?_) ?_
          · simp only [he', if_true]; rw [if_pos hol]; rfl
          · have := g.two
            have i := ih (nx (rnext l a b)) (out ++ [rec_ (rnext l a b)]) (by omega) (by omega) (by simp; omega) (by simp; omega)
            simpa using i
        · have e1 : rallN (d + 1) l a b = ([], er (rnext l a b)) := by rw [rallN, if_pos c, if_neg he]
          have he' : ¬ (rnext l a b).2.2.2.2.2.2 = 0 := he
          rw [e1, List.append_nil]
          exact Ev.congr (f := fun _ => some (out, er (rnext l a b))) (fun k => by simp only [he', if_false]; rfl) (Ev.now _)
    · have e1 : rallN (d + 1) l a b = ([], 0) := by rw [rallN, if_neg c]
      rw [e1, List.append_nil]
      refine Ev.step (f := fun _ => some (out, 0)) (fun k => ?_) (Ev.now _)
      simp only [record_All.l0]
      rw [if_neg c]
theorem rall_tells (l : List Int) (hb : Byt l) (hs : l.length < 3518437208883) (a b : Int) : Ev (fun k => record_All.f k l a b) (rall l a b) := by
  by_cases hm : mayB l.length a b = true
  · have h := of_decide_eq_true hm
    have e : rall l a b = ([] ++ (rallN (b - a).toNat l a b).1, (rallN (b - a).toNat l a b).2) := by unfold rall; rw [if_pos hm]; rfl
    rw [e]
    refine Ev.congr (f := fun k => record_All.l0 k l a b []) (fun k => ?_) (rall_loop l hb hs b h.2.2 _ a [] h.1 (by omega) (by simp; omega) (by simp))
    show record_All.f k l a b = _
    unfold record_All.f
    rw [may_tells, bnd, if_pos hm]
  · have e : rall l a b = ([], 1) := by unfold rall; rw [if_neg hm]
    rw [e]
    refine Ev.congr (f := fun _ => some ([], 1)) (fun k => ?_) (Ev.now _)
    show record_All.f k l a b = _
    unfold record_All.f
    rw [may_tells, bnd, if_neg hm]
/-- More would come to the same. -/
theorem rallN_more (l : List Int) (hb : Byt l) (b : Int) (d : Nat) : ∀ (e : Nat) (a : Int), b - a ≤ d → b - a ≤ e → rallN d l a b = rallN e l a b := by
  induction d with
  | zero =>
    intro e a h1 h2
    cases e with
    | zero => rfl
    | succ e => rw [rallN, rallN, if_neg (by omega)]
  | succ d ih =>
    intro e a h1 h2
    cases e with
    | zero => rw [rallN, rallN, if_neg (by omega)]
    | succ e =>
      rw [rallN, rallN]
      by_cases c : a < b
      · rw [if_pos c, if_pos c]
        by_cases he : er (rnext l a b) = 0
        · have := (good_of hb he).two
          rw [if_pos he, if_pos he, ih e _ (by omega) (by omega)]
        · rw [if_neg he, if_neg he]
      · rw [if_neg c, if_neg c]
theorem rallN_step {l : List Int} {a b : Int} (d : Nat) (c : a < b) (he : er (rnext l a b) = 0) : rallN (d + 1) l a b = (rec_ (rnext l a b) :: (rallN d l (nx (rnext l a b)) b).1, (rallN d l (nx (rnext l a b)) b).2) := by rw [rallN, if_pos c, if_pos he]
theorem rallN_err {l : List Int} {a b : Int} (d : Nat) (c : a < b) (he : ¬ er (rnext l a b) = 0) : rallN (d + 1) l a b = ([], er (rnext l a b)) := by rw [rallN, if_pos c, if_neg he]
theorem rallN_end {l : List Int} {a b : Int} (d : Nat) (c : ¬ a < b) : rallN d l a b = ([], 0) := by
  cases d with
  | zero => rfl
  | succ d => rw [rallN, if_neg c]

/-! ### Recs -/
theorem rd53_at (l : List S53) (i : Nat) (h : i < l.length) : rd_T53 l (i : Int) = l[i] := by simp [rd_T53, h]
theorem s53_eq (a b : S53) : (!(a.f0 == b.f0) || (!(a.f1 == b.f1) || (!(a.f2 == b.f2) || (!(a.f3 == b.f3) || (!(a.f4 == b.f4)))))) = true ↔ ¬ a = b := by
  obtain ⟨a0, a1, a2, a3, a4⟩ := a
  obtain ⟨b0, b1, b2, b3, b4⟩ := b
  simp only [Bool.or_eq_true, Bool.not_eq_true', beq_eq_false_iff_ne, S53.mk.injEq]
  omega
theorem recs_loop (a : List S53) (hs : a.length < 9223372036854775807) (d : Nat) : ∀ (i k : Nat), i + d = a.length → d < k → truffleref05_Recs.l0 k a a i = some true := by
  induction d with
  | zero =>
    intro i k hi hk
    obtain ⟨k, rfl⟩ : ∃ m, k = m + 1 := ⟨k - 1, by omega⟩
    simp only [truffleref05_Recs.l0]
    rw [if_neg (by omega)]
  | succ d ih =>
    intro i k hi hk
    obtain ⟨k, rfl⟩ : ∃ m, k = m + 1 := ⟨k - 1, by omega⟩
    simp only [truffleref05_Recs.l0]
    rw [if_pos (by omega), if_pos (by omega), if_pos (by omega), if_neg (by rw [s53_eq]; simp), wrap64_id (by omega) (by omega), show ((i : Int) + 1) = ((i + 1 : Nat) : Int) by omega]
    exact ih (i + 1) k (by omega) (by omega)
theorem recs_tells (a : List S53) (hs : a.length < 9223372036854775807) : Ev (fun k => truffleref05_Recs.f k a a) true :=
  ⟨a.length + 1, fun k hk => by
    show truffleref05_Recs.f k a a = _
    unfold truffleref05_Recs.f
    rw [if_pos rfl]
    exact recs_loop a hs a.length 0 k (by omega) (by omega)⟩
theorem rallN_len (l : List Int) (hb : Byt l) (b : Int) (d : Nat) : ∀ a : Int, a ≤ b → 2 * ((rallN d l a b).1.length : Int) ≤ b - a := by
  induction d with
  | zero => intro a h; simp [rallN]; omega
  | succ d ih =>
    intro a h
    by_cases c : a < b
    · by_cases he : er (rnext l a b) = 0
      · have g := good_of hb he
        have := ih (nx (rnext l a b)) g.end_
        have t := g.two
        rw [rallN_step d c he]
        simp only [List.length_cons]; omega
      · rw [rallN_err d c he]; simp; omega
    · rw [rallN_end _ c]; simp; omega
theorem rall_of {l : List Int} {a b : Int} (h0 : 0 ≤ a) (h1 : a ≤ b) (h2 : b ≤ l.length) : rall l a b = rallN (b - a).toNat l a b := by
  have m : mayB l.length a b = true := decide_eq_true ⟨h0, h1, h2⟩
  unfold rall; rw [if_pos m]
end Go.Proofs.Ytokbcenkgdpepaa.Spec
