/-
  RecordParts is true: all records stand one behind the other, and end where all does; those of two parts are those of both, if the first part has no error. For every input; no condition.
-/
import Derived.Test.YtokbcenkgdpepaaMx31
import Derived.Test.YtokbcenkgdpepaaSpecE
namespace Go.Proofs.Ytokbcenkgdpepaa.Pure
open Go.RowKit Go.Proofs.Ytokbcenkgdpepaa.M Go.Proofs.Ytokbcenkgdpepaa.Spec Go.Proofs.YtokbcenkgdpepaaW.PrintWords Go.Proofs.YtokbcenkgdpepaaW.PrintLast Go.Proofs.YtokbcenkgdpepaaW.PrintMore


theorem vdec_append (d : Nat) : ∀ s t, (vdec d s).1 = 0 → vdec d (s ++ t) = vdec d s := by
  induction d with
  | zero => intro s t h; simp [vdec] at h
  | succ d ih =>
    intro s t h
    cases s with
    | nil => simp [vdec] at h
    | cons c s =>
      rw [List.cons_append]
      by_cases hc : c < 128
      · rw [vdec, vdec, if_pos hc, if_pos hc]
      · by_cases hz : (vdec d s).1 = 0
        · rw [vdec, vdec, if_neg hc, if_neg hc, ih s t hz]
        · have hv : vdec (d + 1) (c :: s) = ((vdec d s).1, 0, 0) := by rw [vdec, if_neg hc, if_neg hz]
          rw [hv] at h; exact absurd h hz
theorem part_append (l : List Int) (a b b' : Nat) (hab : a ≤ b) (hbb : b ≤ b') (hl : b' ≤ l.length) : ∃ t, (l.take b').drop a = (l.take b).drop a ++ t := by
  refine ⟨(l.drop b).take (b' - b), ?_⟩
  have e : l.take b' = l.take b ++ (l.drop b).take (b' - b) := by
    rw [← List.take_add]; congr 1; omega
  rw [e, List.drop_append_of_le_length (by simp; omega)]
theorem vget_mono {l : List Int} {a b b' : Int} (h : (vget l a b).2.2 = 0) (hb : b ≤ b') (hl : b' ≤ l.length) : vget l a b' = vget l a b := by
  have ok := vget_ok h
  obtain ⟨t, ht⟩ := part_append l a.toNat b.toNat b'.toNat (by omega) (by omega) (by omega)
  have hm : mayB l.length a b' = true := decide_eq_true (by omega)
  have h0 := ok.2.2.2.2.2.2.2.2.1
  have hv := ok.2.2.2.2.2.2.2.2.2
  have e := vdec_append 10 _ t h0
  rw [← ht] at e
  rw [vget_bytes hm rfl, e, if_pos h0]
  exact hv.symm
theorem vunfix_mono {l : List Int} (hB : Byt l) {a b b' z : Int} (h : (vunfix l a b z).2.2 = 0) (hb : b ≤ b') (hl : b' ≤ l.length) : vunfix l a b' z = vunfix l a b z := by
  have ok := vunfix_ok hB h
  have m1 : mayB l.length a b = true := decide_eq_true (by omega)
  have m2 : mayB l.length a b' = true := decide_eq_true (by omega)
  have hs : sizedB z = true := decide_eq_true ok.2.2.1
  unfold vunfix
  rw [m1, m2, hs]
  simp only [Bool.and_true, if_true]
  rw [if_neg (by omega), if_neg (by omega)]
theorem rnum_mono {l : List Int} (hB : Byt l) {a b b' w : Int} (h : (rnum l a b w).2.2 = 0) (hb : b ≤ b') (hl : b' ≤ l.length) : rnum l a b' w = rnum l a b w := by
  unfold rnum at h ⊢
  by_cases h1 : w = 1
  · rw [if_pos h1] at h; rw [if_pos h1, if_pos h1]; exact vunfix_mono hB h hb hl
  · rw [if_neg h1] at h; rw [if_neg h1, if_neg h1]
    by_cases h2 : w = 5
    · rw [if_pos h2] at h; rw [if_pos h2, if_pos h2]; exact vunfix_mono hB h hb hl
    · rw [if_neg h2] at h; rw [if_neg h2, if_neg h2]; exact vget_mono h hb hl
theorem rnext_mono {l : List Int} (hB : Byt l) {a b b' : Int} (h : er (rnext l a b) = 0) (hb : b ≤ b') (hl : b' ≤ l.length) : rnext l a b' = rnext l a b := by
  obtain ⟨h1, h2, h3⟩ := rnext_cases h
  obtain ⟨v0, _, _⟩ := tget_ok h1
  have ev := vget_mono v0 hb hl
  have et : tget l a b' = tget l a b := by unfold tget; rw [ev]
  have en := rnum_mono hB h2 hb hl
  rcases h3 with ⟨c, c3, e⟩ | ⟨c, e⟩
  · rw [e]; unfold rnext; rw [et, if_pos h1, en, if_pos h2, if_pos c, if_neg (by omega)]
  · rw [e]; unfold rnext; rw [et, if_pos h1, en, if_pos h2, if_neg c]
theorem rall_split (l : List Int) (hB : Byt l) (cut : Int) (hc : cut ≤ l.length) (d : Nat) : ∀ (a : Int) (e e' : Nat), 0 ≤ a → a ≤ cut → cut - a ≤ d → (l.length : Int) - a ≤ e → (l.length : Int) - cut ≤ e' → (rallN d l a cut).2 = 0 →
    rallN e l a l.length = ((rallN d l a cut).1 ++ (rallN e' l cut l.length).1, (rallN e' l cut l.length).2) := by
  induction d with
  | zero =>
    intro a e e' h0 h1 h2 h3 h4 _
    obtain rfl : a = cut := by omega
    simp only [rallN, List.nil_append]
    exact rallN_more l hB _ e e' a h3 h4
  | succ d ih =>
    intro a e e' h0 h1 h2 h3 h4 h5
    by_cases c : a < cut
    · by_cases he : er (rnext l a cut) = 0
      · have g := good_of hB he
        have t := g.two
        have t2 := g.end_
        have em := rnext_mono hB he hc (by omega)
        rw [rallN_step d c he] at h5 ⊢
        obtain ⟨e, rfl⟩ : ∃ m, e = m + 1 := ⟨e - 1, by omega⟩
        rw [rallN_step e (by omega) (by rw [em]; exact he), em, ih (nx (rnext l a cut)) e e' (by omega) (by omega) (by omega) (by omega) h4 h5]
        rfl
      · rw [rallN_err d c he] at h5; exact absurd h5 he
    · obtain rfl : a = cut := by omega
      rw [rallN_end _ c]
      simp only [List.nil_append]
      exact rallN_more l hB _ e e' a h3 h4
theorem parts_loop (l : List Int) (hB : Byt l) (hs : l.length ≤ 3000) (cut : Int) (R : List S53) (E : Int) (hR : R.length ≤ 3000) (fin : Ev (fun k => trufflelaw05_RecordParts.j2 k l cut R E false) true) (d : Nat) : ∀ (a : Int) (i : Nat), 0 ≤ a → a ≤ l.length → (l.length : Int) - a ≤ d → i ≤ R.length → R.drop i = (rallN d l a l.length).1 → E = (rallN d l a l.length).2 →
    Ev (fun k => trufflelaw05_RecordParts.l0 k l cut R E a i) true := by
  -- no record is left
  have stop : ∀ (a : Int) (i : Nat), R.length ≤ i → (E = 0 → a = l.length) → Ev (fun k => trufflelaw05_RecordParts.l0 k l cut R E a i) true := by
    intro a i hi ha
    refine Ev.step (f := fun k => trufflelaw05_RecordParts.j2 k l cut R E false) (fun k => ?_) fin
    simp only [trufflelaw05_RecordParts.l0]
    rw [if_neg (by omega)]
    by_cases c : E = 0
    · rw [if_pos c, ha c]; simp
    · rw [if_neg c]
  induction d with
  | zero =>
    intro a i h0 h1 h2 hi hd hE
    have e : (rallN 0 l a l.length).1 = [] := rfl
    rw [e] at hd
    exact stop a i (by have := congrArg List.length hd; simp at this; omega) (fun _ => by omega)
  | succ d ih =>
    intro a i h0 h1 h2 hi hd hE
    by_cases c : a < l.length
    · by_cases he : er (rnext l a l.length) = 0
      · have g := good_of hB he
        rw [rallN_step d c he] at hd hE
        have hlt : i < R.length := by
          have := congrArg List.length hd
          simp at this; omega
        rw [List.drop_eq_getElem_cons hlt] at hd
        have hr : R[i] = rec_ (rnext l a l.length) := (List.cons.inj hd).1
        have hrd : rd_T53 R (i : Int) = rec_ (rnext l a l.length) := by rw [rd53_at R i hlt, hr]
        have q := ih (nx (rnext l a l.length)) (i + 1) (by have := g.two; omega) g.end_ (by have := g.two; omega) (by omega) (List.cons.inj hd).2 hE
        refine Ev.step (f := fun k => trufflelaw05_RecordParts.l0 k l cut R E (nx (rnext l a l.length)) ((i + 1 : Nat) : Int)) (fun k => ?_) q
        have f1 := g.from_
        have f2 := g.upto
        have f3 := g.next
        have f4 := g.end_
        simp only [trufflelaw05_RecordParts.l0]
        rw [if_pos (by omega), if_pos (by omega), hrd, if_neg (by omega), if_neg (by omega), if_neg (by omega), f3, wrap64_id (by omega) (by omega)]
        rfl
      · rw [rallN_err d c he] at hd hE
        exact stop a i (by have := congrArg List.length hd; simp at this; omega) (fun e => absurd (hE.symm.trans e) he)
    · rw [rallN_end _ c] at hd hE
      exact stop a i (by have := congrArg List.length hd; simp at this; omega) (fun _ => by omega)
theorem RecordParts : trufflelaw05_RecordParts.Pure := by
  intro l cut hm hs hw hcut
  have hB := Byt.of_wf hw
  obtain ⟨Ka, ea⟩ : ∃ K, ∀ k, K ≤ k → trufflelaw05_awake.f k = some true := awake5
  by_cases c0 : (l.length : Int) > 3000
  · refine ⟨Ka + 1, ?_⟩
    unfold trufflelaw05_RecordParts.f
    rw [ea _ (by omega), bnd, if_pos rfl, if_pos c0]
    simp only [trufflelaw05_RecordParts.j0, if_true]
  · by_cases c1 : cut < 0
    · refine ⟨Ka + 1, ?_⟩
      unfold trufflelaw05_RecordParts.f
      rw [ea _ (by omega), bnd, if_pos rfl, if_neg c0, if_pos c1]
      simp only [trufflelaw05_RecordParts.j0, if_true]
    · by_cases c2 : cut > (l.length : Int)
      · refine ⟨Ka + 1, ?_⟩
        unfold trufflelaw05_RecordParts.f
        rw [ea _ (by omega), bnd, if_pos rfl, if_neg c0, if_neg c1, decide_eq_true c2]
        simp only [trufflelaw05_RecordParts.j0, if_true]
      · have ra : rall l 0 l.length = rallN l.length l 0 l.length := by rw [rall_of (by omega) (by omega) (by omega)]; simp
        have rx : rall l 0 cut = rallN cut.toNat l 0 cut := by rw [rall_of (by omega) (by omega) (by omega)]; simp
        have ry : rall l cut l.length = rallN ((l.length : Int) - cut).toNat l cut l.length := rall_of (by omega) (by omega) (by omega)
        have hlen := rallN_len l hB l.length l.length 0 (by omega)
        have hlx := rallN_len l hB cut cut.toNat 0 (by omega)
        have hly := rallN_len l hB l.length ((l.length : Int) - cut).toNat cut (by omega)
        obtain ⟨K1, e1⟩ : ∃ K, ∀ k, K ≤ k → record_All.f k l 0 (l.length : Int) = some (rall l 0 l.length) := rall_tells l hB (by omega) _ _
        obtain ⟨K2, e2⟩ : ∃ K, ∀ k, K ≤ k → record_All.f k l 0 cut = some (rall l 0 cut) := rall_tells l hB (by omega) _ _
        obtain ⟨K3, e3⟩ : ∃ K, ∀ k, K ≤ k → record_All.f k l cut (l.length : Int) = some (rall l cut l.length) := rall_tells l hB (by omega) _ _
        obtain ⟨K4, e4⟩ : ∃ K, ∀ k, K ≤ k → truffleref05_Recs.f k (rall l 0 l.length).1 (rall l 0 l.length).1 = some true := recs_tells _ (by rw [ra]; omega)
        have fin : Ev (fun k => trufflelaw05_RecordParts.j2 k l cut (rall l 0 l.length).1 (rall l 0 l.length).2 false) true := by
          refine ⟨K2 + K3 + K4 + 1, fun k hk => ?_⟩
          show trufflelaw05_RecordParts.j2 k l cut _ _ false = _
          obtain ⟨k, rfl⟩ : ∃ m, k = m + 1 := ⟨k - 1, by omega⟩
          simp only [trufflelaw05_RecordParts.j2]
          rw [if_neg (by decide), e2 _ (by omega), bnd, e3 _ (by omega), bnd]
          by_cases c : (rall l 0 cut).2 = 0
          · have sp := rall_split l hB cut (by omega) cut.toNat 0 l.length ((l.length : Int) - cut).toNat (by omega) (by omega) (by omega) (by omega) (by omega) (by rw [← rx]; exact c)
            rw [← rx, ← ry, ← ra] at sp
            have s1 : (rall l cut l.length).2 = (rall l 0 l.length).2 := by rw [sp]
            have s2 : (rall l 0 cut).1 ++ (rall l cut l.length).1 = (rall l 0 l.length).1 := by rw [sp]
            have q1 : (rall l 0 cut).1.length ≤ 3000 := by rw [rx]; omega
            have q2 : (rall l cut l.length).1.length ≤ 3000 := by rw [ry]; omega
            rw [if_pos c, if_pos s1, if_pos (by simp; omega), bnd, List.nil_append, if_pos (by omega), s2, e4 _ (by omega), bnd]
          · rw [if_neg c]
        obtain ⟨K5, e5⟩ : ∃ K, ∀ k, K ≤ k → trufflelaw05_RecordParts.l0 k l cut (rall l 0 l.length).1 (rall l 0 l.length).2 0 0 = some true :=
          parts_loop l hB (by omega) cut _ _ (by rw [ra]; omega) fin l.length 0 0 (by omega) (by omega) (by omega) (by omega) (by rw [ra]; rfl) (by rw [ra])
        refine ⟨Ka + K1 + K5 + 1, ?_⟩
        unfold trufflelaw05_RecordParts.f
        rw [ea _ (by omega), bnd, if_pos rfl, if_neg c0, if_neg c1, decide_eq_false c2]
        simp only [trufflelaw05_RecordParts.j0]
        rw [if_neg (by decide), e1 _ (by omega), bnd, e5 _ (by omega)]

end Go.Proofs.Ytokbcenkgdpepaa.Pure
