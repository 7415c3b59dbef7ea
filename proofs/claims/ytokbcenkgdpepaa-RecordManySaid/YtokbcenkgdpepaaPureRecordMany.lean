/-
  RecordMany is true: each record has two bytes at least; records that are put again are read again, as many, with the same numbers. For every input; no condition.
-/
import Derived.Test.YtokbcenkgdpepaaMx39
import Derived.Test.YtokbcenkgdpepaaSpecE
namespace Go.Proofs.Ytokbcenkgdpepaa.Pure
open Go.RowKit Go.Proofs.Ytokbcenkgdpepaa.M Go.Proofs.Ytokbcenkgdpepaa.Spec Go.Proofs.YtokbcenkgdpepaaW.PrintWords Go.Proofs.YtokbcenkgdpepaaW.PrintLast Go.Proofs.YtokbcenkgdpepaaW.PrintMore


/-- What a record of some bytes is, so that it may be put again. -/
structure Fine (n : Nat) (r : S53) : Prop where
  put : tputB r.f0 r.f1 = true
  n0 : 0 ≤ r.f2
  n1 : r.f2 < 18446744073709551616
  p0 : 0 ≤ r.f3
  p1 : r.f3 ≤ r.f4
  p2 : r.f4 ≤ n
  run : r.f1 = 2 → r.f2 = r.f4 - r.f3
  four : r.f1 = 5 → r.f2 < 4294967296 ∧ r.f4 - r.f3 = 4
  eight : r.f1 = 1 → r.f4 - r.f3 = 8
  var : r.f1 = 0 → ((vput r.f2.toNat).length : Int) ≤ r.f4 - r.f3
theorem vdec_bound (d : Nat) : ∀ s, Byt s → (vdec d s).1 = 0 → (vdec d s).2.1 < 128 ^ (vdec d s).2.2.toNat := by
  induction d with
  | zero => intro s _ h; simp [vdec] at h
  | succ d ih =>
    intro s hs h
    cases s with
    | nil => simp [vdec] at h
    | cons c s =>
      have h0 := hs c (by simp)
      by_cases hc : c < 128
      · have hv : vdec (d + 1) (c :: s) = (0, c, 1) := by rw [vdec, if_pos hc]
        rw [hv]; simpa using hc
      · by_cases hz : (vdec d s).1 = 0
        · have hv : vdec (d + 1) (c :: s) = (0, c % 128 + 128 * (vdec d s).2.1, (vdec d s).2.2 + 1) := by rw [vdec, if_neg hc, if_pos hz]
          have i := ih s (fun x hx => hs x (by simp [hx])) hz
          have l := vdec_len d s hz
          rw [hv]
          simp only
          rw [show ((vdec d s).2.2 + 1).toNat = (vdec d s).2.2.toNat + 1 by omega, Int.pow_succ]
          omega
        · have hv : vdec (d + 1) (c :: s) = ((vdec d s).1, 0, 0) := by rw [vdec, if_neg hc, if_neg hz]
          rw [hv] at h; exact absurd h hz
theorem vput_len_lt (m : Nat) (n : Nat) (hm : 1 ≤ m) (h : n < 128 ^ m) : (vput n).length ≤ m := by
  obtain ⟨d, rfl⟩ : ∃ d, m = d + 1 := ⟨m - 1, by omega⟩
  exact (vput_len d n h).2
theorem fine_of {l : List Int} (hB : Byt l) {a b : Int} (h : er (rnext l a b) = 0) : Fine l.length (rec_ (rnext l a b)) := by
  have g := good_of hB h
  obtain ⟨h1, h2, h3⟩ := rnext_cases h
  have rk := rnum_ok hB h2
  have f3 := g.from_
  have f4 := g.upto
  have f5 := g.next
  have f6 := g.end_
  have a0 := g.a0
  have bl := g.bl
  rcases h3 with ⟨c2, c, e⟩ | ⟨c2, e⟩
  all_goals
    have e1 : (rec_ (rnext l a b)).f1 = (tget l a b).2.1 := by rw [e]; rfl
    have e2 : (rec_ (rnext l a b)).f2 = (rnum l (tget l a b).2.2.1 b (tget l a b).2.1).1 := by rw [e]; rfl
  · have e3 : (rec_ (rnext l a b)).f3 = (rnum l (tget l a b).2.2.1 b (tget l a b).2.1).2.1 := by rw [e]; rfl
    have e4 : (rec_ (rnext l a b)).f4 = (rnum l (tget l a b).2.2.1 b (tget l a b).2.1).2.1 + (rnum l (tget l a b).2.2.1 b (tget l a b).2.1).1 := by rw [e]; rfl
    exact ⟨g.put, g.n0, g.n1, by omega, f4, by omega, fun _ => by omega, fun q => by omega, fun q => by omega, fun q => by omega⟩
  · have e3 : (rec_ (rnext l a b)).f3 = (tget l a b).2.2.1 := by rw [e]; rfl
    have e4 : (rec_ (rnext l a b)).f4 = (rnum l (tget l a b).2.2.1 b (tget l a b).2.1).2.1 := by rw [e]; rfl
    refine ⟨g.put, g.n0, g.n1, by omega, f4, by omega, fun q => by omega, fun q => ?_, fun q => ?_, fun q => ?_⟩
    · have hw : (tget l a b).2.1 = 5 := by omega
      have hr : rnum l (tget l a b).2.2.1 b (tget l a b).2.1 = vunfix l (tget l a b).2.2.1 b 4 := by unfold rnum; rw [if_neg (by omega), if_pos hw]
      rw [hr] at h2 e2 e4
      have ok := vunfix_ok hB h2
      have lb := le_bound ((l.drop (tget l a b).2.2.1.toNat).take (4 : Int).toNat) ((hB.drop _).take _)
      have ll : ((l.drop (tget l a b).2.2.1.toNat).take (4 : Int).toNat).length = 4 := by simp; omega
      rw [ll] at lb
      have p4 : (256 : Int) ^ 4 = 4294967296 := by decide
      omega
    · have hw : (tget l a b).2.1 = 1 := by omega
      have hr : rnum l (tget l a b).2.2.1 b (tget l a b).2.1 = vunfix l (tget l a b).2.2.1 b 8 := by unfold rnum; rw [if_pos hw]
      rw [hr] at h2 e4
      have ok := vunfix_ok hB h2
      omega
    · have hw : (tget l a b).2.1 = 0 := by omega
      have hr : rnum l (tget l a b).2.2.1 b (tget l a b).2.1 = vget l (tget l a b).2.2.1 b := by unfold rnum; rw [if_neg (by omega), if_neg (by omega)]
      rw [hr] at h2 e2 e4
      have ok := vget_ok h2
      have hd := ok.2.2.2.2.2.2.2.2.1
      have hv := ok.2.2.2.2.2.2.2.2.2
      have bd := vdec_bound 10 _ ((hB.take b.toNat).drop (tget l a b).2.2.1.toNat) hd
      have ps := vdec_pos 10 _ ((hB.take b.toNat).drop (tget l a b).2.2.1.toNat)
      have ln := vdec_len 10 _ hd
      obtain ⟨D, hD⟩ : ∃ D, vdec 10 ((l.take b.toNat).drop (tget l a b).2.2.1.toNat) = D := ⟨_, rfl⟩
      rw [hD] at hv bd ps ln
      have v1 : (vget l (tget l a b).2.2.1 b).1 = D.2.1 % 18446744073709551616 := by rw [hv]
      have v2 : (vget l (tget l a b).2.2.1 b).2.1 = (tget l a b).2.2.1 + D.2.2 := by rw [hv]
      have hle : D.2.1 % 18446744073709551616 ≤ D.2.1 := by omega
      have hn : (rec_ (rnext l a b)).f2.toNat < 128 ^ D.2.2.toNat := by
        have : ((128 ^ D.2.2.toNat : Nat) : Int) = (128 : Int) ^ D.2.2.toNat := by simp
        omega
      have := vput_len_lt D.2.2.toNat _ (by omega) hn
      omega
/-- A record's bytes, when it is put again. -/
def recB (l : List Int) (r : S53) : List Int := vput (8 * r.f0 + r.f1).toNat ++ rbody r.f1 r.f2.toNat ((l.take r.f4.toNat).drop r.f3.toNat)
theorem run_len {l : List Int} {r : S53} (h : Fine l.length r) : (((l.take r.f4.toNat).drop r.f3.toNat).length : Int) = r.f4 - r.f3 := by
  have h1 := h.p0; have h2 := h.p1; have h3 := h.p2
  simp; omega
theorem recB_len {l : List Int} (hs : l.length ≤ 1000) {r : S53} (h : Fine l.length r) : 2 ≤ (recB l r).length ∧ (recB l r).length ≤ 1015 := by
  obtain ⟨q1, q2, q3⟩ := tputB_iff h.put
  have rl := run_len h
  have h1 := h.p0; have h2 := h.p2; have n0 := h.n0; have n1 := h.n1
  have a := vput_len5 (8 * r.f0 + r.f1).toNat (by omega)
  have b := rbody_len r.f1 r.f2.toNat (by omega) ((l.take r.f4.toNat).drop r.f3.toNat) (by omega)
  unfold recB
  simp only [List.length_append]; omega
theorem recB_bytes {l : List Int} (hB : Byt l) (r : S53) : Byt (recB l r) := Byt.append (vput_bytes _) (rbody_bytes _ _ _ ((hB.take _).drop _))
def Rel (x y : S53) : Prop := x.f0 = y.f0 ∧ x.f1 = y.f1 ∧ x.f2 = y.f2 ∧ x.f4 - x.f3 ≤ y.f4 - y.f3 ∧ 0 ≤ x.f3 ∧ x.f3 ≤ x.f4 ∧ x.f4 < 4611686018427387904
def Rels : List S53 → List S53 → Prop
  | [], [] => True
  | x :: xs, y :: ys => Rel x y ∧ Rels xs ys
  | _, _ => False
theorem Rels.len : ∀ {xs ys : List S53}, Rels xs ys → xs.length = ys.length
  | [], [], _ => rfl
  | _ :: _, _ :: _, h => by simp [Rels.len h.2]
  | [], _ :: _, h => h.elim
  | _ :: _, [], h => h.elim
theorem Rels.at_ : ∀ {xs ys : List S53}, Rels xs ys → ∀ (i : Nat) (h1 : i < xs.length) (h2 : i < ys.length), Rel xs[i] ys[i]
  | x :: xs, y :: ys, h, 0, _, _ => h.1
  | x :: xs, y :: ys, h, i + 1, h1, h2 => Rels.at_ h.2 i (by simpa using h1) (by simpa using h2)
  | [], _, _, i, h1, _ => by simp at h1
  | _ :: _, [], h, _, _, _ => h.elim
/-- Records that are put again, one behind the other, are read again. -/
theorem again (l : List Int) (hs : l.length ≤ 1000) : ∀ (R : List S53) (pre c : List Int) (d : Nat), (∀ r ∈ R, Fine l.length r) → c = pre ++ R.flatMap (recB l) → c.length < 4611686018427387904 → (c.length : Int) - pre.length ≤ d →
    (rallN d c pre.length c.length).2 = 0 ∧ Rels (rallN d c pre.length c.length).1 R := by
  intro R
  induction R with
  | nil =>
    intro pre c d hF hc hcl hd
    obtain rfl : c = pre := by simpa using hc
    rw [rallN_end _ (by omega)]
    exact ⟨rfl, trivial⟩
  | cons r R ih =>
    intro pre c d hF hc hcl hd
    have fr := hF r (by simp)
    have lb := recB_len hs fr
    have rl := run_len fr
    have n0 := fr.n0
    have n1 := fr.n1
    have p0 := fr.p0
    have p1 := fr.p1
    obtain ⟨q1, q2, q3⟩ := tputB_iff fr.put
    have hc2 : c = (pre ++ recB l r) ++ R.flatMap (recB l) := by rw [hc, List.flatMap_cons, List.append_assoc]
    have hcn : c.length = pre.length + (recB l r).length + (R.flatMap (recB l)).length := by rw [hc2]; simp [Nat.add_assoc]
    have hm : mayB c.length (pre.length : Int) (c.length : Int) = true := decide_eq_true (by omega)
    have hN := rnext_put (l := c) (by omega) hm fr.put (n := r.f2.toNat) (by omega) (run := (l.take r.f4.toNat).drop r.f3.toNat) (s := R.flatMap (recB l))
      (by rw [Int.toNat_natCast, Int.toNat_natCast, List.take_length, hc, List.drop_left, List.flatMap_cons]; rfl)
    have hnum : rval r.f1 r.f2.toNat ((l.take r.f4.toNat).drop r.f3.toNat) = r.f2 := by
      unfold rval
      by_cases w2 : r.f1 = 2
      · rw [if_pos w2, rl]; exact (fr.run w2).symm
      · rw [if_neg w2]
        by_cases w5 : r.f1 = 5
        · have := (fr.four w5).1; rw [if_pos w5]; omega
        · rw [if_neg w5]; omega
    have hbl : (vput (8 * r.f0 + r.f1).toNat ++ rbody r.f1 r.f2.toNat ((l.take r.f4.toNat).drop r.f3.toNat)).length = (recB l r).length := rfl
    rw [hnum, hbl] at hN
    have he : er (rnext c pre.length c.length) = 0 := by rw [hN]; rfl
    have hx : nx (rnext c pre.length c.length) = (pre.length : Int) + (recB l r).length := by rw [hN]; rfl
    obtain ⟨d, rfl⟩ : ∃ m, d = m + 1 := ⟨d - 1, by omega⟩
    rw [rallN_step d (by omega) he]
    have i := ih (pre ++ recB l r) c d (fun y hy => hF y (by simp [hy])) hc2 hcl (by simp; omega)
    have hpl : ((pre ++ recB l r).length : Int) = nx (rnext c pre.length c.length) := by rw [hx]; simp
    rw [hpl] at i
    refine ⟨i.1, ⟨?_, i.2⟩⟩
    have vl := vput_len5 (8 * r.f0 + r.f1).toNat (by omega)
    have e0 : (rec_ (rnext c pre.length c.length)).f0 = r.f0 := by rw [hN]; rfl
    have e1 : (rec_ (rnext c pre.length c.length)).f1 = r.f1 := by rw [hN]; rfl
    have e2 : (rec_ (rnext c pre.length c.length)).f2 = r.f2 := by rw [hN]; rfl
    have e3 : (rec_ (rnext c pre.length c.length)).f3 = (pre.length : Int) + ((vput (8 * r.f0 + r.f1).toNat).length : Int) + (if r.f1 = 2 then ((vput ((l.take r.f4.toNat).drop r.f3.toNat).length).length : Int) else 0) := by rw [hN]; rfl
    have e4 : (rec_ (rnext c pre.length c.length)).f4 = (pre.length : Int) + (recB l r).length := by rw [hN]; rfl
    have hrb : (recB l r).length = (vput (8 * r.f0 + r.f1).toNat).length + (rbody r.f1 r.f2.toNat ((l.take r.f4.toNat).drop r.f3.toNat)).length := by unfold recB; simp
    have vl3 := vput_len10 (n := ((l.take r.f4.toNat).drop r.f3.toNat).length) (by have := fr.p2; omega)
    have vl2 := vput_len10 (n := r.f2.toNat) (by omega)
    refine ⟨e0, e1, e2, ?_⟩
    rw [e3, e4]
    rcases q3 with w | w | w | w
    · have hbd : rbody r.f1 r.f2.toNat ((l.take r.f4.toNat).drop r.f3.toNat) = vput r.f2.toNat := by rw [w]; rfl
      have hv := fr.var w
      rw [hbd] at hrb
      rw [if_neg (by omega)]; omega
    · have hbd : rbody r.f1 r.f2.toNat ((l.take r.f4.toNat).drop r.f3.toNat) = vfix 8 r.f2.toNat := by rw [w]; rfl
      have hv := fr.eight w
      rw [hbd, vfix_len] at hrb
      rw [if_neg (by omega)]; omega
    · have hbd : rbody r.f1 r.f2.toNat ((l.take r.f4.toNat).drop r.f3.toNat) = vput ((l.take r.f4.toNat).drop r.f3.toNat).length ++ (l.take r.f4.toNat).drop r.f3.toNat := by rw [w]; rfl
      rw [hbd, List.length_append] at hrb
      rw [if_pos w]; omega
    · have hbd : rbody r.f1 r.f2.toNat ((l.take r.f4.toNat).drop r.f3.toNat) = vfix 4 r.f2.toNat := by rw [w]; rfl
      have hv := (fr.four w).2
      rw [hbd, vfix_len] at hrb
      rw [if_neg (by omega)]; omega
theorem fines (l : List Int) (hB : Byt l) (b : Int) (d : Nat) : ∀ a : Int, ∀ r ∈ (rallN d l a b).1, Fine l.length r := by
  induction d with
  | zero => intro a r hr; simp [rallN] at hr
  | succ d ih =>
    intro a r hr
    by_cases c : a < b
    · by_cases he : er (rnext l a b) = 0
      · rw [rallN_step d c he] at hr
        rcases List.mem_cons.mp hr with rfl | hr
        · exact fine_of hB he
        · exact ih _ r hr
      · rw [rallN_err d c he] at hr; simp at hr
    · rw [rallN_end _ c] at hr; simp at hr
theorem many_last (R R' : List S53) (h : Rels R' R) (hl : R.length ≤ 1000) (hF : ∀ r ∈ R, Fine 1000 r) (d : Nat) : ∀ (i k : Nat), i + d = R.length → d < k → trufflelaw05_RecordMany.l1 k R R' i = some true := by
  have hlen := h.len
  induction d with
  | zero =>
    intro i k hi hk
    obtain ⟨k, rfl⟩ : ∃ m, k = m + 1 := ⟨k - 1, by omega⟩
    simp only [trufflelaw05_RecordMany.l1]
    rw [if_neg (by omega)]
  | succ d ih =>
    intro i k hi hk
    obtain ⟨k, rfl⟩ : ∃ m, k = m + 1 := ⟨k - 1, by omega⟩
    simp only [trufflelaw05_RecordMany.l1]
    obtain ⟨r0, r1, r2, r3, r4, r5, r6⟩ := h.at_ i (by omega) (by omega)
    have fr := hF R[i] (List.getElem_mem _)
    have p0 := fr.p0; have p1 := fr.p1; have p2 := fr.p2
    rw [if_pos (by omega), if_pos (by omega), if_pos (by omega), rd53_at R i (by omega), rd53_at R' i (by omega), if_pos r0, if_pos r1, if_pos r2, wrap64_id (by omega) (by omega), wrap64_id (a := R[i].f4 - R[i].f3) (by omega) (by omega), if_neg (by omega), wrap64_id (by omega) (by omega), show ((i : Int) + 1) = ((i + 1 : Nat) : Int) by omega]
    exact ih (i + 1) k (by omega) (by omega)
theorem many_loop (l : List Int) (hs : l.length ≤ 1000) (R : List S53) (hF : ∀ r ∈ R, Fine l.length r) (hR : 2 * R.length ≤ l.length)
    (fin : Ev (fun k => trufflelaw05_RecordMany.l0 k l R (R.flatMap (recB l)) (R.length : Nat)) true) (d : Nat) : ∀ (i : Nat), i + d = R.length → Ev (fun k => trufflelaw05_RecordMany.l0 k l R ((R.take i).flatMap (recB l)) (i : Nat)) true := by
  have blen : ∀ i, ((R.take i).flatMap (recB l)).length ≤ i * 1015 := by
    have key : ∀ S : List S53, (∀ r ∈ S, Fine l.length r) → (S.flatMap (recB l)).length ≤ S.length * 1015 := by
      intro S
      induction S with
      | nil => intro _; simp
      | cons r S ih =>
        intro h
        have a := recB_len hs (h r (by simp))
        have b := ih (fun y hy => h y (by simp [hy]))
        simp only [List.flatMap_cons, List.length_append, List.length_cons]; omega
    intro i
    have := key (R.take i) (fun r hr => hF r (List.mem_of_mem_take hr))
    have h2 : (R.take i).length ≤ i := List.length_take_le _ _
    exact Nat.le_trans this (Nat.mul_le_mul_right 1015 h2)
  induction d with
  | zero =>
    intro i hi
    obtain rfl : i = R.length := by omega
    rw [List.take_length]; exact fin
  | succ d ih =>
    intro i hi
    have hlt : i < R.length := by omega
    have fr := hF R[i] (List.getElem_mem _)
    have p0 := fr.p0; have p1 := fr.p1; have p2 := fr.p2; have n0 := fr.n0; have n1 := fr.n1
    have rl := run_len fr
    have lb := recB_len hs fr
    obtain ⟨K1, e1⟩ : ∃ K, ∀ k, K ≤ k → record_Put.f k R[i].f0 R[i].f1 ((R[i].f2.toNat : Nat) : Int) R[i].f3 R[i].f4 ((l.take R[i].f4.toNat).drop R[i].f3.toNat) = some (rput R[i].f0 R[i].f1 R[i].f2.toNat ((l.take R[i].f4.toNat).drop R[i].f3.toNat)) := rput_tells' R[i].f0 R[i].f1 R[i].f2.toNat (by omega) R[i].f3 R[i].f4 ((l.take R[i].f4.toNat).drop R[i].f3.toNat) (by omega)
    have hp : rput R[i].f0 R[i].f1 R[i].f2.toNat ((l.take R[i].f4.toNat).drop R[i].f3.toNat) = (recB l R[i], true) := by unfold rput; rw [if_pos fr.put]; rfl
    have hn : ((R[i].f2.toNat : Nat) : Int) = R[i].f2 := by omega
    rw [hn, hp] at e1
    have bl := blen i
    have ht : (R.take (i + 1)).flatMap (recB l) = (R.take i).flatMap (recB l) ++ recB l R[i] := by
      rw [← List.take_append_getElem hlt, List.flatMap_append]; simp
    obtain ⟨K2, e2⟩ := ih (i + 1) (by omega)
    rw [ht] at e2
    refine ⟨K1 + K2 + 2, fun k hk => ?_⟩
    show trufflelaw05_RecordMany.l0 k l R _ _ = _
    obtain ⟨k, rfl⟩ : ∃ m, k = m + 2 := ⟨k - 2, by omega⟩
    have e2' := e2 k (by omega)
    simp only [trufflelaw05_RecordMany.l0]
    rw [if_pos (by omega), if_pos (by omega), rd53_at R i hlt, if_neg (by omega), if_neg (by omega), decide_eq_false (by omega)]
    simp only [trufflelaw05_RecordMany.j2]
    rw [if_neg (by decide), if_pos (by omega), if_pos (by omega), rd53_at R i hlt, if_pos (by omega), if_pos (by omega), if_pos (by omega), e1 k (by omega), bnd, if_pos rfl, if_pos (by simp only; omega), wrap64_id (by omega) (by omega), show ((i : Int) + 1) = ((i + 1 : Nat) : Int) by omega]
    exact e2'
theorem RecordMany : trufflelaw05_RecordMany.Pure := by
  intro l hm hs hw
  have hB := Byt.of_wf hw
  obtain ⟨Ka, ea⟩ : ∃ K, ∀ k, K ≤ k → trufflelaw05_awake.f k = some true := awake5
  by_cases c0 : (l.length : Int) > 1000
  · refine ⟨Ka + 1, ?_⟩
    unfold trufflelaw05_RecordMany.f
    rw [ea _ (by omega), bnd, if_pos rfl, decide_eq_true c0]
    simp only [trufflelaw05_RecordMany.j0, if_true]
  · have ra : rall l 0 l.length = rallN l.length l 0 l.length := by rw [rall_of (by omega) (by omega) (by omega)]; simp
    have hlen := rallN_len l hB l.length l.length 0 (by omega)
    obtain ⟨K1, e1⟩ : ∃ K, ∀ k, K ≤ k → record_All.f k l 0 (l.length : Int) = some (rall l 0 l.length) := rall_tells l hB (by omega) _ _
    obtain ⟨R, hR⟩ : ∃ R, (rall l 0 l.length).1 = R := ⟨_, rfl⟩
    have hF : ∀ r ∈ R, Fine l.length r := by rw [← hR, ra]; exact fines l hB _ _ _
    have hRl : 2 * R.length ≤ l.length := by rw [← hR, ra]; omega
    have hcb : Byt (R.flatMap (recB l)) := fun x hx => by
      obtain ⟨r, _, hx⟩ := List.mem_flatMap.mp hx
      exact recB_bytes hB r x hx
    have hcl : (R.flatMap (recB l)).length ≤ R.length * 1015 := by
      have key : ∀ S : List S53, (∀ r ∈ S, Fine l.length r) → (S.flatMap (recB l)).length ≤ S.length * 1015 := by
        intro S
        induction S with
        | nil => intro _; simp
        | cons r S ih =>
          intro h
          have a := recB_len (by omega : l.length ≤ 1000) (h r (by simp))
          have b := ih (fun y hy => h y (by simp [hy]))
          simp only [List.flatMap_cons, List.length_append, List.length_cons]; omega
      exact key R hF
    obtain ⟨g1, g2⟩ := again l (by omega) R [] (R.flatMap (recB l)) (R.flatMap (recB l)).length hF (by simp) (by omega) (by simp)
    have rc : rall (R.flatMap (recB l)) 0 (R.flatMap (recB l)).length = rallN (R.flatMap (recB l)).length (R.flatMap (recB l)) 0 (R.flatMap (recB l)).length := by rw [rall_of (by omega) (by omega) (by omega)]; simp
    have g1' : (rall (R.flatMap (recB l)) 0 (R.flatMap (recB l)).length).2 = 0 := by rw [rc]; exact g1
    have g2' : Rels (rall (R.flatMap (recB l)) 0 (R.flatMap (recB l)).length).1 R := by rw [rc]; exact g2
    obtain ⟨K2, e2⟩ : ∃ K, ∀ k, K ≤ k → record_All.f k (R.flatMap (recB l)) 0 ((R.flatMap (recB l)).length : Int) = some (rall (R.flatMap (recB l)) 0 (R.flatMap (recB l)).length) := rall_tells _ hcb (by omega) _ _
    have fin : Ev (fun k => trufflelaw05_RecordMany.l0 k l R (R.flatMap (recB l)) (R.length : Nat)) true := by
      refine ⟨K2 + R.length + 3, fun k hk => ?_⟩
      show trufflelaw05_RecordMany.l0 k l R _ _ = _
      obtain ⟨k, rfl⟩ : ∃ m, k = m + 2 := ⟨k - 2, by omega⟩
      simp only [trufflelaw05_RecordMany.l0]
      rw [if_neg (by omega), e2 _ (by omega), bnd, if_pos g1', if_pos (by rw [g2'.len]), wrap64_id (by omega) (by omega), decide_eq_false (by omega)]
      simp only [trufflelaw05_RecordMany.j3]
      rw [if_neg (by decide)]
      exact many_last R _ g2' (by omega) (fun r hr => by
        have q := hF r hr
        exact ⟨q.put, q.n0, q.n1, q.p0, q.p1, by have := q.p2; omega, q.run, q.four, q.eight, q.var⟩) R.length 0 k (by omega) (by omega)
    obtain ⟨K3, e3⟩ : ∃ K, ∀ k, K ≤ k → trufflelaw05_RecordMany.l0 k l R [] 0 = some true := by
      have h4 : Ev (fun k => trufflelaw05_RecordMany.l0 k l R [] 0) true := by
        have h5 := many_loop l (by omega) R hF hRl fin R.length 0 (by omega)
        simpa using h5
      exact h4
    refine ⟨Ka + K1 + K3 + 1, ?_⟩
    unfold trufflelaw05_RecordMany.f
    rw [ea _ (by omega), bnd, if_pos rfl, decide_eq_false c0]
    simp only [trufflelaw05_RecordMany.j0]
    rw [if_neg (by decide), e1 _ (by omega), bnd, hR, e3 _ (by omega)]

end Go.Proofs.Ytokbcenkgdpepaa.Pure
