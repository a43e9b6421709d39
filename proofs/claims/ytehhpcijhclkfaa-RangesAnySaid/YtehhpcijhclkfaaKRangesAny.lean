/- The order in which ranges are added changes nothing. -/
import Derived.Test.YtehhpcijhclkfaaCt03
import Derived.Test.YtehhpcijhclkfaaOkRangesAny
namespace Go.Proofs.Ytehhpcijhclkfaa.AM
open Go.RowKit
set_option maxRecDepth 100000
set_option linter.unusedVariables false
set_option linter.unusedSimpArgs false

theorem rany_c {v : AVal} {l : List S25} (hv : RgI v l) (hl : l.length ≤ 9223372036854775807) (hx : ∀ z ∈ l, 0 ≤ z.f0 ∧ 0 ≤ z.f1 ∧ z.f1 ≤ 18446744073709551615) (lo hi lo2 hi2 n : Int) (h0 : 0 ≤ lo) (h1 : hi ≤ 18446744073709551615) (h2 : 0 ≤ lo2) (h3 : hi2 ≤ 18446744073709551615) : ACall Try.prog 7 [v, .agg [u64 lo, u64 hi], .agg [u64 lo2, u64 hi2], u64 n] σ0 fun v _ => v = .bool true := by
  refine ACall.of_compF hmx (fun a w => Try.call7 a w) Try.func7 cf7 (n := 4) (by decide) rfl ?_
  simp [ac7, rs7, lk_cons]
  refine awake _ _ ?_
  simp [lk_cons]
  refine right_c _ hv hl hx _ fun xv x hxv hgx hxl => ?_
  generalize hM : Mem.set _ 2 _ = MM
  have m0 : MM.get 0 = some (.cells 2 [u64 lo, u64 hi]) := by rw [← hM]; simp
  have m1 : MM.get 1 = some (.cells 2 [u64 lo2, u64 hi2]) := by rw [← hM]; simp
  have m2 : MM.get 2 = some (.cells 1 [u64 n]) := by rw [← hM]; simp
  clear hM
  obtain ⟨a1, a2, a3⟩ := addL_spec (lo := lo) (hi := hi) hgx h0 h1
  obtain ⟨b1, b2, b3⟩ := addL_spec (lo := lo2) (hi := hi2) a1 h2 h3
  obtain ⟨c1, c2, c3⟩ := addL_spec (lo := lo2) (hi := hi2) hgx h2 h3
  obtain ⟨d1, d2, d3⟩ := addL_spec (lo := lo) (hi := hi) c1 h0 h1
  have e1 : addL lo2 hi2 (addL lo hi x) = addL lo hi (addL lo2 hi2 x) := good_eq b1 d1 fun n => by
    rw [b2, a2, d2, c2]
    constructor
    · rintro ((h | h) | h)
      · exact .inl (.inl h)
      · exact .inr h
      · exact .inl (.inr h)
    · rintro ((h | h) | h)
      · exact .inl (.inl h)
      · exact .inr h
      · exact .inl (.inr h)
  obtain ⟨r1, r2⟩ := remM_good (lo := lo2) (hi := hi2) b1
  have hrl := remM_len lo2 hi2 (addL lo2 hi2 (addL lo hi x))
  simp [lk_cons, m0, m1, m2]
  refine addl_c (hxv.m _) (by omega) lo hi hgx _ fun v1 hv1 => ?_
  simp [lk_cons, m0, m1, m2]
  refine addl_c (hv1.m _) (by omega) lo2 hi2 a1 _ fun v2 hv2 => ?_
  simp [lk_cons, m0, m1, m2]
  refine addl_c (hxv.m _) (by omega) lo2 hi2 hgx _ fun v3 hv3 => ?_
  simp [lk_cons, m0, m1, m2]
  refine addl_c (hv3.m _) (by omega) lo hi c1 _ fun v4 hv4 => ?_
  simp [lk_cons, m0, m1, m2]
  refine remove_c (hv2.m _) (by omega) lo2 hi2 _ fun v5 hv5 => ?_
  simp [lk_cons, m0, m1, m2]
  refine rsame_c (hv2.m _) (hv4.m _) (by omega) _ ?_
  simp [lk_cons, e1]
  refine check_c (hv2.m _) (by omega) b1.1 _ ?_
  simp [lk_cons]
  refine check_c (hv5.m _) (by omega) r1.1 _ ?_
  simp [lk_cons, m0, m1, m2]
  refine has_c (hv2.m _) (by omega) b1.1 n _ ?_
  simp [lk_cons, m0, m1, m2]
  refine has_c (hxv.m _) (by omega) hgx.1 n _ ?_
  have E1 : inB (addL lo2 hi2 (addL lo hi x)) n = (inB x n || decide (lo ≤ n ∧ n < hi) || decide (lo2 ≤ n ∧ n < hi2)) := by
    rw [Bool.eq_iff_iff]
    simp only [decide_eq_true_eq, Bool.or_eq_true, inB_iff, b2, a2]
  have E2 : inB (remM lo2 hi2 (addL lo2 hi2 (addL lo hi x))) n = (inB (addL lo2 hi2 (addL lo hi x)) n && !decide (lo2 ≤ n ∧ n < hi2)) := by
    rw [Bool.eq_iff_iff]
    simp only [decide_eq_true_eq, Bool.and_eq_true, Bool.not_eq_true', decide_eq_false_iff_not, inB_iff, r2]
  rw [E1] at E2 ⊢
  have last : ∀ (d1 d2 : Bool), decide (lo ≤ n ∧ n < hi) = d1 → decide (lo2 ≤ n ∧ n < hi2) = d2 → True := fun _ _ _ _ => trivial
  cases hb : inB x n <;> cases hd1 : decide (lo ≤ n ∧ n < hi) <;> cases hd2 : decide (lo2 ≤ n ∧ n < hi2) <;> rw [hb, hd1, hd2] at E1 E2 <;>
    (simp [lk_cons, m0, m1, m2]
     try (refine any_c lo hi n 2 _ m2 (by show 2 < 3; omega) _ ?_; rw [hd1]; simp [lk_cons, m0, m1, m2])
     try (refine any_c lo2 hi2 n 2 _ m2 (by show 2 < 3; omega) _ ?_; rw [hd2]; simp [lk_cons, m0, m1, m2])
     refine has_c (hv5.m _) (by omega) r1.1 n _ ?_
     rw [E2]
     simp [lk_cons, m0, m1, m2]
     refine has_c (hv2.m _) (by omega) b1.1 n _ ?_
     rw [E1]
     simp [lk_cons, m0, m1, m2]
     try (refine any_c lo2 hi2 n 2 _ m2 (by show 2 < 3; omega) _ ?_; rw [hd2]; simp [lk_cons, m0, m1, m2]))

open OkRangesAny in
theorem lawRangesAny (a0 : AVal) (o0 : ok22 [a0]) (us : List AVal) (o1 : ok25 us) (us2 : List AVal) (o2 : ok25 us2) (a3 : AVal) (o3 : ok23 [a3]) : ACall Try.prog 7 [a0, .agg us, .agg us2, a3] σ0 fun v _ => v = .bool true := by
  obtain ⟨l, h1, h2, h3⟩ := rgsArg (v := a0) o0
  obtain ⟨_, _, rfl, ⟨lo, rfl, w1⟩, hi, rfl, w2⟩ := o1
  obtain ⟨_, _, rfl, ⟨lo2, rfl, w3⟩, hi2, rfl, w4⟩ := o2
  obtain ⟨n, h, w5⟩ := o3
  cases h
  have g1 := u64_of w1
  have g2 := u64_of w2
  have g3 := u64_of w3
  have g4 := u64_of w4
  exact rany_c h1 h2 h3 lo hi lo2 hi2 n g1.1 g2.2 g3.1 g4.2
end Go.Proofs.Ytehhpcijhclkfaa.AM
