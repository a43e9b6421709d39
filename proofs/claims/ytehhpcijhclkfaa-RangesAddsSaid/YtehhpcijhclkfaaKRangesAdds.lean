/- With a range's numbers, without them. -/
import Derived.Test.YtehhpcijhclkfaaCt03
import Derived.Test.YtehhpcijhclkfaaOkRangesAdds
namespace Go.Proofs.Ytehhpcijhclkfaa.AM
open Go.RowKit
set_option maxRecDepth 100000
set_option linter.unusedVariables false
set_option linter.unusedSimpArgs false

theorem adds_c {v : AVal} {l : List S25} (hv : RgI v l) (hl : l.length ≤ 9223372036854775807) (hx : ∀ z ∈ l, 0 ≤ z.f0 ∧ 0 ≤ z.f1 ∧ z.f1 ≤ 18446744073709551615) (lo hi : Int) (h0 : 0 ≤ lo) (h00 : 0 ≤ hi) (h1 : hi ≤ 18446744073709551615) : ACall Try.prog 3 [v, .agg [u64 lo, u64 hi]] σ0 fun v _ => v = .bool true := by
  refine ACall.of_compF hmx (fun a w => Try.call3 a w) Try.func3 cf3 (n := 2) (by decide) rfl ?_
  simp [ac3, rs3, lk_cons]
  refine awake _ _ ?_
  simp [lk_cons]
  refine right_c _ hv hl hx _ fun xv x hxv hgx hxl => ?_
  have sx : ∀ ρ : St, srcL ρ 2 xv = some (rc x, x.length) := fun ρ => (hxv.m σ0).src (σ := ⟨σ0.mem, 0⟩) (by intro a ha; exact absurd ha (by simp))
  have lx : ∀ ρ : St, evalV ρ (.len 1 xv) = some (i64 x.length, ρ) := (hxv.m σ0).len
  by_cases hx0 : x.length = 0
  · have hxn := List.length_eq_zero_iff.1 hx0
    simp [lk_cons, fillL, repL, ↓sx, hx0, srcL, storeL, ↓lx, optM, asliceSl, bnd]
    generalize hM : Mem.set _ 3 _ = MM
    have m0 : MM.get 0 = some (.cells 2 [u64 lo, u64 hi]) := by rw [← hM]; simp
    have mb : MM.get 3 = some (.cells 2 (rc x ++ [u64 7, u64 9])) := by rw [← hM]; simp [hxn, rc]
    have hin : RgM ⟨MM, 4⟩ (.sl 3 0 0 1 false) x := .inr ⟨3, 0, _, false, _, by rw [hx0], by omega, by show 3 < 4; omega, mb, by simp [rc_len], by simp [rc_len, List.take_append_of_le_length, List.take_of_length_le]⟩
    clear hM
    have hgl := hgx
    refine addl_c hin (by omega) lo hi hgx _ fun a ha => ?_
    simp [lk_cons, m0]
    refine remove_c hin (by omega) lo hi _ fun b hb => ?_
    simp [lk_cons, m0]
    refine rsame_c hin (hxv.m _) (by omega) _ ?_
    have ke : keysEq [u64 7, u64 9] [AVal.int .u64 7, AVal.int .u64 9] = some true := by rfl
    have sx2 : ∀ ρ : St, srcL ρ 2 xv = some (rc x, x.length) := sx
    have w1 : IntKind.i64.wrap 1 = 1 := by rw [IntWalk.i64_in]; omega
    have mb2 : (rc x ++ [u64 7, u64 9]) = [u64 7, u64 9] := by rw [hxn]; rfl
    rw [mb2] at mb
    simp [lk_cons, ↓lx, hx0, w1, optM, asliceSl, bnd, mb, ↓sx2, fillL, repL, srcL, storeL, shapeOk, kShape, ke, m0]
    have hxs : ∀ z ∈ x ++ [(⟨lo, hi⟩ : S25)], 0 ≤ z.f0 ∧ 0 ≤ z.f1 ∧ z.f1 ≤ 18446744073709551615 := fun z hz => by
      rcases List.mem_append.1 hz with hz | hz
      · have := good_mem hgx z hz; omega
      · simp at hz; subst hz; exact ⟨h0, h00, h1⟩
    refine set_c (x := x ++ [⟨lo, hi⟩]) (y := []) (.inr ⟨6, 0, 1, false, [u64 lo, u64 hi], by simp [hxn], by simp [hxn], by simp, by simp, by simp [hxn], by simp [hxn, rc]⟩) (.inl (.inl ⟨rfl, rfl⟩)) (by simp; omega) hxs (by simp) _ fun s1 hs1 => ?_
    rw [← add_set hgx h0 h00 h1] at hs1
    simp [lk_cons]
    obtain ⟨_, _, hal⟩ := addL_spec hgx h0 h1
    refine rsame_c (ha.m _) (hs1.m _) (by omega) _ ?_
    simp [lk_cons, m0, fillL, repL, storeL]
    refine set_c (x := x) (y := [⟨lo, hi⟩]) (hxv.m _) (.inr ⟨_, 0, 1, true, [u64 lo, u64 hi], rfl, by simp, by simp, by simp, by simp, by simp [rc]⟩) (by simp; omega) (fun z hz => by have := good_mem hgx z hz; omega) (fun z hz => by simp at hz; subst hz; exact ⟨h0, h00⟩) _ fun s2 hs2 => ?_
    rw [← rem_set hgx h0 h00] at hs2
    simp [lk_cons]
    have hrl := remM_len lo hi x
    refine rsame_c (hb.m _) (hs2.m _) (by omega) _ ?_
    simp [lk_cons]
  · have hb1 : x.length * 16 ≤ 140737488355328 ∧ x.length ≤ 9223372036854775807 := by omega
    have hb2 : (x.length + 1) * 16 ≤ 140737488355328 ∧ x.length + 1 ≤ 9223372036854775807 ∧ x.length ≤ 9223372036854775806 := by omega
    have k1 : ¬ x.length + 1 ≤ x.length := by omega
    have k2 : x.length * 2 ≤ (rc x).length := by rw [rc_len]; omega
    have k3 : (rc x).take (x.length * 2) = rc x := List.take_of_length_le (by rw [rc_len]; omega)
    simp [lk_cons, fillL, repL, ↓sx, hx0, srcL, storeL, hb1, hb2, k1, k2, k3, ↓lx, optM, asliceSl, bnd]
    generalize hM : Mem.set _ 4 _ = MM
    have m0 : MM.get 0 = some (.cells 2 [u64 lo, u64 hi]) := by rw [← hM]; simp
    have mb : MM.get 4 = some (.cells 2 (rc x ++ [u64 7, u64 9])) := by rw [← hM]; simp 
    have hin : RgM ⟨MM, 5⟩ (.sl 4 0 x.length (x.length + 1) false) x := .inr ⟨4, 0, _, false, _, rfl, by omega, by show 4 < 5; omega, mb, by simp [rc_len], by simp [rc_len, List.take_append_of_le_length, List.take_of_length_le]⟩
    clear hM
    have hgl := hgx
    refine addl_c hin (by omega) lo hi hgx _ fun a ha => ?_
    simp [lk_cons, m0]
    refine remove_c hin (by omega) lo hi _ fun b hb => ?_
    simp [lk_cons, m0]
    refine rsame_c hin (hxv.m _) (by omega) _ ?_
    have ke : keysEq [u64 7, u64 9] [AVal.int .u64 7, AVal.int .u64 9] = some true := by rfl
    have sx2 : ∀ ρ : St, srcL ρ 2 xv = some (rc x, x.length) := sx
    obtain ⟨k, hk⟩ : ∃ k, x.length + 1 = k := ⟨_, rfl⟩
    have w1 : IntKind.i64.wrap ((x.length : Int) + 1) = (k : Int) := by rw [IntWalk.i64_in] <;> omega
    have hk1 : k ≤ x.length + 1 := by omega
    have hk2 : x.length < k := by omega
    have hg1 : x.length * 2 + 2 ≤ (rc x ++ [u64 7, u64 9]).length := by rw [List.length_append, rc_len]; simp
    have hg2 : ((rc x ++ [u64 7, u64 9]).drop (x.length * 2)).take 2 = [u64 7, u64 9] := by rw [List.drop_append_of_le_length (by rw [rc_len]; omega), List.drop_of_length_le (by rw [rc_len]; omega)]; rfl
    have hg6 : min 2 ((rc x).length + 2 - x.length * 2) = 2 := by rw [rc_len]; omega
    have hg5 : x.length * 2 + 2 ≤ (rc x).length + 2 := by rw [rc_len]; omega
    simp [lk_cons, ↓lx, hx0, w1, optM, asliceSl, bnd, mb, ↓sx2, hk1, hk2, hg2, hg6, hg5, hb1, hb2, k1, k2, k3, fillL, repL, srcL, storeL, shapeOk, kShape, ke, m0]
    have hxs : ∀ z ∈ x ++ [(⟨lo, hi⟩ : S25)], 0 ≤ z.f0 ∧ 0 ≤ z.f1 ∧ z.f1 ≤ 18446744073709551615 := fun z hz => by
      rcases List.mem_append.1 hz with hz | hz
      · have := good_mem hgx z hz; omega
      · simp at hz; subst hz; exact ⟨h0, h00, h1⟩
    refine set_c (x := x ++ [⟨lo, hi⟩]) (y := []) (.inr ⟨8, 0, _, false, rc x ++ [u64 lo, u64 hi], by simp; rfl, by simp, by simp, by simp, by rw [List.length_append, List.length_append, rc_len]; simp; omega, by rw [List.drop_zero, List.take_of_length_le (by rw [List.length_append, List.length_append, rc_len]; simp; omega)]; simp [rc_app, rc]⟩) (.inl (.inl ⟨rfl, rfl⟩)) (by simp; omega) hxs (by simp) _ fun s1 hs1 => ?_
    rw [← add_set hgx h0 h00 h1] at hs1
    simp [lk_cons]
    obtain ⟨_, _, hal⟩ := addL_spec hgx h0 h1
    refine rsame_c (ha.m _) (hs1.m _) (by omega) _ ?_
    simp [lk_cons, m0, fillL, repL, storeL]
    refine set_c (x := x) (y := [⟨lo, hi⟩]) (hxv.m _) (.inr ⟨_, 0, 1, true, [u64 lo, u64 hi], rfl, by simp, by simp, by simp, by simp, by simp [rc]⟩) (by simp; omega) (fun z hz => by have := good_mem hgx z hz; omega) (fun z hz => by simp at hz; subst hz; exact ⟨h0, h00⟩) _ fun s2 hs2 => ?_
    rw [← rem_set hgx h0 h00] at hs2
    simp [lk_cons]
    have hrl := remM_len lo hi x
    refine rsame_c (hb.m _) (hs2.m _) (by omega) _ ?_
    simp [lk_cons]

open OkRangesAdds in
theorem lawRangesAdds (a0 : AVal) (o0 : ok22 [a0]) (us : List AVal) (o1 : ok25 us) : ACall Try.prog 3 [a0, .agg us] σ0 fun v _ => v = .bool true := by
  obtain ⟨l, h1, h2, h3⟩ := rgsArg (v := a0) o0
  obtain ⟨_, _, rfl, ⟨lo, rfl, w1⟩, hi, rfl, w2⟩ := o1
  have g1 := u64_of w1
  have g2 := u64_of w2
  exact adds_c h1 h2 h3 lo hi g1.1 g2.1 g2.2
end Go.Proofs.Ytehhpcijhclkfaa.AM
