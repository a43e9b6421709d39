/- What was acked stays so. -/
import Derived.Test.YtinfnpbglapjhaaCtxxx14
import Derived.Test.YtinfnpbglapjhaaOkCursorNever
namespace Go.Proofs.Ytinfnpbglapjhaa.AM
open Go.RowKit
set_option maxRecDepth 100000
set_option linter.unusedVariables false
set_option linter.unusedSimpArgs false

theorem nil_len {v : AVal} (h : HI v []) : ∀ ρ : St, evalV ρ (.len 1 v) = some (i64 0, ρ) := fun ρ => by have := h.len ρ; simpa using this
theorem ord_sgn (a b c d : Int) : ordM a b c d ≤ 0 ↔ a < c ∨ (a = c ∧ b ≤ d) := by
  unfold ordM cmpM; (repeat' split) <;> omega
set_option maxHeartbeats 4000000 in
theorem never_c {d hv : AVal} {l : List UInt8} {h : List Hd} (hb : BytesOf d l) (hl : l.length ≤ 9223372036854775806) (op : Bool) (n : Nat) (hn : n < 256) (hh : HI hv h) (ha : HArg h) (a b p q p2 q2 : Int) (hab : (0 ≤ a ∧ a ≤ 18446744073709551615) ∧ 0 ≤ b ∧ b ≤ 18446744073709551615) (hpq : (0 ≤ p ∧ p ≤ 18446744073709551615) ∧ 0 ≤ q ∧ q ≤ 18446744073709551615) (hpq2 : (0 ≤ p2 ∧ p2 ≤ 18446744073709551615) ∧ 0 ≤ q2 ∧ q2 ≤ 18446744073709551615) (all : Bool) :
    ACall Try.prog 4 [d, .bool op, .int .u8 n, cv a b hv, ps p q, ps p2 q2, .bool all] σ0 fun v _ => v = .bool true := by
  refine ACall.of_compF hmx (fun a w => Try.call4 a w) Try.func4 cf4 (n := 7) (by decide) rfl ?_
  have k1 := hh.one.1
  have k2 := hh.one.2
  simp only [ac4, rs4]
  simp [lk_cons, k1, k2]
  refine awake _ _ ?_
  simp [lk_cons, k1, k2]
  refine made_c hb hl op _ _ fun lv t hlv hmk => ?_
  have e6 : Int.tmod (n : Int) 6 = (n : Int) % 6 := Int.tmod_eq_emod_of_nonneg (by omega)
  have e7 : IntKind.u64.wrap ((n : Int) % 6) = (n : Int) % 6 := by rw [IntWalk.u64_in]; omega
  simp [lk_cons, k1, k2, e6, e7]
  refine right14_c hh ha a b false hab _ _ fun ml me cv1 H hml hme hH hC h7 h14 => ?_
  have c1 := hH.one.1
  have c2 := hH.one.2
  simp [lk_cons, k1, k2]
  refine place_c p q false hpq.1 hpq.2 _ _ fun L e hL he _ => ?_
  simp [lk_cons, k1, k2]
  refine place_c p2 q2 false hpq2.1 hpq2.2 _ _ fun L2 e2 hL2 he2 _ => ?_
  have ho : 0 ≤ (n : Int) % 6 ∧ (n : Int) % 6 ≤ 5 := by omega
  obtain ⟨o, hoo⟩ : ∃ o : Int, (n : Int) % 6 = o := ⟨_, rfl⟩
  rw [hoo] at ho ⊢
  have hm := mk_mk' hmk ho
  have hw := cok_hwn hC h7 h14
  have hqm : ∀ {L2 e2 : Int}, 0 ≤ e2 → hasM o L2 e2 t = true → (⟨L2, e2⟩ : S25) ∈ allM o t := fun h0 hh => (has_mem hm.2.1 hm.s h0).1 hh
  simp [lk_cons, k1, k2, c1, c2, storeL]
  refine ack_r hlv hm hH (by omega) hw ml me L e hme.1 he _ _ fun co x y v1 H1 ra hv1 => ?_
  have d1 := hv1.one.1
  have d2 := hv1.one.2
  cases all with
  | false =>
    by_cases h0 : co = 0
    · subst h0
      obtain ⟨a1, a2, a3, a4, a5, a6, _, _⟩ := ack_law hm hw hC hme.1 hL he.1 ra
      have hw1 := (ra.hw hm hme.1 hw he.1).1
      have hord : ¬ ordM x y ml me < 0 := by rw [ord_lt]; omega
      simp [lk_cons, c1, c2, d1, d2, storeL]
      refine order_c x y ml me _ _ ?_
      simp [lk_cons, c1, c2, d1, d2, storeL, hord]
      refine acked_c hv1 (hw1.hw (by omega)) x y L e _ _ ?_
      have hp := a4 _ a5
      rw [hp]
      simp [lk_cons, c1, c2, d1, d2, storeL]
      refine check14_c hv1 (by omega) hw1 a3 _ _ ?_
      simp [lk_cons, c1, c2, d1, d2, storeL]
      refine acked_c hH (hw.hw (by omega)) ml me L2 e2 _ _ ?_
      simp [lk_cons, c1, c2, d1, d2, storeL]
      refine has13_c hlv (by have := hm.1; omega) o L2 e2 _ _ ?_
      cases hq : hasM o L2 e2 t with
      | false => simp [lk_cons, c1, c2, d1, d2, storeL]
      | true =>
        have hq2 := a4 _ (hqm he2.1 hq)
        simp [lk_cons, c1, c2, d1, d2, storeL]
        refine acked_c hv1 (hw1.hw (by omega)) x y L2 e2 _ _ ?_
        rw [hq2]
        cases hwas : ackB ml me H ⟨L2, e2⟩ <;> simp [lk_cons, c1, c2, d1, d2, storeL, ↓eqs_ps]
    · have hz : x = 0 ∧ y = 0 ∧ H1 = [] := by
        rcases ra with ⟨_, _, r3, r4, r5⟩ | ⟨_, _, _, r4, r5, r6⟩ | ⟨_, _, r3, _⟩
        · exact ⟨r3, r4, r5⟩
        · exact ⟨r4, r5, r6⟩
        · exact absurd r3 h0
      obtain ⟨rfl, rfl, rfl⟩ := hz
      have ln := nil_len hv1
      simp [lk_cons, c1, c2, d1, d2, storeL, h0, ↓ln, fillL, ↓eqs_ps]
  | true =>
    simp [lk_cons, c1, c2, d1, d2, storeL]
    refine ackall_r hlv hm hH (by omega) hw ml me L e he _ _ fun co2 x2 y2 v2 H2 rb hv2 => ?_
    have f1 := hv2.one.1
    have f2 := hv2.one.2
    by_cases h0 : co2 = 0
    · subst h0
      obtain ⟨a1, a2, a3, a4, a5⟩ := all_law hm hw hC he.1 rb
      have hw1 := (rb.hw hm hw he.1).1
      have hord : ¬ ordM x2 y2 ml me < 0 := by rw [ord_lt]; omega
      simp [lk_cons, c1, c2, d1, d2, f1, f2, storeL]
      refine order_c x2 y2 ml me _ _ ?_
      simp [lk_cons, c1, c2, d1, d2, f1, f2, storeL, hord]
      refine acked_c hv2 (hw1.hw (by omega)) x2 y2 L e _ _ ?_
      have hp := a4 _ a5
      have hle : ordM L e L e ≤ 0 := by rw [ord_sgn]; omega
      rw [hp]
      simp [lk_cons, c1, c2, d1, d2, f1, f2, storeL, hle]
      refine check14_c hv2 (by omega) hw1 a3 _ _ ?_
      simp [lk_cons, c1, c2, d1, d2, f1, f2, storeL]
      refine acked_c hH (hw.hw (by omega)) ml me L2 e2 _ _ ?_
      have tail : ∀ was : Bool, was = (ackB ml me H ⟨L2, e2⟩ || decide (ordM L2 e2 L e ≤ 0)) → True := fun _ _ => trivial
      cases hwas : ackB ml me H ⟨L2, e2⟩ with
      | true =>
        simp [lk_cons, c1, c2, d1, d2, f1, f2, storeL]
        refine has13_c hlv (by have := hm.1; omega) o L2 e2 _ _ ?_
        cases hq : hasM o L2 e2 t with
        | false => simp [lk_cons, c1, c2, d1, d2, f1, f2, storeL]
        | true =>
          have hq2 := a4 _ (hqm he2.1 hq)
          simp [lk_cons, c1, c2, d1, d2, f1, f2, storeL]
          refine acked_c hv2 (hw1.hw (by omega)) x2 y2 L2 e2 _ _ ?_
          rw [hq2, hwas]
          simp [lk_cons, c1, c2, d1, d2, f1, f2, storeL, ↓eqs_ps]
      | false =>
        simp [lk_cons, c1, c2, d1, d2, f1, f2, storeL]
        refine order_c L2 e2 L e _ _ ?_
        simp [lk_cons, c1, c2, d1, d2, f1, f2, storeL]
        refine has13_c hlv (by have := hm.1; omega) o L2 e2 _ _ ?_
        cases hq : hasM o L2 e2 t with
        | false => simp [lk_cons, c1, c2, d1, d2, f1, f2, storeL]
        | true =>
          have hq2 := a4 _ (hqm he2.1 hq)
          simp [lk_cons, c1, c2, d1, d2, f1, f2, storeL]
          refine acked_c hv2 (hw1.hw (by omega)) x2 y2 L2 e2 _ _ ?_
          rw [hq2, hwas]
          by_cases c9 : ordM L2 e2 L e ≤ 0
          · simp [lk_cons, c1, c2, d1, d2, f1, f2, storeL, ↓eqs_ps, c9]
          · have : ¬ (L2 = L ∧ e2 = e) := fun hh => c9 (by rw [ord_sgn]; omega)
            simp [lk_cons, c1, c2, d1, d2, f1, f2, storeL, ↓eqs_ps, c9, this]
    · have hz : x2 = 0 ∧ y2 = 0 ∧ H2 = [] := by
        rcases rb with ⟨_, _, r3, r4, r5⟩ | ⟨_, _, _, r4, r5, r6⟩ | ⟨_, _, r3, _⟩
        · exact ⟨r3, r4, r5⟩
        · exact ⟨r4, r5, r6⟩
        · exact absurd r3 h0
      obtain ⟨rfl, rfl, rfl⟩ := hz
      have ln := nil_len hv2
      simp [lk_cons, c1, c2, d1, d2, f1, f2, storeL, h0, ↓ln, fillL, ↓eqs_ps]

open OkCursorNever in
theorem lawCursorNever (a0 : AVal) (o0 : ok22 [a0]) (a1 : AVal) (o1 : ok4 [a1]) (a2 : AVal) (o2 : ok5 [a2]) (us3 : List AVal) (o3 : ok28 us3) (us4 : List AVal) (o4 : ok25 us4) (us5 : List AVal) (o5 : ok25 us5) (a6 : AVal) (o6 : ok4 [a6]) : ACall Try.prog 4 [a0, a1, a2, .agg us3, .agg us4, .agg us5, a6] σ0 fun v _ => v = .bool true := by
  obtain ⟨l, hb, hl⟩ := b_arg (fun x hx => hx) o0
  obtain ⟨op, h1⟩ := o1
  cases h1
  obtain ⟨n, h2, w2⟩ := o2
  cases h2
  obtain ⟨n, rfl, hn⟩ := wf_u8 w2
  obtain ⟨_, hx, rfl, ha, hh⟩ := o3
  obtain ⟨a, b, rfl, ha1, ha2⟩ := p_arg ha
  obtain ⟨p, q, rfl, hp1, hp2⟩ := p_arg o4
  obtain ⟨p2, q2, rfl, hp3, hp4⟩ := p_arg o5
  obtain ⟨all, h5⟩ := o6
  cases h5
  have hone : ∃ hv : AVal, hx = [hv] := by rcases hh with h | ⟨xs, h, _⟩ <;> exact ⟨_, h⟩
  obtain ⟨hv, rfl⟩ := hone
  obtain ⟨h, hH, hA⟩ := h_arg hh
  exact never_c hb hl op n hn hH hA a b p q p2 q2 ⟨ha1, ha2⟩ ⟨hp1, hp2⟩ ⟨hp3, hp4⟩ all

end Go.Proofs.Ytinfnpbglapjhaa.AM
