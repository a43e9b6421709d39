/- What isn't acked, how many. -/
import Derived.Test.YtinfnpbglapjhaaCtxxx14
import Derived.Test.YtinfnpbglapjhaaOkCursorNexts
namespace Go.Proofs.Ytinfnpbglapjhaa.AM
open Go.RowKit
set_option maxRecDepth 100000
set_option linter.unusedVariables false
set_option linter.unusedSimpArgs false

set_option maxHeartbeats 2000000 in
theorem nexts_c {d hv : AVal} {l : List UInt8} {h : List Hd} (hb : BytesOf d l) (hl : l.length ≤ 9223372036854775806) (op : Bool) (n : Nat) (hn : n < 256) (hh : HI hv h) (ha : HArg h) (a b p q : Int) (hab : (0 ≤ a ∧ a ≤ 18446744073709551615) ∧ 0 ≤ b ∧ b ≤ 18446744073709551615) (hpq : (0 ≤ p ∧ p ≤ 18446744073709551615) ∧ 0 ≤ q ∧ q ≤ 18446744073709551615) (raw : Bool) :
    ACall Try.prog 5 [d, .bool op, .int .u8 n, cv a b hv, ps p q, .bool raw] σ0 fun v _ => v = .bool true := by
  refine ACall.of_compF hmx (fun a w => Try.call5 a w) Try.func5 cf5 (n := 6) (by decide) rfl ?_
  have k1 := hh.one.1
  have k2 := hh.one.2
  simp only [ac5, rs5]
  simp [lk_cons, k1, k2]
  refine awake _ _ ?_
  simp [lk_cons, k1, k2]
  refine made_c hb hl op _ _ fun lv t hlv hmk => ?_
  have e6 : Int.tmod (n : Int) 6 = (n : Int) % 6 := Int.tmod_eq_emod_of_nonneg (by omega)
  have e7 : IntKind.u64.wrap ((n : Int) % 6) = (n : Int) % 6 := by rw [IntWalk.u64_in]; omega
  simp [lk_cons, k1, k2, e6, e7]
  refine right14_c hh ha a b raw hab _ _ fun ml me cv1 H hml hme hH hC h7 h14 => ?_
  have c1 := hH.one.1
  have c2 := hH.one.2
  simp [lk_cons, k1, k2]
  refine place_c p q raw hpq.1 hpq.2 _ _ fun L e hL he _ => ?_
  have ho : 0 ≤ (n : Int) % 6 ∧ (n : Int) % 6 ≤ 5 := by omega
  obtain ⟨o, hoo⟩ : ∃ o : Int, (n : Int) % 6 = o := ⟨_, rfl⟩
  rw [hoo] at ho ⊢
  have hm := mk_mk' hmk ho
  have hw := cok_hwn hC h7 h14
  have hbd : ∀ x ∈ t, x.f0 ≤ 18446744073709551615 := fun x hx => by have := hmk.2.2 x hx; omega
  simp [lk_cons, k1, k2, c1, c2, storeL]
  refine next14_c hlv hm hH (by omega) hw ml me L e hme.1 he.1 _ _ ?_
  simp [lk_cons, c1, c2, storeL]
  refine free_c hlv hm hH (by omega) hw ml me L e _ _ ?_
  simp [lk_cons, c1, c2, storeL, ↓eqs_ps]
  refine backlog_c hlv hm hbd hH (by omega) hw hC hme.1 _ _ ?_
  simp [lk_cons, c1, c2, storeL]
  refine rbacklog_c hlv hm hH (by omega) hw ml me _ _ ?_
  simp [lk_cons, c1, c2, storeL]

open OkCursorNexts in
theorem lawCursorNexts (a0 : AVal) (o0 : ok22 [a0]) (a1 : AVal) (o1 : ok4 [a1]) (a2 : AVal) (o2 : ok5 [a2]) (us3 : List AVal) (o3 : ok28 us3) (us4 : List AVal) (o4 : ok25 us4) (a5 : AVal) (o5 : ok4 [a5]) : ACall Try.prog 5 [a0, a1, a2, .agg us3, .agg us4, a5] σ0 fun v _ => v = .bool true := by
  obtain ⟨l, hb, hl⟩ := b_arg (fun x hx => hx) o0
  obtain ⟨op, h1⟩ := o1
  cases h1
  obtain ⟨n, h2, w2⟩ := o2
  cases h2
  obtain ⟨n, rfl, hn⟩ := wf_u8 w2
  obtain ⟨_, hx, rfl, ha, hh⟩ := o3
  obtain ⟨a, b, rfl, ha1, ha2⟩ := p_arg ha
  obtain ⟨p, q, rfl, hp1, hp2⟩ := p_arg o4
  obtain ⟨raw, h5⟩ := o5
  cases h5
  have hone : ∃ hv : AVal, hx = [hv] := by rcases hh with h | ⟨xs, h, _⟩ <;> exact ⟨_, h⟩
  obtain ⟨hv, rfl⟩ := hone
  obtain ⟨h, hH, hA⟩ := h_arg hh
  exact nexts_c hb hl op n hn hH hA a b p q ⟨ha1, ha2⟩ ⟨hp1, hp2⟩ raw

end Go.Proofs.Ytinfnpbglapjhaa.AM
