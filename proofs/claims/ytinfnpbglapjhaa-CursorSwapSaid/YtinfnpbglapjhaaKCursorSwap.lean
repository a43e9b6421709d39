/- Two acks in one order and in the other; all up to a place. -/
import Derived.Test.YtinfnpbglapjhaaCtxxx14
import Derived.Test.YtinfnpbglapjhaaOkCursorSwap
namespace Go.Proofs.Ytinfnpbglapjhaa.AM
open Go.RowKit
set_option maxRecDepth 100000
set_option linter.unusedVariables false
set_option linter.unusedSimpArgs false

theorem ack_zero {o : Int} {t : List Ld} {ml me : Int} {h : List Hd} {L e c x y : Int} {H : List Hd} (r : AckRes o t ml me h L e c x y H) (h1 : hasM o L e t = true) (h2 : ackB ml me h ⟨L, e⟩ = false) : c = 0 := by
  rcases r with ⟨r1, _⟩ | ⟨_, r1, _⟩ | ⟨_, _, r1, _⟩
  · rw [h1] at r1; cases r1
  · rw [h2] at r1; cases r1
  · exact r1
theorem ack_zero' {o : Int} {t : List Ld} {ml me : Int} {h : List Hd} {L e x y : Int} {H : List Hd} (r : AckRes o t ml me h L e 0 x y H) : hasM o L e t = true ∧ ackB ml me h ⟨L, e⟩ = false := by
  rcases r with ⟨_, r2, _⟩ | ⟨_, _, r2, _⟩ | ⟨r1, r2, _⟩
  · cases r2
  · cases r2
  · exact ⟨r1, r2⟩
theorem all_zero {o : Int} {t : List Ld} {ml me : Int} {h : List Hd} {L e c x y : Int} {H : List Hd} (r : AllRes o t ml me h L e c x y H) (h1 : hasM o L e t = true) (h2 : ¬ ordM L e ml me < 0) : c = 0 := by
  rcases r with ⟨r1, _⟩ | ⟨_, r1, _⟩ | ⟨_, _, r1, _⟩
  · rw [h1] at r1; cases r1
  · exact absurd r1 h2
  · exact r1
def SwJ (lv wv : AVal) (o L e xa ya : Int) (va : AVal) (A : List S25) (B : S25 → Bool) (mm : Nat) (rg : Regs) (σ' : St) : Prop := ∃ (i : Nat) (x y : Int) (v : AVal) (H : List Hd), mm = A.length - i ∧ i ≤ A.length ∧ HI v H ∧ HWn (14 + i) H ∧ COk x y H ∧ 0 ≤ y ∧
  (∀ q ∈ A, ackB x y H q = (B q || (decide (ordM q.f0 q.f1 L e ≤ 0) && decide (q ∈ A.take i)))) ∧ 7 ≤ σ'.next ∧ σ'.mem.get 1 = some (.cells 2 [u64 L, u64 e]) ∧ σ'.mem.get 5 = some (.cells 3 [u64 xa, u64 ya, va]) ∧ σ'.mem.get 6 = some (.cells 3 [u64 x, u64 y, v]) ∧
  rg = [(10, .ptr 1 0), (13, lv), (14, u64 o), (19, .ptr 5 0), (20, i64 0), (21, .ptr 6 0), (107, wv), (108, i64 A.length), (109, i64 i)]
def SwJ2 (lv wv : AVal) (o xa ya : Int) (va : AVal) (x y : Int) (v : AVal) (A : List S25) (mm : Nat) (rg : Regs) (σ' : St) : Prop := ∃ i : Nat, mm = A.length - i ∧ i ≤ A.length ∧ 7 ≤ σ'.next ∧ σ'.mem.get 5 = some (.cells 3 [u64 xa, u64 ya, va]) ∧ σ'.mem.get 6 = some (.cells 3 [u64 x, u64 y, v]) ∧
  rg = [(13, lv), (14, u64 o), (19, .ptr 5 0), (20, i64 0), (21, .ptr 6 0), (137, wv), (138, i64 A.length), (139, i64 i)]
set_option maxHeartbeats 4000000 in
theorem swap_c {d hv : AVal} {l : List UInt8} {h : List Hd} (hb : BytesOf d l) (hl : l.length ≤ 9223372036854775806) (op : Bool) (n : Nat) (hn : n < 256) (hh : HI hv h) (ha : HArg h) (a b p q p2 q2 : Int) (hab : (0 ≤ a ∧ a ≤ 18446744073709551615) ∧ 0 ≤ b ∧ b ≤ 18446744073709551615) (hpq : (0 ≤ p ∧ p ≤ 18446744073709551615) ∧ 0 ≤ q ∧ q ≤ 18446744073709551615) (hpq2 : (0 ≤ p2 ∧ p2 ≤ 18446744073709551615) ∧ 0 ≤ q2 ∧ q2 ≤ 18446744073709551615) :
    ACall Try.prog 7 [d, .bool op, .int .u8 n, cv a b hv, ps p q, ps p2 q2] σ0 fun v _ => v = .bool true := by
  refine ACall.of_compF hmx (fun a w => Try.call7 a w) Try.func7 cf7 (n := 6) (by decide) rfl ?_
  have k1 := hh.one.1
  have k2 := hh.one.2
  simp only [ac7, rs7]
  simp [lk_cons, k1, k2]
  refine awake _ _ ?_
  simp [lk_cons, k1, k2]
  refine made_c hb hl op _ _ fun lv t hlv hmk => ?_
  have e6 : Int.tmod (n : Int) 6 = (n : Int) % 6 := Int.tmod_eq_emod_of_nonneg (by omega)
  have e7 : IntKind.u64.wrap ((n : Int) % 6) = (n : Int) % 6 := by rw [IntWalk.u64_in]; omega
  simp [lk_cons, k1, k2, e6, e7]
  refine right14_c hh ha a b false hab _ _ fun ml me cv1 H hml hme hH hC h7 h14 => ?_
  have c1 := hH.one.1
  have c2 := hH.one.2
  simp [lk_cons, k1, k2]
  refine place_c p q false hpq.1 hpq.2 _ _ fun L e hL he _ => ?_
  simp [lk_cons, k1, k2]
  refine place_c p2 q2 false hpq2.1 hpq2.2 _ _ fun L2 e2 hL2 he2 _ => ?_
  have ho : 0 ≤ (n : Int) % 6 ∧ (n : Int) % 6 ≤ 5 := by omega
  obtain ⟨o, hoo⟩ : ∃ o : Int, (n : Int) % 6 = o := ⟨_, rfl⟩
  rw [hoo] at ho ⊢
  have hm := mk_mk' hmk ho
  have hw := cok_hwn hC h7 h14
  have htl := hm.1
  have hbd : ∀ x ∈ t, x.f0 ≤ 18446744073709551615 := fun x hx => by have := hmk.2.2 x hx; omega
  have hA5 := all_len5 (o := o) hm.2.2
  simp [lk_cons, k1, k2, c1, c2, storeL]
  refine ack_r hlv hm hH (by omega) hw ml me L e hme.1 he _ _ fun co x y v1 H1 ra hv1 => ?_
  have d1 := hv1.one.1
  have d2 := hv1.one.2
  simp [lk_cons, k1, k2, c1, c2, d1, d2, storeL]
  refine ack_r hlv hm hH (by omega) hw ml me L2 e2 hme.1 he2 _ _ fun co2 x2 y2 v2 H2 rb hv2 => ?_
  have f1 := hv2.one.1
  have f2 := hv2.one.2
  by_cases h0 : co = 0
  · by_cases h1 : co2 = 0
    · by_cases hne : L = L2 ∧ e = e2
      · obtain ⟨rfl, rfl⟩ := hne
        simp [lk_cons, c1, c2, d1, d2, f1, f2, storeL, h0, h1, ↓eqs_ps]
      · subst h0 h1
        obtain ⟨z1, z2⟩ := ack_zero' ra
        obtain ⟨z3, z4⟩ := ack_zero' rb
        have hwa := (ra.hw hm hme.1 hw he.1).1
        have hwb := (rb.hw hm hme.1 hw he2.1).1
        obtain ⟨_, a2, a3, a4, a5, _⟩ := ack_law hm hw hC hme.1 hL he.1 ra
        obtain ⟨_, b2, b3, b4, b5, _⟩ := ack_law hm hw hC hme.1 hL2 he2.1 rb
        have nq : ackB x y H1 ⟨L2, e2⟩ = false := by
          rw [a4 _ b5, z4, Bool.false_or, decide_eq_false_iff_not]
          intro hh; injection hh with u1 u2; exact hne ⟨u1.symm, u2.symm⟩
        have np : ackB x2 y2 H2 ⟨L, e⟩ = false := by
          rw [b4 _ a5, z2, Bool.false_or, decide_eq_false_iff_not]
          intro hh; injection hh with u1 u2; exact hne ⟨u1, u2⟩
        simp [lk_cons, c1, c2, d1, d2, f1, f2, storeL, ↓eqs_ps, hne]
        refine ack_r hlv hm hv1 (by omega) hwa x y L2 e2 a2 he2 _ _ fun co3 x3 y3 v3 H3 rc hv3 => ?_
        obtain rfl := ack_zero rc z3 nq
        have g1 := hv3.one.1
        have g2 := hv3.one.2
        simp [lk_cons, c1, c2, d1, d2, f1, f2, g1, g2, storeL]
        refine ack_r hlv hm hv2 (by omega) hwb x2 y2 L e b2 he _ _ fun co4 x4 y4 v4 H4 rd hv4 => ?_
        obtain rfl := ack_zero rd z1 np
        have i1 := hv4.one.1
        have i2 := hv4.one.2
        obtain ⟨rfl, rfl, rfl⟩ := swap_acks hm hw hC hme.1 hL he.1 hL2 he2.1 ra rc rb rd
        have hwc := (rc.hw hm a2 hwa he2.1).1
        simp [lk_cons, c1, c2, d1, d2, f1, f2, g1, g2, i1, i2, storeL]
        refine csame_c hv3 hv4 (hwc.hw (by omega)) x3 y3 _ _ ?_
        simp [lk_cons, c1, c2, d1, d2, f1, f2, g1, g2, i1, i2, storeL]
        refine ackall_r hlv hm hH (by omega) hw ml me L e he _ _ fun co5 xa ya va HA re hva => ?_
        have nord : ¬ ordM L e ml me < 0 := fun hh => by
          unfold ackB at z2
          rw [decide_eq_true hh, Bool.true_or] at z2
          cases z2
        obtain rfl := all_zero re z1 nord
        obtain ⟨_, m2, m3, m4, _⟩ := all_law hm hw hC he.1 re
        have hwA := (re.hw hm hw he.1).1
        have j1 := hva.one.1
        have j2 := hva.one.2
        simp [lk_cons, c1, c2, d1, d2, f1, f2, g1, g2, i1, i2, j1, j2, storeL]
        refine all_c hlv (by omega) hm.s _ _ fun wv hwv => ?_
        have wl := (hwv.m σ0).len
        simp [lk_cons, ↓wl]
        refine wp_loop (SwJ lv wv o L e xa ya va (allM o t) (ackB ml me H)) (allM o t).length ?_ ?_
        · exact ⟨0, ml, me, cv1, H, rfl, Nat.zero_le _, hH, hw, hC, hme.1, fun q _ => by simp, by simp, by simp, by simp, by simp, rfl⟩
        · rintro mm rg σ1 ⟨i, u, w, v, G, rfl, hi, hG, hwG, hCG, hw0, hack, hn1, n1, n5, n6, rfl⟩
          have G1 := hG.one.1
          have G2 := hG.one.2
          have y1 : ¬ 1 = σ1.next := by omega
          have y5 : ¬ 5 = σ1.next := by omega
          have y6 : ¬ 6 = σ1.next := by omega
          have y1' : ¬ 1 = σ1.next + 1 := by omega
          have y5' : ¬ 5 = σ1.next + 1 := by omega
          have y6' : ¬ 6 = σ1.next + 1 := by omega
          by_cases hlt : i < (allM o t).length
          · obtain ⟨z, hz⟩ : ∃ z, (allM o t)[i]? = some z := ⟨_, List.getElem?_eq_getElem hlt⟩
            obtain ⟨k, hk⟩ : ∃ k, i + 1 = k := ⟨_, rfl⟩
            have w1 : IntKind.i64.wrap ((i : Int) + 1) = (k : Int) := by rw [IntWalk.i64_in] <;> omega
            obtain ⟨pp, pp1, pp2, _, _⟩ := (hwv.m σ1).at hz (ρ := σ1) fun _ _ => rfl
            have hzm := List.mem_of_getElem? hz
            have hzz : (⟨z.f0, z.f1⟩ : S25) = z := rfl
            obtain ⟨zx, hzx, zx0, zx1, zx2⟩ := all_mem hzm
            have hzb := hmk.2.2 zx hzx
            have hzs := hm.2.2 zx hzx
            have htk : ∀ q : S25, q ∈ (allM o t).take k ↔ q ∈ (allM o t).take i ∨ q = z := fun q => by
              rw [← hk, List.take_add_one, hz]; simp
            simp [lk_cons, hlt, ↓pp1, ↓pp2, storeL, n1, n5, n6, y1, y5, y6, G1, G2]
            refine order_c z.f0 z.f1 L e _ _ ?_
            by_cases hle : ordM z.f0 z.f1 L e ≤ 0
            · simp [lk_cons, storeL, n1, n5, n6, y1, y5, y6, G1, G2, hle]
              refine acked_c hG (hwG.hw (by omega)) u w z.f0 z.f1 _ _ ?_
              rw [hzz]
              cases hzk : ackB u w G z with
              | true =>
                simp [lk_cons, storeL, n1, n5, n6, y1, y5, y6, G1, G2, w1]
                refine ⟨(allM o t).length - k, by omega, k, u, w, v, G, rfl, by omega, hG, ⟨by have := hwG.1; omega, fun x hx => ⟨(hwG.2 x hx).1, by have := (hwG.2 x hx).2; omega⟩⟩, hCG, hw0, fun q hq => ?_, by simp; omega, by simp [y1]; exact n1, by simp [y5]; exact n5, by simp [y6]; exact n6, rfl⟩
                by_cases hqz : q = z
                · rw [hqz, hzk]
                  have : z ∈ (allM o t).take k := (htk z).2 (.inr rfl)
                  simp [hle, this]
                · rw [hack q hq]
                  have : (q ∈ (allM o t).take k) = (q ∈ (allM o t).take i) := by rw [htk q]; simp [hqz]
                  simp only [this]
              | false =>
                simp [lk_cons, storeL, n1, n5, n6, y1, y5, y6, G1, G2]
                refine ack_r hlv hm hG (by omega) hwG u w z.f0 z.f1 hw0 (by omega) _ _ fun co6 u2 w2 v6 G6 rf hv6 => ?_
                have hzhas := (has_mem hm.2.1 hm.s (L := z.f0) zx1).2 hzm
                obtain rfl := ack_zero rf hzhas hzk
                obtain ⟨_, q2', q3', q4', _⟩ := ack_law hm hwG hCG hw0 (by omega) zx1 rf
                have hwq := (rf.hw hm hw0 hwG zx1).1
                have r1 := hv6.one.1
                have r2 := hv6.one.2
                simp [lk_cons, storeL, n1, n5, n6, y1, y5, y6, y1', y5', y6', G1, G2, r1, r2, w1]
                refine ⟨(allM o t).length - k, by omega, k, u2, w2, v6, G6, rfl, by omega, hv6, by rw [← hk]; exact hwq, q3', q2', fun q hq => ?_, by simp; omega, by simp [y1, show ¬ σ1.next = 0 by omega]; exact n1, by simp [y5, y5']; exact n5, by simp, rfl⟩
                rw [q4' q hq, hack q hq, hzz]
                by_cases hqz : q = z
                · have : z ∈ (allM o t).take k := (htk z).2 (.inr rfl)
                  simp [hqz, hle, this]
                · have : (q ∈ (allM o t).take k) = (q ∈ (allM o t).take i) := by rw [htk q]; simp [hqz]
                  simp [hqz, this]
            · simp [lk_cons, storeL, n1, n5, n6, y1, y5, y6, G1, G2, hle, w1]
              refine ⟨(allM o t).length - k, by omega, k, u, w, v, G, rfl, by omega, hG, ⟨by have := hwG.1; omega, fun x hx => ⟨(hwG.2 x hx).1, by have := (hwG.2 x hx).2; omega⟩⟩, hCG, hw0, fun q hq => ?_, by simp; omega, by simp [y1]; exact n1, by simp [y5]; exact n5, by simp [y6]; exact n6, rfl⟩
              rw [hack q hq]
              by_cases hqz : q = z
              · simp [hqz, hle]
              · have : (q ∈ (allM o t).take k) = (q ∈ (allM o t).take i) := by rw [htk q]; simp [hqz]
                simp only [this]
          · have : i = (allM o t).length := by omega
            subst this
            have heq : ∀ q ∈ allM o t, ackB xa ya HA q = ackB u w G q := fun q hq => by
              rw [m4 q hq, hack q hq, List.take_length]; simp [hq]
            simp [lk_cons, ↓wl]
            refine all_c hlv (by omega) hm.s _ _ fun wv2 hwv2 => ?_
            have wl2 := (hwv2.m σ0).len
            simp [lk_cons, ↓wl2]
            refine wp_loop (SwJ2 lv wv2 o xa ya va u w v (allM o t)) (allM o t).length ?_ ?_
            · exact ⟨0, rfl, Nat.zero_le _, hn1, n5, n6, rfl⟩
            · rintro mm2 rg2 σ2 ⟨i2, rfl, hi2, hn2, s5, s6, rfl⟩
              have x5 : ¬ 5 = σ2.next := by omega
              have x6 : ¬ 6 = σ2.next := by omega
              by_cases hlt2 : i2 < (allM o t).length
              · obtain ⟨z, hz⟩ : ∃ z, (allM o t)[i2]? = some z := ⟨_, List.getElem?_eq_getElem hlt2⟩
                obtain ⟨k, hk⟩ : ∃ k, i2 + 1 = k := ⟨_, rfl⟩
                have w1 : IntKind.i64.wrap ((i2 : Int) + 1) = (k : Int) := by rw [IntWalk.i64_in] <;> omega
                obtain ⟨pp, pp1, pp2, _, _⟩ := (hwv2.m σ2).at hz (ρ := σ2) fun _ _ => rfl
                have hzm := List.mem_of_getElem? hz
                have hzz : (⟨z.f0, z.f1⟩ : S25) = z := rfl
                simp [lk_cons, hlt2, ↓pp1, ↓pp2, storeL, s5, s6, x5, x6, G1, G2, j1, j2]
                refine acked_c hva (hwA.hw (by omega)) xa ya z.f0 z.f1 _ _ ?_
                simp [lk_cons, storeL, s5, s6, x5, x6, G1, G2, j1, j2]
                refine acked_c hG (hwG.hw (by omega)) u w z.f0 z.f1 _ _ ?_
                rw [hzz, heq z hzm]
                simp [lk_cons, storeL, s5, s6, x5, x6, G1, G2, j1, j2, w1]
                exact ⟨(allM o t).length - k, by omega, k, rfl, by omega, by simp; omega, by simp [x5]; exact s5, by simp [x6]; exact s6, rfl⟩
              · have : i2 = (allM o t).length := by omega
                subst this
                simp [lk_cons, s5, s6, G1, G2, j1, j2]
                refine backlog_c hlv hm hbd hva (by omega) hwA m3 m2 _ _ ?_
                simp [lk_cons, s5, s6, G1, G2, j1, j2]
                refine backlog_c hlv hm hbd hG (by omega) hwG hCG hw0 _ _ ?_
                have : cnt o t (fun q => !ackB u w G q) = cnt o t (fun q => !ackB xa ya HA q) := by
                  unfold cnt
                  exact List.countP_congr fun q hq => by rw [heq q hq]
                rw [this]
                simp [lk_cons]
    · simp [lk_cons, c1, c2, d1, d2, f1, f2, storeL, h0, h1]
  · simp [lk_cons, c1, c2, d1, d2, f1, f2, storeL, h0]

open OkCursorSwap in
theorem lawCursorSwap (a0 : AVal) (o0 : ok22 [a0]) (a1 : AVal) (o1 : ok4 [a1]) (a2 : AVal) (o2 : ok5 [a2]) (us3 : List AVal) (o3 : ok28 us3) (us4 : List AVal) (o4 : ok25 us4) (us5 : List AVal) (o5 : ok25 us5) : ACall Try.prog 7 [a0, a1, a2, .agg us3, .agg us4, .agg us5] σ0 fun v _ => v = .bool true := by
  obtain ⟨l, hb, hl⟩ := b_arg (fun x hx => hx) o0
  obtain ⟨op, h1⟩ := o1
  cases h1
  obtain ⟨n, h2, w2⟩ := o2
  cases h2
  obtain ⟨n, rfl, hn⟩ := wf_u8 w2
  obtain ⟨_, hx, rfl, ha, hh⟩ := o3
  obtain ⟨a, b, rfl, ha1, ha2⟩ := p_arg ha
  obtain ⟨p, q, rfl, hp1, hp2⟩ := p_arg o4
  obtain ⟨p2, q2, rfl, hp3, hp4⟩ := p_arg o5
  have hone : ∃ hv : AVal, hx = [hv] := by rcases hh with h | ⟨xs, h, _⟩ <;> exact ⟨_, h⟩
  obtain ⟨hv, rfl⟩ := hone
  obtain ⟨h, hH, hA⟩ := h_arg hh
  exact swap_c hb hl op n hn hH hA a b p q p2 q2 ⟨ha1, ha2⟩ ⟨hp1, hp2⟩ ⟨hp3, hp4⟩

end Go.Proofs.Ytinfnpbglapjhaa.AM
