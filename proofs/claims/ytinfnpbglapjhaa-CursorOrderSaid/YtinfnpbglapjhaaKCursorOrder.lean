/- Entries acked in whatever order. -/
import Derived.Test.YtinfnpbglapjhaaCtxxx14
import Derived.Test.YtinfnpbglapjhaaOkCursorOrder
namespace Go.Proofs.Ytinfnpbglapjhaa.AM
open Go.RowKit
set_option maxRecDepth 100000
set_option linter.unusedVariables false
set_option linter.unusedSimpArgs false

theorem ack_zero {o : Int} {t : List Ld} {ml me : Int} {h : List Hd} {L e c x y : Int} {H : List Hd} (r : AckRes o t ml me h L e c x y H) (h1 : hasM o L e t = true) (h2 : ackB ml me h ⟨L, e⟩ = false) : c = 0 := by
  rcases r with ⟨r1, _⟩ | ⟨_, r1, _⟩ | ⟨_, _, r1, _⟩
  · rw [h1] at r1; cases r1
  · rw [h2] at r1; cases r1
  · exact r1
theorem ack_31 {o : Int} {t : List Ld} {ml me : Int} {h : List Hd} {L e c x y : Int} {H : List Hd} (r : AckRes o t ml me h L e c x y H) (h1 : hasM o L e t = true) (h2 : ackB ml me h ⟨L, e⟩ = true) : c = 31 := by
  rcases r with ⟨r1, _⟩ | ⟨_, _, r1, _⟩ | ⟨_, r1, _⟩
  · rw [h1] at r1; cases r1
  · exact r1
  · rw [h2] at r1; cases r1
/-- Where it stands: what is acked, and the cursor. -/
def OrS (o : Int) (t : List Ld) (s : List S25) (x y : Int) (v : AVal) (H : List Hd) (n : Nat) (σ' : St) : Prop := HI v H ∧ HWn n H ∧ COk x y H ∧ 0 ≤ y ∧ (∀ q ∈ allM o t, ackB x y H q = decide (q ∈ s)) ∧ (∀ K n, InP (ofM K H) n → (⟨K, n⟩ : S25) ∈ allM o t) ∧ (∀ q ∈ s, q ∈ allM o t) ∧ s.Nodup ∧ ((∀ q ∈ allM o t, q ∈ s) → H = []) ∧
  2 ≤ σ'.next ∧ σ'.mem.get 0 = some (.cells 3 [u64 x, u64 y, v]) ∧ ∃ clock ents, σ'.mem.get 1 = some (.map clock ents) ∧ PE ents s
def OrJ1 (lv wv dv : AVal) (o : Int) (t : List Ld) (os : List UInt8) (mm : Nat) (rg : Regs) (σ' : St) : Prop := ∃ (i : Nat) (s : List S25) (x y : Int) (v : AVal) (H : List Hd), mm = os.length - i ∧ i ≤ os.length ∧ i ≤ 101 ∧ OrS o t s x y v H i σ' ∧
  rg = [(9, lv), (10, u64 o), (11, wv), (12, .ptr 0 0), (13, .map 1), (37, dv), (38, i64 os.length), (39, i64 i)]
def OrJ2 (lv wv : AVal) (o : Int) (t : List Ld) (s : List S25) (x y : Int) (v : AVal) (H : List Hd) (mm : Nat) (rg : Regs) (σ' : St) : Prop := ∃ (i : Nat) (f : Bool), mm = (allM o t).length - i ∧ i ≤ (allM o t).length ∧ (f = true → ∀ q ∈ (allM o t).take i, q ∈ s) ∧ OrS o t s x y v H 200 σ' ∧
  rg = [(9, lv), (10, u64 o), (11, wv), (12, .ptr 0 0), (13, .map 1), (19, .bool f), (83, wv), (84, i64 (allM o t).length), (85, i64 i)]
set_option maxHeartbeats 4000000 in
theorem order14_c {d dv : AVal} {l os : List UInt8} (hb : BytesOf d l) (hl : l.length ≤ 9223372036854775806) (hb2 : BytesOf dv os) (hl2 : os.length ≤ 9223372036854775806) (op : Bool) (n : Nat) (hn : n < 256) :
    ACall Try.prog 6 [d, .bool op, .int .u8 n, dv] σ0 fun v _ => v = .bool true := by
  refine ACall.of_compF hmx (fun a w => Try.call6 a w) Try.func6 cf6 (n := 4) (by decide) rfl ?_
  simp only [ac6, rs6]
  simp [-wp_block, lk_cons]
  refine awake _ _ ?_
  simp [-wp_block, lk_cons]
  refine made_c hb hl op _ _ fun lv t hlv hmk => ?_
  have e6 : Int.tmod (n : Int) 6 = (n : Int) % 6 := Int.tmod_eq_emod_of_nonneg (by omega)
  have e7 : IntKind.u64.wrap ((n : Int) % 6) = (n : Int) % 6 := by rw [IntWalk.u64_in]; omega
  have ho : 0 ≤ (n : Int) % 6 ∧ (n : Int) % 6 ≤ 5 := by omega
  simp [-wp_block, lk_cons, e6, e7]
  obtain ⟨o, hoo⟩ : ∃ o : Int, (n : Int) % 6 = o := ⟨_, rfl⟩
  rw [hoo] at ho ⊢
  have hm := mk_mk' hmk ho
  have htl := hm.1
  have hbd : ∀ x ∈ t, x.f0 ≤ 18446744073709551615 := fun x hx => by have := hmk.2.2 x hx; omega
  have hA5 := all_len5 (o := o) hm.2.2
  refine all_c hlv (by omega) hm.s _ _ fun wv hwv => ?_
  have wl := (hwv.m σ0).len
  have dl := hb2.len
  simp [-wp_block, lk_cons, fillL, storeL, ↓dl]
  refine wp_cutK (fun rg s' => ∃ s x y v H, OrS o t s x y v H 200 s' ∧ rg.lookup 9 = some lv ∧ rg.lookup 10 = some (u64 o) ∧ rg.lookup 11 = some wv ∧ rg.lookup 12 = some (.ptr 0 0) ∧ rg.lookup 13 = some (.map 1)) ?_ ?_
  · simp only [wp_block]
    refine wp_loop (OrJ1 lv wv dv o t os) os.length ?_ ?_
    · have h0a : ∀ q ∈ allM o t, ackB 0 0 [] q = decide (q ∈ ([] : List S25)) := fun q hq => by
        obtain ⟨x, hx, e1, e2, e3⟩ := all_mem hq
        have := hmk.2.2 x hx
        rw [Bool.eq_iff_iff, ackB_iff, decide_eq_true_eq]
        constructor
        · rintro (h | h)
          · omega
          · exact absurd h (in_nil _)
        · intro h; cases h
      exact ⟨0, [], 0, 0, .nilsl, [], rfl, Nat.zero_le _, by omega, ⟨.inl ⟨rfl, rfl⟩, ⟨by simp, by simp⟩, ⟨trivial, by simp, fun K n hn => absurd hn (in_nil n)⟩, Int.le_refl _, h0a, fun K n hn => absurd hn (in_nil n), by simp, List.nodup_nil, fun _ => rfl, by simp, by simp, 0, [], by simp, trivial⟩, rfl⟩
    · rintro mm rg σ1 ⟨i, s, x, y, v, H, rfl, hi, hi1, ⟨hH, hwH, hCH, hy, hack, hent, hsub, hnd, hall, hn1, m0, clock, ents, m1, hpe⟩, rfl⟩
      have c1 := hH.one.1
      have c2 := hH.one.2
      have hwU : ∀ k : Nat, i ≤ k → HWn k H := fun k hk => ⟨by have := hwH.1; omega, fun z hz => ⟨(hwH.2 z hz).1, by have := (hwH.2 z hz).2; omega⟩⟩
      by_cases hlt : i < os.length
      · obtain ⟨z, hz⟩ : ∃ z, os[i]? = some z := ⟨_, List.getElem?_eq_getElem hlt⟩
        obtain ⟨k, hk⟩ : ∃ k, i + 1 = k := ⟨_, rfl⟩
        have w1 : IntKind.i64.wrap ((i : Int) + 1) = (k : Int) := by rw [IntWalk.i64_in] <;> omega
        obtain ⟨pp, pp1, pp2⟩ := hb2.at hz σ1
        by_cases h100 : (100 : Int) < (i : Int)
        · simp [lk_cons, hlt, ↓pp1, ↓pp2, h100]
          exact ⟨s, x, y, v, H, hH, hwU 200 (by omega), hCH, hy, hack, hent, hsub, hnd, hall, hn1, m0, clock, ents, m1, hpe⟩
        · by_cases hA0 : (allM o t).length = 0
          · simp [lk_cons, hlt, ↓pp1, ↓pp2, h100, ↓wl, hA0]
            exact ⟨s, x, y, v, H, hH, hwU 200 (by omega), hCH, hy, hack, hent, hsub, hnd, hall, hn1, m0, clock, ents, m1, hpe⟩
          · have hA0' : ¬ ((allM o t).length : Int) = 0 := by omega
            obtain ⟨r, hr⟩ : ∃ r, z.toNat % (allM o t).length = r := ⟨_, rfl⟩
            have hrl : r < (allM o t).length := by rw [← hr]; exact Nat.mod_lt _ (by omega)
            have zb : z.toNat < 256 := z.toNat_lt
            have e8 : IntKind.i64.wrap (z.toNat : Int) = (z.toNat : Int) := by rw [IntWalk.i64_in] <;> omega
            have e9 : Int.tmod (z.toNat : Int) ((allM o t).length : Int) = (r : Int) := by rw [Int.tmod_eq_emod_of_nonneg (by omega), ← hr]; rfl
            obtain ⟨p, hp⟩ : ∃ p, (allM o t)[r]? = some p := ⟨_, List.getElem?_eq_getElem hrl⟩
            obtain ⟨qq, qq1, qq2, _, _⟩ := (hwv.m σ1).at hp (ρ := σ1) fun _ _ => rfl
            have hpm := List.mem_of_getElem? hp
            have hpp : (⟨p.f0, p.f1⟩ : S25) = p := rfl
            obtain ⟨px, hpx, px0, px1, px2⟩ := all_mem hpm
            have hpb := hmk.2.2 px hpx
            have hps := hm.2.2 px hpx
            have hphas := (has_mem hm.2.1 hm.s (L := p.f0) px1).2 hpm
            have y0 : ¬ 0 = σ1.next := by omega
            have y1 : ¬ 1 = σ1.next := by omega
            have y0' : ¬ 0 = σ1.next + 1 := by omega
            have y1' : ¬ σ1.next = 0 := by omega
            have hkey := keyis_ps p.f0 p.f1
            simp [lk_cons, hlt, ↓pp1, ↓pp2, h100, ↓wl, hA0, hA0', e8, e9, ↓qq1, ↓qq2, storeL, m0, y0, y1, c1, c2]
            refine ack_r hlv hm hH (by omega) hwH x y p.f0 p.f1 hy (by omega) _ _ fun co x2 y2 v2 H2 ra hv2 => ?_
            have f1 := hv2.one.1
            have f2 := hv2.one.2
            rcases hpe.find p with ⟨k1, ix, k2⟩ | ⟨k1, k2⟩
            · -- it was
              have hac := hack p hpm
              rw [decide_eq_true k1] at hac
              obtain rfl := ack_31 ra hphas hac
              have fin := (⟨os.length - k, by omega, k, s, x, y, v, H, rfl, by omega, by omega, ⟨hH, hwU k (by omega), hCH, hy, hack, hent, hsub, hnd, hall, by show 2 ≤ σ1.next + 1 + 1; omega, by simp [y0, y0']; exact m0, clock, ents, by simp [y1, y1']; exact m1, hpe⟩, rfl⟩ :
                ∃ mm, mm < os.length - i ∧ OrJ1 lv wv dv o t os mm [(9, lv), (10, u64 o), (11, wv), (12, .ptr 0 0), (13, .map 1), (37, dv), (38, i64 os.length), (39, i64 k)] ⟨(((σ1.mem.set σ1.next (.cells 2 [.int .u64 0, .int .u64 0])).set σ1.next (.cells 2 [u64 p.f0, u64 p.f1])).set (σ1.next + 1) (.cells 3 [.int .u64 0, .int .u64 0, .nilsl])).set (σ1.next + 1) (.cells 3 [u64 x2, u64 y2, v2]), σ1.next + 1 + 1⟩)
              simp [lk_cons, storeL, m0, m1, y0, y1, y0', y1', c1, c2, f1, f2, hkey, k2, w1]
              exact fin
            · have hac := hack p hpm
              rw [decide_eq_false k1] at hac
              obtain rfl := ack_zero ra hphas hac
              obtain ⟨_, q2', q3', q4', _, _, q5', q6'⟩ := ack_law hm hwH hCH hy (by omega) px1 ra
              have hwq := (ra.hw hm hy hwH px1).1
              simp [lk_cons, storeL, m0, m1, y0, y1, y0', y1', c1, c2, f1, f2, hkey, k2]
              refine rcheck_c hv2 (by omega) hwq q3' _ _ ?_
              have hack2 : ∀ q ∈ allM o t, ackB x2 y2 H2 q = decide (q ∈ s ++ [p]) := fun q hq => by
                rw [q4' q hq, hack q hq]
                by_cases u1 : q ∈ s <;> by_cases u2 : q = p <;> simp [u1, u2]
              simp [lk_cons, storeL, m0, m1, y0, y1, y0', y1', c1, c2, f1, f2, hkey, k2, w1]
              refine ⟨os.length - k, by omega, k, s ++ [p], x2, y2, v2, H2, rfl, by omega, by omega, ⟨hv2, by rw [← hk]; exact hwq, q3', q2', hack2, q6' hent, fun q hq => ?_, ?_, fun hal => q5' (fun q hq => by rw [hack2 q hq]; exact decide_eq_true (hal q hq)) hent, by show 2 ≤ σ1.next + 1 + 1; omega, by simp, clock + 1, _, by simp, hpe.snoc clock p⟩, rfl⟩
              · rcases List.mem_append.1 hq with hq | hq
                · exact hsub q hq
                · rw [List.mem_singleton.1 hq]; exact hpm
              · rw [List.nodup_append]
                refine ⟨hnd, by simp, fun a ha b hb => ?_⟩
                rw [List.mem_singleton.1 hb]
                intro hh
                exact k1 (hh ▸ ha)
      · have : i = os.length := by omega
        subst this
        simp [lk_cons]
        exact ⟨s, x, y, v, H, hH, hwU 200 (by omega), hCH, hy, hack, hent, hsub, hnd, hall, hn1, m0, clock, ents, m1, hpe⟩
  · rintro rg s' ⟨s, x, y, v, H, ⟨hH, hwH, hCH, hy, hack, hent, hsub, hnd, hall, hn1, m0, hmap⟩, t9, t10, t11, t12, t13⟩
    simp [lk_cons, t9, t10, t11, t12, t13, ↓wl]
    refine wp_loop (OrJ2 lv wv o t s x y v H) (allM o t).length ?_ ?_
    · exact ⟨0, true, rfl, Nat.zero_le _, fun _ q hq => by simp at hq, ⟨hH, hwH, hCH, hy, hack, hent, hsub, hnd, hall, hn1, m0, hmap⟩, rfl⟩
    · rintro mm rg2 σ1 ⟨i, f, rfl, hi, hf, ⟨_, _, _, _, _, _, _, _, _, hn2, n0, clock, ents, n1, hpe⟩, rfl⟩
      have c1 := hH.one.1
      have c2 := hH.one.2
      have hlen := hpe.len
      have y0 : ¬ 0 = σ1.next := by omega
      have y1 : ¬ 1 = σ1.next := by omega
      have y0' : ¬ 0 = σ1.next + 1 := by omega
      have y1' : ¬ σ1.next = 0 := by omega
      by_cases hlt : i < (allM o t).length
      · obtain ⟨z, hz⟩ : ∃ z, (allM o t)[i]? = some z := ⟨_, List.getElem?_eq_getElem hlt⟩
        obtain ⟨k, hk⟩ : ∃ k, i + 1 = k := ⟨_, rfl⟩
        have w1 : IntKind.i64.wrap ((i : Int) + 1) = (k : Int) := by rw [IntWalk.i64_in] <;> omega
        obtain ⟨qq, qq1, qq2, _, _⟩ := (hwv.m σ1).at hz (ρ := σ1) fun _ _ => rfl
        have hzm := List.mem_of_getElem? hz
        have hzz : (⟨z.f0, z.f1⟩ : S25) = z := rfl
        obtain ⟨zx, hzx, zx0, zx1, zx2⟩ := all_mem hzm
        have hzb := hmk.2.2 zx hzx
        have hkey := keyis_ps z.f0 z.f1
        have hzack := hack z hzm
        have htk : ∀ q : S25, q ∈ (allM o t).take k ↔ q ∈ (allM o t).take i ∨ q = z := fun q => by
          rw [← hk, List.take_add_one, hz]; simp
        have fin : ∀ (f' : Bool) (σ2 : St), (f' = true → ∀ q ∈ (allM o t).take k, q ∈ s) → 2 ≤ σ2.next → σ2.mem.get 0 = some (.cells 3 [u64 x, u64 y, v]) → σ2.mem.get 1 = some (.map clock ents) →
            ∃ mm, mm < (allM o t).length - i ∧ OrJ2 lv wv o t s x y v H mm [(9, lv), (10, u64 o), (11, wv), (12, .ptr 0 0), (13, .map 1), (19, .bool f'), (83, wv), (84, i64 (allM o t).length), (85, i64 k)] σ2 := fun f' σ2 g1 g2 g3 g4 =>
          ⟨(allM o t).length - k, by omega, k, f', rfl, by omega, g1, ⟨hH, hwH, hCH, hy, hack, hent, hsub, hnd, hall, g2, g3, clock, ents, g4, hpe⟩, rfl⟩
        rcases hpe.find z with ⟨k1, ix, k2⟩ | ⟨k1, k2⟩
        · rw [decide_eq_true k1] at hzack
          have hfk : f = true → ∀ q ∈ (allM o t).take k, q ∈ s := fun hft q hq => by
            rcases (htk q).1 hq with hq | hq
            · exact hf hft q hq
            · rw [hq]; exact k1
          simp [lk_cons, hlt, ↓qq1, ↓qq2, storeL, n0, n1, y0, y1, c1, c2, hkey, k2]
          refine acked_c hH (hwH.hw (by omega)) x y z.f0 z.f1 _ _ ?_
          rw [hzz, hzack]
          have g := fin f ⟨(σ1.mem.set σ1.next (.cells 2 [.int .u64 0, .int .u64 0])).set σ1.next (.cells 2 [u64 z.f0, u64 z.f1]), σ1.next + 1⟩ hfk (by show 2 ≤ σ1.next + 1; omega) (by simp [y0]; exact n0) (by simp [y1]; exact n1)
          cases f with
          | true =>
            simp [lk_cons, storeL, n0, n1, y0, y1, c1, c2, hkey, k2, w1]
            exact g
          | false =>
            simp [lk_cons, storeL, n0, n1, y0, y1, c1, c2, hkey, k2, w1]
            exact g
        · rw [decide_eq_false k1] at hzack
          simp [lk_cons, hlt, ↓qq1, ↓qq2, storeL, n0, n1, y0, y1, c1, c2, hkey, k2]
          refine acked_c hH (hwH.hw (by omega)) x y z.f0 z.f1 _ _ ?_
          rw [hzz, hzack]
          cases f with
          | false =>
            simp [lk_cons, storeL, n0, n1, y0, y1, c1, c2, hkey, k2, w1]
            exact fin false ⟨(σ1.mem.set σ1.next (.cells 2 [.int .u64 0, .int .u64 0])).set σ1.next (.cells 2 [u64 z.f0, u64 z.f1]), σ1.next + 1⟩ (by simp) (by show 2 ≤ σ1.next + 1; omega) (by simp [y0]; exact n0) (by simp [y1]; exact n1)
          | true =>
            have hnf : nf o t x y H 0 0 = some z := by
              unfold nf
              have hsplit : allM o t = (allM o t).take i ++ z :: (allM o t).drop (i + 1) := by
                rw [← (List.getElem?_eq_some_iff.1 hz).2, ← List.drop_eq_getElem_cons hlt, List.take_append_drop]
              rw [hsplit, List.find?_append]
              have hn : ((allM o t).take i).find? (fun q => geB 0 0 q && !ackB x y H q) = none := by
                refine List.find?_eq_none.2 fun q hq => ?_
                have hqA := List.mem_of_mem_take hq
                rw [hack q hqA, decide_eq_true (hf rfl q hq)]
                simp
              rw [hn, List.find?_cons_of_pos]
              · rfl
              · rw [hzack]
                have : geB 0 0 z = true := by rw [geB_iff]; omega
                simp [this]
            have hmark : ordM x y z.f0 z.f1 ≤ 0 := by
              have hna : ¬ ackB x y H z = true := by rw [hzack]; simp
              rw [ackB_iff] at hna
              have : ¬ (z.f0 < x ∨ (z.f0 = x ∧ z.f1 < y)) := fun hh => hna (.inl hh)
              unfold ordM cmpM; (repeat' split) <;> omega
            have hmark' : ¬ 0 < ordM x y z.f0 z.f1 := by omega
            have eqt : ∀ ρ : St, evalV ρ (.eqs true [1, 1] (.agg [u64 z.f0, u64 z.f1]) (.agg [u64 z.f0, u64 z.f1])) = some (.bool false, ρ) := fun ρ => by
              simp [evalV, shapeOk, keysEq, kShape, keyEq]
            simp [lk_cons, storeL, n0, n1, y0, y1, c1, c2, hkey, k2, fillL]
            refine next14_c hlv hm hH (by omega) hwH x y 0 0 hy (by omega) _ _ ?_
            rw [hnf]
            simp [pickF, lk_cons, storeL, n0, n1, y0, y1, y0', y1', c1, c2, hkey, k2, ↓eqt]
            refine order_c x y z.f0 z.f1 _ _ ?_
            simp [lk_cons, hmark', w1]
            exact fin false _ (by simp) (by show 2 ≤ σ1.next + 1 + 1; omega) (by simp [y0, y0']; exact n0) (by simp [y1, y1']; exact n1)
      · have : i = (allM o t).length := by omega
        subst this
        have hcn : cnt o t (fun q => !ackB x y H q) + s.length = (allM o t).length := by
          have h1 : (allM o t).countP (fun q => ackB x y H q) = s.length := by
            rw [← count_in (all_nodup hm.2.1) hnd hsub]
            exact List.countP_congr fun q hq => by rw [hack q hq]
          have h2 := List.length_eq_countP_add_countP (fun q => ackB x y H q) (l := allM o t)
          unfold cnt
          have h3 : (allM o t).countP (fun q => !ackB x y H q) = (allM o t).countP (fun q => decide ¬ackB x y H q = true) := List.countP_congr fun q _ => by cases ackB x y H q <;> simp
          rw [h3]; omega
        have w2 : IntKind.i64.wrap (((allM o t).length : Int) - (ents.length : Int)) = ((cnt o t (fun q => !ackB x y H q) : Nat) : Int) := by rw [IntWalk.i64_in] <;> omega
        have w3 : IntKind.u64.wrap ((cnt o t (fun q => !ackB x y H q) : Nat) : Int) = ((cnt o t (fun q => !ackB x y H q) : Nat) : Int) := by rw [IntWalk.u64_in]; omega
        simp [lk_cons, n0, n1, y0, y1, c1, c2]
        refine backlog_c hlv hm hbd hH (by omega) hwH hCH hy _ _ ?_
        by_cases hless : s.length < (allM o t).length
        · have hl2 : ents.length < (allM o t).length := by omega
          simp [lk_cons, n0, n1, c1, c2, ↓wl, w2, w3, hl2]
        · have hl2 : ¬ ents.length < (allM o t).length := by omega
          have hH0 : H = [] := hall fun q hq => by
            have h1 : cnt o t (fun q => !ackB x y H q) = 0 := by omega
            unfold cnt at h1
            have := List.countP_eq_zero.1 h1 q hq
            rw [hack q hq] at this
            simpa using this
          have hl0 := hH.len
          rw [hH0] at hl0
          simp [lk_cons, n0, n1, c1, c2, ↓wl, w2, w3, hl2, ↓hl0]

theorem bytes_or {ok : List AVal → Prop} {v : AVal} (hok : ∀ x, ok x → ∃ n, x = [.int .u8 n] ∧ (Lit.int .u8 n).wf = true) (h : [v] = [.nilsl] ∨ ∃ xs : List (List AVal), [v] = [.isl xs.flatten xs.length false] ∧ (∀ x ∈ xs, x.length = 1 ∧ ok x) ∧ xs.length ≤ 9223372036854775807 ∧ xs.length * 1 ≤ 140737488351232) : ∃ l : List UInt8, BytesOf v l ∧ l.length ≤ 9223372036854775806 := b_arg hok h
open OkCursorOrder in
theorem lawCursorOrder (a0 : AVal) (o0 : ok22 [a0]) (a1 : AVal) (o1 : ok4 [a1]) (a2 : AVal) (o2 : ok5 [a2]) (a3 : AVal) (o3 : ok22 [a3]) : ACall Try.prog 6 [a0, a1, a2, a3] σ0 fun v _ => v = .bool true := by
  obtain ⟨l, hb, hl⟩ := b_arg (fun x hx => hx) o0
  obtain ⟨os, hb2, hl2⟩ := b_arg (fun x hx => hx) o3
  obtain ⟨op, h1⟩ := o1
  cases h1
  obtain ⟨n, h2, w2⟩ := o2
  cases h2
  obtain ⟨n, rfl, hn⟩ := wf_u8 w2
  exact order14_c hb hl hb2 hl2 op n hn

end Go.Proofs.Ytinfnpbglapjhaa.AM
