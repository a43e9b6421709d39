/- In which order places are heard, and how often, changes nothing. -/
import Derived.Test.YtopagbaokokjdaaCt12
import Derived.Test.YtopagbaokokjdaaOkMenderOrder
namespace Go.Proofs.Ytopagbaokokjdaa.AM
open Go.RowKit
set_option maxRecDepth 100000
set_option linter.unusedVariables false
set_option linter.unusedSimpArgs false

def fewW (P : Nat) (w : Wd) : Hd := (plN w.place P, w.sure % 4, w.xs.map fewI)

def OrdI (ma ha pa mb hb pb P W A i t N : Nat) (ws : List Wd) (σ' : St) : Prop := ∃ (Da Db : List Hd), MSt σ' ma ha pa P W A Da ∧ MSt σ' mb hb pb P W A Db ∧ σ'.mem.get 0 = some (.cells 3 [i64 P, i64 W, i64 A]) ∧ 0 < σ'.next ∧ Da.length ≤ i ∧ Db.length ≤ 2 * i ∧
  (∀ j, j < i → ∀ w, ws[j]? = some w → fewW P w ∈ Da) ∧ (∀ x ∈ Da, ∃ w ∈ ws, x = fewW P w) ∧ (∀ j, j < i → ∀ w, ws[(j + t) % N]? = some w → fewW P w ∈ Db) ∧ ∀ x ∈ Db, ∃ w ∈ ws, x = fewW P w

def Ord1 (ma ha pa mb hb pb P W A t N : Nat) (ws : List Wd) (v : AVal) (mm : Nat) (r : Regs) (σ' : St) : Prop := ∃ i : Nat, mm = N - i ∧ i ≤ N ∧ OrdI ma ha pa mb hb pb P W A i t N ws σ' ∧
  r = [(1, v), (2, .int .u8 t), (7, .ptr 0 0), (8, .ptr ma 0), (10, .ptr mb 0), (37, i64 N), (38, i64 i)]

def HMid (ma ha pa P W A : Nat) (D : List Hd) (x : Hd) (σ3 : St) (v : AVal) (σ4 : St) : Prop :=
  ∃ c : Int, v = i64 c ∧ (c = 21 ∧ Grow σ3 σ4 ∨ c = 0 ∧ MSt σ4 ma ha pa P W A (D ++ [x]) ∧ Keep3 ma ha pa σ3 σ4)
theorem hmid_c {σ : St} {m hb mp P W A : Nat} {D : List Hd} (h : MSt σ m hb mp P W A D) (hP : P ≤ 7) (pl s : Nat) (hpl : pl < P) (hs : s < 4) {v : AVal} {xs : List (Nat × List UInt8)} (hv : ItemsOf v xs) (hxl : xs.length ≤ 30) (hbl : ∀ x ∈ xs, x.2.length = 2) :
    ACall Try.prog 13 [.ptr m 0, i64 (pl : Int), u64 (s : Int), v] σ (HMid m hb mp P W A D (pl, s, xs) σ) :=
  mhear_c h hP pl s hpl (by omega) hv hxl (fun x hx => by rw [hbl x hx]; omega) _ (fun σ' hg => ⟨21, rfl, .inl ⟨rfl, hg⟩⟩) (fun σ' hm hk => ⟨0, rfl, .inr ⟨rfl, hm, hk⟩⟩)

theorem order_c (n : Nat) (hn : n < 65536) (t : Nat) (ht : t < 256) (v : AVal) (ws : List Wd) (N : Nat) (hN : ws.length = N) (hv : WordsOf v ws) : ACall Try.prog 4 [.int .u16 n, v, .int .u8 t] σ0 fun v _ => v = .bool true := by
  refine ACall.of_compF hmx (fun a w => Try.call4 a w) Try.func4 cf4 (n := 3) (by decide) rfl ?_
  have l1 := hv.len
  rw [hN] at l1
  simp [ac4, rs4, lk_cons]
  refine awake _ _ ?_
  simp [lk_cons, ↓l1]
  by_cases h12 : 12 < N
  · simp [lk_cons, h12, show (12 : Int) < N by omega]
  simp [lk_cons, h12, show ¬ (12 : Int) < N by omega]
  refine quorum_c n hn _ _ ?_
  have hq := q_ok n
  generalize qP n = P at *
  generalize qW n = W at *
  generalize qA n = A at *
  simp [lk_cons, fillL, storeL]
  refine mnew_c P W A hq _ _ fun ma ha pa σ1 hra hn1 hk1 hge => ?_
  simp at hge hn1
  have h0 : σ1.mem.get 0 = some (.cells 3 [i64 P, i64 W, i64 A]) := by rw [hk1 0 (by simp)]; simp
  simp [lk_cons, h0]
  refine mnew_c P W A hq _ _ fun mb hb pb σ2 hrb hn2 hk2 hge2 => ?_
  have hla := hra.lt
  have hlb := hrb.lt
  simp [lk_cons, ↓l1]
  refine wp_loop (Ord1 ma ha pa mb hb pb P W A t N ws v) N ?_ ?_
  · refine ⟨0, rfl, by omega, ⟨[], [], (MSt.new hra).frame (fun a h => hk2 a (by omega)) hn2, MSt.new hrb, (hk2 0 (by omega)).trans h0, by omega, by simp, by simp, fun j hj => by omega, by simp, fun j hj => by omega, by simp⟩, rfl⟩
  · rintro mm r σ3 ⟨i, rfl, hi, ⟨Da, Db, hma, hmb, hq0, hnx, hda, hdb, ia1, ia2, ib1, ib2⟩, rfl⟩
    have hla3 := hma.lt
    have hlb3 := hmb.lt
    by_cases hlt : i < N
    · obtain ⟨w, hw⟩ : ∃ w, ws[i]? = some w := ⟨_, List.getElem?_eq_getElem (by omega)⟩
      obtain ⟨z, hz⟩ : ∃ z, (i + t) % N = z := ⟨_, rfl⟩
      have hzN : z < N := hz ▸ Nat.mod_lt _ (by omega)
      obtain ⟨u, hu⟩ : ∃ u, ws[z]? = some u := ⟨_, List.getElem?_eq_getElem (by omega)⟩
      rcases hv with ⟨rfl, rfl⟩ | ⟨cs, kk, tt, rfl, hkk, hwc⟩
      · simp at hw
      rw [hN] at hkk
      subst hkk
      obtain ⟨L, hL, hok, e1⟩ := hwc.get hw
      obtain ⟨K, hK, hok2, e2⟩ := hwc.get hu
      have L1 := hL.one
      have K1 := hK.one
      have Ll := hL.len
      have Kl := hK.len
      have w1 : IntKind.i64.wrap (t : Int) = t := by rw [IntWalk.i64_in]; omega
      obtain ⟨it, hit⟩ : ∃ x, i + t = x := ⟨_, rfl⟩
      have w2 : IntKind.i64.wrap ((i : Int) + (t : Int)) = (it : Int) := by rw [IntWalk.i64_in] <;> omega
      have t1 : (it : Int).tmod (kk : Int) = (z : Int) := by rw [← hz, hit]; exact (Int.ofNat_tmod it kk).symm
      have hk0 : ¬ kk = 0 := by omega
      have z1 : ¬ σ3.next = σ3.next + 1 := by omega
      have z2 : ¬ 0 = σ3.next := by omega
      have z3 : ¬ 0 = σ3.next + 1 := by omega
      by_cases hx30 : 30 < w.xs.length
      · simp [lk_cons, hlt, e1, e2, L1.1, L1.2, K1.1, K1.2, storeL, w1, w2, t1, hk0, hzN, ↓l1, ↓Ll, ↓Kl, z1, Ne.symm z1, hx30, show (30 : Int) < w.xs.length by omega]
      by_cases hy30 : 30 < u.xs.length
      · simp [lk_cons, hlt, e1, e2, L1.1, L1.2, K1.1, K1.2, storeL, w1, w2, t1, hk0, hzN, ↓l1, ↓Ll, ↓Kl, z1, Ne.symm z1, hx30, show ¬ (30 : Int) < w.xs.length by omega, hy30, show (30 : Int) < u.xs.length by omega]
      simp [lk_cons, hlt, e1, e2, L1.1, L1.2, K1.1, K1.2, storeL, w1, w2, t1, hk0, hzN, ↓l1, ↓Ll, ↓Kl, z1, z2, z3, Ne.symm z1, hx30, show ¬ (30 : Int) < w.xs.length by omega, hy30, show ¬ (30 : Int) < u.xs.length by omega, hq0]
      obtain ⟨pw, hpw⟩ : ∃ pl, plN w.place P = pl := ⟨_, rfl⟩
      obtain ⟨pu, hpu⟩ : ∃ pl, plN u.place P = pl := ⟨_, rfl⟩
      have hpwP : pw < P := hpw ▸ Nat.mod_lt _ (by omega)
      have hpuP : pu < P := hpu ▸ Nat.mod_lt _ (by omega)
      obtain ⟨sw, hsw⟩ : ∃ s, w.sure % 4 = s := ⟨_, rfl⟩
      obtain ⟨su, hsu⟩ : ∃ s, u.sure % 4 = s := ⟨_, rfl⟩
      have hsw4 : sw < 4 := hsw ▸ Nat.mod_lt _ (by omega)
      have hsu4 : su < 4 := hsu ▸ Nat.mod_lt _ (by omega)
      obtain ⟨xw, hxw⟩ : ∃ x, w.xs.map fewI = x := ⟨_, rfl⟩
      obtain ⟨xu, hxu⟩ : ∃ x, u.xs.map fewI = x := ⟨_, rfl⟩
      have hfw : fewW P w = (pw, sw, xw) := by rw [fewW, hpw, hsw, hxw]
      have hfu : fewW P u = (pu, su, xu) := by rw [fewW, hpu, hsu, hxu]
      have len2 : ∀ (zs : List (Nat × List UInt8)) (y : Nat × List UInt8), y ∈ zs.map fewI → y.2.length = 2 := by
        intro zs y hy
        obtain ⟨x, _, rfl⟩ := List.mem_map.1 hy
        rfl
      have hxw2 : ∀ y ∈ xw, y.2.length = 2 := by rw [← hxw]; exact len2 _
      have hxu2 : ∀ y ∈ xu, y.2.length = 2 := by rw [← hxu]; exact len2 _
      have hxwl : xw.length ≤ 30 := by rw [← hxw]; simp; omega
      have hxul : xu.length ≤ 30 := by rw [← hxu]; simp; omega
      refine few_c P W A hq w.place w.sure false hL (by omega) hok.bs hok.ns hok.sure _ _ (fun h => by cases h) fun _ L' hL' => ?_
      have L2 := hL'.one
      rw [hxw] at hL'
      rw [hpw, hsw]
      simp [lk_cons, storeL, L2.1, L2.2, z1, z2, z3, hq0, L1.1, L1.2, K1.1, K1.2]
      refine few_c P W A hq u.place u.sure false hK (by omega) hok2.bs hok2.ns hok2.sure _ _ (fun h => by cases h) fun _ K' hK' => ?_
      have K2 := hK'.one
      rw [hxu] at hK'
      rw [hpu, hsu]
      simp [lk_cons, storeL, L2.1, L2.2, K2.1, K2.2, z1, z2, z3, Ne.symm z1]
      refine ACall.mono (hmid_c (hma.frame (fun a ha => ?_) ?_) (by omega) pw sw hpwP hsw4 hL' hxwl hxw2) ?_
      · simp [show ¬ a = σ3.next by omega, show ¬ a = σ3.next + 1 by omega]
      · simp; omega
      rintro _ σ4 ⟨c, rfl, hc⟩
      rcases hc with ⟨rfl, _⟩ | ⟨rfl, hma4, hk4⟩
      · simp [lk_cons]
      have n4 := hk4.1
      have g4 : ∀ a, a < σ3.next → a ≠ ma → a ≠ ha → a ≠ pa → σ4.mem.get a = σ3.mem.get a := fun a h1 h2 h3 h4 => by
        have := hk4.2 a (by show a < σ3.next + 1 + 1; omega) h2 h3 h4
        simpa [show ¬ a = σ3.next by omega, show ¬ a = σ3.next + 1 by omega] using this
      have b4 := hk4.2 (σ3.next + 1) (by show σ3.next + 1 < σ3.next + 1 + 1; omega) (by omega) (by omega) (by omega)
      simp [Ne.symm z1] at b4 n4
      simp [lk_cons, b4]
      refine ACall.mono (hmid_c (hmb.frame (fun a ha => g4 a (by omega) (by omega) (by omega) (by omega)) (by omega)) (by omega) pu su hpuP hsu4 hK' hxul hxu2) ?_
      rintro _ σ5 ⟨c, rfl, hc⟩
      rcases hc with ⟨rfl, _⟩ | ⟨rfl, hmb5, hk5⟩
      · simp [lk_cons]
      have n5 := hk5.1
      have b5 := (hk5.2 (σ3.next + 1) (by omega) (by omega) (by omega) (by omega)).trans b4
      simp [lk_cons, b5]
      refine ACall.mono (hmid_c hmb5 (by omega) pu su hpuP hsu4 hK' hxul hxu2) ?_
      rintro _ σ6 ⟨c, rfl, hc⟩
      rcases hc with ⟨rfl, _⟩ | ⟨rfl, hmb6, hk6⟩
      · simp [lk_cons]
      have n6 := hk6.1
      obtain ⟨k, hk⟩ : ∃ k, i + 1 = k := ⟨_, rfl⟩
      have hwi : IntKind.i64.wrap ((i : Int) + 1) = (k : Int) := by rw [IntWalk.i64_in] <;> omega
      have hla4 := hma4.lt
      simp [lk_cons, hwi]
      refine ⟨kk - k, by omega, k, rfl, by omega, ⟨Da ++ [(pw, sw, xw)], Db ++ [(pu, su, xu)] ++ [(pu, su, xu)], hma4.frame (fun a ha => ?_) (by omega), hmb6, ?_, by omega, by simp; omega, by simp; omega, ?_, ?_, ?_, ?_⟩, rfl⟩
      · rw [hk6.2 a (by omega) (by omega) (by omega) (by omega), hk5.2 a (by omega) (by omega) (by omega) (by omega)]
      · rw [hk6.2 0 (by omega) (by omega) (by omega) (by omega), hk5.2 0 (by omega) (by omega) (by omega) (by omega), g4 0 hnx (by omega) (by omega) (by omega)]; exact hq0
      · intro j hj w' hw'
        by_cases hji : j < i
        · exact List.mem_append.2 (.inl (ia1 j hji w' hw'))
        · have : j = i := by omega
          subst this
          rw [hw] at hw'; cases hw'
          rw [hfw]; simp
      · intro x hx
        rcases List.mem_append.1 hx with hx | hx
        · exact ia2 x hx
        · simp at hx
          exact ⟨w, List.mem_of_getElem? hw, by rw [hfw]; exact hx⟩
      · intro j hj w' hw'
        by_cases hji : j < i
        · exact List.mem_append.2 (.inl (List.mem_append.2 (.inl (ib1 j hji w' hw'))))
        · have : j = i := by omega
          subst this
          rw [hz, hu] at hw'; cases hw'
          rw [hfu]; simp
      · intro x hx
        rcases List.mem_append.1 hx with hx | hx
        · rcases List.mem_append.1 hx with hx | hx
          · exact ib2 x hx
          · simp at hx
            exact ⟨u, List.mem_of_getElem? hu, by rw [hfu]; exact hx⟩
        · simp at hx
          exact ⟨u, List.mem_of_getElem? hu, by rw [hfu]; exact hx⟩
    · have : i = N := by omega
      subst this
      simp [lk_cons]
      have hD : ∀ x, x ∈ Da ↔ x ∈ Db := by
        intro x
        constructor
        · intro hx
          obtain ⟨w, hw, rfl⟩ := ia2 x hx
          obtain ⟨k, hk⟩ := List.mem_iff_getElem?.1 hw
          have hkN : k < i := by rw [← hN]; exact (List.getElem?_eq_some_iff.1 hk).1
          have hmod : t % i < i := Nat.mod_lt _ (by omega)
          refine ib1 ((k + i - t % i) % i) (Nat.mod_lt _ (by omega)) w ?_
          have : ((k + i - t % i) % i + t) % i = k := by
            rw [Nat.mod_add_mod]
            have h1 : k + i - t % i + t = k + i + i * (t / i) := by
              have := Nat.div_add_mod t i
              omega
            rw [h1, Nat.add_mul_mod_self_left, Nat.add_mod_right, Nat.mod_eq_of_lt hkN]
          rw [this]; exact hk
        · intro hx
          obtain ⟨w, hw, rfl⟩ := ib2 x hx
          obtain ⟨k, hk⟩ := List.mem_iff_getElem?.1 hw
          have hkN : k < i := by rw [← hN]; exact (List.getElem?_eq_some_iff.1 hk).1
          exact ia1 k hkN w hk
      obtain ⟨h1, s1, i1, r1, a1, a2, a3, a4, a5⟩ := hma
      obtain ⟨h2, s2, i2, r2, b1, b2, b3, b4, b5⟩ := hmb
      have e1 := same_heard r1.heard.2 r2.heard.2 hD a1 b1
      have e2 := same_its hD a2 b2
      have e3 := same_sure hD a3 b3
      refine mresult_c r1 hq (by omega) a5 _ fun c lv nx hlv hnl hro => ?_
      simp [lk_cons]
      refine mresult_c r2 hq (by omega) b5 _ fun c' lv' nx' hlv' hnl' hro' => ?_
      rw [← e1, ← e2, ← e3] at hro'
      obtain ⟨rfl, rfl⟩ := hro.uniq hro'
      simp [lk_cons]
      refine same_c hlv hlv' (by omega) _ _ ?_
      simp [lk_cons]
      refine ready_c r1 hq _ ?_
      simp [lk_cons]
      refine ready_c r2 hq _ ?_
      simp [lk_cons, e1]

open OkMenderOrder in
theorem lawMenderOrder (a0 : AVal) (o0 : ok24 [a0]) (a1 : AVal) (o1 : ok25 [a1]) (a2 : AVal) (o2 : ok5 [a2]) : ACall Try.prog 4 [a0, a1, a2] σ0 fun v _ => v = .bool true := by
  obtain ⟨n, h0, w0⟩ := o0
  cases h0
  obtain ⟨n, rfl, hn⟩ := wf_u16 w0
  obtain ⟨t, h2, w2⟩ := o2
  cases h2
  obtain ⟨t, rfl, ht⟩ := wf_u8 w2
  obtain ⟨ws, h1, _⟩ := wordsArg (v := a1) o1
  exact order_c n hn t ht a1 ws _ rfl h1
end Go.Proofs.Ytopagbaokokjdaa.AM
