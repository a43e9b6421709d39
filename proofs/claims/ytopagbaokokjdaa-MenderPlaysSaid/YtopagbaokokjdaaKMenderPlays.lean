/- Whatever places say: the mender answers as the document's. -/
import Derived.Test.YtopagbaokokjdaaCt12
import Derived.Test.YtopagbaokokjdaaOkMenderPlays
namespace Go.Proofs.Ytopagbaokokjdaa.AM
open Go.RowKit
set_option maxRecDepth 100000
set_option linter.unusedVariables false
set_option linter.unusedSimpArgs false

def Play1 (lo ma ha pa rm rh P W A : Nat) (v : AVal) (N : Nat) (mm : Nat) (r : Regs) (σ' : St) : Prop := ∃ i : Nat, mm = N - i ∧ i ≤ N ∧ i ≤ 31 ∧ PInv lo ma ha pa rm rh P W A i σ' ∧ σ'.mem.get 0 = some (.cells 3 [i64 P, i64 W, i64 A]) ∧
  r = [(3, .ptr 0 0), (9, .ptr ma 0), (10, i64 0), (11, .ptr rm 0), (51, v), (52, i64 N), (53, i64 i)]

theorem few2_c (P W A : Nat) (hq : 1 ≤ A ∧ A ≤ W ∧ W ≤ P ∧ P ≤ 7) (place : Int) (s : Nat) {v : AVal} {xs : List (Nat × List UInt8)} (raw : Bool) (hv : ItemsOf v xs) (hxl : xs.length ≤ 30) (hbl : ∀ x ∈ xs, x.2.length ≤ 140737488355328) (hn : ∀ x ∈ xs, x.1 < 18446744073709551616) (hs : s < 18446744073709551616) (σ : St) (Q : AVal → St → Prop)
    (q : ∀ (pl : Int) (su : Nat) v' ys, ItemsOf v' ys → ys.length ≤ 30 → (∀ x ∈ ys, x.2.length ≤ 140737488355328) → Q (.agg [i64 pl, u64 (su : Int), v', .bool raw]) σ) :
    ACall Try.prog 12 [.agg [i64 place, u64 (s : Int), v, .bool raw], qv P W A] σ Q := by
  refine few_c P W A hq place s raw hv (by omega) hbl hn hs σ Q (fun h => ?_) (fun h v' hv' => ?_)
  · subst h; exact q _ _ _ _ hv hxl hbl
  · subst h
    refine q _ _ _ _ hv' (by simp; omega) fun y hy => ?_
    obtain ⟨x, _, rfl⟩ := List.mem_map.1 hy
    show 2 ≤ _
    omega

theorem plays_c (p0 w0 a0 : Int) (n : Nat) (hn : n < 65536) (v : AVal) (ws : List Wd) (N : Nat) (hN : ws.length = N) (hv : WordsOf v ws) (hNl : N ≤ 9223372036854775807) : ACall Try.prog 3 [qv p0 w0 a0, .int .u16 n, v] σ0 fun v _ => v = .bool true := by
  refine ACall.of_compF hmx (fun a w => Try.call3 a w) Try.func3 cf3 (n := 3) (by decide) rfl ?_
  have l1 := hv.len
  rw [hN] at l1
  simp [ac3, rs3, lk_cons]
  refine awake _ _ ?_
  simp [lk_cons]
  refine newany_c p0 w0 a0 _ _ fun b c σ1 hg1 hc => ?_
  have g0 := hg1.2 0 (by simp)
  have gn := hg1.1
  simp at g0 gn
  simp [lk_cons, g0]
  refine rcheck _ _ _ _ _ ?_
  rcases hc with ⟨hv0, rfl⟩ | ⟨hv0, rfl⟩
  case' inl => simp [lk_cons, hv0]
  case' inr => simp [lk_cons, decide_eq_false hv0]
  all_goals
    refine quorum_c n hn _ _ ?_
    have hq := q_ok n
    generalize qP n = P at *
    generalize qW n = W at *
    generalize qA n = A at *
    simp [lk_cons, g0, storeL]
    refine mnew_c P W A hq _ _ fun ma ha pa σ2 hra hn2 hk2 hge => ?_
    simp at hge hn2
    have h0 : σ2.mem.get 0 = some (.cells 3 [i64 P, i64 W, i64 A]) := by rw [hk2 0 (by show 0 < σ1.next; omega)]; simp
    have hra0 := hra
    have d3 : (P : Int) ≤ 140737488355328 ∧ (P : Int) ≤ 9223372036854775807 := by omega
    have hrep : repL P [AVal.bool false] = bv (List.replicate P false) := by
      have : ∀ p, repL p [AVal.bool false] = bv (List.replicate p false) := by
        intro p
        induction p with
        | zero => rfl
        | succ p ih => simp only [repL, List.replicate_succ, List.flatten_cons] at ih ⊢; rw [ih]; rfl
      exact this P
    have hml := hra.lt
    have z1 : ¬ 0 = σ2.next := by omega
    have z2 : ¬ 0 = σ2.next + 1 := by omega
    simp [lk_cons, h0, fillL, storeL, d3.1, d3.2, hrep, z1, z2, ↓l1]
    refine wp_loop (Play1 σ2.next ma ha pa (σ2.next + 1) σ2.next P W A v N) N ?_ ?_
    · refine ⟨0, rfl, by omega, by omega, ⟨List.replicate P false, 0, [], [], hra.frame (fun a ha => ?_) (by simp <;> omega), ⟨⟨.nilsl, by simp, .inl ⟨rfl, rfl⟩⟩, ⟨by simp, by simp⟩, by omega, by simp <;> omega, by omega⟩, rfl, by simp, by simp, fun k l h => by cases h⟩, ?_, rfl⟩
      · simp [show ¬ a = σ2.next by omega, show ¬ a = σ2.next + 1 by omega]
      · simp [z1, z2, h0]
    · rintro mm r σ3 ⟨i, rfl, hi, hi31, hpi, hq0, rfl⟩
      have hlt3 := hpi.lt
      have hLo : Lo σ2.next ma ha pa := by have := hml; exact ⟨by omega, by omega, by omega⟩
      by_cases hlt : i < N
      · obtain ⟨w, hw⟩ : ∃ w, ws[i]? = some w := ⟨_, List.getElem?_eq_getElem (by omega)⟩
        have hv0 := hv
        rcases hv with ⟨rfl, rfl⟩ | ⟨cs, kk, t, rfl, hkk, hwc⟩
        · simp at hw
        obtain ⟨L, hL, hok, e1⟩ := hwc.get hw
        rw [hN] at hkk
        subst hkk
        have L1 := hL.one
        have Ll := hL.len
        have y1 : ¬ 0 = σ3.next := by omega
        by_cases h30 : 30 < i
        · simp [lk_cons, hlt, e1, L1.1, L1.2, storeL, h30, show (30 : Int) < i by omega]
        by_cases hx30 : 30 < w.xs.length
        · simp [lk_cons, hlt, e1, L1.1, L1.2, storeL, h30, show ¬ (30 : Int) < i by omega, ↓Ll, hx30, show (30 : Int) < w.xs.length by omega]
        simp [lk_cons, hlt, e1, L1.1, L1.2, storeL, h30, show ¬ (30 : Int) < i by omega, ↓Ll, hx30, show ¬ (30 : Int) < w.xs.length by omega, y1, hq0]
        refine few2_c P W A hq w.place w.sure w.raw hL (by omega) hok.bs hok.ns hok.sure _ _ fun pl su L' ys hL' hyl hyb => ?_
        have L2 := hL'.one
        simp [lk_cons, storeL, L1.1, L1.2, L2.1, L2.2, y1, hq0]
        refine ACall.mono (pair_c (hpi.frame ⟨by simp, fun a ha => by simp [show ¬ a = σ3.next by omega]⟩) hLo (by omega) hi31 pl su hL' hyl hyb) ?_
        rintro _ σ4 ⟨c, rfl, hk4, h14⟩
        have n4 := hk4.1
        simp at n4
        have g4 : ∀ a, a < σ3.next → a ≠ ma → a ≠ ha → a ≠ pa → σ4.mem.get a = σ3.mem.get a := fun a h1 h2 h3 h4 => by
          have := hk4.2 a (by show a < σ3.next + 1; omega) h2 h3 h4
          simpa [show ¬ a = σ3.next by omega] using this
        have b4 := hk4.2 σ3.next (by show σ3.next < σ3.next + 1; omega) (by omega) (by omega) (by omega)
        simp at b4
        simp [lk_cons, b4]
        refine ACall.mono h14 ?_
        rintro _ σ5 ⟨rfl, hp5, hk5⟩
        obtain ⟨heard, sure, its, itr, hM, hR, hF, hl1, hl2, hb⟩ := hp5
        have n5 := hk5.1
        have q5 : σ5.mem.get 0 = some (.cells 3 [i64 P, i64 W, i64 A]) := by
          rw [hk5.2 0 (by omega) (by omega) (by omega), g4 0 (by omega) (by omega) (by omega) (by omega)]; exact hq0
        obtain ⟨iv, rh5, _⟩ := hR.head
        simp [lk_cons, q5, rh5]
        refine ready_c hM hq _ ?_
        simp [lk_cons, q5, rh5]
        refine rcovered_c hq hR.heard.2 σ5 hR.heard.1 hR.lt.2 _ ?_
        simp [lk_cons]
        refine mresult_c hM hq (by omega) hb _ fun c1 lv nx hlv hnl hro => ?_
        simp [lk_cons]
        refine rresult_c hR hq (by omega) _ fun c2 lv2 nx2 hlv2 hnl2 hro2 => ?_
        rw [← hF] at hro2
        obtain ⟨rfl, rfl⟩ := hro.uniq hro2
        simp [lk_cons]
        refine same_cm hlv _ hlv2 (by omega) _ ?_
        obtain ⟨k, hk⟩ : ∃ k, i + 1 = k := ⟨_, rfl⟩
        have hwi : IntKind.i64.wrap ((i : Int) + 1) = (k : Int) := by rw [IntWalk.i64_in] <;> omega
        simp [lk_cons, hwi]
        exact ⟨kk - k, by omega, k, rfl, by omega, by omega, ⟨heard, sure, its, itr, hM, hR, hF, by omega, by omega, hb⟩, q5, rfl⟩
      · have : i = N := by omega
        subst this
        simp [lk_cons]

open OkMenderPlays in
theorem lawMenderPlays (us : List AVal) (o0 : ok23 us) (a1 : AVal) (o1 : ok24 [a1]) (a2 : AVal) (o2 : ok25 [a2]) : ACall Try.prog 3 [.agg us, a1, a2] σ0 fun v _ => v = .bool true := by
  obtain ⟨_, _, rfl, ⟨p, rfl, _⟩, _, _, rfl, ⟨w, rfl, _⟩, a, rfl, _⟩ := o0
  obtain ⟨n, h0, w0⟩ := o1
  cases h0
  obtain ⟨n, rfl, hn⟩ := wf_u16 w0
  obtain ⟨ws, h1, h2⟩ := wordsArg (v := a2) o2
  exact plays_c p w a n hn a2 ws _ rfl h1 h2
end Go.Proofs.Ytopagbaokokjdaa.AM
