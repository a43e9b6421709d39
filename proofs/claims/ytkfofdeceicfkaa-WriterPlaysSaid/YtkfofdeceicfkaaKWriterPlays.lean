/- Calls in any order, on a writer and on the document's. -/
import Derived.Test.YtkfofdeceicfkaaCt11
import Derived.Test.YtkfofdeceicfkaaOkWriterPlays
namespace Go.Proofs.Ytkfofdeceicfkaa.AM
open Go.RowKit
set_option maxRecDepth 100000
set_option linter.unusedVariables false
set_option linter.unusedSimpArgs false

theorem flat_get {n : Nat} : ∀ {xs : List (List AVal)} {i : Nat} {x : List AVal}, (∀ x ∈ xs, x.length = n) → xs[i]? = some x → (xs.flatten.drop (i * n)).take n = x
  | [], i, x, _, h => by simp at h
  | y :: xs, 0, x, hl, h => by
    simp at h; subst h
    have := hl y (by simp)
    rw [List.flatten_cons, Nat.zero_mul, List.drop_zero, List.take_append_of_le_length (by omega), List.take_of_length_le (by omega)]
  | y :: xs, i + 1, x, hl, h => by
    have hy := hl y (by simp)
    have ih := flat_get (n := n) (xs := xs) (i := i) (x := x) (fun z hz => hl z (by simp [hz])) (by simpa using h)
    have e0 : y.drop (y.length + i * n) = [] := List.drop_eq_nil_iff.2 (by omega)
    rw [List.flatten_cons, show (i + 1) * n = y.length + i * n by rw [Nat.add_mul, hy]; omega, List.drop_append]
    simpa [e0] using ih

def Grow (σ σ' : St) : Prop := σ.next ≤ σ'.next ∧ ∀ a, a < σ.next → σ'.mem.get a = σ.mem.get a
theorem nw_c (P W A : Int) (σ : St) (Q : AVal → St → Prop) (h : ∀ x σ', Grow σ σ' → Q (.tup [x, i64 (if 1 ≤ A ∧ A ≤ W ∧ W ≤ P ∧ P ≤ 7 then 0 else 22)]) σ') : ACall Try.prog 10 [qv P W A] σ Q := by
  refine ACall.of_compF hmx (fun a w => Try.call10 a w) Try.func10 cf10 (n := 1) (by decide) rfl ?_
  simp [ac10, rs10, lk_cons]
  refine qcheck _ _ _ _ _ ?_
  by_cases hd : 1 ≤ A ∧ A ≤ W ∧ W ≤ P ∧ P ≤ 7
  · rw [decide_eq_true hd]
    simp only [if_pos hd] at h
    simp [lk_cons, fillL, storeL]
    exact h _ _ ⟨by simp; omega, fun a ha => by simp [show ¬ a = σ.next by omega, show ¬ a = σ.next + 1 by omega]⟩
  · rw [decide_eq_false hd]
    simp only [if_neg hd] at h
    simp [lk_cons]
    exact h _ _ ⟨by simp, fun a ha => by simp [show ¬ a = σ.next by omega]⟩

def PlJ (w m P W A N : Nat) (acts : AVal) (mm : Nat) (r : Regs) (σ' : St) : Prop := ∃ (i sure : Nat) (ents : List WEnt) (es : List REnt) (closed : Bool), mm = N - i ∧ i ≤ N ∧ i ≤ 151 ∧ es.length ≤ i ∧ PI σ' w m P W A sure ents es closed ∧
  r = [(9, .ptr w 0), (10, i64 0), (11, .ptr m 0), (44, acts), (45, i64 N), (46, i64 i)]

open OkWriterPlays in
theorem lawWriterPlays (us0 : List AVal) (o0 : ok27 us0) (a1 : AVal) (o1 : ok22 [a1]) (a2 : AVal) (o2 : ok57 [a2]) : ACall Try.prog 6 [.agg us0, a1, a2] σ0 fun v _ => v = .bool true := by
  obtain ⟨_, _, rfl, ⟨P0, rfl, _⟩, _, _, rfl, ⟨W0, rfl, _⟩, A0, rfl, _⟩ := o0
  obtain ⟨n, h1, w1⟩ := o1
  cases h1
  obtain ⟨n, rfl, hn⟩ := wf_u16 w1
  refine ACall.of_compF hmx (fun a w => Try.call6 a w) Try.func6 cf6 (n := 3) (by decide) rfl ?_
  have hq := q_ok n
  have qc := quorum_c n hn
  generalize qP n = P at *
  generalize qW n = W at *
  generalize qA n = A at *
  simp [ac6, rs6, lk_cons]
  refine awake _ _ ?_
  obtain ⟨N, hN, hacts⟩ : ∃ N : Nat, (∀ ρ : St, evalV ρ (.len 1 a2) = some (i64 N, ρ)) ∧ (N ≤ 9223372036854775807 ∧ ∀ i, i < N → ∃ (kind : Nat) (d : AVal) (l : List UInt8) (place : Int) (entry : Nat) (raw : Bool), kind < 256 ∧ BytesOf d l ∧ l.length ≤ 140737488351232 ∧ entry < 18446744073709551616 ∧
      ∀ ρ : St, evalV ρ (.idxAddr 5 a2 (i64 i)) = some (.iptr [.int .u8 kind, d, i64 place, u64 entry, .bool raw], ρ)) := by
    rcases o2 with h | ⟨xs, h, hx, hl, _⟩
    · cases h
      exact ⟨0, fun ρ => by simp, by omega, fun i hi => by omega⟩
    · cases h
      refine ⟨xs.length, fun ρ => by simp, hl, fun i hi => ?_⟩
      obtain ⟨y, hy⟩ : ∃ y, xs[i]? = some y := ⟨_, List.getElem?_eq_getElem hi⟩
      have hfl := flat_get (fun x hxx => (hx x hxx).1) hy
      have hy5 := (hx y (List.mem_of_getElem? hy)).1
      obtain ⟨_, _, rfl, ⟨k, rfl, hk⟩, dl, _, rfl, hd, _, _, rfl, ⟨p, rfl, hp⟩, _, _, rfl, ⟨e, rfl, he⟩, b, rfl⟩ := (hx y (List.mem_of_getElem? hy)).2
      obtain ⟨k, rfl, hk'⟩ := wf_u8 hk
      obtain ⟨e, rfl, he'⟩ := wf_u64 he
      have hdl : dl.length = 1 := by simp at hy5; omega
      obtain ⟨d, rfl⟩ := List.length_eq_one_iff.1 hdl
      obtain ⟨l, hl1, hl2⟩ := bytes_arg (fun x hx => hx) hd
      refine ⟨k, d, l, p, e, b, hk', hl1, by omega, he', fun ρ => ?_⟩
      simp at hfl
      simp [hi, hfl]
  obtain ⟨hNb, hacts⟩ := hacts
  have l2 := hN
  simp [lk_cons]
  refine nw_c _ _ _ _ _ fun x σ1 hg1 => ?_
  have hb1 : σ1.mem.get 0 = some (.cells 3 [i64 P0, i64 W0, i64 A0]) := by rw [hg1.2 0 (by simp [σ0])]; simp [σ0]
  have hz : 0 < σ1.next := by have := hg1.1; simp [σ0] at this; omega
  by_cases hc : 1 ≤ A0 ∧ A0 ≤ W0 ∧ W0 ≤ P0 ∧ P0 ≤ 7
  case' pos =>
    simp only [if_pos hc]
    simp [lk_cons, hb1]
    refine rcheck _ _ _ _ _ ?_
    rw [decide_eq_true hc]
    simp [lk_cons, hb1]
  case' neg =>
    simp only [if_neg hc]
    simp [lk_cons, hb1]
    refine rcheck _ _ _ _ _ ?_
    rw [decide_eq_false hc]
    simp [lk_cons, hb1]
  all_goals
    refine qc _ _ ?_
    simp [lk_cons, hb1, storeL]
    refine new_c P W A hq _ _ fun w fp σ2 hw2 hk2 hf2 => ?_
    have hb2 : σ2.mem.get 0 = some (.cells 3 [i64 P, i64 W, i64 A]) := by rw [hk2.2 0 (by simpa using hz) (fun h => h)]; simp
    have hn2 := hk2.1
    simp at hn2
    simp [lk_cons, hb2, fillL, storeL, ↓l2]
    have hpi : PI ⟨σ2.mem.set σ2.next (.cells 7 [i64 P, i64 W, i64 A, .nilsl, .nilsl, i64 0, .bool false]), σ2.next + 1⟩ w σ2.next P W A 0 [] [] false := by
      refine ⟨fp, .nilsl, (fun a => a = σ2.next), (fun _ => False), hw2.frame (fun a ha => ?_) (by simp), ⟨⟨.nilsl, .nilsl, by simp, .inl ⟨rfl, rfl, rfl⟩⟩, rfl, fun e he => by simp at he, fun e he => by simp at he, by simp, by simp, fun a ha => ?_, fun a _ h => h⟩, fun a ha h => ?_, trivial⟩
      · have := hw2.lt a ha
        simp [show ¬ a = σ2.next by omega]
      · rcases ha with rfl | h
        · simp
        · exact h.elim
      · rcases h with rfl | h
        · have := hw2.lt _ ha; omega
        · exact h
    refine wp_loop (PlJ w σ2.next P W A N a2) N ?_ ?_
    · exact ⟨0, 0, [], [], false, rfl, by omega, by omega, by simp, hpi, rfl⟩
    · clear hpi hw2 hk2 hf2 hb2
      rintro mm r σ' ⟨i, sure, ents, es, closed, rfl, hi, hi2, hel, hp, rfl⟩
      generalize σ2.next = m at *
      by_cases hlt : i < N
      · obtain ⟨kind, d, l, place, entry, raw, hk, hd, hl, he, hat⟩ := hacts i hlt
        have hat := hat
        have l3 := hd.len
        have d1 := hd.one
        obtain ⟨k, hk1⟩ : ∃ k, i + 1 = k := ⟨_, rfl⟩
        have hw : IntKind.i64.wrap ((i : Int) + 1) = (k : Int) := by rw [IntWalk.i64_in] <;> omega
        by_cases h150 : 150 < i
        · have h150' : (150 : Int) < i := by omega
          simp [lk_cons, hlt, ↓hat, d1.1, d1.2, storeL, h150, h150']
        · have h150' : ¬ (150 : Int) < i := by omega
          by_cases h400 : 400 < l.length
          · have h400' : (400 : Int) < l.length := by omega
            simp [lk_cons, hlt, ↓hat, d1.1, d1.2, storeL, h150, h150', ↓l3, h400, h400']
          · have h400' : ¬ (400 : Int) < l.length := by omega
            simp [lk_cons, hlt, ↓hat, d1.1, d1.2, storeL, h150, h150', ↓l3, h400, h400']
            refine did_c (hp.frame (fun a ha => by simp [show ¬ a = σ'.next by omega]) (by simp)) hq (by omega) kind hk hd (by omega) place entry he raw _ fun σ3 sure' ents' es' closed' hp3 hel3 => ?_
            simp [lk_cons]
            refine shows_c hp3 hq (by omega) _ ?_
            simp [lk_cons, hw]
            exact ⟨N - k, by omega, k, sure', ents', es', closed', rfl, by omega, by omega, by omega, hp3, rfl⟩
      · simp [lk_cons, hlt]
end Go.Proofs.Ytkfofdeceicfkaa.AM
