/- As many entries wait as may be, no more; with all places heard all are confirmed, and the writer may be closed, once for all. -/
import Derived.Test.YtkfofdeceicfkaaCt11
import Derived.Test.YtkfofdeceicfkaaOkWriterMany
import Derived.Test.YtkfofdeceicfkaaAm2
namespace Go.Proofs.Ytkfofdeceicfkaa.AM
set_option maxRecDepth 100000
set_option linter.unusedVariables false
set_option linter.unusedSimpArgs false

def Many1 (w q P W A : Nat) (more : Int) (m : Nat) (r : Regs) (σ' : St) : Prop := ∃ (i : Nat) (ents : List WEnt), m = 64 - i ∧ i ≤ 64 ∧ ents.length = i ∧ (∀ e ∈ ents, Fresh P e) ∧ MI σ' w q P W A 0 ents false ∧
  r = [(1, .int .u8 more), (5, .ptr q 0), (6, .ptr w 0), (38, i64 i)]

/-- Entry i has heard the places ahead of p. -/
def Part (σ' : St) (w q P W A i p len : Nat) : Prop := ∃ ents : List WEnt, (∀ e ∈ ents, Fresh P e) ∧ ents.length = len ∧
  (MI σ' w q P W A (i + 1) ents false ∨ ∃ e, MI σ' w q P W A i (e :: ents) false ∧ (∀ x, x < P → e.bs.getD x false = decide (x < p ∧ x ∈ setP P W i)) ∧ cnt e.bs (setP P W i) < A)

theorem cnt_all {bs : List Bool} {l : List Nat} (h : ∀ x ∈ l, bs.getD x false = true) : cnt bs l = l.length := by
  rw [cnt, List.countP_eq_length]; exact h

theorem Part.start {σ' : St} {w q P W A i : Nat} {e : WEnt} {ents : List WEnt} (hA : 1 ≤ A) (h : MI σ' w q P W A i (e :: ents) false) (hf : ∀ x ∈ e :: ents, Fresh P x) : Part σ' w q P W A i 0 ents.length := by
  refine ⟨ents, fun x hx => hf x (by simp [hx]), rfl, .inr ⟨e, h, fun x hx => ?_, ?_⟩⟩
  · have := hf e (by simp)
    rw [this, List.getD_eq_getElem?_getD, List.getElem?_replicate]
    simp; split <;> simp
  · rw [fresh_cnt (hf e (by simp))]; omega

theorem Part.done {σ' : St} {w q P W A i len : Nat} (hq : 1 ≤ A ∧ A ≤ W ∧ W ≤ P ∧ P ≤ 7) (h : Part σ' w q P W A i P len) : ∃ ents : List WEnt, (∀ e ∈ ents, Fresh P e) ∧ ents.length = len ∧ MI σ' w q P W A (i + 1) ents false := by
  obtain ⟨ents, h1, h2, h3 | ⟨e, h3, h4, h5⟩⟩ := h
  · exact ⟨ents, h1, h2, h3⟩
  · exfalso
    have : cnt e.bs (setP P W i) = W := by
      rw [cnt_all, setP_len]
      intro x hx
      have hxP := setP_lt (by omega) hx
      rw [h4 x hxP]; simp [hx, hxP]
    omega

theorem ack_part {σ : St} {w q P W A i p len : Nat} (hq : 1 ≤ A ∧ A ≤ W ∧ W ≤ P ∧ P ≤ 7) (hi : i ≤ 64) (hlen : len ≤ 64) (hp : p < P) (h : Part σ w q P W A i p len) (Q : AVal → St → Prop) (k : ∀ σ' v, Part σ' w q P W A i (p + 1) len → Q v σ') :
    ACall Try.prog 12 [.ptr w 0, i64 (p : Nat), u64 (i : Nat)] σ Q := by
  obtain ⟨ents, h1, h2, h3 | ⟨e, h3, h4, h5⟩⟩ := h
  · exact ack_m h3 hq (by omega) p i (by omega) Q (fun _ => k σ _ ⟨ents, h1, h2, .inl h3⟩) (fun σ' v p' k' _ _ c3 => by omega)
  · refine ack_m h3 hq (by simp; omega) p i (by omega) Q (fun hno => k σ _ ⟨ents, h1, h2, .inr ⟨e, h3, fun x hx => ?_, h5⟩⟩) ?_
    · rw [h4 x hx, decide_eq_decide]
      constructor
      · exact fun ⟨a, b⟩ => ⟨by omega, b⟩
      · rintro ⟨a, b⟩
        refine ⟨?_, b⟩
        rcases Nat.lt_or_ge x p with hx2 | hx2
        · exact hx2
        · have : x = p := by omega
          subst this
          rcases hno with hno | hno | hno
          · omega
          · simp at hno; omega
          · exact absurd ⟨x, b, rfl⟩ hno
    · intro σ' v p' k' c1 c2 c3 c4 c5 hr _
      have : p' = p := by omega
      subst this
      rw [Nat.sub_self] at c5 hr
      have hn : e.n = i := by have := h3.num (i := 0) (e := e) rfl; omega
      have hbl : e.bs.length = P := h3.said (by simp)
      have he : heard (e :: ents) 0 p' = setSaid p' true e :: ents := rfl
      rw [he] at c5 hr
      have hbs : ∀ x, x < P → (setSaid p' true e).bs.getD x false = decide (x < p' + 1 ∧ x ∈ setP P W i) := by
        intro x hx
        show (e.bs.set p' true).getD x false = _
        rw [List.getD_eq_getElem?_getD, List.getElem?_set]
        by_cases hxp : p' = x
        · subst hxp
          rw [if_pos rfl, if_pos (by omega)]
          simp [c2]
        · rw [if_neg hxp, ← List.getD_eq_getElem?_getD, h4 x hx, decide_eq_decide]
          constructor
          · exact fun ⟨a, b⟩ => ⟨by omega, b⟩
          · exact fun ⟨a, b⟩ => ⟨by omega, b⟩
      have hpop := fresh_popped (W := W) hq.1 h1
      by_cases hen : enoughE P W A (setSaid p' true e) = true
      · have : k' = 1 := by rw [c5]; simp [popped, hen, hpop]
        subst this
        exact k σ' v ⟨ents, h1, h2, .inl hr⟩
      · have : k' = 0 := by rw [c5]; simp [popped, hen]
        subst this
        refine k σ' v ⟨ents, h1, h2, .inr ⟨_, hr, hbs, ?_⟩⟩
        have h6 : ¬ A ≤ cnt (setSaid p' true e).bs (setP P W e.n) := by simp only [enoughE, decide_eq_true_eq] at hen; exact hen
        rw [hn] at h6
        omega

def Many2 (w q P W A c : Nat) (m : Nat) (r : Regs) (σ' : St) : Prop := ∃ (i : Nat) (ents : List WEnt), m = c - i ∧ i ≤ c ∧ ents.length = 64 - i ∧ (∀ e ∈ ents, Fresh P e) ∧ MI σ' w q P W A i ents false ∧
  r = [(5, .ptr q 0), (6, .ptr w 0), (12, i64 14), (14, i64 23), (15, i64 c), (71, i64 c), (72, i64 i)]
def Many3 (w q P W A c i : Nat) (m : Nat) (r : Regs) (σ' : St) : Prop := ∃ p : Nat, m = P - p ∧ p ≤ P ∧ Part σ' w q P W A i p (63 - i) ∧
  r = [(5, .ptr q 0), (6, .ptr w 0), (12, i64 14), (14, i64 23), (15, i64 c), (16, i64 i), (71, i64 c), (72, i64 i), (76, i64 P), (77, i64 p)]
def Many4 (w q P W A : Nat) (m : Nat) (r : Regs) (σ' : St) : Prop := ∃ p : Nat, m = P - p ∧ p ≤ P ∧ Part σ' w q P W A 64 p 0 ∧
  r = [(6, .ptr w 0), (127, i64 P), (128, i64 p)]

theorem many_c (n more : Nat) (hn : n < 65536) (hmore : more < 256) : ACall Try.prog 4 [.int .u16 n, .int .u8 more] σ0 fun v _ => v = .bool true := by
  refine ACall.of_compF hmx (fun a w => Try.call4 a w) Try.func4 cf4 (n := 2) (by decide) rfl ?_
  simp [ac4, rs4, lk_cons]
  refine awake _ _ ?_
  simp [lk_cons]
  refine quorum_c n hn _ _ ?_
  have hq := q_ok n
  generalize qP n = P at *
  generalize qW n = W at *
  generalize qA n = A at *
  simp [lk_cons, fillL, storeL]
  refine new_m hq (q := 0) (by simp) (by simp) _ fun w σ1 h0 => ?_
  simp [lk_cons]
  refine wp_loop (Many1 w 0 P W A more) 64 ?_ ?_
  · exact ⟨0, [], rfl, by omega, rfl, fun e he => by simp at he, h0, rfl⟩
  · rintro m r σ2 ⟨i, ents, rfl, hi, hel, hfr, hmi, rfl⟩
    by_cases hlt : i < 64
    · obtain ⟨k1, hk1⟩ : ∃ k, i + 1 = k := ⟨_, rfl⟩
      have hw : IntKind.i64.wrap ((i : Int) + 1) = (k1 : Int) := by rw [IntWalk.i64_in] <;> omega
      have hw2 : IntKind.u8.wrap (i : Int) = (i : Int) := by rw [IntWalk.u8_in]; omega
      have hw3 : IntKind.u64.wrap (i : Int) = (i : Int) := by rw [IntWalk.u64_in]; omega
      have hlt' : (i : Int) < 64 := by omega
      simp [lk_cons, hlt, hlt', hw2, fillL, storeL, repL, srcL]
      have hmi2 : MI ⟨σ2.mem.set σ2.next (.cells 1 [.int .u8 i]), σ2.next + 1⟩ w 0 P W A 0 ents false := hmi.frame (fun a ha => by simp [show ¬ a = σ2.next by omega]) (by simp)
      refine add_m hmi2 (by omega) (by omega) (data_sl _ _ _ [.int .u8 i] 1 _ rfl (by omega) (by simp) (by simp) (by simp)) (fun t => .inr ⟨_, _, _, rfl, rfl, by omega, rfl⟩) _ ?_ ?_ ?_ ?_
      · intro hc; cases hc
      · intro _ hc; omega
      · intro _ _ hc; omega
      · intro σ3 s t _ _ _ hm3
        simp [lk_cons, hel, hw, hw3]
        refine ⟨64 - k1, by omega, k1, _, rfl, by omega, by simp [hel, hk1], ?_, hm3, rfl⟩
        intro e he
        rcases List.mem_append.1 he with he | he
        · exact hfr e he
        · simp at he; subst he; rfl
    · have : i = 64 := by omega
      subst this
      simp [lk_cons]
      refine add_m hmi (by omega) (by omega) (data_nil σ2) (fun _ => .inl rfl) _ (fun hc => by cases hc) (fun _ hc => by omega) ?_ (fun _ _ _ _ _ hc => by omega)
      intro _ _ _
      simp [lk_cons]
      refine close_m hmi _ ?_ (fun _ hc => by rw [hc] at hel; simp at hel)
      intro _
      have t1 : (more : Int).tmod 65 = ((more % 65 : Nat) : Int) := (Int.ofNat_tmod more 65).symm
      have t2 : more % 65 < 65 := Nat.mod_lt _ (by omega)
      obtain ⟨c, hc⟩ : ∃ c, more % 65 = c := ⟨_, rfl⟩
      rw [hc] at t1 t2
      have w1 : IntKind.i64.wrap (c : Int) = c := by rw [IntWalk.i64_in]; omega
      simp [lk_cons, t1, w1]
      refine wp_loop (Many2 w 0 P W A c) c ?_ ?_
      · exact ⟨0, ents, rfl, by omega, by omega, hfr, hmi, rfl⟩
      · clear hmi hel hfr
        rintro m r σ3 ⟨i, ents, rfl, hi, hel, hfr, hmi, rfl⟩
        by_cases hlt : i < c
        · have hp0 := hmi.q
          simp [lk_cons, hlt, hp0]
          refine wp_loop (Many3 w 0 P W A c i) P ?_ ?_
          · cases ents with
            | nil => simp at hel; omega
            | cons e es => exact ⟨0, rfl, by omega, by
                have := Part.start hq.1 hmi hfr
                simp at hel
                rwa [show es.length = 63 - i by omega] at this, rfl⟩
          · rintro m r σ4 ⟨p, rfl, hp, hpt, rfl⟩
            by_cases hlt2 : p < P
            · obtain ⟨k1, hk1⟩ : ∃ k, p + 1 = k := ⟨_, rfl⟩
              have hw : IntKind.i64.wrap ((p : Int) + 1) = (k1 : Int) := by rw [IntWalk.i64_in] <;> omega
              have hw3 : IntKind.u64.wrap (i : Int) = (i : Int) := by rw [IntWalk.u64_in]; omega
              simp [lk_cons, hlt2, hw3]
              refine ack_part hq (by omega) (by omega) hlt2 hpt _ fun σ5 v hpt2 => ?_
              simp [lk_cons, hw]
              exact ⟨P - k1, by omega, k1, rfl, by omega, hk1 ▸ hpt2, rfl⟩
            · have : p = P := by omega
              subst this
              obtain ⟨k1, hk1⟩ : ∃ k, i + 1 = k := ⟨_, rfl⟩
              have hw : IntKind.i64.wrap ((i : Int) + 1) = (k1 : Int) := by rw [IntWalk.i64_in] <;> omega
              obtain ⟨ents', hf', hl', hm'⟩ := hpt.done hq
              simp [lk_cons, hw]
              exact ⟨c - k1, by omega, k1, ents', rfl, by omega, by omega, hf', hk1 ▸ hm', rfl⟩
        · have : i = c := by omega
          subst this
          have hp0 := hmi.q
          have w2 : IntKind.u64.wrap (i : Int) = i := by rw [IntWalk.u64_in]; omega
          have w3 : IntKind.i64.wrap (64 - (i : Int)) = 64 - (i : Int) := by rw [IntWalk.i64_in] <;> omega
          by_cases h64 : i < 64
          · have hne : ents ≠ [] := by intro hc; rw [hc] at hel; simp at hel; omega
            have h64' : (i : Int) < 64 := by omega
            have hel' : (ents.length : Int) = 64 - (i : Int) := by omega
            simp [lk_cons]
            refine waiting_m hmi hq (by omega) _ (fun hc => absurd hc hne) fun _ => ?_
            simp [lk_cons]
            refine add_m hmi (by omega) (by omega) (data_nil σ3) (fun _ => .inl rfl) _ (fun hc => by cases hc) (fun _ hc => by omega) ?_ ?_
            · intro _ _ hc
              have hi0 : i = 0 := by omega
              subst hi0
              simp [lk_cons]
              refine sure_m hmi _ ?_
              simp at hel' w2 w3
              simp [lk_cons, w2, w3, hel']
            · intro σ4 s t _ _ hc hm4
              have hi0 : 0 < i := by omega
              have hi0' : ¬ i = 0 := by omega
              simp [lk_cons]
              refine sure_m hm4 _ ?_
              simp [lk_cons, w2, w3, hel', hi0, h64, h64']
          · have hi64 : i = 64 := by omega
            subst hi64
            have hnil : ents = [] := List.eq_nil_of_length_eq_zero (by omega)
            subst hnil
            simp at w2 w3
            simp [lk_cons]
            refine waiting_m hmi hq (by simp) _ (fun _ => ?_) (fun hc => absurd rfl hc)
            simp [lk_cons]
            refine add_m hmi (by omega) (by simp) (data_nil σ3) (fun _ => .inl rfl) _ (fun hc => by cases hc) (fun _ hc => by omega) (fun _ _ hc => by simp at hc) ?_
            intro σ4 s t _ _ _ hm4
            simp [lk_cons]
            refine sure_m hm4 _ ?_
            have hq4 := hm4.q
            simp [lk_cons, w2, w3, hq4]
            refine wp_loop (Many4 w 0 P W A) P ?_ ?_
            · exact ⟨0, rfl, by omega, Part.start hq.1 hm4 (fun e he => by simp at he; subst he; rfl), rfl⟩
            · rintro m r σ5 ⟨p, rfl, hp, hpt, rfl⟩
              by_cases hlt2 : p < P
              · obtain ⟨k1, hk1⟩ : ∃ k, p + 1 = k := ⟨_, rfl⟩
                have hw : IntKind.i64.wrap ((p : Int) + 1) = (k1 : Int) := by rw [IntWalk.i64_in] <;> omega
                simp [lk_cons, hlt2]
                refine ack_part hq (by omega) (by omega) hlt2 hpt _ fun σ6 v hpt2 => ?_
                simp [lk_cons, hw]
                exact ⟨P - k1, by omega, k1, rfl, by omega, hk1 ▸ hpt2, rfl⟩
              · have : p = P := by omega
                subst this
                obtain ⟨ents', hf', hl', hm'⟩ := hpt.done hq
                have hnil : ents' = [] := List.eq_nil_of_length_eq_zero hl'
                subst hnil
                simp [lk_cons]
                refine close_m hm' _ (fun hc => absurd rfl hc) fun σ6 _ hm6 => ?_
                simp [lk_cons]
                refine close_m hm6 _ (fun hc => absurd rfl hc) fun σ7 _ hm7 => ?_
                simp [lk_cons]
                refine add_m hm7 (by omega) (by simp) (data_nil σ7) (fun _ => .inl rfl) _ (fun _ => ?_) (fun hc => by cases hc) (fun hc => by cases hc) (fun _ _ _ hc => by cases hc)
                simp [lk_cons]

open OkWriterMany in
theorem lawWriterMany (a0 : AVal) (o0 : ok22 [a0]) (a1 : AVal) (o1 : ok5 [a1]) : ACall Try.prog 4 [a0, a1] σ0 fun v _ => v = .bool true := by
  obtain ⟨n, h0, w0⟩ := o0
  obtain ⟨m, h1, w1⟩ := o1
  cases h0; cases h1
  obtain ⟨n, rfl, hn⟩ := wf_u16 w0
  obtain ⟨m, rfl, hm⟩ := wf_u8 w1
  exact many_c n m hn hm
end Go.Proofs.Ytkfofdeceicfkaa.AM
