/- Behind a node's replacement what it had said of those that wait counts no more. -/
import Derived.Test.YtkfofdeceicfkaaCt11
import Derived.Test.YtkfofdeceicfkaaOkWriterReplaces
import Derived.Test.YtkfofdeceicfkaaAm2
namespace Go.Proofs.Ytkfofdeceicfkaa.AM
set_option maxRecDepth 100000
set_option linter.unusedVariables false
set_option linter.unusedSimpArgs false

/-- Nobody but p has said anything. -/
def Only (p : Nat) (e : WEnt) : Prop := ∀ x, x ≠ p → e.bs.getD x false = false
theorem fresh_only {P p : Nat} {e : WEnt} (h : Fresh P e) : Only p e := by
  intro x _
  rw [h, List.getD_eq_getElem?_getD, List.getElem?_replicate]
  split <;> simp
theorem only_said {p : Nat} {b : Bool} {e : WEnt} (h : Only p e) : Only p (setSaid p b e) := by
  intro x hx
  show (e.bs.set p b).getD x false = false
  rw [List.getD_eq_getElem?_getD, List.getElem?_set, if_neg (Ne.symm hx), ← List.getD_eq_getElem?_getD]
  exact h x hx
theorem only_heard {p j : Nat} {ents : List WEnt} (h : ∀ e ∈ ents, Only p e) : ∀ e ∈ heard ents j p, Only p e := by
  intro e he
  obtain ⟨i, hi⟩ := List.mem_iff_getElem?.1 he
  rw [heard, List.getElem?_modify] at hi
  cases hy : ents[i]? with
  | none => rw [hy] at hi; simp at hi
  | some y =>
    rw [hy] at hi
    have := h y (List.mem_of_getElem? hy)
    by_cases hij : j = i
    · simp [hij] at hi; subst hi; exact only_said this
    · simp [hij] at hi; subst hi; exact this
theorem only_cnt {p : Nat} {e : WEnt} {l : List Nat} (h : Only p e) (hl : l.Nodup) : cnt e.bs l ≤ 1 := by
  have h1 : cnt e.bs l ≤ l.countP (fun x => decide (x = p)) := by
    refine List.countP_mono_left fun x _ hx => ?_
    by_cases hxp : x = p
    · simp [hxp]
    · rw [h x hxp] at hx; cases hx
  have h2 : l.countP (fun x => decide (x = p)) ≤ 1 := by
    have := List.nodup_iff_count.1 hl p
    refine Nat.le_trans (Nat.le_of_eq ?_) this
    rw [List.count]
    exact List.countP_congr (fun x _ => by simp)
  omega
theorem only_popped {P W A p : Nat} (hA : 1 < A) (hW : W ≤ P) : ∀ {ents : List WEnt}, (∀ e ∈ ents, Only p e) → popped P W A ents = 0
  | [], _ => rfl
  | e :: es, h => by
    have := only_cnt (h e (by simp)) (setP_nodup (n := e.n) hW)
    simp [popped, enoughE]; omega
theorem repl_count (P W p : Nat) : ∀ (ents : List WEnt) (s : Nat), (∀ (i : Nat) (e : WEnt), ents[i]? = some e → e.n = s + i) → (replN P W p ents).length = (List.range' s ents.length).countP fun k => decide (p ∈ setP P W k)
  | [], s, _ => rfl
  | e :: es, s, h => by
    have ih := repl_count P W p es (s + 1) (fun i x hx => by have := h (i + 1) x (by simpa using hx); omega)
    have h0 := h 0 e rfl
    simp only [replN, List.length_map, List.length_cons, List.range'_succ, List.countP_cons, List.filter_cons] at ih ⊢
    have hh : hasE P W p e = decide (p ∈ setP P W s) := by
      rw [hasE, decide_eq_decide, h0, Nat.add_zero]
      exact ⟨fun ⟨y, hy, e⟩ => by have : y = p := by omega
                                  subst this; exact hy, fun h => ⟨p, h, rfl⟩⟩
    rw [hh]
    split <;> simp [ih]

theorem only_unsaid {P W p : Nat} {e : WEnt} (h : Only p e) (hl : e.bs.length = P) : unsaid P W (replE P W p e) = setP P W e.n := by
  have hn : (replE P W p e).n = e.n := by simp only [replE]; split <;> rfl
  rw [unsaid, hn, List.filter_eq_self]
  intro x hx
  by_cases hh : hasE P W p e = true
  · have : (replE P W p e).bs = e.bs.set p false := by simp only [replE, if_pos hh]; rfl
    rw [this]
    by_cases hxp : x = p
    · subst hxp
      rw [List.getD_eq_getElem?_getD, List.getElem?_set, if_pos rfl]
      split <;> rfl
    · rw [List.getD_eq_getElem?_getD, List.getElem?_set, if_neg (Ne.symm hxp), ← List.getD_eq_getElem?_getD, h x hxp]; rfl
  · have : (replE P W p e).bs = e.bs := by simp only [replE, if_neg hh]
    rw [this]
    by_cases hxp : x = p
    · subst hxp
      refine absurd ?_ hh
      rw [hasE, decide_eq_true_eq]
      exact ⟨x, hx, rfl⟩
    · rw [h x hxp]; rfl

def Repl1 (w q P W A p c : Nat) (m : Nat) (r : Regs) (σ' : St) : Prop := ∃ (i : Nat) (ents : List WEnt), m = c - i ∧ i ≤ c ∧ ents.length = i ∧ (∀ e ∈ ents, Fresh P e) ∧ MI σ' w q P W A 0 ents false ∧
  r = [(7, .ptr q 0), (8, .ptr w 0), (10, i64 p), (11, i64 c), (40, i64 c), (41, i64 i)]
def Repl2 (w q P W A p c : Nat) (m : Nat) (r : Regs) (σ' : St) : Prop := ∃ (i got : Nat) (ents : List WEnt), m = c - i ∧ i ≤ c ∧ got + ents.length = c ∧ (∀ e ∈ ents, Only p e) ∧ (1 < A → got = 0) ∧ MI σ' w q P W A got ents false ∧
  r = [(7, .ptr q 0), (8, .ptr w 0), (10, i64 p), (11, i64 c), (12, i64 got), (48, i64 c), (49, i64 i)]
def Repl3 (w q P W A p c got : Nat) (ents : List WEnt) (again to : AVal) (m : Nat) (r : Regs) (σ' : St) : Prop := ∃ i : Nat, m = ents.length - i ∧ i ≤ ents.length ∧ MI σ' w q P W A got ents false ∧
  r = [(7, .ptr q 0), (8, .ptr w 0), (10, i64 p), (11, i64 c), (12, i64 got), (14, again), (69, to), (70, i64 ents.length), (71, i64 i)]
def Repl4 (w q P W A p c got : Nat) (ents : List WEnt) (again : AVal) (m : Nat) (r : Regs) (σ' : St) : Prop := ∃ j : Nat, m = ents.length - j ∧ j ≤ ents.length ∧ MI σ' w q P W A got ents false ∧
  r = [(7, .ptr q 0), (8, .ptr w 0), (10, i64 p), (11, i64 c), (12, i64 got), (14, again), (20, i64 ((List.range' got j).countP fun k => decide (p ∈ setP P W k) : Nat)), (21, i64 (got + j : Nat))]

theorem replaces_c (n place count : Nat) (hn : n < 65536) (hpl : place < 256) (hco : count < 256) : ACall Try.prog 5 [.int .u16 n, .int .u8 place, .int .u8 count] σ0 fun v _ => v = .bool true := by
  refine ACall.of_compF hmx (fun a w => Try.call5 a w) Try.func5 cf5 (n := 3) (by decide) rfl ?_
  simp [ac5, rs5, lk_cons]
  refine awake _ _ ?_
  simp [lk_cons]
  refine quorum_c n hn _ _ ?_
  have hq := q_ok n
  generalize qP n = P at *
  generalize qW n = W at *
  generalize qA n = A at *
  simp [lk_cons, fillL, storeL]
  refine new_m hq (q := 0) (by simp) (by simp) _ fun w σ1 h0 => ?_
  have hq1 := h0.q
  have t1 : (place : Int).tmod (P : Int) = ((place % P : Nat) : Int) := (Int.ofNat_tmod place P).symm
  have t2 : (count : Int).tmod 10 = ((count % 10 : Nat) : Int) := (Int.ofNat_tmod count 10).symm
  obtain ⟨p, hp⟩ : ∃ p, place % P = p := ⟨_, rfl⟩
  obtain ⟨c0, hc0⟩ : ∃ c, count % 10 = c := ⟨_, rfl⟩
  obtain ⟨c, hc⟩ : ∃ c, 1 + c0 = c := ⟨_, rfl⟩
  have hpP : p < P := hp ▸ Nat.mod_lt _ (by omega)
  have hc10 : c0 < 10 := hc0 ▸ Nat.mod_lt _ (by omega)
  rw [hp] at t1
  rw [hc0] at t2
  have w1 : IntKind.i64.wrap (place : Int) = place := by rw [IntWalk.i64_in]; omega
  have w2 : IntKind.i64.wrap (c0 : Int) = c0 := by rw [IntWalk.i64_in]; omega
  have w3 : IntKind.i64.wrap (1 + (c0 : Int)) = c := by rw [IntWalk.i64_in] <;> omega
  have hP0 : ¬ P = 0 := by omega
  simp [lk_cons, hq1, t1, t2, w1, w2, w3, hP0]
  refine wp_loop (Repl1 w 0 P W A p c) c ?_ ?_
  · exact ⟨0, [], rfl, by omega, rfl, fun e he => by simp at he, h0, rfl⟩
  · rintro m r σ2 ⟨i, ents, rfl, hi, hel, hfr, hmi, rfl⟩
    by_cases hlt : i < c
    · obtain ⟨k1, hk1⟩ : ∃ k, i + 1 = k := ⟨_, rfl⟩
      have hw : IntKind.i64.wrap ((i : Int) + 1) = (k1 : Int) := by rw [IntWalk.i64_in] <;> omega
      simp [lk_cons, hlt, fillL, storeL, repL, srcL]
      have hmi2 : MI ⟨σ2.mem.set σ2.next (.cells 1 [.int .u8 120]), σ2.next + 1⟩ w 0 P W A 0 ents false := hmi.frame (fun a ha => by simp [show ¬ a = σ2.next by omega]) (by simp)
      refine add_m hmi2 (by omega) (by omega) (data_sl _ _ _ [.int .u8 120] 1 _ rfl (by omega) (by simp) (by simp) (by simp)) (fun t => .inr ⟨_, _, _, rfl, rfl, by omega, rfl⟩) _ ?_ ?_ ?_ ?_
      · intro hc; cases hc
      · intro _ hc; omega
      · intro _ _ hc; omega
      · intro σ3 s t _ _ _ hm3
        simp [lk_cons, hw]
        refine ⟨c - k1, by omega, k1, _, rfl, by omega, by simp [hel, hk1], ?_, hm3, rfl⟩
        intro e he
        rcases List.mem_append.1 he with he | he
        · exact hfr e he
        · simp at he; subst he; rfl
    · have : i = c := by omega
      subst this
      simp [lk_cons]
      refine wp_loop (Repl2 w 0 P W A p i) i ?_ ?_
      · exact ⟨0, 0, ents, rfl, by omega, by omega, fun e he => fresh_only (hfr e he), fun _ => rfl, hmi, rfl⟩
      · clear hmi hel hfr
        rintro m r σ3 ⟨j, got, ents, rfl, hj, hel, hon, hA, hmi, rfl⟩
        by_cases hlt : j < i
        · obtain ⟨k1, hk1⟩ : ∃ k, j + 1 = k := ⟨_, rfl⟩
          have hw : IntKind.i64.wrap ((j : Int) + 1) = (k1 : Int) := by rw [IntWalk.i64_in] <;> omega
          have hw3 : IntKind.u64.wrap (j : Int) = (j : Int) := by rw [IntWalk.u64_in]; omega
          have wg : IntKind.i64.wrap (got : Int) = (got : Int) := by rw [IntWalk.i64_in]; omega
          simp [lk_cons, hlt, hw3]
          refine ack_m hmi hq (by omega) p j (by omega) _ ?_ ?_
          · intro _
            simp [lk_cons, hw, wg]
            exact ⟨i - k1, by omega, k1, got, ents, rfl, by omega, hel, hon, hA, hmi, rfl⟩
          · intro σ4 v p' k c1 c2 c3 c4 c5 hm4 hv
            have : p' = p := by omega
            subst this
            have hho := only_heard (j := j - got) hon
            have hhl : (heard ents (j - got) p').length = ents.length := by simp [heard]
            have hkl := popped_le P W A (heard ents (j - got) p')
            obtain ⟨g2, hg2⟩ : ∃ g, got + k = g := ⟨_, rfl⟩
            have wg2 : IntKind.i64.wrap ((got : Int) + (k : Int)) = (g2 : Int) := by rw [IntWalk.i64_in] <;> omega
            have key : Repl2 w 0 P W A p' i (i - k1) [(7, .ptr 0 0), (8, .ptr w 0), (10, i64 p'), (11, i64 i), (12, i64 g2), (48, i64 i), (49, i64 k1)] σ4 := by
              refine ⟨k1, g2, _, rfl, by omega, ?_, fun e he => hho e (List.mem_of_mem_drop he), fun h1 => ?_, hg2 ▸ hm4, rfl⟩
              · rw [List.length_drop]; omega
              · have := only_popped (P := P) (W := W) (A := A) h1 (by omega) hho
                have := hA h1
                omega
            rcases hv with ⟨h1, rfl⟩ | ⟨t, rfl⟩
            · have : g2 = got := by omega
              subst this
              simp [lk_cons, hw, wg]
              exact ⟨_, by omega, key⟩
            · simp [lk_cons, hw, wg2]
              exact ⟨_, by omega, key⟩
        · have : j = i := by omega
          subst this
          simp [lk_cons]
          refine replace_m hmi hq (by omega) p _ fun σ4 again hm4 hag => ?_
          simp [lk_cons]
          have hag2 : ∀ ρ, evalV ρ (.len 1 again) = some (i64 (replN P W p ents).length, ρ) := by
            intro ρ
            rcases hag with ⟨h1, rfl⟩ | ⟨t, rfl⟩
            · simp [h1]
            · simp
          have hrc := repl_count P W p ents got (fun i e he => hmi.num he)
          have hsaid : ∀ e ∈ ents, e.bs.length = P := fun e he => hmi.said he
          have hnum : ∀ (i : Nat) (e : WEnt), ents[i]? = some e → e.n = got + i := fun i e he => hmi.num he
          have hlm : (ents.map (replE P W p)).length = ents.length := by simp
          refine waiting_v hm4 hq (by omega) _ fun x to hto => ?_
          have hto2 : ∀ ρ, evalV ρ (.len 1 to) = some (i64 ents.length, ρ) := by
            intro ρ
            rcases hto with ⟨h1, _, rfl⟩ | ⟨_, rfl⟩
            · have : ents = [] := by simpa using h1
              subst this; simp
            · simp
          simp [lk_cons, ↓hto2]
          obtain ⟨es, hes⟩ : ∃ es, ents.map (replE P W p) = es := ⟨_, rfl⟩
          have hlen : es.length = ents.length := by rw [← hes]; simp
          rw [hes] at hm4
          have wg : IntKind.u64.wrap (got : Int) = (got : Int) := by rw [IntWalk.u64_in]; omega
          refine wp_loop (Repl3 w 0 P W A p j got es again to) es.length ?_ ?_
          · exact ⟨0, rfl, by omega, hm4, by rw [hlen]; rfl⟩
          · clear hm4
            rintro m r σ5 ⟨i, rfl, hi, hm5, rfl⟩
            have hq5 := hm5.q
            by_cases hlt : i < es.length
            · obtain ⟨k1, hk1⟩ : ∃ k, i + 1 = k := ⟨_, rfl⟩
              have hw : IntKind.i64.wrap ((i : Int) + 1) = (k1 : Int) := by rw [IntWalk.i64_in] <;> omega
              have hwi : IntKind.u64.wrap (i : Int) = (i : Int) := by rw [IntWalk.u64_in]; omega
              obtain ⟨z, hz⟩ : ∃ z, got + i = z := ⟨_, rfl⟩
              have hwz : IntKind.u64.wrap ((got : Int) + (i : Int)) = (z : Int) := by rw [IntWalk.u64_in] <;> omega
              obtain ⟨e, he⟩ : ∃ e, ents[i]? = some e := ⟨_, List.getElem?_eq_getElem (by omega)⟩
              have hme := List.mem_of_getElem? he
              have hun := only_unsaid (W := W) (hon e hme) (hsaid e hme)
              have hne : ¬ setP P W e.n = [] := by
                intro hc
                have := setP_len P W e.n
                rw [hc] at this; simp at this; omega
              have hta : toA P W (replE P W p e) = .isl (iv (setP P W e.n)) W false := by
                rw [toA, hun, if_neg hne, setP_len]
              rcases hto with ⟨h1, _, _⟩ | ⟨_, rfl⟩
              · have : ents = [] := by simpa using h1
                subst this; simp at he
              · have hx : ((ents.map (replE P W p)).map (toA P W))[i]? = some (.isl (iv (setP P W e.n)) W false) := by
                  rw [List.getElem?_map, List.getElem?_map, he]; simp [hta]
                rw [hes] at hx
                obtain ⟨l, hl⟩ : ∃ l, es.map (toA P W) = l := ⟨_, rfl⟩
                rw [hl] at hx
                have hlt2 : i < ents.length := by omega
                rw [hes, hl]
                simp [lk_cons, hlt, hlt2, hlen, hx, hq5, hwi]
                refine sure_m hm5 _ ?_
                simp [lk_cons, hq5, hwz]
                refine rset P W A z hq (by omega) _ _ ?_
                simp [lk_cons, hw]
                exact ⟨es.length - k1, by omega, k1, rfl, by omega, hm5, by simp [hes, hl, hlen]⟩
            · have : i = es.length := by omega
              subst this
              simp [lk_cons]
              refine wp_loop (Repl4 w 0 P W A p j got es again) es.length ?_ ?_
              · exact ⟨0, rfl, by omega, hm5, rfl⟩
              · clear hm5 hq5
                rintro m r σ6 ⟨i, rfl, hi, hm6, rfl⟩
                have hq6 := hm6.q
                obtain ⟨x, hx⟩ : ∃ x, (List.range' got i).countP (fun k => decide (p ∈ setP P W k)) = x := ⟨_, rfl⟩
                obtain ⟨z, hz⟩ : ∃ z, got + i = z := ⟨_, rfl⟩
                have hxi : x ≤ i := by rw [← hx]; exact Nat.le_trans List.countP_le_length (by simp)
                rw [hx, hz]
                by_cases hlt : z < j
                · obtain ⟨x1, hx1⟩ : ∃ k, x + 1 = k := ⟨_, rfl⟩
                  obtain ⟨z1, hz1⟩ : ∃ k, z + 1 = k := ⟨_, rfl⟩
                  have hw : IntKind.i64.wrap ((x : Int) + 1) = (x1 : Int) := by rw [IntWalk.i64_in] <;> omega
                  have hwz1 : IntKind.i64.wrap ((z : Int) + 1) = (z1 : Int) := by rw [IntWalk.i64_in] <;> omega
                  have hwz : IntKind.u64.wrap (z : Int) = (z : Int) := by rw [IntWalk.u64_in]; omega
                  have hstep : (List.range' got (i + 1)).countP (fun k => decide (p ∈ setP P W k)) = x + if p ∈ setP P W z then 1 else 0 := by
                    rw [List.range'_1_concat, List.countP_append, hx, hz]
                    simp
                  have hsl := setP_len P W z
                  simp [lk_cons, hlt, hq6, hwz]
                  refine rset P W A z hq (by omega) _ _ ?_
                  simp [lk_cons]
                  have hc := in_c (setP P W z) false p (by omega)
                  rw [hsl] at hc
                  refine hc _ _ ?_
                  have hmem : decide (∃ y ∈ setP P W z, (y : Int) = (p : Int)) = decide (p ∈ setP P W z) := by
                    simp only [decide_eq_decide]
                    exact ⟨fun ⟨y, hy, e⟩ => by have : y = p := by omega
                                                subst this; exact hy, fun h => ⟨p, h, rfl⟩⟩
                  rw [hmem]
                  by_cases hpz : p ∈ setP P W z
                  · rw [if_pos hpz] at hstep
                    simp [lk_cons, hpz, hw, hwz1]
                    exact ⟨es.length - (i + 1), by omega, i + 1, rfl, by omega, hm6, by rw [hstep, hx1, ← hz1, ← hz]; rfl⟩
                  · rw [if_neg hpz] at hstep
                    simp [lk_cons, hpz, hwz1]
                    exact ⟨es.length - (i + 1), by omega, i + 1, rfl, by omega, hm6, by rw [hstep, ← hz1, ← hz]; rfl⟩
                · have hie : i = es.length := by omega
                  subst hie
                  rw [hlen, ← hrc] at hx
                  have hzj : z = j := by omega
                  subst hzj
                  simp [lk_cons, ↓hag2, hx]
                  refine sure_m hm6 _ ?_
                  by_cases hA1 : 1 < A
                  · have hA0 := hA hA1
                    have hA1' : (1 : Int) < A := by omega
                    subst hA0
                    simp at wg
                    simp [lk_cons, wg, hq6, hA1, hA1']
                  · have hA1' : A = 1 := by omega
                    subst hA1'
                    simp [lk_cons, wg, hq6]

open OkWriterReplaces in
theorem lawWriterReplaces (a0 : AVal) (o0 : ok22 [a0]) (a1 : AVal) (o1 : ok5 [a1]) (a2 : AVal) (o2 : ok5 [a2]) : ACall Try.prog 5 [a0, a1, a2] σ0 fun v _ => v = .bool true := by
  obtain ⟨n, h0, w0⟩ := o0
  obtain ⟨m, h1, w1⟩ := o1
  obtain ⟨k, h2, w2⟩ := o2
  cases h0; cases h1; cases h2
  obtain ⟨n, rfl, hn⟩ := wf_u16 w0
  obtain ⟨m, rfl, hm⟩ := wf_u8 w1
  obtain ⟨k, rfl, hk⟩ := wf_u8 w2
  exact replaces_c n m k hn hm hk
end Go.Proofs.Ytkfofdeceicfkaa.AM
