/- What the functions of this chapter give: their contracts over the machine. -/
import Derived.Test.YtopagbaokokjdaaCt12
import Derived.Test.YtopagbaokokjdaaAm3
import Derived.Test.YtopagbaokokjdaaC12
/- Menders: what is asked of items in memory. -/
namespace Go.Proofs.Ytopagbaokokjdaa.AM
set_option maxRecDepth 100000
set_option linter.unusedVariables false
set_option linter.unusedSimpArgs false

/-- The first n items of a block. -/
def SlM (σ : St) (v : AVal) (cs : List AVal) (n : Nat) : Prop := v = .nilsl ∧ n = 0 ∧ cs = [] ∨ ∃ o c t vals, v = .sl o 0 n c t ∧ n ≤ c ∧ o < σ.next ∧ σ.mem.get o = some (.cells 2 vals) ∧ vals.take (n * 2) = cs ∧ n * 2 ≤ vals.length
theorem SlM.len {σ : St} {v : AVal} {cs : List AVal} {n : Nat} (h : SlM σ v cs n) (ρ : St) : evalV ρ (.len 1 v) = some (i64 n, ρ) := by
  rcases h with ⟨rfl, rfl, _⟩ | ⟨o, c, t, vals, rfl, _⟩ <;> simp
theorem SlM.one {σ : St} {v : AVal} {cs : List AVal} {n : Nat} (h : SlM σ v cs n) : v.one = true ∧ cellsOf v = [v] := by
  rcases h with ⟨rfl, rfl, _⟩ | ⟨o, c, t, vals, rfl, _⟩ <;> simp
theorem MCells.take {σ : St} : ∀ {cs : List AVal} {xs : List (Nat × List UInt8)} (i : Nat), MCells σ cs xs → MCells σ (cs.take (i * 2)) (xs.take i)
  | [], [], i, _ => by simp [MCells]
  | c :: d :: cs, x :: xs, 0, _ => by simp [MCells]
  | c :: d :: cs, x :: xs, i + 1, h => by
    rw [show (i + 1) * 2 = i * 2 + 1 + 1 by omega]
    exact ⟨h.1, h.2.1, h.2.2.take i⟩
  | [], _ :: _, _, h => h.elim
  | [_], _, _, h => by cases ‹List (Nat × List UInt8)› <;> exact h.elim
  | _ :: _ :: _, [], _, h => h.elim
theorem SlM.frame {σ σ' : St} {v : AVal} {cs : List AVal} {n : Nat} (h : SlM σ v cs n) (hn : σ.next ≤ σ'.next) (hm : ∀ a, a < σ.next → σ'.mem.get a = σ.mem.get a) : SlM σ' v cs n := by
  rcases h with ⟨rfl, rfl, rfl⟩ | ⟨o, c, t, vals, rfl, h1, h2, h3, h4, h5⟩
  · exact .inl ⟨rfl, rfl, rfl⟩
  · exact .inr ⟨o, c, t, vals, rfl, h1, by omega, (hm o h2).trans h3, h4, h5⟩
theorem SlM.take {σ : St} {v : AVal} {cs : List AVal} {xs : List (Nat × List UInt8)} (h : SlM σ v cs xs.length) (hc : MCells σ cs xs) {i : Nat} (hi : i < xs.length) : ∃ o c t vals, v = .sl o 0 xs.length c t ∧ xs.length ≤ c ∧ o < σ.next ∧ σ.mem.get o = some (.cells 2 vals) ∧ ∀ t' σ', σ.next ≤ σ'.next → (∀ a, a < σ.next → σ'.mem.get a = σ.mem.get a) → SlM σ' (.sl o 0 i c t') (cs.take (i * 2)) (xs.take i).length ∧ MCells σ' (cs.take (i * 2)) (xs.take i) := by
  rcases h with ⟨_, h0, _⟩ | ⟨o, c, t, vals, rfl, h1, h2, h3, h4, h5⟩
  · omega
  · refine ⟨o, c, t, vals, rfl, h1, h2, h3, fun t' σ' hn hm => ⟨?_, (hc.take i).frame hn fun a ha _ => hm a ha⟩⟩
    rw [List.length_take, Nat.min_eq_left (by omega)]
    refine .inr ⟨o, c, t', vals, rfl, by omega, by omega, (hm o h2).trans h3, ?_, by omega⟩
    rw [← h4, List.take_take, Nat.min_eq_left (by omega)]
theorem SlM.at {σ : St} {v : AVal} {cs : List AVal} {xs : List (Nat × List UInt8)} (h : SlM σ v cs xs.length) (hc : MCells σ cs xs) {i : Nat} {x : Nat × List UInt8} (hx : xs[i]? = some x) :
    ∃ o d, BytesM σ d x.2 ∧ evalV σ (.idxAddr 2 v (.int .i64 (i : Int))) = some (.ptr o (i * 2), σ) ∧ evalV σ (.ldn 2 (.ptr o (i * 2))) = some (.agg [u64 (x.1 : Int), d], σ) := by
  have hi := (List.getElem?_eq_some_iff.1 hx).1
  obtain ⟨d, hd, e1, _, _⟩ := hc.get hx
  rcases h with ⟨_, h0, _⟩ | ⟨o, c, t, vals, rfl, h1, h2, h3, h4, h5⟩
  · omega
  · have e2 : (vals.drop (i * 2)).take 2 = [u64 (x.1 : Int), d] := by
      rw [← h4, List.drop_take, List.take_take, Nat.min_eq_left (by omega)] at e1
      exact e1
    have hb : i * 2 + 2 ≤ vals.length := by omega
    exact ⟨o, d, hd, by simp [hi], by simp [h3, e2, hb]⟩
theorem bequal_m {σ : St} {a b : AVal} {l l' : List UInt8} (ha : BytesM σ a l) (hb : BytesM σ b l') (Q : AVal → St → Prop) (h : Q (.bool (decide (l = l'))) σ) : ACall Try.prog 28 [a, b] σ Q := by
  refine ACall.of_compF hmx (fun a w => Try.call28 a w) Try.func28 cf28 (n := 2) (by decide) rfl ?_
  have s1 := ha.str
  have s2 := hb.str
  simp [ac28, rs28, lk_cons, ↓s1, ↓s2, str_eq]
  exact h
theorem other_m (σ : St) (n : Nat) (d : AVal) (l : List UInt8) (b m : Nat) (d' : AVal) (l' : List UInt8) (h1 : BytesM σ d l) (h2 : BytesM σ d' l') (hb : σ.mem.get b = some (.cells 2 [u64 (m : Int), d'])) (hlt : b < σ.next) (Q : AVal → St → Prop) (h : Q (.bool (decide (n = m ∧ l ≠ l'))) σ) :
    ACall Try.prog 27 [.agg [u64 (n : Int), d], .ptr b 0] σ Q := by
  refine ACall.scrub ?_
  refine ACall.of_compF hmx (fun a w => Try.call27 a w) Try.func27 cf27 (n := 2) (by decide) rfl ?_
  have e1 : ¬ b = σ.next := by omega
  have fr : ∀ {B : Blk} {v : AVal} {z : List UInt8}, BytesM σ v z → BytesM ⟨σ.mem.set σ.next B, σ.next + 1⟩ v z := fun hz => hz.frame (by simp) fun a ha _ => by simp [show ¬ a = σ.next by omega]
  by_cases hn : n = m
  · have hn' : (n : Int) = (m : Int) := by omega
    simp [ac27, rs27, lk_cons, h1.one, hb, e1, hn, hn']
    refine bequal_m (fr h1) (fr h2) _ ?_
    by_cases hl : l = l'
    · simp [hn, hl] at h
      simp [lk_cons, hl]
      exact ⟨fun a ha => by simp [show ¬ a = σ.next by omega], h⟩
    · simp [hn, hl] at h
      simp [lk_cons, hl]
      exact ⟨fun a ha => by simp [show ¬ a = σ.next by omega], h⟩
  · have hn' : ¬ (n : Int) = (m : Int) := by omega
    simp [hn] at h
    simp [ac27, rs27, lk_cons, h1.one, hb, e1, hn, hn']
    exact ⟨fun a ha => by simp [show ¬ a = σ.next by omega], h⟩
theorem indexf_m {σ : St} {v : AVal} {cs : List AVal} {xs : List (Nat × List UInt8)} (hv : SlM σ v cs xs.length) (hc : MCells σ cs xs) (hl : xs.length ≤ 1000000) (b m : Nat) (d' : AVal) (l' : List UInt8) (h2 : BytesM σ d' l') (hb : σ.mem.get b = some (.cells 2 [u64 (m : Int), d'])) (hlt : b < σ.next) (Q : AVal → St → Prop) (h : ∀ r : Int, (0 ≤ r ↔ hasOther xs m l' = true) → Q (i64 r) σ) :
    ACall Try.prog 38 [v, .fn 27 [] [.ptr b 0]] σ Q := by
  refine ACall.of_compF hmx (fun a w => Try.call38 a w) Try.func38 cf38 (n := 2) (by decide) rfl ?_
  have l1 := hv.len
  simp [ac38, rs38, lk_cons, ↓l1]
  refine wp_loop (IdxJ v (.fn 27 [] [.ptr b 0]) xs m l' σ) xs.length ?_ ?_
  · exact ⟨0, rfl, by omega, rfl, rfl, rfl⟩
  · rintro mm r σ' ⟨i, rfl, hi, hp, rfl, rfl⟩
    by_cases hlt2 : i < xs.length
    · obtain ⟨p, hpx⟩ : ∃ p, xs[i]? = some p := ⟨_, List.getElem?_eq_getElem hlt2⟩
      obtain ⟨k, hk⟩ : ∃ k, i + 1 = k := ⟨_, rfl⟩
      have hw : IntKind.i64.wrap ((i : Int) + 1) = (k : Int) := by rw [IntWalk.i64_in] <;> omega
      obtain ⟨o, a, ha, e1, e2⟩ := hv.at hc hpx
      have hstep : hasOther (xs.take k) m l' = decide (p.1 = m ∧ p.2 ≠ l') := by
        rw [hasOther] at hp
        rw [← hk, List.take_add_one, hpx, hasOther, List.any_append, hp]
        simp
      simp [lk_cons, hlt2, ↓e1, ↓e2]
      refine other_m _ p.1 a p.2 b m d' l' ha h2 hb hlt _ ?_
      by_cases hh : p.1 = m ∧ p.2 ≠ l'
      · simp [lk_cons, hh]
        refine h i ⟨fun _ => ?_, fun _ => by omega⟩
        rw [hasOther, List.any_eq_true]
        exact ⟨p, List.mem_of_getElem? hpx, by simpa using hh⟩
      · have hd : decide (p.1 = m ∧ p.2 ≠ l') = false := by simpa using hh
        rw [hd] at hstep
        rw [hd]
        simp [lk_cons, hw]
        exact ⟨xs.length - k, by omega, k, rfl, by omega, hstep, rfl, rfl⟩
    · have : i = xs.length := by omega
      subst this
      rw [List.take_length] at hp
      simp [lk_cons]
      exact h (-1) ⟨fun h => by omega, fun h => by rw [hp] at h; cases h⟩
theorem containsf_m {σ : St} {v : AVal} {cs : List AVal} {xs : List (Nat × List UInt8)} (hv : SlM σ v cs xs.length) (hc : MCells σ cs xs) (hl : xs.length ≤ 1000000) (b m : Nat) (d' : AVal) (l' : List UInt8) (h2 : BytesM σ d' l') (hb : σ.mem.get b = some (.cells 2 [u64 (m : Int), d'])) (hlt : b < σ.next) (Q : AVal → St → Prop) (h : Q (.bool (hasOther xs m l')) σ) :
    ACall Try.prog 29 [v, .fn 27 [] [.ptr b 0]] σ Q := by
  refine ACall.of_compF hmx (fun a w => Try.call29 a w) Try.func29 cf29 (n := 2) (by decide) rfl ?_
  simp [ac29, rs29, lk_cons]
  refine indexf_m hv hc hl b m d' l' h2 hb hlt _ fun r hr => ?_
  simp [lk_cons]
  have : decide (0 ≤ r) = hasOther xs m l' := by
    rw [Bool.eq_iff_iff, decide_eq_true_eq]; exact hr
  rw [this]; exact h
theorem clone_m {σ : St} {d : AVal} {l : List UInt8} (hd : BytesM σ d l) (hl : l.length ≤ 140737488355328) (Q : AVal → St → Prop) (h : ∀ d', BytesOf d' l → Q d' σ) : ACall Try.prog 30 [d] σ Q := by
  rcases hd with hd | ⟨b, k, c, t, rfl, rfl, h1, h2⟩
  · exact clone_bytes hd hl σ Q h
  · exact clone_sl b l.length c t (bytesV l) (bytesV_len l) hl σ h2 h1 (bytesV_upto _ l) Q fun t => h _ (.inr ⟨t, rfl⟩)
theorem hear_m {σ : St} {m hb mp P W A : Nat} {heard : List Bool} {sure : Nat} {its : List (Nat × List UInt8)} (h : MRep σ m hb mp P W A heard sure its) (hP : P ≤ 7) (place : Int) (s : Nat) {v : AVal} {cs : List AVal} {xs : List (Nat × List UInt8)} (hv : ∀ σ', Keep3 m hb mp σ σ' → SlM σ' v cs xs.length ∧ MCells σ' cs xs) (hxl : xs.length ≤ 1000) (hbl : ∀ x ∈ xs, x.2.length ≤ 140737488355328) (Q : AVal → St → Prop)
    (q0 : (place < 0 ∨ (P : Int) ≤ place ∨ 1048576 < s) → Q (i64 2) σ)
    (q1 : 0 ≤ place → place < P → s ≤ 1048576 → confP (lkp its) [] xs = true → ∀ σ', Grow σ σ' → Q (i64 21) σ')
    (q2 : ∀ (p : Nat) (σ' : St) (its' : List (Nat × List UInt8)), place = p → p < P → s ≤ 1048576 → confP (lkp its) [] xs = false → (∀ q, lkp its' q = insF (lkp its) xs q) → its'.length ≤ its.length + xs.length → MRep σ' m hb mp P W A (heard.set p true) (max sure s) its' → Keep3 m hb mp σ σ' → Q (i64 0) σ') :
    ACall Try.prog 13 [.ptr m 0, i64 place, u64 (s : Int), v] σ Q := by
  refine ACall.of_compF hmx (fun a w => Try.call13 a w) Try.func13 cf13 (n := 4) (by decide) rfl ?_
  have hh := h.head
  have l1 := (hv σ ⟨Nat.le_refl _, fun _ _ _ _ _ => rfl⟩).1.len
  by_cases hp0 : place < 0
  · simp [ac13, rs13, lk_cons, hp0]
    exact q0 (.inl hp0)
  by_cases hp1 : (P : Int) ≤ place
  · simp [ac13, rs13, lk_cons, hp0, hp1, hh]
    exact q0 (.inr (.inl hp1))
  by_cases hs : 1048576 < s
  · have hs' : (1048576 : Int) < s := by omega
    simp [ac13, rs13, lk_cons, hp0, hp1, hh, hs, hs']
    exact q0 (.inr (.inr hs))
  have hs' : ¬ (1048576 : Int) < s := by omega
  obtain ⟨p, rfl⟩ : ∃ p : Nat, place = p := ⟨place.toNat, by omega⟩
  have hpP : p < P := by omega
  simp [ac13, rs13, lk_cons, hp0, hp1, hh, hs, hs', ↓l1, show ¬ P ≤ p by omega]
  refine wp_loop (HearJ1 m p s v (lkp its) xs σ) xs.length ?_ ?_
  · exact ⟨0, rfl, by omega, ⟨Nat.le_refl _, fun _ _ => rfl⟩, rfl, rfl⟩
  · rintro mm r σ' ⟨i, rfl, hi, hg, hc, rfl⟩
    by_cases hlt : i < xs.length
    · obtain ⟨x, hx⟩ : ∃ x, xs[i]? = some x := ⟨_, List.getElem?_eq_getElem hlt⟩
      obtain ⟨k, hk⟩ : ∃ k, i + 1 = k := ⟨_, rfl⟩
      have hw : IntKind.i64.wrap ((i : Int) + 1) = (k : Int) := by rw [IntWalk.i64_in] <;> omega
      obtain ⟨hs1, hc1⟩ := hv σ' ⟨hg.1, fun a ha _ _ _ => hg.2 a ha⟩
      obtain ⟨o, d, hd, e1, e1'⟩ := hs1.at hc1 hx
      obtain ⟨o2, cc, t, vals2, hve, hcc, ho2, hm2, htake⟩ := hs1.take hc1 hlt
      subst hve
      have e4 : ¬ o2 = σ'.next := by omega
      have old : ∀ (B B' : Blk) (a : Nat), a < σ'.next → (⟨(σ'.mem.set σ'.next B).set σ'.next B', σ'.next + 1⟩ : St).mem.get a = σ'.mem.get a := fun B B' a ha => by simp [show ¬ a = σ'.next by omega]
      have hdS : ∀ B B' : Blk, BytesM ⟨(σ'.mem.set σ'.next B).set σ'.next B', σ'.next + 1⟩ d x.2 := fun B B' => hd.frame (by simp) fun a ha _ => old B B' a ha
      have hlt3 := h.lt
      have gm : σ'.mem.get m = _ := (hg.2 m hlt3.1).trans hh
      obtain ⟨clock, ents, g1, g2⟩ := h.map
      have gp : σ'.mem.get mp = _ := (hg.2 mp hlt3.2.2).trans g1
      have e2 : ¬ m = σ'.next := by have := hg.1; omega
      have e3 : ¬ mp = σ'.next := by have := hg.1; omega
      have hdr : xs.drop i = x :: xs.drop k := by
        rw [List.drop_eq_getElem_cons hlt, hk]; congr 1; exact (List.getElem?_eq_some_iff.1 hx).2
      have htk : xs.take k = xs.take i ++ [x] := by rw [← hk, List.take_add_one, hx]; rfl
      rw [hdr] at hc
      simp only [confP] at hc
      rw [← htk] at hc
      have d1 := hd.one
      have hi2 : i ≤ cc := by omega
      rcases findA_its (k := x.1) g2 with ⟨f1, f2⟩ | ⟨ix, d0, l0, f1, f2, f3, _⟩
      · simp only [lkp, f2] at hc
        simp [lk_cons, hlt, ↓e1, ↓e1', d1, storeL, gm, gp, e2, e3, keyIs, shapeOk, kShape, f1, optM, asliceSl, bnd, hi2, e4, hm2]
        obtain ⟨ts1, ts2⟩ := htake t ⟨(σ'.mem.set σ'.next (.cells 2 [u64 0, .nilsl])).set σ'.next (.cells 2 [u64 (x.1 : Int), d]), σ'.next + 1⟩ (by simp) (old _ _)
        refine containsf_m ts1 ts2 (by rw [List.length_take]; omega) σ'.next x.1 d x.2 (hdS _ _) (by simp) (by simp) _ ?_
        have hgr : Grow σ ⟨(σ'.mem.set σ'.next (.cells 2 [u64 0, .nilsl])).set σ'.next (.cells 2 [u64 (x.1 : Int), d]), σ'.next + 1⟩ := ⟨by have := hg.1; simp; omega, fun a ha => by have := hg.1; simp [show ¬ a = σ'.next by omega]; exact hg.2 a ha⟩
        cases hho : hasOther (xs.take i) x.1 x.2 with
        | true =>
          rw [hho] at hc
          simp at hc
          simp [lk_cons]
          exact q1 (by omega) (by omega) (by omega) hc _ hgr
        | false =>
          rw [hho] at hc
          simp at hc
          simp [lk_cons, hw]
          exact ⟨xs.length - k, by omega, k, rfl, by omega, hgr, hc, by simp⟩
      · simp only [lkp, f2] at hc
        simp [lk_cons, hlt, ↓e1, ↓e1', d1, storeL, gm, gp, e2, e3, keyIs, shapeOk, kShape, f1, optM, asliceSl, bnd, hi2, e4, hm2]
        refine bequal_m (.inl f3) (hdS _ _) _ ?_
        obtain ⟨ts1, ts2⟩ := htake t ⟨(σ'.mem.set σ'.next (.cells 2 [u64 0, .nilsl])).set σ'.next (.cells 2 [u64 (x.1 : Int), d]), σ'.next + 1⟩ (by simp) (old _ _)
        have hgr : Grow σ ⟨(σ'.mem.set σ'.next (.cells 2 [u64 0, .nilsl])).set σ'.next (.cells 2 [u64 (x.1 : Int), d]), σ'.next + 1⟩ := ⟨by have := hg.1; simp; omega, fun a ha => by have := hg.1; simp [show ¬ a = σ'.next by omega]; exact hg.2 a ha⟩
        by_cases hne : l0 = x.2
        · subst hne
          simp [lk_cons, optM, asliceSl, bnd, hi2, e4, hm2]
          refine containsf_m ts1 ts2 (by rw [List.length_take]; omega) σ'.next x.1 d x.2 (hdS _ _) (by simp) (by simp) _ ?_
          cases hho : hasOther (xs.take i) x.1 x.2 with
          | true =>
            rw [hho] at hc
            simp at hc
            simp [lk_cons]
            exact q1 (by omega) (by omega) (by omega) hc _ hgr
          | false =>
            rw [hho] at hc
            simp at hc
            simp [lk_cons, hw]
            exact ⟨xs.length - k, by omega, k, rfl, by omega, hgr, hc, by simp⟩
        · simp [hne] at hc
          simp [lk_cons, hne]
          exact q1 (by omega) (by omega) (by omega) hc _ hgr
    · have : i = xs.length := by omega
      subst this
      simp [lk_cons, ↓l1]
      rw [List.take_length, List.drop_length] at hc
      have hc0 : confP (lkp its) [] xs = false := hc
      have hlt3 := h.lt
      refine wp_loop (HearJ2 m hb mp P W A heard sure p s v (lkp its) its.length xs σ) xs.length ?_ ?_
      · exact ⟨0, its, rfl, by omega, h.frame (fun a ha => hg.2 a (by omega)) hg.1, ⟨hg.1, fun a ha _ _ _ => hg.2 a ha⟩, fun q => rfl, Nat.le_refl _, rfl⟩
      · clear hg hc
        rintro mm r σ'' ⟨i, its', rfl, hi, hr, hk3, hits, hil, rfl⟩
        have hh2 := hr.head
        obtain ⟨clock, ents, g1, g2⟩ := hr.map
        have hlt4 := hr.lt
        have hne := hr.ne
        by_cases hlt : i < xs.length
        · obtain ⟨x, hx⟩ : ∃ x, xs[i]? = some x := ⟨_, List.getElem?_eq_getElem hlt⟩
          obtain ⟨k, hk⟩ : ∃ k, i + 1 = k := ⟨_, rfl⟩
          have hw : IntKind.i64.wrap ((i : Int) + 1) = (k : Int) := by rw [IntWalk.i64_in] <;> omega
          obtain ⟨hs1, hc1⟩ := hv σ'' hk3
          obtain ⟨o, d, hd, e1, e1'⟩ := hs1.at hc1 hx
          have e2 : ¬ m = σ''.next := by omega
          have e3 : ¬ mp = σ''.next := by omega
          have e4 : ¬ hb = σ''.next := by omega
          have d1 := hd.one
          have htk : xs.take k = xs.take i ++ [x] := by rw [← hk, List.take_add_one, hx]; rfl
          simp [lk_cons, hlt, ↓e1, ↓e1', d1, storeL, hh2, e2]
          refine clone_m (hd.frame (by simp) fun a ha _ => by simp [show ¬ a = σ''.next by omega]) (hbl x (List.mem_of_getElem? hx)) _ fun d' hd' => ?_
          rcases findA_its (k := x.1) g2 with ⟨f1, f2⟩ | ⟨ix, d0, l0, f1, f2, f3, f4, f5⟩
          · simp [lk_cons, hh2, e2, g1, e3, keyIs, shapeOk, kShape, f1, hw]
            refine ⟨xs.length - k, by omega, k, its' ++ [x], by omega, by omega, ⟨?_, ?_, ⟨clock + 1, ents ++ [(clock, u64 (x.1 : Int), d')], by simp, All2.snoc (a := (clock, u64 (x.1 : Int), d')) (b := x) ⟨rfl, hd'⟩ g2⟩, hne, ⟨by simp; omega, by simp; omega, by simp; omega⟩⟩, ⟨by have := hk3.1; simp; omega, fun a ha h1 h2 h3 => ?_⟩, fun q => ?_, by simp; omega, by simp⟩
            · simp [hne.2.1, e2, hh2]
            · have := hr.heard
              simp [hne.2.2, e4, this]
            · have := hk3.1
              simp [h3, show ¬ a = σ''.next by omega]; exact hk3.2 a ha h1 h2 h3
            · rw [htk, insF_snoc]
              simp only [lkp]
              rw [show its' ++ [x] = its' ++ [(x.1, x.2)] from rfl, lookup_snoc f2, ← lkp, hits q]
          · simp [lk_cons, hh2, e2, g1, e3, keyIs, shapeOk, kShape, f1, hw]
            refine ⟨xs.length - k, by omega, k, its'.modify ix (fun _ => (x.1, x.2)), by omega, by omega, ⟨?_, ?_, ⟨clock, ents.modify ix fun e => (e.1, u64 (x.1 : Int), d'), by simp, f4 x.2 d' hd'⟩, hne, ⟨by simp; omega, by simp; omega, by simp; omega⟩⟩, ⟨by have := hk3.1; simp; omega, fun a ha h1 h2 h3 => ?_⟩, fun q => ?_, by simp; omega, by simp⟩
            · simp [hne.2.1, e2, hh2]
            · have := hr.heard
              simp [hne.2.2, e4, this]
            · have := hk3.1
              simp [h3, show ¬ a = σ''.next by omega]; exact hk3.2 a ha h1 h2 h3
            · rw [htk, insF_snoc]
              simp only [lkp]
              rw [f5, ← lkp, hits q]
        · have : i = xs.length := by omega
          subst this
          rw [List.take_length] at hits
          have hhd := hr.heard
          have e5 : ¬ m = hb := hne.1
          have hpl : p + 1 ≤ heard.length := by omega
          have hbs : ∀ b : Bool, (bv heard).set p (.bool b) = bv (heard.set p b) := fun b => by simp [bv, List.map_set]
          simp [lk_cons, hh2, hpP, hhd.1, hpl, storeL, e5, Ne.symm e5, hbs]
          refine q2 p _ its' rfl hpP (by omega) hc0 hits hil ⟨?_, ⟨?_, by simp [hhd.2]⟩, ⟨clock, ents, ?_, g2⟩, hne, hlt4⟩ ⟨hk3.1, fun a ha h1 h2 h3 => ?_⟩
          · simp
            by_cases hss : sure < s
            · rw [if_pos hss]; congr 1; omega
            · rw [if_neg hss]; congr 1; omega
          · simp [Ne.symm e5]
          · simp [Ne.symm hne.2.1, Ne.symm hne.2.2, g1]
          · simp [h1, h2]; exact hk3.2 a ha h1 h2 h3
end Go.Proofs.Ytopagbaokokjdaa.AM

/- Slices that lose one of their elements. -/
namespace Go.Proofs.Ytopagbaokokjdaa.AM
set_option maxRecDepth 100000
set_option linter.unusedVariables false
set_option linter.unusedSimpArgs false

section
variable {α : Type} {k : Nat} {R : Rw α k}
/-- A slice over the beginning of a block. -/
def GP (R : Rw α k) (σ : St) (v : AVal) (l : List α) (b : Option Nat) : Prop := v = .nilsl ∧ l = [] ∧ b = none ∨ ∃ o t vals, b = some o ∧ v = .sl o 0 l.length l.length t ∧ o < σ.next ∧ σ.mem.get o = some (.cells k vals) ∧ l.length * k ≤ vals.length ∧ vals.take (l.length * k) = rws R l
theorem GP.nil (σ : St) : GP R σ .nilsl [] none := .inl ⟨rfl, rfl, rfl⟩
theorem GP.len {σ : St} {v : AVal} {l : List α} {b : Option Nat} (h : GP R σ v l b) (ρ : St) : evalV ρ (.len 1 v) = some (i64 l.length, ρ) := by
  rcases h with ⟨rfl, rfl, _⟩ | ⟨o, t, vals, _, rfl, _⟩ <;> simp
theorem GP.one {σ : St} {v : AVal} {l : List α} {b : Option Nat} (h : GP R σ v l b) : v.one = true ∧ cellsOf v = [v] := by
  rcases h with ⟨rfl, rfl, _⟩ | ⟨o, t, vals, _, rfl, _⟩ <;> simp
theorem GP.lt {σ : St} {v : AVal} {l : List α} {o : Nat} (h : GP R σ v l (some o)) : o < σ.next := by
  rcases h with ⟨_, _, h⟩ | ⟨o', t, vals, h, _, h3, _⟩
  · cases h
  · cases h; exact h3
theorem GP.keep {σ σ' : St} {v : AVal} {l : List α} {b : Option Nat} (h : GP R σ v l b) (hn : σ.next ≤ σ'.next) (hm : ∀ a, a < σ.next → b = some a → σ'.mem.get a = σ.mem.get a) : GP R σ' v l b := by
  rcases h with h | ⟨o, t, vals, h1, h2, h3, h4, h5, h6⟩
  · exact .inl h
  · exact .inr ⟨o, t, vals, h1, h2, by omega, (hm o h3 h1).trans h4, h5, h6⟩
theorem GP.at {σ : St} {v : AVal} {l : List α} {b : Option Nat} (h : GP R σ v l b) {i : Nat} {x : α} (hx : l[i]? = some x) : ∃ o, (∀ ρ, evalV ρ (.idxAddr k v (.int .i64 (i : Int))) = some (.ptr o (i * k), ρ)) ∧ evalV σ (.ldn k (.ptr o (i * k))) = some (.agg (R.a x), σ) := by
  have hi := (List.getElem?_eq_some_iff.1 hx).1
  rcases h with ⟨_, rfl, _⟩ | ⟨o, t, vals, h1, rfl, h3, h4, h5, h6⟩
  · simp at hi
  · have hle : i * k + k ≤ l.length * k := by
      have : (i + 1) * k ≤ l.length * k := Nat.mul_le_mul_right k hi
      rw [Nat.add_mul, Nat.one_mul] at this
      exact this
    have e2 : (vals.drop (i * k)).take k = R.a x := by
      have e1 := rws_at R hx
      rw [← h6, List.drop_take, List.take_take, Nat.min_eq_left (by omega)] at e1
      exact e1
    exact ⟨o, fun ρ => by simp [hi], by simp [h4, e2, show i * k + k ≤ vals.length by omega]⟩
/-- One more behind them. -/
theorem gp_app1 {σ : St} {v : AVal} {l : List α} {b : Option Nat} (h : GP R σ v l b) {nb by_ : Nat} {t : Bool} {x : α} (hk : 0 < k) (hb : σ.mem.get nb = some (.cells k (R.a x))) (hnb : b ≠ some nb) (hl : (l.length + 1) * by_ ≤ 140737488355328) (hl2 : l.length + 1 ≤ 9223372036854775807) :
    ∃ σ', evalV σ (.append k by_ v (.sl nb 0 1 1 t)) = some (.sl σ.next 0 (l.length + 1) (l.length + 1) false, σ') ∧ GP R σ' (.sl σ.next 0 (l.length + 1) (l.length + 1) false) (l ++ [x]) (some σ.next) ∧ σ'.next = σ.next + 1 ∧ ∀ a, a < σ.next → b ≠ some a → σ'.mem.get a = σ.mem.get a := by
  have hk0 : ¬ k = 0 := by omega
  have hla : (R.a x).length = k := R.la x
  have hsrc : srcL σ k (.sl nb 0 1 1 t) = some (R.a x, 1) := by simp [srcL, hb, hla, List.take_of_length_le]
  rcases h with ⟨rfl, rfl, rfl⟩ | ⟨o, t', vals, rfl, rfl, h3, h4, h5, h6⟩
  · simp at hl
    refine ⟨⟨σ.mem.set σ.next (.cells k (R.a x)), σ.next + 1⟩, by simp only [evalV, hsrc]; simp [hk0, hl], .inr ⟨σ.next, false, R.a x, rfl, by simp, by simp, by simp, by simp [hla], ?_⟩, rfl, fun a ha _ => by simp [show ¬ a = σ.next by omega]⟩
    simp [rws, hla, List.take_of_length_le]
  · have c1 : ¬ l.length + 1 ≤ l.length := by omega
    have c4 : l.length ≤ 9223372036854775806 := by omega
    have hlen : (rws R l ++ R.a x).length = (l.length + 1) * k := by rw [List.length_append, rws_len, hla, Nat.add_mul, Nat.one_mul]
    have hgp : ∀ m : Mem, GP R ⟨m.set σ.next (.cells k (rws R l ++ R.a x)), σ.next + 1⟩ (.sl σ.next 0 (l.length + 1) (l.length + 1) false) (l ++ [x]) (some σ.next) := fun m =>
      .inr ⟨σ.next, false, rws R l ++ R.a x, rfl, by simp, by simp, by simp, by rw [hlen]; simp, by rw [List.length_append, List.length_singleton, List.take_of_length_le (by rw [hlen]; exact Nat.le_refl _), rws_app, rws_one]⟩
    cases t'
    · refine ⟨⟨(σ.mem.del o).set σ.next (.cells k (rws R l ++ R.a x)), σ.next + 1⟩, by simp only [evalV, hsrc]; simp [hk0, h4, c1, h5, h6, c4, hl], hgp _, rfl, fun a ha hne => ?_⟩
      have : ¬ a = o := fun e => hne (by rw [e])
      simp [show ¬ a = σ.next by omega, this]
    · refine ⟨⟨σ.mem.set σ.next (.cells k (rws R l ++ R.a x)), σ.next + 1⟩, by simp only [evalV, hsrc]; simp [hk0, h4, c1, h5, h6, c4, hl], hgp _, rfl, fun a ha hne => ?_⟩
      simp [show ¬ a = σ.next by omega]
/-- One is taken out. -/
theorem gp_rm {σ : St} {v : AVal} {l : List α} {b : Option Nat} (h : GP R σ v l b) {i by_ : Nat} (hk : 0 < k) (hi : i < l.length) (hl : l.length * by_ ≤ 140737488355328) (hl2 : l.length ≤ 9223372036854775807) :
    ∃ v1 v2 v' σ' b', evalV σ (.slice k v none (some (.int .i64 (i : Int))) (some (.int .i64 (i : Int)))) = some (v1, σ) ∧ evalV σ (.slice k v (some (.int .i64 ((i + 1 : Nat) : Int))) none none) = some (v2, σ) ∧ evalV σ (.append k by_ v1 v2) = some (v', σ') ∧ GP R σ' v' (l.take i ++ l.drop (i + 1)) b' ∧ (b' = b ∨ b' = some σ.next) ∧ σ.next ≤ σ'.next ∧ ∀ a, a < σ.next → b ≠ some a → σ'.mem.get a = σ.mem.get a := by
  have hk0 : ¬ k = 0 := by omega
  rcases h with ⟨_, rfl, _⟩ | ⟨o, t, vals, rfl, rfl, h3, h4, h5, h6⟩
  · simp at hi
  · have m1 : i * k ≤ l.length * k := Nat.mul_le_mul_right k (by omega)
    have m2 : (i + 1) * k ≤ l.length * k := Nat.mul_le_mul_right k hi
    have m3 : (i + 1) * k + (l.length - (i + 1)) * k = l.length * k := by rw [← Nat.add_mul]; congr 1; omega
    have ti : vals.take (i * k) = rws R (l.take i) := by
      rw [← rws_take, ← h6, List.take_take, Nat.min_eq_left m1]
    have td : (vals.drop ((i + 1) * k)).take ((l.length - (i + 1)) * k) = rws R (l.drop (i + 1)) := by
      rw [← rws_drop, ← h6, List.drop_take]
      congr 1
      omega
    refine ⟨.sl o 0 i i true, .sl o ((i + 1) * k) (l.length - (i + 1)) (l.length - (i + 1)) t, ?_⟩
    have hsrc : srcL σ k (.sl o ((i + 1) * k) (l.length - (i + 1)) (l.length - (i + 1)) t) = some (rws R (l.drop (i + 1)), l.length - (i + 1)) := by
      simp [srcL, h4, td]; omega
    have s1 : evalV σ (.slice k (.sl o 0 l.length l.length t) none (some (.int .i64 (i : Int))) (some (.int .i64 (i : Int)))) = some (.sl o 0 i i true, σ) := by
      simp [hk0, h4, asliceSl, bnd, show i ≤ l.length by omega]
    have s2 : evalV σ (.slice k (.sl o 0 l.length l.length t) (some (.int .i64 ((i + 1 : Nat) : Int))) none none) = some (.sl o ((i + 1) * k) (l.length - (i + 1)) (l.length - (i + 1)) t, σ) := by
      have : (0 : Int) ≤ (i : Int) + 1 := by omega
      simp [hk0, h4, asliceSl, bnd, this, show i + 1 ≤ l.length by omega]
    have hll : (l.take i ++ l.drop (i + 1)).length = i + (l.length - (i + 1)) := by simp; omega
    by_cases h0 : l.length - (i + 1) = 0
    · have hd : l.drop (i + 1) = [] := List.drop_eq_nil_of_le (by omega)
      rw [hd] at hsrc
      refine ⟨.sl o 0 i i true, ⟨σ.mem.set o (.cells k vals), σ.next⟩, some o, s1, s2, ?_, .inr ⟨o, true, vals, rfl, ?_, h3, by simp, ?_, ?_⟩, .inl rfl, Nat.le_refl _, fun a ha hne => ?_⟩
      · have : i * k ≤ vals.length := by omega
        rw [h0] at hsrc ⊢
        simp only [evalV, hsrc]
        simp [hk0, h4, this, rws_nil, storeL]
      · rw [hd, List.append_nil, List.length_take, Nat.min_eq_left (by omega)]
      · rw [hd, List.append_nil, List.length_take, Nat.min_eq_left (by omega)]; omega
      · rw [hd, List.append_nil, List.length_take, Nat.min_eq_left (by omega)]; exact ti
      · have : ¬ a = o := fun e => hne (by rw [e])
        simp [this]
    · have c1 : ¬ i + (l.length - (i + 1)) ≤ i := by omega
      have c2 : i * k ≤ vals.length := by omega
      have c3 : (i + (l.length - (i + 1))) * by_ ≤ 140737488355328 := Nat.le_trans (Nat.mul_le_mul_right _ (by omega)) hl
      have c4 : i + (l.length - (i + 1)) ≤ 9223372036854775807 := by omega
      refine ⟨.sl σ.next 0 (i + (l.length - (i + 1))) (i + (l.length - (i + 1))) false, ⟨σ.mem.set σ.next (.cells k (rws R (l.take i) ++ rws R (l.drop (i + 1)))), σ.next + 1⟩, some σ.next, s1, s2, ?_, .inr ⟨σ.next, false, rws R (l.take i) ++ rws R (l.drop (i + 1)), rfl, by rw [hll], by simp, by simp, ?_, ?_⟩, .inr rfl, by simp, fun a ha hne => by simp [show ¬ a = σ.next by omega]⟩
      · simp only [evalV, hsrc]
        simp [hk0, h4, c1, c2, c3, c4, ti]
      · rw [hll, List.length_append, rws_len, rws_len, ← Nat.add_mul]; simp; exact Nat.mul_le_mul_right k (by omega)
      · rw [List.take_of_length_le (by rw [hll, List.length_append, rws_len, rws_len, ← Nat.add_mul]; simp; exact Nat.mul_le_mul_right k (by omega)), rws_app]
end
end Go.Proofs.Ytopagbaokokjdaa.AM

/- The state that MenderKeeps goes through: its parts, each with blocks of its own class. -/
namespace Go.Proofs.Ytopagbaokokjdaa.AM
set_option maxRecDepth 100000
set_option linter.unusedVariables false
set_option linter.unusedSimpArgs false

/-- Only blocks of class c were changed; below, classes stay. -/
structure Frm (cls cls' : Nat → Nat) (c : Nat) (σ σ' : St) : Prop where
  next : σ.next ≤ σ'.next
  keep : ∀ a, a < σ.next → cls a ≠ c → σ'.mem.get a = σ.mem.get a
  same : ∀ a, a < σ.next → cls' a = cls a
abbrev VV := {v : AVal // v.one = true}
def rwV : Rw VV 1 := ⟨fun x => [x.1], fun _ => rfl, fun x => by simp [x.2]⟩
abbrev YV := Nat × Nat × VV
def rwY : Rw YV 3 := ⟨fun x => [i64 (x.1 : Int), u64 (x.2.1 : Int), x.2.2.1], fun _ => rfl, fun x => by simp [x.2.2.2]⟩
def PW (σ : St) (cls : Nat → Nat) (w P W A sure : Nat) (ents : List WEnt) : Prop := ∃ fp wv, WRep σ w fp P W A sure ents false wv ∧ ∀ a, fp a → cls a = 1
def PM (σ : St) (cls : Nat → Nat) (m P W A : Nat) (hd : List Bool) (its : List (Nat × List UInt8)) : Prop := ∃ hb mp, MRep σ m hb mp P W A hd 0 its ∧ cls m = 2 ∧ cls hb = 2 ∧ cls mp = 2
def PF (σ : St) (cls : Nat → Nat) (fb : Nat) (hd : List Bool) : Prop := σ.mem.get fb = some (.cells 1 (bv hd)) ∧ fb < σ.next ∧ cls fb = 3
/-- The quorum's cell, the places' maps. -/
structure PP (σ : St) (cls : Nat → Nat) (q pb P W A : Nat) (pm : Nat → Nat) (clk : Nat → Nat) (L : Nat → List MEnt) : Prop where
  q : σ.mem.get q = some (.cells 3 [i64 P, i64 W, i64 A]) ∧ q < σ.next ∧ cls q = 8
  pl : σ.mem.get pb = some (.cells 1 ((List.range P).map fun p => AVal.map (pm p))) ∧ pb < σ.next ∧ cls pb = 8
  pe : ∀ p, p < P → σ.mem.get (pm p) = some (.map (clk p) (L p)) ∧ pm p < σ.next ∧ cls (pm p) = 4
  pn : ∀ p p', p < P → p' < P → pm p = pm p' → p = p'
def PY (σ : St) (cls : Nat → Nat) (yv : AVal) (way : List YV) : Prop := ∃ b, GP rwY σ yv way b ∧ ∀ z, b = some z → cls z = 5
def PV (σ : St) (cls : Nat → Nat) (wv : AVal) (wr : List VV) : Prop := ∃ b, GP rwV σ wv wr b ∧ ∀ z, b = some z → cls z = 6
/-- What was written, in blocks that stay. -/
def PD (σ : St) (cls : Nat → Nat) (wr : List VV) (bs : List (List UInt8)) : Prop := wr.length = bs.length ∧ ∀ (i : Nat) (d : VV) (l : List UInt8), wr[i]? = some d → bs[i]? = some l → ∃ o t, d.1 = .sl o 0 l.length l.length t ∧ o < σ.next ∧ cls o = 7 ∧ σ.mem.get o = some (.cells 1 (bytesV l)) ∧ l.length = 2
section
variable {σ σ' : St} {cls cls' : Nat → Nat} {c : Nat}
theorem PW.frm {w P W A sure : Nat} {ents : List WEnt} (h : PW σ cls w P W A sure ents) (f : Frm cls cls' c σ σ') (hc : c ≠ 1) : PW σ' cls' w P W A sure ents := by
  obtain ⟨fp, wv, h1, h2⟩ := h
  exact ⟨fp, wv, h1.frame (fun a ha => f.keep a (h1.lt a ha) (by rw [h2 a ha]; exact Ne.symm hc)) f.next, fun a ha => (f.same a (h1.lt a ha)).trans (h2 a ha)⟩
theorem PM.frm {m P W A : Nat} {hd : List Bool} {its : List (Nat × List UInt8)} (h : PM σ cls m P W A hd its) (f : Frm cls cls' c σ σ') (hc : c ≠ 2) : PM σ' cls' m P W A hd its := by
  obtain ⟨hb, mp, h1, h2, h3, h4⟩ := h
  obtain ⟨l1, l2, l3⟩ := h1.lt
  refine ⟨hb, mp, h1.frame (fun a ha => ?_) f.next, (f.same m l1).trans h2, (f.same hb l2).trans h3, (f.same mp l3).trans h4⟩
  rcases ha with rfl | rfl | rfl
  · exact f.keep _ l1 (by rw [h2]; exact Ne.symm hc)
  · exact f.keep _ l2 (by rw [h3]; exact Ne.symm hc)
  · exact f.keep _ l3 (by rw [h4]; exact Ne.symm hc)
theorem PF.frm {fb : Nat} {hd : List Bool} (h : PF σ cls fb hd) (f : Frm cls cls' c σ σ') (hc : c ≠ 3) : PF σ' cls' fb hd :=
  ⟨(f.keep fb h.2.1 (by rw [h.2.2]; exact Ne.symm hc)).trans h.1, by have := f.next; have := h.2.1; omega, (f.same fb h.2.1).trans h.2.2⟩
theorem PP.frm {q pb P W A : Nat} {pm clk : Nat → Nat} {L : Nat → List MEnt} (h : PP σ cls q pb P W A pm clk L) (f : Frm cls cls' c σ σ') (hc : c ≠ 4) (hc8 : c ≠ 8) : PP σ' cls' q pb P W A pm clk L :=
  ⟨⟨(f.keep q h.q.2.1 (by rw [h.q.2.2]; exact Ne.symm hc8)).trans h.q.1, by have := f.next; have := h.q.2.1; omega, (f.same q h.q.2.1).trans h.q.2.2⟩,
   ⟨(f.keep pb h.pl.2.1 (by rw [h.pl.2.2]; exact Ne.symm hc8)).trans h.pl.1, by have := f.next; have := h.pl.2.1; omega, (f.same pb h.pl.2.1).trans h.pl.2.2⟩,
   fun p hp => by
    obtain ⟨e1, e2, e3⟩ := h.pe p hp
    exact ⟨(f.keep _ e2 (by rw [e3]; exact Ne.symm hc)).trans e1, by have := f.next; omega, (f.same _ e2).trans e3⟩, h.pn⟩
theorem PY.frm {yv : AVal} {way : List YV} (h : PY σ cls yv way) (f : Frm cls cls' c σ σ') (hc : c ≠ 5) : PY σ' cls' yv way := by
  obtain ⟨b, h1, h2⟩ := h
  exact ⟨b, h1.keep f.next fun a ha hb => f.keep a ha (by rw [h2 a hb]; exact Ne.symm hc), fun z hz => (f.same z ((hz ▸ h1).lt)).trans (h2 z hz)⟩
theorem PV.frm {wv : AVal} {wr : List VV} (h : PV σ cls wv wr) (f : Frm cls cls' c σ σ') (hc : c ≠ 6) : PV σ' cls' wv wr := by
  obtain ⟨b, h1, h2⟩ := h
  exact ⟨b, h1.keep f.next fun a ha hb => f.keep a ha (by rw [h2 a hb]; exact Ne.symm hc), fun z hz => (f.same z ((hz ▸ h1).lt)).trans (h2 z hz)⟩
theorem PD.frm {wr : List VV} {bs : List (List UInt8)} (h : PD σ cls wr bs) (f : Frm cls cls' c σ σ') (hc : c ≠ 7) : PD σ' cls' wr bs :=
  ⟨h.1, fun i d l h1 h2 => by
    obtain ⟨o, t, e1, e2, e3, e4, e5⟩ := h.2 i d l h1 h2
    exact ⟨o, t, e1, by have := f.next; omega, (f.same o e2).trans e3, (f.keep o e2 (by rw [e3]; exact Ne.symm hc)).trans e4, e5⟩⟩
end
/-- The facts about what there is. -/
structure KF (P W A sure : Nat) (ents : List WEnt) (hd : List Bool) (its : List (Nat × List UInt8)) (clk : Nat → Nat) (L : Nat → List MEnt) (way : List YV) (wr : List VV) (bs : List (List UInt8)) (S : Nat → Nat → Prop) (ph : Prop) : Prop where
  mkk : MK P W A sure ents hd (fun e => lkp its e ≠ none) S
  said : ph → ∀ e p, S e p → p < P ∧ ∃ x ∈ L p, x.2.1 = u64 (e : Int)
  cnt : wr.length = sure + ents.length
  way : ∀ y ∈ way, y.1 ∈ setP P W y.2.1 ∧ wr[y.2.1]? = some y.2.2
  its : ∀ k l, lkp its k = some l → bs[k]? = some l
  lt : ∀ p, p < P → ∀ x ∈ L p, x.1 < clk p
  nd : ∀ p, p < P → ((L p).map (·.1)).Nodup
  le : ∀ p, p < P → ∀ x ∈ L p, ∃ (n : Nat) (d : VV), x.2.1 = u64 (n : Int) ∧ wr[n]? = some d ∧ x.2.2 = d.1
  hl : hd.length = P
/-- All of it. -/
structure KS (σ : St) (cls : Nat → Nat) (q w m pb fb P W A sure : Nat) (ents : List WEnt) (hd : List Bool) (its : List (Nat × List UInt8)) (pm clk : Nat → Nat) (L : Nat → List MEnt) (yv : AVal) (way : List YV) (wv : AVal) (wr : List VV) (bs : List (List UInt8)) : Prop where
  pw : PW σ cls w P W A sure ents
  pmm : PM σ cls m P W A hd its
  pf : PF σ cls fb hd
  pp : PP σ cls q pb P W A pm clk L
  py : PY σ cls yv way
  pv : PV σ cls wv wr
  pd : PD σ cls wr bs
theorem KS.frm {σ σ' : St} {cls cls' : Nat → Nat} {q w m pb fb P W A sure : Nat} {ents : List WEnt} {hd : List Bool} {its : List (Nat × List UInt8)} {pm clk : Nat → Nat} {L : Nat → List MEnt} {yv wv : AVal} {way : List YV} {wr : List VV} {bs : List (List UInt8)}
    (h : KS σ cls q w m pb fb P W A sure ents hd its pm clk L yv way wv wr bs) (f : Frm cls cls' 9 σ σ') : KS σ' cls' q w m pb fb P W A sure ents hd its pm clk L yv way wv wr bs :=
  ⟨h.pw.frm f (by decide), h.pmm.frm f (by decide), h.pf.frm f (by decide), h.pp.frm f (by decide) (by decide), h.py.frm f (by decide), h.pv.frm f (by decide), h.pd.frm f (by decide)⟩
theorem Frm.ofG {cls : Nat → Nat} {c : Nat} {σ σ' : St} (g : Grow σ σ') : Frm cls cls c σ σ' := ⟨g.1, fun a ha _ => g.2 a ha, fun _ _ => rfl⟩
/-- New blocks are of class c. -/
def ncls (cls : Nat → Nat) (n c : Nat) : Nat → Nat := fun a => if a < n then cls a else c
theorem ncls_lt {cls : Nat → Nat} {n c a : Nat} (h : a < n) : ncls cls n c a = cls a := if_pos h
theorem ncls_ge {cls : Nat → Nat} {n c a : Nat} (h : n ≤ a) : ncls cls n c a = c := if_neg (by omega)
end Go.Proofs.Ytopagbaokokjdaa.AM

/- MenderKeeps: how the state goes on. -/
namespace Go.Proofs.Ytopagbaokokjdaa.AM
set_option maxRecDepth 100000
set_option linter.unusedVariables false
set_option linter.unusedSimpArgs false

/-- All, somehow. -/
def KE (σ : St) (q w m pb fb P W A sure : Nat) (hd : List Bool) (yv : AVal) (way : List YV) (wv : AVal) (wr : List VV) (i : Nat) (ph : Prop) : Prop := ∃ cls ents its pm clk L bs S, KS σ cls q w m pb fb P W A sure ents hd its pm clk L yv way wv wr bs ∧ KF P W A sure ents hd its clk L way wr bs S ph ∧ wr.length ≤ i ∧ way.length ≤ 7 * i ∧ its.length ≤ 201 * i ∧ ∀ p, p < P → (L p).length ≤ i
section
variable {σ σ' : St} {q w m pb fb P W A sure : Nat} {hd : List Bool} {yv wv : AVal} {way : List YV} {wr : List VV} {i : Nat} {ph : Prop}
theorem KE.grow (h : KE σ q w m pb fb P W A sure hd yv way wv wr i ph) (g : Grow σ σ') : KE σ' q w m pb fb P W A sure hd yv way wv wr i ph := by
  obtain ⟨cls, ents, its, pm, clk, L, bs, S, ks, rest⟩ := h
  exact ⟨cls, ents, its, pm, clk, L, bs, S, ks.frm (Frm.ofG g), rest⟩
theorem KE.up (h : KE σ q w m pb fb P W A sure hd yv way wv wr i ph) : KE σ q w m pb fb P W A sure hd yv way wv wr (i + 1) ph := by
  obtain ⟨cls, ents, its, pm, clk, L, bs, S, ks, kf, b1, b2, b3, b4⟩ := h
  exact ⟨cls, ents, its, pm, clk, L, bs, S, ks, kf, by omega, by omega, by omega, fun p hp => by have := b4 p hp; omega⟩
theorem KE.qc (h : KE σ q w m pb fb P W A sure hd yv way wv wr i ph) : σ.mem.get q = some (.cells 3 [i64 P, i64 W, i64 A]) ∧ q < σ.next := by
  obtain ⟨cls, ents, its, pm, clk, L, bs, S, ks, rest⟩ := h
  exact ⟨ks.pp.q.1, ks.pp.q.2.1⟩
theorem KE.few (h : KE σ q w m pb fb P W A sure hd yv way wv wr i ph) : wr.length ≤ i ∧ way.length ≤ 7 * i ∧ sure ≤ i ∧ hd.length = P := by
  obtain ⟨cls, ents, its, pm, clk, L, bs, S, ks, kf, b1, b2, b3, b4⟩ := h
  have := kf.cnt
  exact ⟨b1, b2, by omega, kf.hl⟩
theorem KE.yv1 (h : KE σ q w m pb fb P W A sure hd yv way wv wr i ph) : (∀ ρ, evalV ρ (.len 1 yv) = some (i64 way.length, ρ)) ∧ ∀ (k : Nat) (y : YV), way[k]? = some y → (y.1 ∈ setP P W y.2.1 ∧ wr[y.2.1]? = some y.2.2) ∧ ∃ o, (∀ ρ, evalV ρ (.idxAddr 3 yv (.int .i64 (k : Int))) = some (.ptr o (k * 3), ρ)) ∧ ∀ σ2, Grow σ σ2 → evalV σ2 (.ldn 3 (.ptr o (k * 3))) = some (.agg (rwY.a y), σ2) := by
  obtain ⟨cls, ents, its, pm, clk, L, bs, S, ks, kf, rest⟩ := h
  obtain ⟨b, g1, g2⟩ := ks.py
  refine ⟨g1.len, fun k y hy => ⟨kf.way y (List.mem_of_getElem? hy), ?_⟩⟩
  obtain ⟨o, e1, e2⟩ := g1.at hy
  refine ⟨o, e1, fun σ2 g => ?_⟩
  have g3 : GP rwY σ2 yv way b := g1.keep g.1 fun a ha _ => g.2 a ha
  obtain ⟨o', e3, e4⟩ := g3.at hy
  have := (e1 σ).symm.trans (e3 σ)
  cases this
  exact e4
theorem KE.f1 (h : KE σ q w m pb fb P W A sure hd yv way wv wr i ph) : σ.mem.get fb = some (.cells 1 (bv hd)) ∧ fb < σ.next := by
  obtain ⟨cls, ents, its, pm, clk, L, bs, S, ks, kf, rest⟩ := h
  exact ⟨ks.pf.1, ks.pf.2.1⟩
/-- One more is under way. -/
theorem KE.pushY (h : KE σ q w m pb fb P W A sure hd yv way wv wr i ph) (y : YV) (hy : y.1 ∈ setP P W y.2.1 ∧ wr[y.2.1]? = some y.2.2) (hl : way.length + 1 ≤ 7 * i) (hi : i ≤ 1000) :
    ∃ σ'', evalV ⟨σ.mem.set σ.next (.cells 3 (rwY.a y)), σ.next + 1⟩ (.append 3 40 yv (.sl σ.next 0 1 1 true)) = some (.sl (σ.next + 1) 0 (way.length + 1) (way.length + 1) false, σ'') ∧ KE σ'' q w m pb fb P W A sure hd (.sl (σ.next + 1) 0 (way.length + 1) (way.length + 1) false) (way ++ [y]) wv wr i ph := by
  obtain ⟨cls, ents, its, pm, clk, L, bs, S, ks, kf, b1, b2, b3, b4⟩ := h
  obtain ⟨b, g1, g2⟩ := ks.py
  have g1' : GP rwY ⟨σ.mem.set σ.next (.cells 3 (rwY.a y)), σ.next + 1⟩ yv way b := g1.keep (by simp) fun a ha _ => by simp [show ¬ a = σ.next by omega]
  obtain ⟨σ2, e1, e2, e3, e4⟩ := gp_app1 g1' (nb := σ.next) (by_ := 40) (t := true) (x := y) (by decide) (by simp) (fun e => by have := (e ▸ g1).lt; omega) (by omega) (by omega)
  have f : Frm cls (ncls cls σ.next 5) 5 σ σ2 := ⟨by rw [e3]; show σ.next ≤ σ.next + 1 + 1; omega, fun a ha hc => by
    rw [e4 a (by show a < σ.next + 1; omega) fun e => hc (g2 a e)]
    simp [show ¬ a = σ.next by omega], fun a ha => ncls_lt ha⟩
  refine ⟨σ2, e1, ncls cls σ.next 5, ents, its, pm, clk, L, bs, S, ⟨ks.pw.frm f (by decide), ks.pmm.frm f (by decide), ks.pf.frm f (by decide), ks.pp.frm f (by decide) (by decide), ⟨_, e2, fun z hz => ?_⟩, ks.pv.frm f (by decide), ks.pd.frm f (by decide)⟩, ⟨kf.mkk, kf.said, kf.cnt, fun x hx => ?_, kf.its, kf.lt, kf.nd, kf.le, kf.hl⟩, b1, by simp; omega, b3, b4⟩
  · have hz : σ.next + 1 = z := Option.some.inj hz
    exact ncls_ge (by omega)
  · rcases List.mem_append.1 hx with hx | hx
    · exact kf.way x hx
    · rw [List.mem_singleton.1 hx]; exact hy
/-- One is no longer under way. -/
theorem KE.rmY {σ0 : St} (h : KE σ0 q w m pb fb P W A sure hd yv way wv wr i ph) (g : Grow σ0 σ) {k : Nat} (hk : k < way.length) (hi : i ≤ 1000) :
    ∃ v1 v2 v' σ2, evalV σ (.slice 3 yv none (some (.int .i64 (k : Int))) (some (.int .i64 (k : Int)))) = some (v1, σ) ∧ evalV σ (.slice 3 yv (some (.int .i64 ((k + 1 : Nat) : Int))) none none) = some (v2, σ) ∧ evalV σ (.append 3 40 v1 v2) = some (v', σ2) ∧ KE σ2 q w m pb fb P W A sure hd v' (way.take k ++ way.drop (k + 1)) wv wr i ph ∧ v'.one = true ∧ σ.next ≤ σ2.next ∧ ∀ a, σ0.next ≤ a → a < σ.next → σ2.mem.get a = σ.mem.get a := by
  obtain ⟨cls, ents, its, pm, clk, L, bs, S, ks, kf, b1, b2, b3, b4⟩ := h
  obtain ⟨b, g1, g2⟩ := ks.py
  have hbl : ∀ z, b = some z → z < σ0.next := fun z hz => (hz ▸ g1).lt
  have ks1 := ks.frm (Frm.ofG g)
  have g1' : GP rwY σ yv way b := g1.keep g.1 fun a ha _ => g.2 a ha
  obtain ⟨v1, v2, v', σ2, b', e1, e2, e3, e4, e5, e6, e7⟩ := gp_rm g1' (i := k) (by_ := 40) (by decide) hk (by omega) (by omega)
  have f : Frm cls (ncls cls σ.next 5) 5 σ σ2 := ⟨e6, fun a ha hc => e7 a ha fun e => hc (g2 a e), fun a ha => ncls_lt ha⟩
  refine ⟨v1, v2, v', σ2, e1, e2, e3, ⟨ncls cls σ.next 5, ents, its, pm, clk, L, bs, S, ⟨ks1.pw.frm f (by decide), ks1.pmm.frm f (by decide), ks1.pf.frm f (by decide), ks1.pp.frm f (by decide) (by decide), ⟨b', e4, fun z hz => ?_⟩, ks1.pv.frm f (by decide), ks1.pd.frm f (by decide)⟩, ⟨kf.mkk, kf.said, kf.cnt, fun x hx => ?_, kf.its, kf.lt, kf.nd, kf.le, kf.hl⟩, b1, by simp; omega, b3, b4⟩, e4.one.1, e6, fun a ha hb => e7 a hb fun e => by have := hbl a e; omega⟩
  · rcases e5 with e5 | e5
    · rw [e5] at hz
      have := hbl z hz
      have := g.1
      rw [ncls_lt (by omega)]
      exact g2 z hz
    · rw [e5] at hz
      cases hz
      exact ncls_ge (Nat.le_refl _)
  · rcases List.mem_append.1 hx with hx | hx
    · exact kf.way x (List.mem_of_mem_take hx)
    · exact kf.way x (List.mem_of_mem_drop hx)
/-- .., and the entry e is at the place p. -/
def KE2 (σ : St) (q w m pb fb P W A sure : Nat) (hd : List Bool) (yv : AVal) (way : List YV) (wv : AVal) (wr : List VV) (i : Nat) (ph : Prop) (p e : Nat) : Prop := ∃ cls ents its pm clk L bs S, KS σ cls q w m pb fb P W A sure ents hd its pm clk L yv way wv wr bs ∧ KF P W A sure ents hd its clk L way wr bs S ph ∧ wr.length ≤ i ∧ way.length ≤ 7 * i ∧ its.length ≤ 201 * i ∧ (∀ p, p < P → (L p).length ≤ i) ∧ (ph → ∃ x ∈ L p, x.2.1 = u64 (e : Int))
theorem KE.two (h : KE σ q w m pb fb P W A sure hd yv way wv wr i ph) (hp : ¬ ph) (p e : Nat) : KE2 σ q w m pb fb P W A sure hd yv way wv wr i ph p e := by
  obtain ⟨cls, ents, its, pm, clk, L, bs, S, ks, kf, b1, b2, b3, b4⟩ := h
  exact ⟨cls, ents, its, pm, clk, L, bs, S, ks, kf, b1, b2, b3, b4, fun h => absurd h hp⟩
theorem KE.last (h : KE σ q w m pb fb P W A sure hd yv way wv wr i ph) : KE σ q w m pb fb P W A sure hd yv way wv wr i False := by
  obtain ⟨cls, ents, its, pm, clk, L, bs, S, ks, kf, rest⟩ := h
  exact ⟨cls, ents, its, pm, clk, L, bs, S, ks, { kf with said := fun h => h.elim }, rest⟩
/-- A place said that it has an entry. -/
theorem KE2.ack {y : YV} (h : KE2 σ q w m pb fb P W A sure hd yv way wv wr i ph y.1 y.2.1) (hq : 1 ≤ A ∧ A ≤ W ∧ W ≤ P ∧ P ≤ 7) (hi : i ≤ 1000) (hy : y.1 ∈ setP P W y.2.1) (hf : hd.getD y.1 false = false) (hn : y.2.1 < 18446744073709551616) (Q : AVal → St → Prop)
    (hQ : ∀ v σ2 k, evalV σ2 (.len 1 v) = some (i64 (k : Nat), σ2) → KE σ2 q w m pb fb P W A (sure + k) hd yv way wv wr i ph → σ.next ≤ σ2.next → sure + k ≤ 1000 → Q v σ2) : ACall Try.prog 23 [.ptr w 0, i64 (y.1 : Int), u64 (y.2.1 : Int)] σ Q := by
  obtain ⟨cls, ents, its, pm, clk, L, bs, S, ks, kf, b1, b2, b3, b4, hL⟩ := h
  obtain ⟨fp, wvv, hw, hfp⟩ := ks.pw
  have hc := kf.cnt
  refine ack_c hw hq (by omega) (y.1 : Int) y.2.1 hn _ (fun _ => ?_) fun σ2 wv' v p k hp1 hp2 hp3 hp4 hk hw2 hk2 hv => ?_
  · exact hQ .nilsl σ 0 (by simp) ⟨cls, ents, its, pm, clk, L, bs, S, ks, kf, b1, b2, b3, b4⟩ (Nat.le_refl _) (by omega)
  · have hpy : p = y.1 := by omega
    subst hpy
    have hpP : y.1 < P := setP_lt (by omega) hp2
    have f : Frm cls cls 1 σ σ2 := ⟨hk2.1, fun a ha hca => hk2.2 a ha fun hf => hca (hfp a hf), fun _ _ => rfl⟩
    obtain ⟨k1, k2⟩ := popped_le P W A (heard ents (y.2.1 - sure) y.1)
    have hhl : (heard ents (y.2.1 - sure) y.1).length = ents.length := by simp [heard]
    rw [hk] at hw2 hv
    refine hQ v σ2 (popped P W A (heard ents (y.2.1 - sure) y.1)) ?_ ⟨cls, _, its, pm, clk, L, bs, fun e p => S e p ∨ (e = y.2.1 ∧ p = y.1), ⟨⟨fp, wv', hw2, hfp⟩, ks.pmm.frm f (by decide), ks.pf.frm f (by decide), ks.pp.frm f (by decide) (by decide), ks.py.frm f (by decide), ks.pv.frm f (by decide), ks.pd.frm f (by decide)⟩, ⟨kf.mkk.ack hp3 hp4 hf, fun hph e p hs => ?_, ?_, kf.way, kf.its, kf.lt, kf.nd, kf.le, kf.hl⟩, b1, b2, b3, b4⟩ hk2.1 (by omega)
    · rcases hv with ⟨h0, rfl⟩ | ⟨t, rfl⟩
      · rw [h0]; simp
      · simp
    · rcases hs with hs | ⟨rfl, rfl⟩
      · exact kf.said hph e p hs
      · exact ⟨hpP, hL hph⟩
    · rw [List.length_drop, hhl]; omega
end
end Go.Proofs.Ytopagbaokokjdaa.AM

/- MenderKeeps: what comes to a place; a place is fenced. -/
namespace Go.Proofs.Ytopagbaokokjdaa.AM
set_option maxRecDepth 100000
set_option linter.unusedVariables false
set_option linter.unusedSimpArgs false

theorem findA_u64 {e : Nat} : ∀ {l : List MEnt}, (∀ x ∈ l, ∃ n : Nat, x.2.1 = u64 (n : Int)) → findA (u64 (e : Int)) l = some none ∨ ∃ ix d x, findA (u64 (e : Int)) l = some (some (ix, d)) ∧ l[ix]? = some x ∧ x.2.1 = u64 (e : Int)
  | [], _ => .inl rfl
  | (st, y, d) :: l, h => by
    obtain ⟨n, hn⟩ := h (st, y, d) (by simp)
    simp only at hn
    subst hn
    by_cases hen : e = n
    · subst hen
      exact .inr ⟨0, d, (st, u64 (e : Int), d), by simp [findA, keyEqA, keyEq], by simp, rfl⟩
    · have hkn : ¬ (e : Int) = (n : Int) := by omega
      have hf : keyEqA (u64 (e : Int)) (u64 (n : Int)) = some false := by simp [keyEqA, keyEq, hkn]
      rcases findA_u64 (e := e) (l := l) fun x hx => h x (by simp [hx]) with h1 | ⟨ix, d1, x, h1, h2, h3⟩
      · exact .inl (by simp only [findA]; rw [hf]; simp only; rw [h1]; rfl)
      · exact .inr ⟨ix + 1, d1, x, by simp only [findA]; rw [hf]; simp only; rw [h1]; rfl, by simpa using h2, h3⟩
section
variable {σ σ0 : St} {q w m pb fb P W A sure : Nat} {hd : List Bool} {yv wv : AVal} {way : List YV} {wr : List VV} {i : Nat}
theorem KE.put (h : KE σ0 q w m pb fb P W A sure hd yv way wv wr i True) (g : Grow σ0 σ) {y : YV} (hP : y.1 < P) (hw : wr[y.2.1]? = some y.2.2) :
    ∃ CS mk c l, σ.mem.get pb = some (.cells 1 CS) ∧ CS[y.1]? = some (.map mk) ∧ CS.length = P ∧ σ.mem.get mk = some (.map c l) ∧ mk < σ0.next ∧ pb < σ0.next ∧ ((findA (u64 (y.2.1 : Int)) l = some none ∧ KE2 ⟨σ.mem.set mk (.map (c + 1) (l ++ [(c, u64 (y.2.1 : Int), y.2.2.1)])), σ.next⟩ q w m pb fb P W A sure hd yv way wv wr (i + 1) True y.1 y.2.1) ∨
      ∃ ix d0, findA (u64 (y.2.1 : Int)) l = some (some (ix, d0)) ∧ KE2 ⟨σ.mem.set mk (.map c (l.modify ix fun en => (en.1, u64 (y.2.1 : Int), y.2.2.1))), σ.next⟩ q w m pb fb P W A sure hd yv way wv wr (i + 1) True y.1 y.2.1) := by
  obtain ⟨cls, ents, its, pm, clk, L, bs, S, ks0, kf, b1, b2, b3, b4⟩ := h
  have ks := ks0.frm (Frm.ofG g)
  obtain ⟨e1, e2, e3⟩ := ks.pp.pe y.1 hP
  obtain ⟨d1, d2, d3⟩ := ks0.pp.pe y.1 hP
  have fr : ∀ B : Blk, Frm cls cls 4 σ ⟨σ.mem.set (pm y.1) B, σ.next⟩ := fun B => ⟨Nat.le_refl _, fun a ha hc => by
    have : ¬ a = pm y.1 := fun e => hc (by rw [e]; exact e3)
    simp [this], fun _ _ => rfl⟩
  have ppk : ∀ (c' : Nat) (l' : List MEnt), PP ⟨σ.mem.set (pm y.1) (.map c' l'), σ.next⟩ cls q pb P W A pm (fun p => if p = y.1 then c' else clk p) (fun p => if p = y.1 then l' else L p) := fun c' l' => by
    have hq := ks.pp.q
    have hp := ks.pp.pl
    have n1 : ¬ q = pm y.1 := fun e => by have := hq.2.2; rw [e, e3] at this; cases this
    have n2 : ¬ pb = pm y.1 := fun e => by have := hp.2.2; rw [e, e3] at this; cases this
    refine ⟨⟨by simp [n1]; exact hq.1, hq.2⟩, ⟨by simp [n2]; exact hp.1, hp.2⟩, fun p hp => ?_, ks.pp.pn⟩
    obtain ⟨k1, k2, k3⟩ := ks.pp.pe p hp
    by_cases hpy : p = y.1
    · subst hpy
      exact ⟨by simp, k2, k3⟩
    · have : ¬ pm p = pm y.1 := fun e => hpy (ks.pp.pn p y.1 hp hP e)
      exact ⟨by simp [this, hpy]; exact k1, k2, k3⟩
  have mk2 : ∀ (c' : Nat) (l' : List MEnt), (∀ x ∈ l', x.1 < c') → (l'.map (·.1)).Nodup → (∀ x ∈ l', ∃ (n : Nat) (d : VV), x.2.1 = u64 (n : Int) ∧ wr[n]? = some d ∧ x.2.2 = d.1) → (∀ n : Nat, (∃ x ∈ L y.1, x.2.1 = u64 (n : Int)) → ∃ x ∈ l', x.2.1 = u64 (n : Int)) → (∃ x ∈ l', x.2.1 = u64 (y.2.1 : Int)) → l'.length ≤ i + 1 → KE2 ⟨σ.mem.set (pm y.1) (.map c' l'), σ.next⟩ q w m pb fb P W A sure hd yv way wv wr (i + 1) True y.1 y.2.1 := fun c' l' x1 x2 x3 x4 x5 x6 => by
    refine ⟨cls, ents, its, pm, (fun p => if p = y.1 then c' else clk p), (fun p => if p = y.1 then l' else L p), bs, S, ⟨ks.pw.frm (fr _) (by decide), ks.pmm.frm (fr _) (by decide), ks.pf.frm (fr _) (by decide), ppk c' l', ks.py.frm (fr _) (by decide), ks.pv.frm (fr _) (by decide), ks.pd.frm (fr _) (by decide)⟩, ⟨kf.mkk, fun hph e p hs => ?_, kf.cnt, kf.way, kf.its, fun p hp x hx => ?_, fun p hp => ?_, fun p hp x hx => ?_, kf.hl⟩, by omega, by omega, by omega, fun p hp => ?_, fun _ => by simpa using x5⟩
    · obtain ⟨s1, s2⟩ := kf.said hph e p hs
      by_cases hpy : p = y.1
      · subst hpy; exact ⟨s1, by simpa using x4 e s2⟩
      · exact ⟨s1, by simpa [hpy] using s2⟩
    · by_cases hpy : p = y.1
      · simp only [hpy, if_true] at hx ⊢; exact x1 x hx
      · simp only [hpy, if_false] at hx ⊢; exact kf.lt p hp x hx
    · by_cases hpy : p = y.1
      · simp only [hpy, if_true]; exact x2
      · simp only [hpy, if_false]; exact kf.nd p hp
    · by_cases hpy : p = y.1
      · simp only [hpy, if_true] at hx; exact x3 x hx
      · simp only [hpy, if_false] at hx; exact kf.le p hp x hx
    · by_cases hpy : p = y.1
      · simp only [hpy, if_true]; exact x6
      · simp only [hpy, if_false]; have := b4 p hp; omega
  have hbl := b4 y.1 hP
  refine ⟨_, pm y.1, clk y.1, L y.1, ks.pp.pl.1, by simp [hP], by simp, e1, d2, ks0.pp.pl.2.1, ?_⟩
  rcases findA_u64 (e := y.2.1) (l := L y.1) fun x hx => by obtain ⟨n, d, h1, _⟩ := kf.le y.1 hP x hx; exact ⟨n, h1⟩ with h1 | ⟨ix, d, x, h1, h2, h3⟩
  · refine .inl ⟨h1, mk2 _ _ (fun x hx => ?_) ?_ (fun x hx => ?_) (fun n ⟨x, hx, he⟩ => ⟨x, by simp [hx], he⟩) ⟨(clk y.1, u64 (y.2.1 : Int), y.2.2.1), by simp, rfl⟩ (by simp; omega)⟩
    · rcases List.mem_append.1 hx with hx | hx
      · have := kf.lt y.1 hP x hx; omega
      · rw [List.mem_singleton.1 hx]; exact Nat.lt_succ_self _
    · rw [List.map_append, List.nodup_append]
      refine ⟨kf.nd y.1 hP, by simp, fun a ha b hb => ?_⟩
      simp at hb
      subst hb
      obtain ⟨x, hx, rfl⟩ := List.mem_map.1 ha
      have := kf.lt y.1 hP x hx
      omega
    · rcases List.mem_append.1 hx with hx | hx
      · exact kf.le y.1 hP x hx
      · rw [List.mem_singleton.1 hx]; exact ⟨_, _, rfl, hw, rfl⟩
  · have hmem : ∀ z ∈ (L y.1).modify ix (fun en => (en.1, u64 (y.2.1 : Int), y.2.2.1)), z ∈ L y.1 ∨ (z.1 = x.1 ∧ z.2.1 = u64 (y.2.1 : Int) ∧ z.2.2 = y.2.2.1) := fun z hz => by
      obtain ⟨k, hk⟩ := List.getElem?_of_mem hz
      rw [List.getElem?_modify] at hk
      by_cases hki : ix = k
      · subst hki
        rw [h2] at hk
        simp at hk
        subst hk
        exact .inr ⟨rfl, rfl, rfl⟩
      · simp [hki] at hk
        exact .inl (List.mem_of_getElem? hk)
    have hmap : ((L y.1).modify ix (fun en => (en.1, u64 (y.2.1 : Int), y.2.2.1))).map (·.1) = (L y.1).map (·.1) := by
      refine List.ext_getElem? fun k => ?_
      rw [List.getElem?_map, List.getElem?_map, List.getElem?_modify]
      by_cases hki : ix = k
      · subst hki; rw [h2]; simp
      · simp [hki]
    have hxm := List.mem_of_getElem? h2
    refine .inr ⟨ix, d, h1, mk2 _ _ (fun z hz => ?_) (by rw [hmap]; exact kf.nd y.1 hP) (fun z hz => ?_) (fun n ⟨z, hz, he⟩ => ?_) ?_ (by simp; omega)⟩
    · rcases hmem z hz with h | ⟨h, _⟩
      · exact kf.lt y.1 hP z h
      · rw [h]; exact kf.lt y.1 hP x hxm
    · rcases hmem z hz with h | ⟨_, h, h'⟩
      · exact kf.le y.1 hP z h
      · exact ⟨_, _, h, hw, h'⟩
    · obtain ⟨k, hk⟩ := List.getElem?_of_mem hz
      by_cases hki : ix = k
      · subst hki
        rw [h2] at hk
        cases hk
        refine ⟨(x.1, u64 (y.2.1 : Int), y.2.2.1), List.mem_of_getElem? (i := ix) (by rw [List.getElem?_modify, h2]; simp), ?_⟩
        rw [← he, h3]
      · exact ⟨z, List.mem_of_getElem? (i := k) (by rw [List.getElem?_modify]; simp [hki, hk]), he⟩
    · exact ⟨(x.1, u64 (y.2.1 : Int), y.2.2.1), List.mem_of_getElem? (i := ix) (by rw [List.getElem?_modify, h2]; simp), rfl⟩
end
end Go.Proofs.Ytopagbaokokjdaa.AM

/- MenderKeeps: an entry more. -/
namespace Go.Proofs.Ytopagbaokokjdaa.AM
set_option maxRecDepth 100000
set_option linter.unusedVariables false
set_option linter.unusedSimpArgs false

theorem data_sl (σ : St) (a c : Nat) (cs : List AVal) (k : Nat) (t : Bool) (hl : cs.length = k) (hk : k ≤ 140737488355328) (hm : σ.mem.get a = some (.cells 1 cs)) (ha : a < σ.next) (hu : uptoL 0 cs = true) : DataOk σ (.sl a 0 k c t) k (fun t => .isl cs k t) :=
  ⟨.inr (.inr ⟨_, _, _, rfl⟩), fun σ2 Q h1 h2 h => clone_sl a k c t cs hl hk σ2 (by rw [h2 a ha]; exact hm) (by omega) (AVal.uptoL_mono (Nat.zero_le _) _ hu) Q h, fun _ => .inr ⟨_, _, _, rfl⟩⟩
/-- Added, but not yet among what was written. -/
def KA (σ : St) (q w m pb fb P W A sure : Nat) (hd : List Bool) (yv : AVal) (way : List YV) (wv : AVal) (wr : List VV) (i : Nat) (d : VV) : Prop := ∃ cls ents its pm clk L bs S, (PW σ cls w P W A sure ents ∧ PM σ cls m P W A hd its ∧ PF σ cls fb hd ∧ PP σ cls q pb P W A pm clk L ∧ PY σ cls yv way ∧ PV σ cls wv wr ∧ PD σ cls (wr ++ [d]) bs) ∧ KF P W A sure ents hd its clk L way (wr ++ [d]) bs S True ∧ wr.length ≤ i ∧ way.length ≤ 7 * i ∧ its.length ≤ 201 * i ∧ ∀ p, p < P → (L p).length ≤ i
section
variable {σ : St} {q w m pb fb P W A sure : Nat} {hd : List Bool} {yv wv : AVal} {way : List YV} {wr : List VV} {i : Nat}
theorem KE.add (h : KE σ q w m pb fb P W A sure hd yv way wv wr i True) (hP : P ≤ 7) (hi : i ≤ 1000) {l : List UInt8} (hl : l.length = 2) {d : VV} (hd' : d.1 = .sl σ.next 0 2 2 true) (Q : AVal → St → Prop)
    (q3 : Q (.tup [u64 0, i64 14]) ⟨σ.mem.set σ.next (.cells 1 (bytesV l)), σ.next + 1⟩)
    (q4 : ∀ σ2, KA σ2 q w m pb fb P W A sure hd yv way wv wr i d → σ.next < σ2.next → Q (.tup [u64 (wr.length : Nat), i64 0]) σ2) :
    ACall Try.prog 21 [.ptr w 0, .sl σ.next 0 2 2 true] ⟨σ.mem.set σ.next (.cells 1 (bytesV l)), σ.next + 1⟩ Q := by
  obtain ⟨cls, ents, its, pm, clk, L, bs, S, ks0, kf, b1, b2, b3, b4⟩ := h
  obtain ⟨S7, hS7⟩ : ∃ S : St, S = ⟨σ.mem.set σ.next (.cells 1 (bytesV l)), σ.next + 1⟩ := ⟨_, rfl⟩
  have n7 : S7.next = σ.next + 1 := by rw [hS7]
  have m7 : S7.mem.get σ.next = some (.cells 1 (bytesV l)) := by rw [hS7]; simp
  have f7 : Frm cls (ncls cls σ.next 7) 9 σ S7 := ⟨by omega, fun a ha _ => by rw [hS7]; simp [show ¬ a = σ.next by omega], fun a ha => ncls_lt ha⟩
  rw [← hS7] at q3 ⊢
  have ks := ks0.frm f7
  obtain ⟨fp, wvv, hw, hfp⟩ := ks.pw
  have hc := kf.cnt
  have hbl : (bytesV l).length = 2 := by rw [bytesV_len, hl]
  refine add_c hw hP (by omega) (data_sl S7 σ.next 2 (bytesV l) 2 true hbl (by omega) m7 (by omega) (bytesV_upto _ l)) _ (fun h => by cases h) (fun _ h => by omega) (fun _ _ _ => q3) fun σ2 fp' s t wv' _ _ h64 hw2 hk2 hfp2 => ?_
  have f8 : Frm (ncls cls σ.next 7) (ncls (ncls cls σ.next 7) S7.next 1) 1 S7 σ2 := ⟨hk2.1, fun a ha hca => hk2.2 a ha fun hf => hca (hfp a hf), fun a ha => ncls_lt ha⟩
  rw [← hc]
  refine q4 σ2 ⟨ncls (ncls cls σ.next 7) S7.next 1, _, its, pm, clk, L, bs ++ [l], S, ⟨⟨fp', wv', hw2, fun a ha => ?_⟩, ks.pmm.frm f8 (by decide), ks.pf.frm f8 (by decide), ks.pp.frm f8 (by decide) (by decide), ks.py.frm f8 (by decide), ks.pv.frm f8 (by decide), ⟨by simp [ks.pd.1], fun j dd ll h1 h2 => ?_⟩⟩, ⟨kf.mkk.add _ _, kf.said, by simp; omega, fun y hy => ?_, fun k z hz => ?_, kf.lt, kf.nd, fun p hp x hx => ?_, kf.hl⟩, b1, b2, b3, b4⟩ (by have := hk2.1; omega)
  · rcases hfp2 a ha with h | h
    · rw [ncls_lt (hw.lt a h)]; exact hfp a h
    · exact ncls_ge h
  · by_cases hj : j < wr.length
    · rw [List.getElem?_append_left hj] at h1
      rw [List.getElem?_append_left (by rw [← ks.pd.1]; exact hj)] at h2
      obtain ⟨o, t', e1, e2, e3, e4, e5⟩ := (ks.pd.frm f8 (by decide)).2 j dd ll h1 h2
      exact ⟨o, t', e1, e2, e3, e4, e5⟩
    · rw [List.getElem?_append_right (by omega)] at h1
      rw [List.getElem?_append_right (by rw [← ks.pd.1]; omega), ← ks.pd.1] at h2
      cases hk : j - wr.length with
      | succ k => rw [hk] at h1; simp at h1
      | zero =>
        rw [hk] at h1 h2
        simp at h1 h2
        subst h1; subst h2
        have c7 : ncls (ncls cls σ.next 7) S7.next 1 σ.next = 7 := by rw [ncls_lt (by omega), ncls_ge (Nat.le_refl _)]
        refine ⟨σ.next, true, by rw [hd', hl], by have := hk2.1; omega, c7, ?_, hl⟩
        refine (f8.keep σ.next (by omega) ?_).trans m7
        rw [ncls_ge (Nat.le_refl _)]; decide
  · obtain ⟨y1, y2⟩ := kf.way y hy
    exact ⟨y1, by rw [List.getElem?_append_left (List.getElem?_eq_some_iff.1 y2).1]; exact y2⟩
  · have := kf.its k z hz
    rw [List.getElem?_append_left (List.getElem?_eq_some_iff.1 this).1]; exact this
  · obtain ⟨n, dd, x1, x2, x3⟩ := kf.le p hp x hx
    exact ⟨n, dd, x1, by rw [List.getElem?_append_left (List.getElem?_eq_some_iff.1 x2).1]; exact x2, x3⟩
theorem KA.push {d : VV} (h : KA σ q w m pb fb P W A sure hd yv way wv wr i d) (hi : i ≤ 1000) :
    ∃ σ2, evalV ⟨σ.mem.set σ.next (.cells 1 [d.1]), σ.next + 1⟩ (.append 1 24 wv (.sl σ.next 0 1 1 true)) = some (.sl (σ.next + 1) 0 (wr.length + 1) (wr.length + 1) false, σ2) ∧ KE σ2 q w m pb fb P W A sure hd yv way (.sl (σ.next + 1) 0 (wr.length + 1) (wr.length + 1) false) (wr ++ [d]) (i + 1) True := by
  obtain ⟨cls, ents, its, pm, clk, L, bs, S, ⟨k1, k2, k3, k4, k5, k6, k7⟩, kf, b1, b2, b3, b4⟩ := h
  obtain ⟨b, g1, g2⟩ := k6
  have g1' : GP rwV ⟨σ.mem.set σ.next (.cells 1 [d.1]), σ.next + 1⟩ wv wr b := g1.keep (by simp) fun a ha _ => by simp [show ¬ a = σ.next by omega]
  obtain ⟨σ2, e1, e2, e3, e4⟩ := gp_app1 g1' (nb := σ.next) (by_ := 24) (t := true) (x := d) (by decide) (by simp [rwV]) (fun e => by have := (e ▸ g1).lt; omega) (by omega) (by omega)
  have f : Frm cls (ncls cls σ.next 6) 6 σ σ2 := ⟨by rw [e3]; show σ.next ≤ σ.next + 1 + 1; omega, fun a ha hc => by
    rw [e4 a (by show a < σ.next + 1; omega) fun e => hc (g2 a e)]
    simp [show ¬ a = σ.next by omega], fun a ha => ncls_lt ha⟩
  refine ⟨σ2, e1, ncls cls σ.next 6, ents, its, pm, clk, L, bs, S, ⟨k1.frm f (by decide), k2.frm f (by decide), k3.frm f (by decide), k4.frm f (by decide) (by decide), k5.frm f (by decide), ⟨_, e2, fun z hz => ?_⟩, k7.frm f (by decide)⟩, kf, by simp; omega, by omega, by omega, fun p hp => by have := b4 p hp; omega⟩
  have hz : σ.next + 1 = z := Option.some.inj hz
  exact ncls_ge (by omega)
end
end Go.Proofs.Ytopagbaokokjdaa.AM

/- MenderKeeps: a place is fenced, and says what it has. -/
namespace Go.Proofs.Ytopagbaokokjdaa.AM
set_option maxRecDepth 100000
set_option linter.unusedVariables false
set_option linter.unusedSimpArgs false

def leftE (S : List Nat) (ents : List MEnt) : Nat := ents.countP fun e => decide (e.1 ∉ S)
theorem leftE_lt {S : List Nat} {e : MEnt} : ∀ {ents : List MEnt}, e ∈ ents → e.1 ∉ S → leftE (S ++ [e.1]) ents < leftE S ents
  | e0 :: ents, h, hs => by
    have hle : leftE (S ++ [e.1]) ents ≤ leftE S ents := List.countP_mono_left fun z _ h => by
      simp only [decide_eq_true_eq, List.mem_append, not_or] at h ⊢; exact h.1
    simp only [leftE, List.countP_cons] at hle ⊢
    rcases List.mem_cons.1 h with rfl | h
    · simp [hs]
      exact Nat.lt_succ_of_le (by simpa using hle)
    · have ih := leftE_lt h hs
      simp only [leftE] at ih
      by_cases h0 : e0.1 ∈ S
      · simp [h0]; simpa using ih
      · by_cases h1 : e0.1 = e.1
        · simp [h0, h1] at ih ⊢; omega
        · simp [h0, h1]; simpa using ih
theorem insF_some {q : Nat} {l : List UInt8} : ∀ {xs : List (Nat × List UInt8)} {F : Nat → Option (List UInt8)}, insF F xs q = some l → F q = some l ∨ (q, l) ∈ xs
  | [], F, h => .inl h
  | x :: xs, F, h => by
    rcases insF_some (xs := xs) (F := fun q => if q = x.1 then some x.2 else F q) h with h1 | h1
    · by_cases hq : q = x.1
      · simp only [if_pos hq] at h1
        cases h1
        exact .inr (by rw [hq]; simp)
      · simp only [if_neg hq] at h1; exact .inl h1
    · exact .inr (by simp [h1])
theorem insF_ne {q : Nat} : ∀ {xs : List (Nat × List UInt8)} {F : Nat → Option (List UInt8)}, (F q ≠ none ∨ ∃ l, (q, l) ∈ xs) → insF F xs q ≠ none
  | [], F, h => by
    rcases h with h | ⟨l, h⟩
    · exact h
    · simp at h
  | x :: xs, F, h => by
    refine insF_ne (xs := xs) (F := fun q => if q = x.1 then some x.2 else F q) ?_
    by_cases hq : q = x.1
    · left; simp [hq]
    · rcases h with h | ⟨l, h⟩
      · left; simpa [hq] using h
      · rcases List.mem_cons.1 h with h | h
        · exact absurd (by rw [← h]) hq
        · exact .inr ⟨l, h⟩
theorem conf_no {bs : List (List UInt8)} {F : Nat → Option (List UInt8)} (hF : ∀ k l, F k = some l → bs[k]? = some l) : ∀ (xs pre : List (Nat × List UInt8)), (∀ x ∈ pre, bs[x.1]? = some x.2) → (∀ x ∈ xs, bs[x.1]? = some x.2) → confP F pre xs = false
  | [], pre, _, _ => rfl
  | x :: xs, pre, h1, h2 => by
    have hx := h2 x (by simp)
    have e1 : hasOther pre x.1 x.2 = false := by
      rw [hasOther, List.any_eq_false]
      intro y hy
      have hy' := h1 y hy
      simp only [decide_eq_true_eq, not_and, Decidable.not_not]
      intro he
      rw [he, hx] at hy'
      exact (Option.some.inj hy').symm
    have e2 := conf_no hF xs (pre ++ [x]) (fun y hy => by
      rcases List.mem_append.1 hy with hy | hy
      · exact h1 y hy
      · rw [List.mem_singleton.1 hy]; exact hx) fun y hy => h2 y (by simp [hy])
    have e3 : (match F x.1 with | some old => decide (old ≠ x.2) | none => false) = false := by
      cases hf : F x.1 with
      | none => rfl
      | some old =>
        have := hF _ _ hf
        rw [hx] at this
        simp [Option.some.inj this]
    simp only [confP, e1, e2, Bool.or_false]
    exact e3
abbrev IVV := Nat × VV
def rwI2 : Rw IVV 2 := ⟨fun x => [u64 (x.1 : Int), x.2.1], fun _ => rfl, fun x => by simp [x.2.2]⟩
def xsOf (bs : List (List UInt8)) (l : List IVV) : List (Nat × List UInt8) := l.map fun it => (it.1, bs.getD it.1 [])
/-- Items in memory, as the mender hears them. -/
theorem mcells_of {σ : St} {bs : List (List UInt8)} : ∀ {l : List IVV}, (∀ it ∈ l, BytesM σ it.2.1 (bs.getD it.1 [])) → MCells σ (rws rwI2 l) (xsOf bs l)
  | [], _ => trivial
  | it :: l, h => by
    rw [rws_cons]
    exact ⟨rfl, h it (by simp), mcells_of fun x hx => h x (by simp [hx])⟩
section
variable {σ8 σ9 S6 : St} {cls : Nat → Nat} {q w m pb fb P W A sure hb mp pl : Nat} {ents : List WEnt} {hd : List Bool} {its its' : List (Nat × List UInt8)} {pm clk : Nat → Nat} {L : Nat → List MEnt} {yv wv : AVal} {way : List YV} {wr : List VV} {bs : List (List UInt8)} {S : Nat → Nat → Prop} {i : Nat}
theorem KS.fence (ks : KS S6 cls q w m pb fb P W A sure ents hd its pm clk L yv way wv wr bs) (kf : KF P W A sure ents hd its clk L way wr bs S True) (b1 : wr.length ≤ i) (b2 : way.length ≤ 7 * i) (b3 : its.length ≤ 201 * i) (b4 : ∀ p, p < P → (L p).length ≤ i) (hi : i ≤ 201)
    (hm : MRep S6 m hb mp P W A hd 0 its) (c1 : cls m = 2) (c2 : cls hb = 2) (c3 : cls mp = 2) (hpl : pl < P)
    (n8 : S6.next ≤ σ8.next) (k8 : ∀ a, a < S6.next → a ≠ fb → σ8.mem.get a = S6.mem.get a) (f8 : σ8.mem.get fb = some (.cells 1 (bv (hd.set pl true))))
    (k9 : Keep3 m hb mp σ8 σ9) (hm9 : MRep σ9 m hb mp P W A (hd.set pl true) 0 its') {xs : List (Nat × List UInt8)} (hits : ∀ q, lkp its' q = insF (lkp its) xs q) (hil : its'.length ≤ its.length + xs.length)
    (hx1 : ∀ x ∈ xs, bs[x.1]? = some x.2) (hx2 : ∀ n : Nat, (∃ x ∈ L pl, x.2.1 = u64 (n : Int)) → ∃ l, (n, l) ∈ xs) (hx3 : xs.length ≤ (L pl).length) :
    KE σ9 q w m pb fb P W A sure (hd.set pl true) yv way wv wr (i + 1) True := by
  have f1 : Frm cls cls 3 S6 σ8 := ⟨n8, fun a ha hc => k8 a ha fun e => hc (by rw [e]; exact ks.pf.2.2), fun _ _ => rfl⟩
  have f2 : Frm cls cls 2 σ8 σ9 := ⟨k9.1, fun a ha hc => k9.2 a ha (fun e => hc (by rw [e]; exact c1)) (fun e => hc (by rw [e]; exact c2)) (fun e => hc (by rw [e]; exact c3)), fun _ _ => rfl⟩
  have hbl := b4 pl hpl
  have pf8 : PF σ8 cls fb (hd.set pl true) := ⟨f8, by have := ks.pf.2.1; omega, ks.pf.2.2⟩
  refine ⟨cls, ents, its', pm, clk, L, bs, S, ⟨(ks.pw.frm f1 (by decide)).frm f2 (by decide), ⟨hb, mp, hm9, c1, c2, c3⟩, pf8.frm f2 (by decide), (ks.pp.frm f1 (by decide) (by decide)).frm f2 (by decide) (by decide), (ks.py.frm f1 (by decide)).frm f2 (by decide), (ks.pv.frm f1 (by decide)).frm f2 (by decide), (ks.pd.frm f1 (by decide)).frm f2 (by decide)⟩, ⟨kf.mkk.hear pl (fun e he => ?_) (fun e he => ?_), kf.said, kf.cnt, kf.way, fun k l hk => ?_, kf.lt, kf.nd, kf.le, by simp [kf.hl]⟩, by omega, by omega, by omega, fun p hp => by have := b4 p hp; omega⟩
  · rw [hits]; exact insF_ne (.inl he)
  · rw [hits]
    exact insF_ne (.inr (hx2 e (kf.said trivial e pl he).2))
  · rw [hits] at hk
    rcases insF_some hk with h | h
    · exact kf.its k l h
    · exact hx1 (k, l) h
end
end Go.Proofs.Ytopagbaokokjdaa.AM

/- MenderKeeps: what a place says, as the mender hears it. -/
namespace Go.Proofs.Ytopagbaokokjdaa.AM
set_option maxRecDepth 100000
set_option linter.unusedVariables false
set_option linter.unusedSimpArgs false

theorem one_cell : ∀ {v : AVal}, v.one = true → cellsOf v = [v] := by
  intro v h
  cases v <;> first | rfl | cases h
theorem PD.get {σ : St} {cls : Nat → Nat} {wr : List VV} {bs : List (List UInt8)} (h : PD σ cls wr bs) {n : Nat} {d : VV} (hd : wr[n]? = some d) : ∃ l, bs[n]? = some l ∧ bs.getD n [] = l ∧ ∃ o t, d.1 = .sl o 0 l.length l.length t ∧ o < σ.next ∧ cls o = 7 ∧ σ.mem.get o = some (.cells 1 (bytesV l)) ∧ l.length = 2 := by
  have hn := (List.getElem?_eq_some_iff.1 hd).1
  have hl := h.1
  obtain ⟨l, hlx⟩ : ∃ l, bs[n]? = some l := ⟨_, List.getElem?_eq_getElem (by omega)⟩
  exact ⟨l, hlx, by rw [List.getD_eq_getElem?_getD, hlx]; rfl, h.2 n d l hd hlx⟩
theorem xsOf_len (bs : List (List UInt8)) (l : List IVV) : (xsOf bs l).length = l.length := List.length_map ..
theorem hear_args {S6 σ' : St} {cls : Nat → Nat} {wr : List VV} {bs : List (List UInt8)} {lv : AVal} {items : List IVV} {b : Option Nat} (g3 : GP rwI2 σ' lv items b) (pd : PD S6 cls wr bs) (hit1 : ∀ x ∈ items, wr[x.1]? = some x.2) (hn : S6.next ≤ σ'.next) (hkeep : ∀ o, o < S6.next → cls o = 7 → σ'.mem.get o = S6.mem.get o) :
    SlM σ' lv (rws rwI2 items) (xsOf bs items).length ∧ MCells σ' (rws rwI2 items) (xsOf bs items) := by
  refine ⟨?_, mcells_of fun x hx => ?_⟩
  · rw [xsOf_len]
    rcases g3 with ⟨rfl, rfl, rfl⟩ | ⟨o, t, vals, _, rfl, h3, h4, h5, h6⟩
    · exact .inl ⟨rfl, rfl, rfl⟩
    · exact .inr ⟨o, _, t, vals, rfl, Nat.le_refl _, h3, h4, h6, h5⟩
  · obtain ⟨l, h1, h2, o, t, e1, e2, e3, e4, e5⟩ := pd.get (hit1 x hx)
    rw [h2]
    exact .inr ⟨o, _, _, t, e1, rfl, by omega, (hkeep o e2 e3).trans e4⟩
theorem hear_len {S6 : St} {cls : Nat → Nat} {wr : List VV} {bs : List (List UInt8)} {items : List IVV} (pd : PD S6 cls wr bs) (hit1 : ∀ x ∈ items, wr[x.1]? = some x.2) : ∀ x ∈ xsOf bs items, x.2.length ≤ 140737488355328 ∧ bs[x.1]? = some x.2 := fun x hx => by
  obtain ⟨it, hi, rfl⟩ := List.mem_map.1 hx
  obtain ⟨l, h1, h2, o, t, e1, e2, e3, e4, e5⟩ := pd.get (hit1 it hi)
  exact ⟨by show (bs.getD it.1 []).length ≤ _; rw [h2]; omega, by show bs[it.1]? = some (bs.getD it.1 []); rw [h2]; exact h1⟩
end Go.Proofs.Ytopagbaokokjdaa.AM

/- MenderKeeps: what is held is what was written. -/
namespace Go.Proofs.Ytopagbaokokjdaa.AM
set_option maxRecDepth 100000
set_option linter.unusedVariables false
set_option linter.unusedSimpArgs false

theorem rwV_at : ∀ {l : List VV} {i : Nat} {d : VV}, l[i]? = some d → (rws rwV l)[i]? = some d.1
  | x :: l, 0, d, h => by simp at h; subst h; rw [rws_cons]; rfl
  | x :: l, i + 1, d, h => by
    rw [rws_cons]
    exact rwV_at (l := l) (by simpa using h)
theorem GP.at1 {σ : St} {v : AVal} {l : List VV} {b : Option Nat} (h : GP rwV σ v l b) {i : Nat} {d : VV} (hd : l[i]? = some d) : ∃ o, (∀ ρ, evalV ρ (.idxAddr 1 v (.int .i64 (i : Int))) = some (.ptr o i, ρ)) ∧ ∀ σ2, Grow σ σ2 → evalV σ2 (.ld1 (.ptr o i)) = some (d.1, σ2) := by
  have hi := (List.getElem?_eq_some_iff.1 hd).1
  rcases h with ⟨_, rfl, _⟩ | ⟨o, t, vals, h1, rfl, h3, h4, h5, h6⟩
  · simp at hi
  · have e1 := rwV_at hd
    rw [← h6, List.getElem?_take, if_pos (by omega)] at e1
    refine ⟨o, fun ρ => by simp [hi], fun σ2 g => ?_⟩
    have := (g.2 o h3).trans h4
    simp [this, e1]
def HeldJ (wv v : AVal) (n : Nat) (σ0 : St) (mm : Nat) (r : Regs) (σ' : St) : Prop := ∃ i : Nat, mm = n - i ∧ i ≤ n ∧ Grow σ0 σ' ∧ r = [(1, wv), (7, v), (8, i64 n), (9, i64 i)]
theorem held_c {σ : St} {cls : Nat → Nat} {wv v : AVal} {wr : List VV} {bs : List (List UInt8)} {b : Option Nat} {xs : List (Nat × List UInt8)} (gv : GP rwV σ wv wr b) (pd : PD σ cls wr bs) (hv : ItemsOf v xs) (hl : xs.length ≤ 1000000) (hx : ∀ (i : Nat) (x : Nat × List UInt8), xs[i]? = some x → x.1 = i ∧ bs[i]? = some x.2) (Q : AVal → St → Prop) (h : ∀ σ', Q (.bool true) σ') : ACall Try.prog 25 [v, wv] σ Q := by
  refine ACall.of_compF hmx (fun a w => Try.call25 a w) Try.func25 cf25 (n := 2) (by decide) rfl ?_
  have l1 := hv.len
  have l2 := gv.len
  simp [ac25, rs25, lk_cons, ↓l1]
  refine wp_loop (HeldJ wv v xs.length σ) xs.length ?_ ?_
  · exact ⟨0, rfl, by omega, ⟨Nat.le_refl _, fun _ _ => rfl⟩, rfl⟩
  · rintro mm r σ' ⟨i, rfl, hi, hg, rfl⟩
    by_cases hlt : i < xs.length
    · obtain ⟨x, hxx⟩ : ∃ x, xs[i]? = some x := ⟨_, List.getElem?_eq_getElem hlt⟩
      obtain ⟨k, hk⟩ : ∃ k, i + 1 = k := ⟨_, rfl⟩
      have hw : IntKind.i64.wrap ((i : Int) + 1) = (k : Int) := by rw [IntWalk.i64_in] <;> omega
      obtain ⟨x1, x2⟩ := hx i x hxx
      have hil : i < bs.length := (List.getElem?_eq_some_iff.1 x2).1
      have hiw : i < wr.length := by rw [pd.1]; exact hil
      obtain ⟨d, hd⟩ : ∃ d, wr[i]? = some d := ⟨_, List.getElem?_eq_getElem hiw⟩
      obtain ⟨l, y1, y2, o, t, z1, z2, z3, z4, z5⟩ := pd.get hd
      have hll : l = x.2 := by rw [x2] at y1; exact (Option.some.inj y1).symm
      rcases hv with ⟨rfl, rfl⟩ | ⟨cs, kk, t', rfl, rfl, hc⟩
      · simp at hxx
      obtain ⟨a, ha, e1⟩ := hc.get hxx
      have s1 := ha.str
      have hwu : IntKind.u64.wrap (i : Int) = (i : Int) := by rw [IntWalk.u64_in]; omega
      have hm2 : ∀ B B' : Blk, BytesM ⟨(σ'.mem.set σ'.next B).set σ'.next B', σ'.next + 1⟩ d.1 l := fun B B' => .inr ⟨o, _, _, t, z1, rfl, by have := hg.1; simp; omega, by
        have := hg.1
        simp [show ¬ o = σ'.next by omega]
        exact (hg.2 o z2).trans z4⟩
      obtain ⟨wo, wo1, wo2⟩ := gv.at1 hd
      have wo2 := fun B B' : Blk => wo2 ⟨(σ'.mem.set σ'.next B).set σ'.next B', σ'.next + 1⟩ ⟨by have := hg.1; simp; omega, fun a ha => by
        have := hg.1
        simp [show ¬ a = σ'.next by omega]
        exact hg.2 a ha⟩
      have s2 := fun B B' : Blk => (hm2 B B').str
      have a1 := ha.one
      have hlt' : ¬ (wr.length : Int) ≤ i := by omega
      simp [lk_cons, ↓l1, ↓l2, hlt, e1, a1, storeL, x1, hwu, hlt', hiw, ↓wo1, ↓wo2, ↓s1, ↓s2, hll, str_ne, hw]
      exact ⟨xs.length - k, by omega, k, rfl, by omega, ⟨by have := hg.1; simp; omega, fun a ha => by
        have := hg.1
        simp [show ¬ a = σ'.next by omega]
        exact hg.2 a ha⟩, rfl⟩
    · have : i = xs.length := by omega
      subst this
      simp [lk_cons, ↓l1]
      exact h _
end Go.Proofs.Ytopagbaokokjdaa.AM

/- The example of chapter 12 is as it should be. -/
namespace Go.Proofs.Ytopagbaokokjdaa.AM
set_option maxRecDepth 100000
set_option linter.unusedVariables false
set_option linter.unusedSimpArgs false

def tabL : TabL := [(8, ac8, rs8, 0), (9, ac9, rs9, 1), (13, ac13, rs13, 4), (15, ac15, rs15, 1), (17, ac17, rs17, 1), (26, ac26, rs26, 1), (27, ac27, rs27, 2), (28, ac28, rs28, 2), (29, ac29, rs29, 2), (30, ac30, rs30, 1), (32, ac32, rs32, 2), (36, ac36, rs36, 2), (38, ac38, rs38, 2), (39, ac39, rs39, 3)]
theorem tabOk : TabOk Try.prog (look tabL) := by
  unfold tabL
  refine tab_cons ?_ (fun a w => Try.call8 a w) Try.func8 cf8 (by decide)
  refine tab_cons ?_ (fun a w => Try.call9 a w) Try.func9 cf9 (by decide)
  refine tab_cons ?_ (fun a w => Try.call13 a w) Try.func13 cf13 (by decide)
  refine tab_cons ?_ (fun a w => Try.call15 a w) Try.func15 cf15 (by decide)
  refine tab_cons ?_ (fun a w => Try.call17 a w) Try.func17 cf17 (by decide)
  refine tab_cons ?_ (fun a w => Try.call26 a w) Try.func26 cf26 (by decide)
  refine tab_cons ?_ (fun a w => Try.call27 a w) Try.func27 cf27 (by decide)
  refine tab_cons ?_ (fun a w => Try.call28 a w) Try.func28 cf28 (by decide)
  refine tab_cons ?_ (fun a w => Try.call29 a w) Try.func29 cf29 (by decide)
  refine tab_cons ?_ (fun a w => Try.call30 a w) Try.func30 cf30 (by decide)
  refine tab_cons ?_ (fun a w => Try.call32 a w) Try.func32 cf32 (by decide)
  refine tab_cons ?_ (fun a w => Try.call36 a w) Try.func36 cf36 (by decide)
  refine tab_cons ?_ (fun a w => Try.call38 a w) Try.func38 cf38 (by decide)
  refine tab_cons ?_ (fun a w => Try.call39 a w) Try.func39 cf39 (by decide)
  exact tab_nil hmx

def runOk (x : Option (AVal × St)) : Bool := match x with
  | some (.bool true, _) => true
  | _ => false
theorem awake_run : runOk (callT (look tabL) 300 20 8 [] σ0) = true := by kernel_rfl
theorem awake (σ : St) (Q : AVal → St → Prop) (hq : Q (.bool true) σ) : ACall Try.prog 8 [] σ Q := by
  refine ACall.frame ?_ rfl
  have h := awake_run
  unfold runOk at h
  split at h
  · rename_i σ hs; exact ACall.of_run tabOk 300 20 hs ⟨rfl, hq⟩
  · cases h
end Go.Proofs.Ytopagbaokokjdaa.AM

/- MenderKeeps, walked. -/
namespace Go.Proofs.Ytopagbaokokjdaa.AM
set_option maxRecDepth 100000
set_option linter.unusedVariables false
set_option linter.unusedSimpArgs false

structure ActV where
  kind : Nat
  place : Nat
  which : Nat
  lost : Bool
def actC (a : ActV) : List AVal := [.int .u8 (a.kind : Int), .int .u8 (a.place : Int), .int .u8 (a.which : Int), .bool a.lost]
def actsC : List ActV → List AVal
  | [] => []
  | a :: l => actC a ++ actsC l
theorem actsC_len : ∀ l : List ActV, (actsC l).length = l.length * 4
  | [] => rfl
  | a :: l => by simp [actsC, actC, actsC_len l]; omega
theorem actsC_at : ∀ {l : List ActV} {i : Nat} {a : ActV}, l[i]? = some a → ((actsC l).drop (i * 4)).take 4 = actC a
  | x :: l, 0, a, h => by simp at h; subst h; simp [actsC, actC]
  | x :: l, i + 1, a, h => by
    have := actsC_at (l := l) (i := i) (a := a) (by simpa using h)
    rw [show (i + 1) * 4 = i * 4 + 1 + 1 + 1 + 1 by omega]
    simpa [actsC, actC] using this
def ActsOf (v : AVal) (l : List ActV) : Prop := v = .nilsl ∧ l = [] ∨ ∃ t, v = .isl (actsC l) l.length t
theorem ActsOf.len {v : AVal} {l : List ActV} (h : ActsOf v l) (ρ : St) : evalV ρ (.len 1 v) = some (i64 l.length, ρ) := by
  rcases h with ⟨rfl, rfl⟩ | ⟨t, rfl⟩ <;> simp
theorem ActsOf.at {v : AVal} {l : List ActV} (h : ActsOf v l) {i : Nat} {a : ActV} (ha : l[i]? = some a) : ∃ p, (∀ ρ, evalV ρ (.idxAddr 4 v (.int .i64 (i : Int))) = some (p, ρ)) ∧ ∀ ρ, evalV ρ (.ldn 4 p) = some (.agg (actC a), ρ) := by
  have hi := (List.getElem?_eq_some_iff.1 ha).1
  rcases h with ⟨_, rfl⟩ | ⟨t, rfl⟩
  · simp at hi
  · have e := actsC_at ha
    have hl := actsC_len l
    exact ⟨.iptr (actC a), fun ρ => by simp [hi, e], fun ρ => by simp [actC]⟩
theorem iv_at {l : List Nat} {t : Bool} {j x : Nat} (h : l[j]? = some x) : ∃ p, (∀ ρ, evalV ρ (.idxAddr 1 (.isl (iv l) l.length t) (.int .i64 (j : Int))) = some (p, ρ)) ∧ ∀ ρ, evalV ρ (.ld1 p) = some (.int .i64 (x : Int), ρ) := by
  have hj := (List.getElem?_eq_some_iff.1 h).1
  have h1 : (iv l)[j]? = some (.int .i64 (x : Int)) := by simp [iv, h]
  have h2 : ((iv l).drop j).take 1 = [.int .i64 (x : Int)] := by
    have hlt : j < (iv l).length := by simpa [iv] using hj
    rw [List.drop_eq_getElem_cons hlt]
    simp only [List.take_succ_cons, List.take_zero]
    rw [(List.getElem?_eq_some_iff.1 h1).2]
  exact ⟨.iptr [.int .i64 (x : Int)], fun ρ => by simp [hj, h2], fun ρ => by simp⟩
/-- The places' maps are made. -/
def MkJ (q w m pb P W A : Nat) (av : AVal) (σ0 : St) (mm : Nat) (rg : Regs) (σ' : St) : Prop := ∃ (i : Nat) (pm : Nat → Nat), mm = P - i ∧ i ≤ P ∧ σ0.next ≤ σ'.next ∧ (∀ a, a < σ0.next → a ≠ pb → σ'.mem.get a = σ0.mem.get a) ∧ σ'.mem.get pb = some (.cells 1 (((List.range i).map fun p => AVal.map (pm p)) ++ List.replicate (P - i) .nilmap)) ∧
  (∀ p, p < i → σ'.mem.get (pm p) = some (.map 0 []) ∧ pm p < σ'.next ∧ σ0.next ≤ pm p) ∧ (∀ p p', p < i → p' < i → pm p = pm p' → p = p') ∧ rg = [(1, av), (5, .ptr q 0), (6, .ptr w 0), (8, .ptr m 0), (10, .sl pb 0 P P true), (51, i64 P), (52, i64 i)]
open Classical in
noncomputable def cls0 (fp : Nat → Prop) (m hb mp pb fb : Nat) : Nat → Nat := fun a => if a = 0 ∨ a = pb then 8 else if a = fb then 3 else if a = m ∨ a = hb ∨ a = mp then 2 else if fp a then 1 else 4
def KpJ (q w m pb fb P W A : Nat) (av : AVal) (N : Nat) (mm : Nat) (rg : Regs) (σ' : St) : Prop := ∃ (i sure : Nat) (hd : List Bool) (yv wv : AVal) (way : List YV) (wr : List VV), mm = N - i ∧ i ≤ N ∧ i ≤ 201 ∧ KE σ' q w m pb fb P W A sure hd yv way wv wr i True ∧ rg = [(5, .ptr q 0), (6, .ptr w 0), (8, .ptr m 0), (10, .sl pb 0 P P true), (12, .sl fb 0 P P true), (13, yv), (14, wv), (15, i64 sure), (63, av), (64, i64 N), (65, i64 i)]
def Ks0J (q w m pb fb P W : Nat) (av yv wv dv : AVal) (sure e code i N : Nat) (S : St) (mm : Nat) (rg : Regs) (σ' : St) : Prop := ∃ j : Nat, mm = W - j ∧ j ≤ W ∧ σ' = S ∧ rg = [(5, .ptr q 0), (6, .ptr w 0), (8, .ptr m 0), (10, .sl pb 0 P P true), (12, .sl fb 0 P P true), (13, yv), (14, wv), (15, i64 sure), (19, dv), (20, u64 e), (21, i64 code), (63, av), (64, i64 N), (65, i64 i), (106, .isl (iv (setP P W e)) W false), (107, i64 W), (108, i64 j)]
def Ks1J (q w m pb fb P W A : Nat) (av wv dv : AVal) (hd : List Bool) (wr : List VV) (sure e i N : Nat) (mm : Nat) (rg : Regs) (σ' : St) : Prop := ∃ (j : Nat) (yv : AVal) (way : List YV), mm = W - j ∧ j ≤ W ∧ way.length ≤ 7 * i + j ∧ KE σ' q w m pb fb P W A sure hd yv way wv wr (i + 1) True ∧ rg = [(5, .ptr q 0), (6, .ptr w 0), (8, .ptr m 0), (10, .sl pb 0 P P true), (12, .sl fb 0 P P true), (13, yv), (14, wv), (15, i64 sure), (19, dv), (20, u64 e), (21, i64 0), (63, av), (64, i64 N), (65, i64 i), (106, .isl (iv (setP P W e)) W false), (107, i64 W), (108, i64 j)]
def FnJ (q w m pb fb P pl it mk c : Nat) (ents : List MEnt) (wr : List VV) (av yv wv : AVal) (sure i N : Nat) (S8 : St) (mm : Nat) (rg : Regs) (σ' : St) : Prop := ∃ (V : List MEnt) (items : List IVV) (lv : AVal) (b : Option Nat), mm = leftE (V.map (·.1)) ents ∧ V.length + leftE (V.map (·.1)) ents ≤ ents.length ∧ (V.map (·.1)).Nodup ∧ (∀ e ∈ V, e ∈ ents) ∧ items.length = V.length ∧ (∀ x ∈ items, wr[x.1]? = some x.2) ∧ (∀ n : Nat, (∃ x ∈ V, x.2.1 = u64 (n : Int)) → ∃ x ∈ items, x.1 = n) ∧ S8.next ≤ σ'.next ∧ σ'.mem.get it = some (.iter (some mk) c (V.map (·.1)) c) ∧ (∀ a, a < S8.next → a ≠ it → σ'.mem.get a = S8.mem.get a) ∧ GP rwI2 σ' lv items b ∧ (∀ z, b = some z → S8.next ≤ z) ∧ rg = [(5, .ptr q 0), (6, .ptr w 0), (8, .ptr m 0), (10, .sl pb 0 P P true), (12, .sl fb 0 P P true), (13, yv), (14, wv), (15, i64 sure), (18, i64 pl), (26, lv), (63, av), (64, i64 N), (65, i64 i), (203, .ptr it 0)]
def KtJ (q w m pb fb P W A : Nat) (yv wv : AVal) (way : List YV) (wr : List VV) (hd : List Bool) (i : Nat) (mm : Nat) (rg : Regs) (σ' : St) : Prop := ∃ j sure : Nat, mm = way.length - j ∧ j ≤ way.length ∧ KE σ' q w m pb fb P W A sure hd yv way wv wr i False ∧ rg = [(6, .ptr w 0), (8, .ptr m 0), (12, .sl fb 0 P P true), (14, wv), (15, i64 sure), (224, yv), (225, i64 way.length), (226, i64 j)]
def KpE (q w m pb fb P W A : Nat) (rg : Regs) (σ' : St) : Prop := ∃ (i sure : Nat) (hd : List Bool) (yv wv : AVal) (way : List YV) (wr : List VV), i ≤ 201 ∧ KE σ' q w m pb fb P W A sure hd yv way wv wr i True ∧ rg.lookup 6 = some (.ptr w 0) ∧ rg.lookup 8 = some (.ptr m 0) ∧ rg.lookup 12 = some (.sl fb 0 P P true) ∧ rg.lookup 13 = some yv ∧ rg.lookup 14 = some wv ∧ rg.lookup 15 = some (i64 sure)
set_option maxHeartbeats 4000000 in
theorem keeps_c (n : Nat) (hn : n < 65536) {av : AVal} {acts : List ActV} (ha : ActsOf av acts) (hal : acts.length ≤ 9223372036854775806) (hab : ∀ a ∈ acts, a.kind < 256 ∧ a.place < 256 ∧ a.which < 256) : ACall Try.prog 7 [.int .u16 (n : Int), av] σ0 fun v _ => v = .bool true := by
  refine ACall.of_compF hmx (fun a w => Try.call7 a w) Try.func7 cf7 (n := 2) (by decide) rfl ?_
  have l1 := ha.len
  simp only [ac7, rs7]
  simp [lk_cons]
  refine awake _ _ ?_
  simp [lk_cons]
  refine quorum_c n hn _ _ ?_
  obtain ⟨P, hP⟩ : ∃ P, qP n = P := ⟨_, rfl⟩
  obtain ⟨W, hW⟩ : ∃ W, qW n = W := ⟨_, rfl⟩
  obtain ⟨A, hA⟩ : ∃ A, qA n = A := ⟨_, rfl⟩
  have hq := q_ok n
  rw [hP, hW, hA] at hq ⊢
  simp [lk_cons, storeL]
  refine new_c P W A hq _ _ fun w fp σ1 hw hk1 hfp => ?_
  have n1 := hk1.1
  have q1 : σ1.mem.get 0 = some (.cells 3 [i64 P, i64 W, i64 A]) := (hk1.2 0 (by simp) (by simp)).trans (by simp)
  have hq0 : ∀ a, fp a → 0 < a := fun a ha => by have := hfp a ha; simp at this; omega
  simp at n1
  simp [lk_cons, q1]
  refine mnew_c P W A hq _ _ fun m hb mp σ2 hm n2 k2 ⟨g1, g2, g3⟩ => ?_
  have q2 := (k2 0 (by omega)).trans q1
  have hw2 := hw.frame (fun a ha => k2 a (hw.lt a ha)) n2
  have p1 : (P : Int) ≤ 9223372036854775807 := by omega
  have p2 : (P : Int) * 8 ≤ 140737488355328 := by omega
  have p3 : (P : Int) ≤ 140737488355328 := by omega
  simp [lk_cons, q2, repL, p1, p2]
  obtain ⟨S3, hS3⟩ : ∃ S : St, S = ⟨σ2.mem.set σ2.next (.cells 1 (List.replicate P .nilmap)), σ2.next + 1⟩ := ⟨_, rfl⟩
  have nS3 : S3.next = σ2.next + 1 := by rw [hS3]
  have kS3 : ∀ a, a < σ2.next → S3.mem.get a = σ2.mem.get a := fun a ha => by rw [hS3]; simp [show ¬ a = σ2.next by omega]
  have mS3 : S3.mem.get σ2.next = some (.cells 1 (List.replicate P .nilmap)) := by rw [hS3]; simp
  rw [← hS3]
  obtain ⟨pb, hpb⟩ : ∃ pb, σ2.next = pb := ⟨_, rfl⟩
  rw [hpb] at mS3
  simp only [hpb]
  refine wp_loop (MkJ 0 w m pb P W A av S3) P ?_ ?_
  · exact ⟨0, fun _ => 0, rfl, Nat.zero_le _, Nat.le_refl _, fun _ _ _ => rfl, by simpa using mS3, fun p hp => absurd hp (Nat.not_lt_zero _), fun p _ hp => absurd hp (Nat.not_lt_zero _), by simp [lk_cons]⟩
  rintro mm rg σ4 ⟨i, pm, rfl, hi, n4, k4, m4, hpm, hinj, rfl⟩
  by_cases hlt : i < P
  · have hlt' : (i : Int) < P := by omega
    have w1 : IntKind.i64.wrap ((i : Int) + 1) = ((i + 1 : Nat) : Int) := by rw [IntWalk.i64_in] <;> omega
    have e0 : ¬ pb = σ4.next := by omega
    have hset : ∀ z : AVal, (List.replicate (P - i) AVal.nilmap).set 0 z = z :: List.replicate (P - (i + 1)) AVal.nilmap := fun z => by
      obtain ⟨j, hj⟩ : ∃ j, P - i = j + 1 := ⟨P - i - 1, by omega⟩
      rw [hj, show P - (i + 1) = j by omega]
      simp [List.replicate_succ]
    have hle : i + (P - i) = P := by omega
    have hl1 : i + 1 ≤ P := hlt
    simp [lk_cons, hlt, hlt', m4, e0, storeL, hle, hset, hl1, w1]
    refine ⟨P - (i + 1), by omega, i + 1, fun p => if p = i then σ4.next else pm p, rfl, hl1, by simp; omega, fun a ha hne => ?_, ?_, fun p hp => ?_, fun p p' hp hp' he => ?_, by simp⟩
    · simp [hne, show ¬ a = σ4.next by omega]; exact k4 a ha hne
    · have : (List.range i).map (fun p => AVal.map (if p = i then σ4.next else pm p)) = (List.range i).map fun p => AVal.map (pm p) := List.map_congr_left fun p hp => by
        have := List.mem_range.1 hp
        rw [if_neg (by omega)]
      simp [List.range_succ, this]
    · by_cases hpi : p = i
      · subst hpi
        simp [e0, Ne.symm e0]
        omega
      · obtain ⟨e1, e2, e3⟩ := hpm p (by omega)
        have : ¬ pm p = pb := by omega
        simp [hpi, this, show ¬ pm p = σ4.next by omega, e1]
        omega
    · simp only at he
      by_cases hpi : p = i
      · by_cases hpi' : p' = i
        · omega
        · rw [if_pos hpi, if_neg hpi'] at he
          have := (hpm p' (by omega)).2.1
          omega
      · by_cases hpi' : p' = i
        · rw [if_neg hpi, if_pos hpi'] at he
          have := (hpm p (by omega)).2.1
          omega
        · rw [if_neg hpi, if_neg hpi'] at he
          exact hinj p p' (by omega) (by omega) he
  · have : P = i := by omega
    subst this
    have q4 : σ4.mem.get 0 = some (.cells 3 [i64 P, i64 W, i64 A]) := (k4 0 (by omega) (by omega)).trans ((kS3 0 (by omega)).trans q2)
    simp [lk_cons, q4, repL, p1, p3, ↓l1]
    obtain ⟨fb, hfb⟩ : ∃ fb, σ4.next = fb := ⟨_, rfl⟩
    obtain ⟨S5, hS5⟩ : ∃ S : St, S = ⟨σ4.mem.set σ4.next (.cells 1 (List.replicate P (.bool false))), σ4.next + 1⟩ := ⟨_, rfl⟩
    have nS5 : S5.next = fb + 1 := by rw [hS5, ← hfb]
    have kS5 : ∀ a, a < fb → S5.mem.get a = σ4.mem.get a := fun a ha => by rw [hS5, hfb]; simp [show ¬ a = fb by omega]
    have mS5 : S5.mem.get fb = some (.cells 1 (bv (List.replicate P false))) := by rw [hS5, hfb]; simp [bv]
    rw [← hS5]
    simp only [hfb]
    generalize hK : seqK (↑Try.prog) _ _ = K
    have hml := hm.lt
    have G5 : ∀ a, a < σ2.next → S5.mem.get a = σ2.mem.get a := fun a ha => (kS5 a (by omega)).trans ((k4 a (by omega) (by omega)).trans (kS3 a ha))
    have hwl : ∀ a, fp a → a < σ1.next := hw.lt
    have e8 : ∀ a, a = 0 ∨ a = pb → cls0 fp m hb mp pb fb a = 8 := fun a h => by unfold cls0; rw [if_pos h]
    have e3 : cls0 fp m hb mp pb fb fb = 3 := by unfold cls0; rw [if_neg (by omega), if_pos rfl]
    have e2 : ∀ a, a = m ∨ a = hb ∨ a = mp → cls0 fp m hb mp pb fb a = 2 := fun a h => by unfold cls0; rw [if_neg (by omega), if_neg (by omega), if_pos h]
    have e1 : ∀ a, fp a → cls0 fp m hb mp pb fb a = 1 := fun a h => by
      have := hwl a h
      have := hq0 a h
      unfold cls0; rw [if_neg (by omega), if_neg (by omega), if_neg (by omega), if_pos h]
    have e4 : ∀ a, a < fb → σ2.next < a → cls0 fp m hb mp pb fb a = 4 := fun a h h' => by
      unfold cls0; rw [if_neg (by omega), if_neg (by omega), if_neg (by omega), if_neg fun hf => by have := hwl a hf; omega]
    have ini : KE S5 0 w m pb fb P W A 0 (List.replicate P false) .nilsl [] .nilsl [] 0 True := by
      refine ⟨cls0 fp m hb mp pb fb, [], [], pm, fun _ => 0, fun _ => [], [], fun _ _ => False, ⟨⟨fp, .nilsl, hw2.frame (fun a ha => G5 a (by have := hwl a ha; omega)) (by omega), e1⟩, ⟨hb, mp, hm.frame (fun a ha => G5 a (by omega)) (by omega), e2 m (.inl rfl), e2 hb (.inr (.inl rfl)), e2 mp (.inr (.inr rfl))⟩, ⟨mS5, by omega, e3⟩, ⟨⟨(kS5 0 (by omega)).trans q4, by omega, e8 0 (.inl rfl)⟩, ⟨(kS5 pb (by omega)).trans (by rw [m4]; simp), by omega, e8 pb (.inr rfl)⟩, fun p hp => ?_, hinj⟩, ⟨none, GP.nil _, by simp⟩, ⟨none, GP.nil _, by simp⟩, ⟨rfl, fun i d l h => by simp at h⟩⟩, ⟨⟨fun i e h => by simp at h, fun e h => absurd h (Nat.not_lt_zero _), fun e p h => h.elim⟩, fun _ e p h => h.elim, rfl, by simp, fun k l h => by simp [lkp] at h, fun p _ x hx => by simp at hx, fun p _ => by simp, fun p _ x hx => by simp at hx, by simp⟩, by simp, by simp, by simp, by simp⟩
      obtain ⟨h1, h2, h3⟩ := hpm p hp
      exact ⟨(kS5 _ (by omega)).trans h1, by omega, e4 _ (by omega) (by omega)⟩
    have tail : ∀ rg σ', KpE 0 w m pb fb P W A rg σ' → K .normal rg σ' := by
      rintro rg σ6 ⟨i, sure, hd, yv, wv, way, wr, hi2, hE, r6, r8, r12, r13, r14, r15⟩
      rw [← hK]
      simp [seqK, lk_cons, r8]
      obtain ⟨f6, f6'⟩ := hE.f1
      have hE' := hE
      obtain ⟨cls, ents, its, pm, clk, L, bs, S, ks, kf, b1, b2, b3, b4⟩ := hE'
      obtain ⟨hb6, mp6, hm6, cm1, cm2, cm3⟩ := ks.pmm
      refine ready_c hm6 hq _ ?_
      cases hcov : covP P W A hd with
      | false =>
        simp [lk_cons, r6, r8, r12, r13, r14, r15]
      | true =>
        obtain ⟨yl, _⟩ := hE.yv1
        simp [lk_cons, r6, r8, r12, r13, r14, r15, ↓yl]
        refine wp_loop (KtJ 0 w m pb fb P W A yv wv way wr hd i) way.length ?_ ?_
        · exact ⟨0, sure, rfl, Nat.zero_le _, hE.last, by simp [lk_cons, r6, r8, r12, r13, r14, r15]⟩
        clear ks kf b1 b2 b3 b4 hm6 cm1 cm2 cm3 hE yl f6 f6'
        rintro mm rg2 σ7 ⟨j, sure, rfl, hj, hE, rfl⟩
        have hfw := hE.few
        by_cases hjl : j < way.length
        · obtain ⟨yl, yat⟩ := hE.yv1
          obtain ⟨y, hy⟩ : ∃ y, way[j]? = some y := ⟨_, List.getElem?_eq_getElem hjl⟩
          obtain ⟨⟨hy1, hy2⟩, oy, yo1, yo2⟩ := yat j y hy
          have yo2 := yo2 σ7 ⟨Nat.le_refl _, fun _ _ => rfl⟩
          simp [rwY] at yo2
          have hyP : y.1 < P := setP_lt (by omega) hy1
          obtain ⟨f7, f7'⟩ := hE.f1
          have hget := bv_get hd y.1 (by omega)
          have d1 := y.2.2.2
          have hwl : y.2.1 < wr.length := (List.getElem?_eq_some_iff.1 hy2).1
          have w4 : IntKind.i64.wrap ((j : Int) + 1) = ((j + 1 : Nat) : Int) := by rw [IntWalk.i64_in] <;> omega
          have efb : ¬ fb = σ7.next := by omega
          obtain ⟨fz, hfz⟩ : ∃ fz, hd.getD y.1 false = fz := ⟨_, rfl⟩
          rw [hfz] at hget
          simp [lk_cons, hjl, ↓yo1, ↓yo2, storeL, d1, f7, efb, hyP, hget]
          obtain ⟨S8, hS8⟩ : ∃ S : St, S = ⟨(σ7.mem.set σ7.next (.cells 3 [.int .i64 0, .int .u64 0, .nilsl])).set σ7.next (.cells 3 [i64 (y.1 : Int), u64 (y.2.1 : Int), y.2.2.1]), σ7.next + 1⟩ := ⟨_, rfl⟩
          have g8 : Grow σ7 S8 := ⟨by rw [hS8]; simp, fun b hb => by rw [hS8]; simp [show ¬ b = σ7.next by omega]⟩
          have m8 : S8.mem.get σ7.next = some (.cells 3 [i64 (y.1 : Int), u64 (y.2.1 : Int), y.2.2.1]) := by rw [hS8]; simp
          rw [← hS8]
          have hE8 := hE.grow g8
          cases fz with
          | true =>
            simp [lk_cons, w4]
            exact ⟨way.length - (j + 1), by omega, j + 1, sure, rfl, hjl, hE8, by simp⟩
          | false =>
            simp [lk_cons, m8]
            refine (hE8.two not_false y.1 y.2.1).ack hq (by omega) hy1 hfz (by omega) _ fun v σ9 k2 hlv hE9 n9 hsk => ?_
            have w10 : IntKind.i64.wrap ((sure : Int) + (k2 : Int)) = ((sure + k2 : Nat) : Int) := by rw [IntWalk.i64_in] <;> omega
            simp [lk_cons, ↓hlv, w10, w4]
            exact ⟨way.length - (j + 1), by omega, j + 1, sure + k2, rfl, hjl, hE9, by simp⟩
        · have : j = way.length := by omega
          subst this
          simp [lk_cons]
          obtain ⟨cls, ents, its, pm, clk, L, bs, S, ks, kf, b1, b2, b3, b4⟩ := hE
          obtain ⟨hb6, mp6, hm6, cm1, cm2, cm3⟩ := ks.pmm
          obtain ⟨fp, wvv, hw, hfp⟩ := ks.pw
          obtain ⟨pb6, gv, _⟩ := ks.pv
          have hbl : ∀ k l, lkp its k = some l → l.length = 2 := fun k l hk => by
            have h1 := kf.its k l hk
            have h2 := (List.getElem?_eq_some_iff.1 h1).1
            obtain ⟨d, hd⟩ : ∃ d, wr[k]? = some d := ⟨_, List.getElem?_eq_getElem (by have := ks.pd.1; omega)⟩
            obtain ⟨l', y1, y2, o, t, z1, z2, z3, z4, z5⟩ := ks.pd.get hd
            rw [h1] at y1
            rw [Option.some.inj y1]
            exact z5
          refine result_c hm6 hq (by omega) (fun k l hk => by have := hbl k l hk; omega) _ (fun h => by rw [hcov] at h; cases h) fun _ n v hn1 hn2 hnl hit => ⟨fun h => absurd h (Nat.not_lt_zero _), fun _ => ?_⟩
          have hsn : sure ≤ n := by
            rcases Nat.lt_or_ge n sure with h | h
            · exact absurd hn2 (kf.mkk.done ⟨hq.1, hq.2.1, hq.2.2.1⟩ hcov h)
            · exact h
          have vl := hit.len
          have wu : IntKind.u64.wrap (sure : Int) = (sure : Int) := by rw [IntWalk.u64_in]; omega
          rw [pre_len] at vl
          have hsn' : (sure : Int) ≤ n := by omega
          simp [lk_cons, ↓vl, hsn, hsn', wu]
          refine sure_c hw _ ?_
          simp [lk_cons]
          refine held_c gv ks.pd hit (by rw [pre_len]; omega) (fun k x hx => ?_) _ fun σ8 => ?_
          · have hk : k < n := by have := (List.getElem?_eq_some_iff.1 hx).1; rwa [pre_len] at this
            have e1 : (pre (lkp its) n)[k]? = some (k, (lkp its k).getD []) := by simp [pre, hk]
            rw [e1] at hx
            have hx := (Option.some.inj hx).symm
            subst hx
            refine ⟨rfl, ?_⟩
            obtain ⟨l, hl⟩ := Option.ne_none_iff_exists'.1 (hn1 k hk)
            show bs[k]? = some ((lkp its k).getD [])
            rw [hl]
            exact kf.its k l hl
          · simp [lk_cons]
    refine wp_loop (KpJ 0 w m pb fb P W A av acts.length) acts.length ?_ ?_
    · exact ⟨0, 0, _, _, _, _, _, rfl, Nat.zero_le _, by omega, ini, rfl⟩
    clear ini hK
    clear G5 hwl e8 e3 e2 e1 e4 mS5 kS5 nS5 hS5 q4 hinj hpm m4 k4 n4 kS3 mS3 nS3 hS3 q2 hw2 k2 hm hml q1 hk1 hw hq0 hfp g1 g2 g3 hpb hfb
    rintro mm rg σ6 ⟨i, sure, hd, yv, wv, way, wr, rfl, hi, hi2, hE, rfl⟩
    have fin : ∀ rg : Regs, rg.lookup 6 = some (.ptr w 0) → rg.lookup 8 = some (.ptr m 0) → rg.lookup 12 = some (.sl fb 0 P P true) → rg.lookup 13 = some yv → rg.lookup 14 = some wv → rg.lookup 15 = some (i64 sure) → ∀ σ7, Grow σ6 σ7 → K .normal rg σ7 := fun rg h1 h2 h3 h4 h5 h6 σ7 g => by
      obtain ⟨cls, ents, its, pm, clk, L, bs, S, ks, rest⟩ := hE
      exact tail rg σ7 ⟨i, sure, hd, yv, wv, way, wr, hi2, ⟨cls, ents, its, pm, clk, L, bs, S, ks.frm (Frm.ofG g), rest⟩, h1, h2, h3, h4, h5, h6⟩
    have nxt : ∀ {sure' : Nat} {hd' : List Bool} {yv' wv' : AVal} {way' : List YV} {wr' : List VV} {σ7 : St}, i < acts.length → i ≤ 200 → KE σ7 0 w m pb fb P W A sure' hd' yv' way' wv' wr' (i + 1) True → ∃ mm, mm < acts.length - i ∧ KpJ 0 w m pb fb P W A av acts.length mm [(5, .ptr 0 0), (6, .ptr w 0), (8, .ptr m 0), (10, .sl pb 0 P P true), (12, .sl fb 0 P P true), (13, yv'), (14, wv'), (15, i64 sure'), (63, av), (64, i64 acts.length), (65, i64 ((i + 1 : Nat) : Int))] σ7 := fun h1 h2 h3 =>
      ⟨acts.length - (i + 1), by omega, i + 1, _, _, _, _, _, _, rfl, h1, by omega, h3, rfl⟩
    by_cases hlt : i < acts.length
    · obtain ⟨a, hact⟩ : ∃ a, acts[i]? = some a := ⟨_, List.getElem?_eq_getElem hlt⟩
      obtain ⟨ap, ap1, ap2⟩ := ha.at hact
      simp [lk_cons, hlt, ↓ap1, ↓ap2, actC, storeL]
      obtain ⟨X, hX⟩ : ∃ X, σ6.next = X := ⟨_, rfl⟩
      obtain ⟨S6, hS6⟩ : ∃ S : St, S = ⟨(σ6.mem.set σ6.next (.cells 4 [.int .u8 0, .int .u8 0, .int .u8 0, .bool false])).set σ6.next (.cells 4 [.int .u8 (a.kind : Int), .int .u8 (a.place : Int), .int .u8 (a.which : Int), .bool a.lost]), σ6.next + 1⟩ := ⟨_, rfl⟩
      have nS6 : S6.next = X + 1 := by rw [hS6, ← hX]
      have g6 : Grow σ6 S6 := ⟨by omega, fun b hb => by rw [hS6]; simp [show ¬ b = σ6.next by omega]⟩
      have mX : S6.mem.get X = some (.cells 4 [.int .u8 (a.kind : Int), .int .u8 (a.place : Int), .int .u8 (a.which : Int), .bool a.lost]) := by rw [hS6, hX]; simp
      rw [← hS6]
      simp only [hX]
      by_cases h200 : 200 < i
      · have h200' : (200 : Int) < i := by omega
        simp [lk_cons, h200, h200']
        exact fin _ (by simp [lk_cons]) (by simp [lk_cons]) (by simp [lk_cons]) (by simp [lk_cons]) (by simp [lk_cons]) (by simp [lk_cons]) S6 g6
      have h200' : ¬ (200 : Int) < i := by omega
      simp [lk_cons, h200, h200']
      have hE' := hE
      obtain ⟨cls, ents, its, pm, clk, L, bs, S, ks, kf, b1, b2, b3, b4⟩ := hE'
      have ks6 := ks.frm (Frm.ofG g6)
      obtain ⟨hb6, mp6, hm6, cm1, cm2, cm3⟩ := ks6.pmm
      refine ready_c hm6 hq _ ?_
      cases hcov : covP P W A hd with
      | true =>
        simp [lk_cons]
        exact fin _ (by simp [lk_cons]) (by simp [lk_cons]) (by simp [lk_cons]) (by simp [lk_cons]) (by simp [lk_cons]) (by simp [lk_cons]) S6 g6
      | false =>
        have q6 := ks6.pp.q.1
        obtain ⟨a1, a2, a3⟩ := hab a (List.mem_of_getElem? hact)
        have P0 : ¬ P = 0 := by omega
        have w1 : IntKind.i64.wrap (a.place : Int) = a.place := by rw [IntWalk.i64_in] <;> omega
        have w2 : (a.place : Int).tmod (P : Int) = ((a.place % P : Nat) : Int) := (Int.ofNat_tmod _ _).symm
        have w3 : (a.kind : Int).tmod 6 = ((a.kind % 6 : Nat) : Int) := (Int.ofNat_tmod a.kind 6).symm
        have w4 : IntKind.i64.wrap ((i : Int) + 1) = ((i + 1 : Nat) : Int) := by rw [IntWalk.i64_in] <;> omega
        obtain ⟨kd, hkd⟩ : ∃ kd, a.kind % 6 = kd := ⟨_, rfl⟩
        have hkd6 : kd < 6 := by omega
        obtain ⟨pl, hpl⟩ : ∃ pl, a.place % P = pl := ⟨_, rfl⟩
        have hplP : pl < P := by rw [← hpl]; exact Nat.mod_lt _ (by omega)
        rw [hkd] at w3
        rw [hpl] at w2
        simp [lk_cons, mX, q6, w1, w2, P0, w3]
        by_cases hk2 : kd < 2
        · have hk2' : (kd : Int) < 2 := by omega
          have w5 : IntKind.u8.wrap (i : Int) = i := by rw [IntWalk.u8_in]; omega
          simp [lk_cons, hk2, hk2', mX, fillL, repL, storeL, w5]
          obtain ⟨bl, hbl, hbl2⟩ : ∃ bl : List UInt8, [AVal.int .u8 (i : Int), AVal.int .u8 (a.which : Int)] = bytesV bl ∧ bl.length = 2 := by
            have e1 : (UInt8.ofNat i).toNat = i := by simp; omega
            have e2 : (UInt8.ofNat a.which).toNat = a.which := by simp; omega
            exact ⟨[UInt8.ofNat i, UInt8.ofNat a.which], by simp only [bytesV, List.map_cons, List.map_nil, e1, e2], rfl⟩
          rw [hbl]
          refine (hE.grow g6).add hq.2.2.2 (by omega) hbl2 (d := ⟨.sl S6.next 0 2 2 true, rfl⟩) rfl _ ?_ fun σ8 hA8 hlt8 => ?_
          · have q7 : (S6.mem.set S6.next (.cells 1 (bytesV bl))).get 0 = some (.cells 3 [i64 P, i64 W, i64 A]) := by
              simp [show ¬ 0 = S6.next by omega]; exact q6
            have g7 : Grow S6 ⟨S6.mem.set S6.next (.cells 1 (bytesV bl)), S6.next + 1⟩ := ⟨by simp, fun b hb => by simp [show ¬ b = S6.next by omega]⟩
            simp [lk_cons, q7]
            refine rset P W A 0 hq (by omega) _ _ ?_
            simp [lk_cons]
            refine wp_loop (Ks0J 0 w m pb fb P W av yv wv (.sl S6.next 0 2 2 true) sure 0 14 i acts.length ⟨S6.mem.set S6.next (.cells 1 (bytesV bl)), S6.next + 1⟩) W ?_ ?_
            · exact ⟨0, rfl, Nat.zero_le _, rfl, by simp [lk_cons]⟩
            rintro mm rg σ8 ⟨j, rfl, hj, rfl, rfl⟩
            have hsl := setP_len P W 0
            by_cases hjW : j < W
            · obtain ⟨x, hx⟩ : ∃ x, (setP P W 0)[j]? = some x := ⟨_, List.getElem?_eq_getElem (by omega)⟩
              obtain ⟨p, z1, z2⟩ := iv_at (t := false) hx
              rw [hsl] at z1
              have hjW' : (j : Int) < W := by omega
              have w6 : IntKind.i64.wrap ((j : Int) + 1) = ((j + 1 : Nat) : Int) := by rw [IntWalk.i64_in] <;> omega
              simp [lk_cons, hjW, hjW', ↓z1, ↓z2, w6]
              exact ⟨W - (j + 1), by omega, j + 1, rfl, by omega, rfl, by simp⟩
            · have hjW' : ¬ (j : Int) < W := by omega
              simp [lk_cons, hjW, hjW', w4]
              exact nxt hlt (by omega) ((hE.grow g6).grow g7).up
          · simp [lk_cons]
            obtain ⟨σ9, u1, hE9⟩ := hA8.push (by omega)
            have q9 := hE9.qc.1
            have hfw := hE.few
            simp [lk_cons, fillL, repL, storeL, ↓u1, q9]
            obtain ⟨e, he⟩ : ∃ e, wr.length = e := ⟨_, rfl⟩
            rw [he]
            rw [he] at hE9
            refine rset P W A e hq (by omega) _ _ ?_
            simp [lk_cons]
            have hdv : (wr ++ [(⟨.sl S6.next 0 2 2 true, rfl⟩ : VV)])[e]? = some ⟨.sl S6.next 0 2 2 true, rfl⟩ := by rw [← he]; simp
            refine wp_loop (Ks1J 0 w m pb fb P W A av (.sl (σ8.next + 1) 0 (e + 1) (e + 1) false) (.sl S6.next 0 2 2 true) hd (wr ++ [⟨.sl S6.next 0 2 2 true, rfl⟩]) sure e i acts.length) W ?_ ?_
            · exact ⟨0, yv, way, rfl, Nat.zero_le _, by omega, hE9, by simp [lk_cons]⟩
            rintro mm rg σ10 ⟨j, yv2, way2, rfl, hj, hw2, hE10, rfl⟩
            have hsl := setP_len P W e
            by_cases hjW : j < W
            · obtain ⟨x, hx⟩ : ∃ x, (setP P W e)[j]? = some x := ⟨_, List.getElem?_eq_getElem (by omega)⟩
              obtain ⟨p, z1, z2⟩ := iv_at (t := false) hx
              rw [hsl] at z1
              have hjW' : (j : Int) < W := by omega
              have w6 : IntKind.i64.wrap ((j : Int) + 1) = ((j + 1 : Nat) : Int) := by rw [IntWalk.i64_in] <;> omega
              obtain ⟨σ11, v1, hE11⟩ := hE10.pushY (x, e, ⟨.sl S6.next 0 2 2 true, rfl⟩) ⟨List.mem_of_getElem? hx, hdv⟩ (by omega) (by omega)
              simp [rwY] at v1
              simp [lk_cons, hjW, hjW', ↓z1, ↓z2, fillL, repL, storeL, ↓v1, w6]
              exact ⟨W - (j + 1), by omega, j + 1, _, _, rfl, by omega, by simp; omega, hE11, by simp⟩
            · have hjW' : ¬ (j : Int) < W := by omega
              simp [lk_cons, hjW, hjW', w4]
              exact nxt hlt (by omega) hE10
        have hk2' : ¬ (kd : Int) < 2 := by omega
        simp [lk_cons, hk2, hk2', mX, w3]
        by_cases hk5 : kd < 5
        · have hk5' : (kd : Int) < 5 := by omega
          have hE6 := hE.grow g6
          obtain ⟨yl, yat⟩ := hE6.yv1
          have hfw := hE6.few
          simp [lk_cons, hk5, hk5', ↓yl]
          by_cases h0 : 0 < way.length
          · have w7 : IntKind.i64.wrap (a.which : Int) = a.which := by rw [IntWalk.i64_in] <;> omega
            have w8 : (a.which : Int).tmod (way.length : Int) = ((a.which % way.length : Nat) : Int) := (Int.ofNat_tmod _ _).symm
            obtain ⟨k, hk⟩ : ∃ k, a.which % way.length = k := ⟨_, rfl⟩
            have hkl : k < way.length := by rw [← hk]; exact Nat.mod_lt _ h0
            rw [hk] at w8
            have hw0 : ¬ (way.length : Int) = 0 := by omega
            have hw0' : ¬ way = [] := fun e => by rw [e] at h0; simp at h0
            obtain ⟨y, hy⟩ : ∃ y, way[k]? = some y := ⟨_, List.getElem?_eq_getElem hkl⟩
            obtain ⟨⟨hy1, hy2⟩, oy, yo1, yo2⟩ := yat k y hy
            have yo2 := yo2 S6 ⟨Nat.le_refl _, fun _ _ => rfl⟩
            have hyP : y.1 < P := setP_lt (by omega) hy1
            have d1 := y.2.2.2
            simp [rwY] at yo2
            simp [lk_cons, h0, mX, ↓yl, w7, w8, hw0, hw0', ↓yo1, ↓yo2, storeL, d1]
            obtain ⟨Y, hY⟩ : ∃ Y, S6.next = Y := ⟨_, rfl⟩
            obtain ⟨S9, hS9⟩ : ∃ S : St, S = ⟨(S6.mem.set S6.next (.cells 3 [.int .i64 0, .int .u64 0, .nilsl])).set S6.next (.cells 3 [i64 (y.1 : Int), u64 (y.2.1 : Int), y.2.2.1]), S6.next + 1⟩ := ⟨_, rfl⟩
            have nS9 : S9.next = Y + 1 := by rw [hS9, ← hY]
            have g9 : Grow S6 S9 := ⟨by omega, fun b hb => by rw [hS9]; simp [show ¬ b = S6.next by omega]⟩
            have mY : S9.mem.get Y = some (.cells 3 [i64 (y.1 : Int), u64 (y.2.1 : Int), y.2.2.1]) := by rw [hS9, hY]; simp
            have mX9 := (g9.2 X (by omega)).trans mX
            rw [← hS9]
            simp only [hY]
            have g69 : Grow σ6 S9 := ⟨by have := g6.1; have := g9.1; omega, fun b hb => (g9.2 b (by have := g6.1; omega)).trans (g6.2 b hb)⟩
            obtain ⟨v1, v2, v', σ10, r1, r2, r3, hE10, ov', n10, k10⟩ := hE.rmY g69 hkl (by omega)
            have r2 : evalV S9 (.slice 3 yv (some (.int .i64 ((k : Int) + 1))) none none) = some (v2, S9) := r2
            have w9 : IntKind.i64.wrap ((k : Int) + 1) = ((k + 1 : Nat) : Int) := by rw [IntWalk.i64_in] <;> omega
            have mY10 := (k10 Y (by have := g6.1; omega) (by omega)).trans mY
            have mX10 := (k10 X (by omega) (by omega)).trans mX9
            obtain ⟨f10, f10'⟩ := hE10.f1
            have hhl := hE10.few.2.2.2
            have hget := bv_get hd y.1 (by omega)
            obtain ⟨fz, hfz⟩ : ∃ fz, hd.getD y.1 false = fz := ⟨_, rfl⟩
            rw [hfz] at hget
            simp [lk_cons, optM, w9, ↓r1, ↓r2, ↓r3, mY10, f10, hyP, hget]
            cases fz with
            | true =>
              simp [lk_cons, w4]
              exact nxt hlt (by omega) hE10.up
            | false =>
              cases hlost : a.lost with
              | true =>
                simp [lk_cons, mX10, hlost, w4]
                exact nxt hlt (by omega) hE10.up
              | false =>
                have hwl : y.2.1 < wr.length := (List.getElem?_eq_some_iff.1 hy2).1
                obtain ⟨CS, mk, c, l, s1, s2, s2', s3, s4, s5, hput⟩ := hE10.put (y := y) ⟨Nat.le_refl _, fun _ _ => rfl⟩ hyP hy2
                have eY : ¬ Y = mk := fun e => by rw [e, s3] at mY10; cases mY10
                have go : ∀ S11 : St, S11.mem.get Y = some (.cells 3 [i64 (y.1 : Int), u64 (y.2.1 : Int), y.2.2.1]) → KE2 S11 0 w m pb fb P W A sure hd v' (way.take k ++ way.drop (k + 1)) wv wr (i + 1) True y.1 y.2.1 → True := fun _ _ _ => trivial
                rcases hput with ⟨hf, hE12⟩ | ⟨ix, d0, hf, hE12⟩
                · simp [lk_cons, mX10, hlost, mY10, s1, s2, hyP, s3, keyIs, shapeOk, kShape, hf, eY]
                  refine hE12.ack hq (by omega) hy1 hfz (by omega) _ fun v σ13 k2 hlv hE13 n13 hsk => ?_
                  have w10 : IntKind.i64.wrap ((sure : Int) + (k2 : Int)) = ((sure + k2 : Nat) : Int) := by rw [IntWalk.i64_in] <;> omega
                  simp [lk_cons, ↓hlv, w10, w4]
                  exact nxt hlt (by omega) hE13
                · simp [lk_cons, mX10, hlost, mY10, s1, s2, hyP, s3, keyIs, shapeOk, kShape, hf, eY]
                  refine hE12.ack hq (by omega) hy1 hfz (by omega) _ fun v σ13 k2 hlv hE13 n13 hsk => ?_
                  have w10 : IntKind.i64.wrap ((sure : Int) + (k2 : Int)) = ((sure + k2 : Nat) : Int) := by rw [IntWalk.i64_in] <;> omega
                  simp [lk_cons, ↓hlv, w10, w4]
                  exact nxt hlt (by omega) hE13
          · have h0' : way = [] := List.eq_nil_of_length_eq_zero (by omega)
            have hk5n : ¬ (kd : Int) = 5 := by omega
            have hk5n' : ¬ kd = 5 := by omega
            simp [lk_cons, h0, h0', mX, w3, hk5n, hk5n', w4]
            exact nxt hlt (by omega) (h0' ▸ hE6.up)
        have hk5e : kd = 5 := by omega
        subst hk5e
        obtain ⟨f6, f6'⟩ := ks6.pf
        obtain ⟨pp1, pp2, pp3⟩ := ks6.pp.pl
        obtain ⟨pe1, pe2, pe3⟩ := ks6.pp.pe pl hplP
        have hhl := kf.hl
        have hget := bv_get hd pl (by omega)
        obtain ⟨fz, hfz⟩ : ∃ fz, hd.getD pl false = fz := ⟨_, rfl⟩
        rw [hfz] at hget
        obtain ⟨CS, hCS⟩ : ∃ CS, (List.range P).map (fun p => AVal.map (pm p)) = CS := ⟨_, rfl⟩
        have hCl : CS.length = P := by rw [← hCS]; simp
        have hCg : CS[pl]? = some (.map (pm pl)) := by rw [← hCS]; simp [hplP]
        rw [hCS] at pp1
        simp [lk_cons, mX, w3, hplP, f6, hget]
        cases fz with
        | true =>
          simp [lk_cons, w4]
          exact nxt hlt (by omega) (hE.grow g6).up
        | false =>
          have hset : (bv hd).set pl (.bool true) = bv (hd.set pl true) := by simp [bv, List.map_set]
          have hle1 : pl + 1 ≤ hd.length := by omega
          have ePF : ¬ pb = fb := fun e => by have := ks6.pf.2.2; rw [← e, pp3] at this; cases this
          have eMF : ¬ pm pl = fb := fun e => by have := ks6.pf.2.2; rw [← e, pe3] at this; cases this
          simp [lk_cons, hplP, f6, storeL, hset, hle1, pp1, hCg, ePF, eMF, pe1]
          obtain ⟨it, hit⟩ : ∃ it, S6.next = it := ⟨_, rfl⟩
          obtain ⟨mk, hmk⟩ : ∃ mk, pm pl = mk := ⟨_, rfl⟩
          obtain ⟨ck, hck⟩ : ∃ ck, clk pl = ck := ⟨_, rfl⟩
          obtain ⟨le, hle⟩ : ∃ le, L pl = le := ⟨_, rfl⟩
          have k1 := kf.lt pl hplP
          have k2 := kf.nd pl hplP
          have k3 := kf.le pl hplP
          have k4 := b4 pl hplP
          rw [hmk] at pe1 pe2 pe3 eMF
          rw [hck] at pe1 k1
          rw [hle] at pe1 k1 k2 k3 k4
          simp only [hit, hmk, hck]
          obtain ⟨S8, hS8⟩ : ∃ S : St, S = ⟨(S6.mem.set fb (.cells 1 (bv (hd.set pl true)))).set it (.iter (some mk) ck [] ck), it + 1⟩ := ⟨_, rfl⟩
          have nS8 : S8.next = it + 1 := by rw [hS8]
          have f8 : S8.mem.get fb = some (.cells 1 (bv (hd.set pl true))) := by rw [hS8]; simp [show ¬ fb = it by omega]
          have kS8 : ∀ b, b < it → b ≠ fb → S8.mem.get b = S6.mem.get b := fun b hb hne => by rw [hS8]; simp [show ¬ b = it by omega, hne]
          have mi8 : S8.mem.get it = some (.iter (some mk) ck [] ck) := by rw [hS8]; simp
          have mm8 : S8.mem.get mk = some (.map ck le) := (kS8 mk (by omega) eMF).trans pe1
          rw [← hS8]
          refine wp_loop (FnJ 0 w m pb fb P pl it mk ck le wr av yv wv sure i acts.length S8) (leftE [] le) ?_ ?_
          · exact ⟨[], [], .nilsl, none, rfl, by simp [leftE, List.countP_le_length], List.nodup_nil, fun e he => (by cases he), rfl, fun x hx => (by cases hx), fun n ⟨x, hx, _⟩ => (by cases hx), Nat.le_refl _, mi8, fun _ _ _ => rfl, GP.nil _, by simp, rfl⟩
          rintro mm rg σ9 ⟨V, items, lv, lb, rfl, hvl, hv1, hv2, hil, hit1, hit2, n9, g1, g2, g3, g4, rfl⟩
          have eMI : ¬ mk = it := by omega
          obtain ⟨NL, nx1, nx2⟩ := next_all g1 ((g2 mk (by omega) eMI).trans mm8) k1
          simp [lk_cons, ↓nx1]
          intro r1 r2 hp
          rcases nx2 _ hp with ⟨he, hall⟩ | ⟨e, he, hne, hpe⟩
          · cases he
            have hperm := walked k2 hv1 hv2 hall
            have hVl := hperm.length_eq
            obtain ⟨pd1, pd2⟩ := ks6.pd
            have m8 : MRep S8 m hb6 mp6 P W A hd 0 its := by
              have l3 := hm6.lt
              have cf := ks6.pf.2.2
              have : ∀ z, cls z = 2 → z ≠ fb := fun z hz e => by rw [e, cf] at hz; cases hz
              refine hm6.frame (fun a ha => ?_) (by omega)
              rcases ha with rfl | rfl | rfl
              · exact kS8 _ (by omega) (this _ cm1)
              · exact kS8 _ (by omega) (this _ cm2)
              · exact kS8 _ (by omega) (this _ cm3)
            have l3 := hm6.lt
            have m9 : MRep σ9 m hb6 mp6 P W A hd 0 its := m8.frame (fun a ha => by rcases ha with rfl | rfl | rfl <;> exact g2 _ (by omega) (by omega)) n9
            have c7 : ∀ (z : Nat) (c : Nat), cls z = c → c ≠ 7 → ∀ o, cls o = 7 → o ≠ z := fun z c hz hc o ho e => hc (by rw [← hz, ← e, ho])
            have ff := ks6.pf.2.2
            have hxl := hear_len (items := items) ⟨pd1, pd2⟩ hit1
            simp [lk_cons]
            refine hear_m m9 (by omega) (pl : Int) 0 (v := lv) (cs := rws rwI2 items) (xs := xsOf bs items) (fun σ' k => hear_args (b := lb) (S6 := S6) (cls := cls) (wr := wr) (g3.keep k.1 fun a ha hb => k.2 a ha ?_ ?_ ?_) ⟨pd1, pd2⟩ hit1 (by have := k.1; omega) fun o ho hc => (k.2 o (by omega) (c7 _ _ cm1 (by decide) o hc) (c7 _ _ cm2 (by decide) o hc) (c7 _ _ cm3 (by decide) o hc)).trans ((g2 o (by omega) (by omega)).trans (kS8 o (by omega) (c7 _ _ ff (by decide) o hc)))) (by rw [xsOf_len]; omega) (fun x hx => (hxl x hx).1) _ (fun h => ?_) (fun _ _ _ h => ?_) (fun p σ10 its' hp hpP' _ _ hits hil' hm10 k10 => ?_)
            · have := g4 a hb; omega
            · have := g4 a hb; omega
            · have := g4 a hb; omega
            · omega
            · rw [conf_no kf.its _ [] (fun x hx => by cases hx) fun x hx => (hxl x hx).2] at h
              cases h
            · have hpe : p = pl := by omega
              subst hpe
              rw [Nat.max_self] at hm10
              simp [lk_cons, w4]
              refine nxt hlt (by omega) (KS.fence ks6 kf b1 b2 b3 b4 (by omega) hm6 cm1 cm2 cm3 hplP (σ8 := σ9) (by omega) (fun a ha hne => (g2 a (by omega) (by omega)).trans (kS8 a (by omega) hne)) ((g2 fb (by have := ks6.pf.2.1; omega) (by have := ks6.pf.2.1; omega)).trans f8) k10 hm10 hits hil' (fun x hx => (hxl x hx).2) (fun z hz => ?_) (by rw [xsOf_len, hle]; omega))
              obtain ⟨x, hx, hx2⟩ := hz
              rw [hle] at hx
              obtain ⟨it2, hi2, hi3⟩ := hit2 z ⟨x, hperm.mem_iff.2 hx, hx2⟩
              exact ⟨bs.getD it2.1 [], List.mem_map.2 ⟨it2, hi2, by rw [hi3]⟩⟩
          · cases hpe
            obtain ⟨n2, dv, x1, x2, x3⟩ := k3 e he
            have el := entry_last (σ := ⟨σ9.mem.set it (.iter (some mk) ck (V.map (·.1) ++ [e.1]) ck), σ9.next⟩) (it := it) (mp := mk) (clock := ck) (S := V.map (·.1)) (by simp) (by simp [eMI]; exact (g2 mk (by omega) eMI).trans mm8) k2 he
            rw [x1, x3] at el
            have hleft := leftE_lt he hne
            have gA : GP rwI2 ⟨(σ9.mem.set it (.iter (some mk) ck (V.map (·.1) ++ [e.1]) ck)).set σ9.next (.cells 2 [u64 (n2 : Int), dv.1]), σ9.next + 1⟩ lv items lb := g3.keep (by simp) fun a ha hab => by
              have := g4 a hab
              simp [show ¬ a = σ9.next by omega, show ¬ a = it by omega]
            obtain ⟨σ10, u1, u2, u3, u4⟩ := gp_app1 gA (nb := σ9.next) (by_ := 32) (t := true) (x := (n2, dv)) (by decide) (by simp [rwI2]) (fun e => by have := (e ▸ g3).lt; omega) (by omega) (by omega)
            have dv1 := dv.2
            have dv2 : cellsOf dv.1 = [dv.1] := one_cell dv.2
            simp [lk_cons, ↓el, x1, x3, fillL, repL, storeL, ↓u1, dv1, dv2]
            refine ⟨leftE (V.map (·.1) ++ [e.1]) le, hleft, V ++ [e], items ++ [(n2, dv)], _, some (σ9.next + 1), by rw [List.map_append]; rfl, by simp; omega, by rw [List.map_append]; exact List.nodup_append.2 ⟨hv1, by simp, fun a ha b hb he2 => hne (by have h9 := List.mem_singleton.1 (show b ∈ [e.1] from hb); rw [← h9, ← he2]; exact ha)⟩, fun z hz => ?_, by simp [hil], fun z hz => ?_, fun z hz => ?_, by rw [u3]; simp; omega, ?_, fun a ha hai => ?_, u2, fun z hz => by cases hz; omega, by simp [hil]⟩
            · rcases List.mem_append.1 hz with hz | hz
              · exact hv2 z hz
              · rw [List.mem_singleton.1 hz]; exact he
            · rcases List.mem_append.1 hz with hz | hz
              · exact hit1 z hz
              · rw [List.mem_singleton.1 hz]; exact x2
            · obtain ⟨y, hy, hy2⟩ := hz
              rcases List.mem_append.1 hy with hy | hy
              · obtain ⟨x, hx, hx'⟩ := hit2 z ⟨y, hy, hy2⟩
                exact ⟨x, by simp [hx], hx'⟩
              · rw [List.mem_singleton.1 hy, x1] at hy2
                have : n2 = z := by injection hy2 with _ h; exact Int.ofNat.inj h
                exact ⟨(n2, dv), by simp, this⟩
            · rw [u4 it (by simp; omega) fun e => by have := g4 _ e; omega]
              simp [show ¬ it = σ9.next by omega]
            · rw [u4 a (by simp; omega) fun e => by have := g4 _ e; omega]
              simp [show ¬ a = σ9.next by omega, hai]
              exact g2 a ha hai
    · have : i = acts.length := by omega
      simp [lk_cons, hlt]
      exact fin _ (by simp [lk_cons]) (by simp [lk_cons]) (by simp [lk_cons]) (by simp [lk_cons]) (by simp [lk_cons]) (by simp [lk_cons]) σ6 ⟨Nat.le_refl _, fun _ _ => rfl⟩
end Go.Proofs.Ytopagbaokokjdaa.AM
