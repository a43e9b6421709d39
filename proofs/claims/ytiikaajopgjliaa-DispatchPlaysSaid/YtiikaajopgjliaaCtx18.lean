/- What the functions of this chapter give: their contracts over the machine. -/
import Derived.Test.YtiikaajopgjliaaCt18
/- The document's desk in memory; at. -/
namespace Go.Proofs.Ytiikaajopgjliaa.AM
set_option maxRecDepth 100000
set_option linter.unusedVariables false
set_option linter.unusedSimpArgs false

theorem tc_get0 {l : List (Nat × Int)} {i : Nat} {x : Nat × Int} (h : l[i]? = some x) : (tc l)[i * 2]? = some (u64 (x.1 : Int)) := by
  have h1 := tc_get h
  have h2 := congrArg (·[0]?) h1
  simp only [List.getElem?_take, List.getElem?_drop] at h2
  simpa using h2
theorem tc_get1 {l : List (Nat × Int)} {i : Nat} {x : Nat × Int} (h : l[i]? = some x) : (tc l)[i * 2 + 1]? = some (i64 x.2) := by
  have h1 := tc_get h
  have h2 := congrArg (·[1]?) h1
  simp only [List.getElem?_take, List.getElem?_drop] at h2
  simpa using h2
structure Rk where
  kind : Nat
  L : List (Nat × Int)
  O : List OutR
  last : Nat
structure ROwn where
  r : Nat
  lb : Option Nat
  ob : Option Nat
def ROwn.has (w : ROwn) (a : Nat) : Prop := a = w.r ∨ w.lb = some a ∨ w.ob = some a
def SL (σ : St) (es : Nat) (rows : List AVal) (n : Nat) (v : AVal) (b : Option Nat) : Prop := v = .nilsl ∧ n = 0 ∧ rows = [] ∧ b = none ∨ ∃ x t, b = some x ∧ v = .sl x 0 n n t ∧ x < σ.next ∧ σ.mem.get x = some (.cells es rows)
structure RR (σ : St) (w : ROwn) (R : Rk) : Prop where
  head : ∃ lv ov, σ.mem.get w.r = some (.cells 4 [.int .u8 (R.kind : Int), lv, ov, u64 (R.last : Int)]) ∧ SL σ 2 (tc R.L) R.L.length lv w.lb ∧ SL σ 4 (oc R.O) R.O.length ov w.ob
  lt : w.r < σ.next
  ne : w.lb ≠ some w.r ∧ w.ob ≠ some w.r ∧ ∀ x, w.lb = some x → w.ob ≠ some x
structure RStp (w w' : ROwn) (σ σ' : St) : Prop where
  r : w'.r = w.r
  own : ∀ x, w'.has x → w.has x ∨ σ.next ≤ x
  next : σ.next ≤ σ'.next
  keep : ∀ a, a < σ.next → ¬ w.has a → σ'.mem.get a = σ.mem.get a
theorem RStp.refl (w : ROwn) (σ : St) : RStp w w σ σ := ⟨rfl, fun _ h => .inl h, Nat.le_refl _, fun _ _ _ => rfl⟩
theorem SL.keep {σ σ' : St} {es n : Nat} {rows : List AVal} {v : AVal} {b : Option Nat} (h : SL σ es rows n v b) (hn : σ.next ≤ σ'.next) (hm : ∀ a, a < σ.next → b = some a → σ'.mem.get a = σ.mem.get a) : SL σ' es rows n v b := by
  rcases h with h | ⟨x, t, h1, h2, h3, h4⟩
  · exact .inl h
  · exact .inr ⟨x, t, h1, h2, by omega, (hm x h3 h1).trans h4⟩
theorem RR.keep {σ σ' : St} {w : ROwn} {R : Rk} (h : RR σ w R) (hn : σ.next ≤ σ'.next) (hm : ∀ a, a < σ.next → w.has a → σ'.mem.get a = σ.mem.get a) : RR σ' w R := by
  obtain ⟨⟨lv, ov, h1, h2, h3⟩, h4, h5⟩ := h
  exact ⟨⟨lv, ov, (hm _ h4 (.inl rfl)).trans h1, h2.keep hn fun a ha hb => hm a ha (.inr (.inl hb)), h3.keep hn fun a ha hb => hm a ha (.inr (.inr hb))⟩, by omega, h5⟩
theorem RR.lt' {σ : St} {w : ROwn} {R : Rk} (h : RR σ w R) {a : Nat} (ha : w.has a) : a < σ.next := by
  obtain ⟨⟨lv, ov, _, h2, h3⟩, h4, _⟩ := h
  rcases ha with e | e | e
  · omega
  · rcases h2 with ⟨_, _, _, h0⟩ | ⟨x, t, h0, _, h6, _⟩
    · rw [h0] at e; cases e
    · rw [h0] at e; cases e; exact h6
  · rcases h3 with ⟨_, _, _, h0⟩ | ⟨x, t, h0, _, h6, _⟩
    · rw [h0] at e; cases e
    · rw [h0] at e; cases e; exact h6
theorem SL.len {σ : St} {es n : Nat} {rows : List AVal} {v : AVal} {b : Option Nat} (h : SL σ es rows n v b) (ρ : St) : evalV ρ (.len 1 v) = some (i64 n, ρ) := by
  rcases h with ⟨rfl, rfl, _⟩ | ⟨x, t, _, rfl, _⟩ <;> simp

abbrev ids (l : List (Nat × Int)) : List Nat := l.map (·.1)
def AtJ (w : ROwn) (c : Nat) (R : Rk) (σ0 : St) (mm : Nat) (rg : Regs) (σ' : St) : Prop := ∃ i : Nat, mm = R.L.length - i ∧ i ≤ R.L.length ∧ (∀ x ∈ (ids R.L).take i, x ≠ c) ∧ σ' = σ0 ∧ rg = [(0, .ptr w.r 0), (1, u64 (c : Int)), (5, i64 i)]
theorem at47_c {σ : St} {w : ROwn} {R : Rk} (h : RR σ w R) (hl : R.L.length ≤ 1000) (c : Nat) (Q : AVal → St → Prop) (hQ : Q (i64 (idxN (ids R.L) c)) σ) : ACall Try.prog 47 [.ptr w.r 0, u64 (c : Int)] σ Q := by
  refine ACall.of_compF hmx (fun a w => Try.call47 a w) Try.func47 cf47 (n := 2) (by decide) rfl ?_
  obtain ⟨⟨lv, ov, hh, hL, hO⟩, hlt, hne⟩ := id h
  have l1 := hL.len
  simp [ac47, rs47, lk_cons]
  refine wp_loop (AtJ w c R σ) R.L.length ?_ ?_
  · exact ⟨0, rfl, Nat.zero_le _, by simp, rfl, rfl⟩
  · rintro mm rg σ' ⟨i, rfl, hi, hp, rfl, rfl⟩
    by_cases hlt2 : i < R.L.length
    · obtain ⟨x, hx⟩ : ∃ x, R.L[i]? = some x := ⟨_, List.getElem?_eq_getElem hlt2⟩
      have w1 : IntKind.i64.wrap ((i : Int) + 1) = ((i + 1 : Nat) : Int) := by rw [IntWalk.i64_in] <;> omega
      have hx' : (ids R.L)[i]? = some x.1 := by simp [hx]
      rcases hL with ⟨_, h0, _⟩ | ⟨b, t, hb, rfl, hb2, hb3⟩
      · omega
      have t0 := tc_get0 hx
      by_cases hxc : x.1 = c
      · have hi1 := idxN_some (l := ids R.L) (n := c) (i := i) (hxc ▸ hx') hp
        rw [hi1] at hQ
        simp [lk_cons, hh, hlt2, hb3, t0, hxc]
        exact hQ
      · have hxc' : ¬ (x.1 : Int) = c := by omega
        simp [lk_cons, hh, hlt2, hb3, t0, hxc, hxc', w1]
        refine ⟨R.L.length - (i + 1), by omega, i + 1, rfl, by omega, fun y hy => ?_, rfl, rfl⟩
        rw [List.take_add_one, hx'] at hy
        rcases List.mem_append.1 hy with hy | hy
        · exact hp y hy
        · simp at hy; rw [hy]; exact hxc
    · obtain rfl : i = R.L.length := by omega
      have hp' : ∀ x ∈ ids R.L, x ≠ c := by rw [List.take_of_length_le (by simp)] at hp; exact hp
      rw [idxN_none hp'] at hQ
      simp [lk_cons, hh, ↓l1]
      exact hQ
end Go.Proofs.Ytiikaajopgjliaa.AM

/- The document's desk: Join, Flow. -/
namespace Go.Proofs.Ytiikaajopgjliaa.AM
set_option maxRecDepth 100000
set_option linter.unusedVariables false
set_option linter.unusedSimpArgs false

theorem idx_ge (l : List Nat) (c : Nat) : (0 ≤ idxN l c) ↔ c ∈ l := by
  constructor
  · intro h
    simp only [idxN] at h
    split at h
    · rename_i i hi
      have := List.findIdx?_eq_some_iff_getElem.1 hi
      obtain ⟨h1, h2, _⟩ := this
      have : l[i] = c := by simpa using h2
      rw [← this]; exact List.getElem_mem h1
    · omega
  · intro h
    simp only [idxN]
    split
    · omega
    · rename_i hn
      simp only [List.findIdx?_eq_none_iff] at hn
      have := hn c h
      simp at this
theorem rjoin_c {σ : St} {w : ROwn} {R : Rk} (h : RR σ w R) (hl : R.L.length ≤ 8) (c : Nat) (Q : AVal → St → Prop) (h1 : joinK R.kind (ids R.L) c ≠ 0 → Q (i64 (joinK R.kind (ids R.L) c)) σ)
    (h2 : ∀ w' σ', joinK R.kind (ids R.L) c = 0 → RR σ' w' { R with L := R.L ++ [(c, 0)] } → RStp w w' σ σ' → Q (i64 0) σ') : ACall Try.prog 31 [.ptr w.r 0, u64 (c : Int)] σ Q := by
  refine ACall.of_compF hmx (fun a w => Try.call31 a w) Try.func31 cf31 (n := 2) (by decide) rfl ?_
  obtain ⟨⟨lv, ov, hh, hL, hO⟩, hlt, hne⟩ := id h
  have l1 := hL.len
  have bad : ∀ x : Int, joinK R.kind (ids R.L) c = x → x ≠ 0 → Q (i64 x) σ := fun x hx h0 => by
    have := h1 (by rw [hx]; exact h0)
    rw [hx] at this; exact this
  by_cases hc0 : c = 0
  · have hc0' : (c : Int) = 0 := by omega
    simp [ac31, rs31, lk_cons, hc0, hc0']
    exact bad 2 (by simp [joinK, hc0]) (by omega)
  have hc0' : ¬ (c : Int) = 0 := by omega
  simp [ac31, rs31, lk_cons, hc0, hc0']
  refine at47_c h (by omega) c _ ?_
  have hge := idx_ge (ids R.L) c
  by_cases hcL : c ∈ ids R.L
  · have := hge.2 hcL
    simp [lk_cons, this]
    exact bad 12 (by simp only [joinK, if_neg hc0, if_pos hcL]) (by omega)
  have hge' : ¬ 0 ≤ idxN (ids R.L) c := fun e => hcL (hge.1 e)
  have hil : (ids R.L).length = R.L.length := by simp
  have hkeq : R.kind = 1 ↔ (R.kind : Int) = 1 := by omega
  by_cases hk : R.kind = 1 ∧ 0 < R.L.length
  · have hk1 : (R.kind : Int) = 1 := by omega
    have hk2 : (0 : Int) < R.L.length := by omega
    simp [lk_cons, hge', hh, ↓l1, hk1, hk2, hk.1, hk.2]
    exact bad 50 (by simp only [joinK, if_neg hc0, if_neg hcL, hil, if_pos hk]) (by omega)
  by_cases h8 : R.L.length = 8
  · have h8' : (R.L.length : Int) = 8 := by omega
    have hk1 : ¬ R.kind = 1 := fun e => hk ⟨e, by omega⟩
    have hk1' : ¬ (R.kind : Int) = 1 := by omega
    simp [lk_cons, hge', hh, ↓l1, h8, h8', hk1, hk1']
    exact bad 14 (by simp only [joinK, if_neg hc0, if_neg hcL, hil, if_neg hk]; rw [if_pos (by omega)]) (by omega)
  have hj : joinK R.kind (ids R.L) c = 0 := by simp only [joinK, if_neg hc0, if_neg hcL, hil, if_neg hk]; rw [if_neg (by omega)]
  have h8' : ¬ (R.L.length : Int) = 8 := by omega
  have e1 : ¬ w.r = σ.next := by omega
  have e2 : ¬ σ.next = w.r := by omega
  have e3 : ¬ σ.next + 1 = w.r := by omega
  have grown : ∃ nv σ2, evalV ⟨σ.mem.set σ.next (.cells 2 [u64 (c : Int), i64 0]), σ.next + 1⟩ (.append 2 16 lv (.sl σ.next 0 1 1 true)) = some (nv, σ2) ∧ nv.one = true ∧ cellsOf nv = [nv] ∧ σ2.mem.get w.r = σ.mem.get w.r ∧ (∀ b, SL ⟨σ2.mem.set w.r b, σ2.next⟩ 2 (tc (R.L ++ [(c, 0)])) (R.L ++ [(c, 0)]).length nv (some (σ.next + 1))) ∧ σ2.next = σ.next + 1 + 1 ∧ ∀ a, a < σ.next → w.lb ≠ some a → σ2.mem.get a = σ.mem.get a := by
    rcases hL with ⟨rfl, h0, h00, hlb⟩ | ⟨b, t, hlb, rfl, hb1, hb2⟩
    · have hRL : R.L = [] := List.length_eq_zero_iff.1 h0
      exact ⟨.sl (σ.next + 1) 0 1 1 false, ⟨(σ.mem.set σ.next (.cells 2 [u64 (c : Int), i64 0])).set (σ.next + 1) (.cells 2 [u64 (c : Int), i64 0]), σ.next + 1 + 1⟩, by simp [srcL], rfl, rfl, by simp [e1, show ¬ w.r = σ.next + 1 by omega], fun b => .inr ⟨σ.next + 1, false, rfl, by simp [hRL], by simp, by simp [hRL, tc, e3]⟩, rfl, fun a ha _ => by simp [show ¬ a = σ.next by omega, show ¬ a = σ.next + 1 by omega]⟩
    · have f1 : ¬ b = σ.next := by omega
      have f2 : ¬ R.L.length + 1 ≤ R.L.length := by omega
      have f3 : R.L.length * 2 ≤ (tc R.L).length := by rw [tc_len]; omega
      have f4 : (R.L.length + 1) * 16 ≤ 140737488355328 ∧ R.L.length ≤ 9223372036854775806 := by omega
      have f5 : (tc R.L).take (R.L.length * 2) = tc R.L := List.take_of_length_le (by rw [tc_len]; omega)
      have f6 : w.r ≠ b := fun e => hne.1 (by rw [hlb, e])
      cases t
      · exact ⟨.sl (σ.next + 1) 0 (R.L.length + 1) (R.L.length + 1) false, ⟨((σ.mem.set σ.next (.cells 2 [u64 (c : Int), i64 0])).del b).set (σ.next + 1) (.cells 2 (tc R.L ++ [u64 (c : Int), i64 0])), σ.next + 1 + 1⟩, by simp [srcL, hb2, f1, f2, f3, f4, f5], rfl, rfl, by simp [e1, f6, show ¬ w.r = σ.next + 1 by omega], fun b => .inr ⟨σ.next + 1, false, rfl, by simp, by simp, by simp [tc_app, tc, e3]⟩, rfl, fun a ha hn => by
          have : a ≠ b := fun e => hn (by rw [hlb, e])
          simp [this, show ¬ a = σ.next by omega, show ¬ a = σ.next + 1 by omega]⟩
      · exact ⟨.sl (σ.next + 1) 0 (R.L.length + 1) (R.L.length + 1) false, ⟨(σ.mem.set σ.next (.cells 2 [u64 (c : Int), i64 0])).set (σ.next + 1) (.cells 2 (tc R.L ++ [u64 (c : Int), i64 0])), σ.next + 1 + 1⟩, by simp [srcL, hb2, f1, f2, f3, f4, f5], rfl, rfl, by simp [e1, show ¬ w.r = σ.next + 1 by omega], fun b => .inr ⟨σ.next + 1, false, rfl, by simp, by simp, by simp [tc_app, tc, e3]⟩, rfl, fun a ha hn => by
          simp [show ¬ a = σ.next by omega, show ¬ a = σ.next + 1 by omega]⟩
  obtain ⟨nv, σ2, a1, a2, a3, a4, a5, a6, a7⟩ := grown
  have a4' := a4.trans hh
  have fin : Q (i64 0) ⟨σ2.mem.set w.r (.cells 4 [.int .u8 (R.kind : Int), nv, ov, u64 (R.last : Int)]), σ2.next⟩ := by
    refine h2 ⟨w.r, some (σ.next + 1), w.ob⟩ _ hj ⟨⟨nv, ov, by simp, a5 _, hO.keep (by show σ.next ≤ σ2.next; omega) fun a ha hb => ?_⟩, by show w.r < σ2.next; omega, ⟨fun e => by simp at e; omega, hne.2.1, fun x hx => ?_⟩⟩ ⟨rfl, fun x hx => ?_, by show σ.next ≤ σ2.next; omega, fun a ha hn => ?_⟩
    · have n1 : ¬ a = w.r := fun e => hne.2.1 (by rw [hb, e])
      have n2 : w.lb ≠ some a := fun e => hne.2.2 a e hb
      simp [n1]
      exact a7 a ha n2
    · cases hx
      intro e
      have := h.lt' (.inr (.inr e)); omega
    · rcases hx with e | e | e
      · exact .inl (.inl e)
      · cases e; exact .inr (by omega)
      · exact .inl (.inr (.inr e))
    · have n1 : ¬ a = w.r := fun e => hn (.inl e)
      simp [n1]
      exact a7 a ha fun e => hn (.inr (.inl e))
  by_cases hk1 : R.kind = 1
  · have h0 : R.L.length = 0 := by
      by_cases x : 0 < R.L.length
      · exact absurd ⟨hk1, x⟩ hk
      · omega
    have hk1' : (R.kind : Int) = 1 := by omega
    have h0' : ¬ (0 : Int) < R.L.length := by omega
    simp [lk_cons, hge', hh, ↓l1, hk1, hk1', h0, h0', h8, h8', fillL, repL, storeL, e1, ↓a1, a4', a2, a3]
    simpa [hk1] using fin
  · have hk1' : ¬ (R.kind : Int) = 1 := by omega
    simp [lk_cons, hge', hh, ↓l1, hk1, hk1', h8, h8', fillL, repL, storeL, e1, ↓a1, a4', a2, a3]
    exact fin
end Go.Proofs.Ytiikaajopgjliaa.AM

/- The document's desk: Flow, Done. -/
namespace Go.Proofs.Ytiikaajopgjliaa.AM
set_option maxRecDepth 100000
set_option linter.unusedVariables false
set_option linter.unusedSimpArgs false

theorem tc_set {y : Int} : ∀ {l : List (Nat × Int)} {i : Nat} {x : Nat × Int}, l[i]? = some x → (tc l).set (i * 2 + 1) (i64 y) = tc (l.set i (x.1, y))
  | [], i, x, h => by simp at h
  | z :: l, 0, x, h => by simp at h; subst h; simp [tc]
  | z :: l, i + 1, x, h => by
    have := tc_set (y := y) (l := l) (i := i) (x := x) (by simpa using h)
    simp only [tc, List.map_cons, List.flatten_cons, List.set_cons_succ] at this ⊢
    rw [show (i + 1) * 2 + 1 = (i * 2 + 1) + 2 by omega]
    simpa using this
theorem idxN_cases (l : List Nat) (c : Nat) : (idxN l c = -1 ∧ c ∉ l) ∨ ∃ i : Nat, idxN l c = i ∧ l[i]? = some c ∧ i < l.length := by
  cases h : l.findIdx? fun x => decide (x = c) with
  | none =>
    refine .inl ⟨by simp [idxN, h], fun hc => ?_⟩
    simp only [List.findIdx?_eq_none_iff] at h
    have := h c hc
    simp at this
  | some i =>
    obtain ⟨h1, h2, _⟩ := List.findIdx?_eq_some_iff_getElem.1 h
    have e : l[i] = c := by simpa using h2
    exact .inr ⟨i, by simp [idxN, h], by rw [List.getElem?_eq_getElem h1, e], h1⟩
theorem rflow_c {σ : St} {w : ROwn} {R : Rk} (h : RR σ w R) (hl : R.L.length ≤ 1000) (hp : ∀ x ∈ R.L, 0 ≤ x.2 ∧ x.2 ≤ 1000) (c : Nat) (n : Int) (hn : -9223372036854775808 ≤ n ∧ n ≤ 9223372036854775807) (Q : AVal → St → Prop)
    (h1 : c ∉ ids R.L → Q (i64 61) σ) (h2 : ∀ (i : Nat) (x : Int), R.L[i]? = some (c, x) → (n < 1 ∨ 1000 - x < n) → Q (i64 60) σ)
    (h3 : ∀ (σ' : St) (i : Nat) (x : Int), R.L[i]? = some (c, x) → 1 ≤ n → n ≤ 1000 - x → RR σ' w { R with L := R.L.set i (c, x + n) } → RStp w w σ σ' → Q (i64 0) σ') : ACall Try.prog 33 [.ptr w.r 0, u64 (c : Int), i64 n] σ Q := by
  refine ACall.of_compF hmx (fun a w => Try.call33 a w) Try.func33 cf33 (n := 3) (by decide) rfl ?_
  obtain ⟨⟨lv, ov, hh, hL, hO⟩, hlt, hne⟩ := id h
  have l1 := hL.len
  simp [ac33, rs33, lk_cons]
  refine at47_c h hl c _ ?_
  rcases idxN_cases (ids R.L) c with ⟨e1, e2⟩ | ⟨i, e1, e2, e3⟩
  · simp [lk_cons, e1]
    exact h1 e2
  obtain ⟨x, hx⟩ : ∃ x, R.L[i]? = some (c, x) := by
    simp only [ids, List.getElem?_map, Option.map_eq_some_iff] at e2
    obtain ⟨⟨c', x⟩, e4, e5⟩ := e2
    simp only at e5; subst e5
    exact ⟨x, e4⟩
  have hi : i < R.L.length := by simpa using e3
  rcases hL with ⟨_, h0, _⟩ | ⟨b, t, hb, rfl, hb2, hb3⟩
  · omega
  have t1 := tc_get1 hx
  have px := hp _ (List.mem_of_getElem? hx)
  simp only at t1 px
  have hi' : ¬ (i : Int) < 0 := by omega
  have w1 : IntKind.i64.wrap (1000 - x) = 1000 - x := by rw [IntWalk.i64_in] <;> omega
  by_cases hn1 : n < 1
  · simp [lk_cons, e1, hi', hn1]
    exact h2 i x hx (.inl hn1)
  by_cases hn2 : 1000 - x < n
  · simp [lk_cons, e1, hi', hn1, hh, hi, hb3, t1, w1, hn2]
    exact h2 i x hx (.inr hn2)
  have w2 : IntKind.i64.wrap (x + n) = x + n := by rw [IntWalk.i64_in] <;> omega
  have k1 : i * 2 + 1 + 1 ≤ (tc R.L).length := by rw [tc_len]; omega
  have k2 : i * 2 + 1 < (tc R.L).length := by rw [tc_len]; omega
  have hrb : w.r ≠ b := fun e => hne.1 (by rw [hb, e])
  simp [lk_cons, e1, hi', hn1, hh, hi, hb3, t1, w1, hn2, w2, storeL, k1]

  refine h3 ⟨σ.mem.set b (.cells 2 ((tc R.L).set (i * 2 + 1) (i64 (x + n)))), σ.next⟩ i x hx (by omega) (by omega) ⟨⟨.sl b 0 R.L.length R.L.length t, ov, by simp [hrb, hh], .inr ⟨b, t, hb, by simp, hb2, by have := tc_set (y := x + n) hx; simp [this]⟩, hO.keep (Nat.le_refl _) fun a ha he => ?_⟩, hlt, hne⟩ ⟨rfl, fun _ h => .inl h, Nat.le_refl _, fun a ha hnh => ?_⟩
  · have : ¬ a = b := fun e => hne.2.2 b hb (by rw [he, e])
    simp [this]
  · have : ¬ a = b := fun e => hnh (.inr (.inl (by rw [hb, e])))
    simp [this]

theorem oc_set4 {l : List OutR} {i : Nat} {x : OutR} (h : l[i]? = some x) : (oc l)[i * 4]? = some (u64 (x.l : Int)) ∧ (oc l)[i * 4 + 1]? = some (u64 (x.e : Int)) ∧ (oc l)[i * 4 + 2]? = some (u64 (x.c : Int)) ∧ (oc l)[i * 4 + 3]? = some (.str x.k) := by
  have h1 := oc_at h
  refine ⟨?_, ?_, ?_, ?_⟩
  · have h2 := congrArg (·[0]?) h1
    simp only [List.getElem?_take, List.getElem?_drop] at h2
    simpa using h2
  · have h2 := congrArg (·[1]?) h1
    simp only [List.getElem?_take, List.getElem?_drop] at h2
    simpa using h2
  · have h2 := congrArg (·[2]?) h1
    simp only [List.getElem?_take, List.getElem?_drop] at h2
    simpa using h2
  · have h2 := congrArg (·[3]?) h1
    simp only [List.getElem?_take, List.getElem?_drop] at h2
    simpa using h2
/-- Two parts of a slice, put together anew. -/
theorem join2 {σ : St} {es by_ b e n m cap1 cap2 : Nat} {t2 t3 : Bool} {rows : List AVal} {o2 : Nat} (hes : 0 < es) (hm : σ.mem.get b = some (.cells es rows)) (he : σ.mem.get e = some (.cells es [])) (hbe : b ≠ e) (hlt : b < σ.next ∧ e < σ.next) (h1 : n * es ≤ rows.length) (h2 : o2 + m * es ≤ rows.length) (hs : (n + m) * by_ ≤ 140737488355328 ∧ n + m ≤ 1000000) :
    ∃ v σ1 v2 σ2, evalV σ (.append es by_ (.sl e 0 0 0 true) (.sl b 0 n cap1 t2)) = some (v, σ1) ∧ evalV σ1 (.append es by_ v (.sl b o2 m cap2 t3)) = some (v2, σ2) ∧ v2.one = true ∧ cellsOf v2 = [v2] ∧ (∃ x t, v2 = .sl x 0 (n + m) (n + m) t ∧ (x = e ∨ σ.next ≤ x) ∧ x < σ2.next ∧ σ2.mem.get x = some (.cells es (rows.take (n * es) ++ (rows.drop o2).take (m * es)))) ∧ σ.next ≤ σ2.next ∧ (∀ a, a < σ.next → a ≠ e → σ1.mem.get a = σ.mem.get a) ∧ ∀ a, a < σ.next → a ≠ e → σ2.mem.get a = σ.mem.get a := by
  have hes' : ¬ es = 0 := by omega
  have l1 : (rows.take (n * es)).length = n * es := by rw [List.length_take]; omega
  have l2 : ((rows.drop o2).take (m * es)).length = m * es := by rw [List.length_take, List.length_drop]; omega
  have hk1 : n * by_ ≤ 140737488355328 := Nat.le_trans (Nat.mul_le_mul_right _ (Nat.le_add_right _ _)) hs.1
  have hk2 : m * by_ ≤ 140737488355328 := Nat.le_trans (Nat.mul_le_mul_right _ (Nat.le_add_left _ _)) hs.1
  have hk3 : n ≤ 9223372036854775807 ∧ m ≤ 9223372036854775807 ∧ n + m ≤ 9223372036854775807 := by omega
  have b1 : ¬ b = σ.next := by omega
  have b2 : ¬ e = σ.next := by omega
  have h2' : m * es ≤ rows.length - o2 := by omega
  by_cases hn0 : n = 0
  · subst hn0
    by_cases hm0 : m = 0
    · subst hm0
      have h2'' : o2 ≤ rows.length := by omega
      refine ⟨.sl e 0 0 0 true, ⟨σ.mem.set e (.cells es []), σ.next⟩, .sl e 0 0 0 true, ⟨(σ.mem.set e (.cells es [])).set e (.cells es []), σ.next⟩, by simp [srcL, hes', hm, he, storeL], by simp [srcL, hes', hm, he, hbe, storeL, h2''], rfl, rfl, ⟨e, true, rfl, .inl rfl, hlt.2, by simp⟩, Nat.le_refl _, fun a ha hn => by simp [hn], fun a ha hn => by simp [hn]⟩
    · have c1 : ¬ m ≤ 0 := by omega
      refine ⟨.sl e 0 0 0 true, ⟨σ.mem.set e (.cells es []), σ.next⟩, .sl σ.next 0 m m false, ⟨(σ.mem.set e (.cells es [])).set σ.next (.cells es ((rows.drop o2).take (m * es))), σ.next + 1⟩, by simp [srcL, hes', hm, he, storeL], by simp [srcL, hes', hm, he, hbe, storeL, h2, c1, hm0, hk2, hk3], rfl, rfl, ⟨σ.next, false, by simp, .inr (Nat.le_refl _), by simp, by simp⟩, by simp, fun a ha hn => by simp [hn], fun a ha hn => by simp [hn, show ¬ a = σ.next by omega]⟩
  · have c1 : ¬ n ≤ 0 := by omega
    have d1 : ¬ n * es + 0 ≤ 0 := by have := Nat.mul_pos (Nat.pos_of_ne_zero hn0) hes; omega
    by_cases hm0 : m = 0
    · subst hm0
      refine ⟨.sl σ.next 0 n n false, ⟨σ.mem.set σ.next (.cells es (rows.take (n * es))), σ.next + 1⟩, .sl σ.next 0 n n false, ⟨(σ.mem.set σ.next (.cells es (rows.take (n * es)))).set σ.next (.cells es (rows.take (n * es))), σ.next + 1⟩, by simp [srcL, hes', hm, he, h1, c1, hn0, hk1, hk3], ?_, rfl, rfl, ⟨σ.next, false, by simp, .inr (Nat.le_refl _), by simp, by simp⟩, by simp, fun a ha hn => by simp [show ¬ a = σ.next by omega], fun a ha hn => by simp [show ¬ a = σ.next by omega]⟩
      have : o2 ≤ rows.length := by omega
      simp [srcL, hes', hm, b1, storeL, this, h1]
    · have c2 : ¬ n + m ≤ n := by omega
      refine ⟨.sl σ.next 0 n n false, ⟨σ.mem.set σ.next (.cells es (rows.take (n * es))), σ.next + 1⟩, .sl (σ.next + 1) 0 (n + m) (n + m) false, ⟨((σ.mem.set σ.next (.cells es (rows.take (n * es)))).del σ.next).set (σ.next + 1) (.cells es (rows.take (n * es) ++ (rows.drop o2).take (m * es))), σ.next + 1 + 1⟩, by simp [srcL, hes', hm, he, h1, c1, hn0, hk1, hk3], ?_, rfl, rfl, ⟨σ.next + 1, false, by simp, .inr (by omega), by simp, by simp⟩, by simp; omega, fun a ha hn => by simp [show ¬ a = σ.next by omega], fun a ha hn => by simp [show ¬ a = σ.next by omega, show ¬ a = σ.next + 1 by omega]⟩
      have f5 : (rows.take (n * es)).take (n * es) = rows.take (n * es) := List.take_of_length_le (Nat.le_of_eq l1)
      simp [srcL, hes', hm, b1, h2, c2, hm0, hs.1, hk3, l1, h1, f5]
end Go.Proofs.Ytiikaajopgjliaa.AM

/- The document's desk: Done. -/
namespace Go.Proofs.Ytiikaajopgjliaa.AM
set_option maxRecDepth 100000
set_option linter.unusedVariables false
set_option linter.unusedSimpArgs false

theorem erase_rows {l : List OutR} {i : Nat} (h : i < l.length) : (oc l).take (i * 4) ++ ((oc l).drop ((i + 1) * 4)).take ((l.length - (i + 1)) * 4) = oc (l.eraseIdx i) := by
  have h1 : ∀ (l : List OutR) (n : Nat), (oc l).take (n * 4) = oc (l.take n) := by
    intro l
    induction l with
    | nil => intro n; simp [oc]
    | cons x l ih =>
      intro n
      cases n with
      | zero => simp [oc]
      | succ n =>
        have := ih n
        simp only [oc, List.map_cons, List.flatten_cons, List.take_succ_cons] at this ⊢
        rw [show (n + 1) * 4 = n * 4 + 4 by omega]
        simpa using this
  have h2 : ∀ (l : List OutR) (n : Nat), (oc l).drop (n * 4) = oc (l.drop n) := by
    intro l
    induction l with
    | nil => intro n; simp [oc]
    | cons x l ih =>
      intro n
      cases n with
      | zero => simp [oc]
      | succ n =>
        have := ih n
        simp only [oc, List.map_cons, List.flatten_cons, List.drop_succ_cons] at this ⊢
        rw [show (n + 1) * 4 = n * 4 + 4 by omega]
        simpa using this
  rw [h1, h2, h1, List.take_of_length_le (l := l.drop (i + 1)) (by simp), ← oc_app, ← List.eraseIdx_eq_take_drop_succ]
theorem eqs_ps (neg : Bool) (a b c d : Int) (ρ : St) : evalV ρ (.eqs neg [1, 1] (.agg [u64 a, u64 b]) (.agg [u64 c, u64 d])) = some (.bool (neg != decide (a = c ∧ b = d)), ρ) := by
  simp only [evalV, shapeOk, kShape, keysEq, keyEq]
  cases neg <;> cases h1 : (a == c) <;> cases h2 : (b == d) <;> simp_all
def DnJ (w : ROwn) (c l e : Nat) (R : Rk) (σ0 : St) (mm : Nat) (rg : Regs) (σ' : St) : Prop := ∃ i : Nat, mm = R.O.length - i ∧ i ≤ R.O.length ∧ (∀ x ∈ R.O.take i, ¬ (x.l = l ∧ x.e = e)) ∧ σ' = ⟨σ0.mem.set σ0.next (.cells 2 [u64 (l : Int), u64 (e : Int)]), σ0.next + 1⟩ ∧ rg = [(0, .ptr w.r 0), (1, u64 (c : Int)), (5, .ptr σ0.next 0), (7, i64 i)]
set_option maxHeartbeats 1000000 in
theorem rdone_c {σ : St} {w : ROwn} {R : Rk} (h : RR σ w R) (hl : R.O.length ≤ 1000) (c l e : Nat) (Q : AVal → St → Prop)
    (h1 : ∀ σ', (∀ x ∈ R.O, ¬ (x.l = l ∧ x.e = e)) → RStp w w σ σ' → RR σ' w R → Q (i64 11) σ') (h2 : ∀ (σ' : St) (i : Nat) (x : OutR), R.O[i]? = some x → x.l = l → x.e = e → x.c ≠ c → RStp w w σ σ' → RR σ' w R → Q (i64 61) σ')
    (h3 : ∀ (w' : ROwn) (σ' : St) (i : Nat) (x : OutR), R.O[i]? = some x → x.l = l → x.e = e → x.c = c → RR σ' w' { R with O := R.O.eraseIdx i } → RStp w w' σ σ' → Q (i64 0) σ') : ACall Try.prog 34 [.ptr w.r 0, u64 (c : Int), ps (l : Int) (e : Int)] σ Q := by
  refine ACall.of_compF hmx (fun a w => Try.call34 a w) Try.func34 cf34 (n := 3) (by decide) rfl ?_
  obtain ⟨⟨lv, ov, hh, hL, hO⟩, hlt, hne⟩ := id h
  have e1 : ¬ w.r = σ.next := by omega
  have l1 := hO.len
  have gg : ∀ A : Blk, RStp w w σ ⟨σ.mem.set σ.next A, σ.next + 1⟩ ∧ RR ⟨σ.mem.set σ.next A, σ.next + 1⟩ w R := fun A => ⟨⟨rfl, fun _ h => .inl h, by simp, fun a ha _ => by simp [show ¬ a = σ.next by omega]⟩, h.keep (by simp) fun a ha _ => by simp [show ¬ a = σ.next by omega]⟩
  simp [ac34, rs34, lk_cons]
  refine wp_loop (DnJ w c l e R σ) R.O.length ?_ ?_
  · exact ⟨0, rfl, Nat.zero_le _, by simp, rfl, rfl⟩
  · rintro mm rg σ' ⟨i, rfl, hi, hp, rfl, rfl⟩
    by_cases hlt2 : i < R.O.length
    · obtain ⟨x, hx⟩ : ∃ x, R.O[i]? = some x := ⟨_, List.getElem?_eq_getElem hlt2⟩
      have w1 : IntKind.i64.wrap ((i : Int) + 1) = ((i + 1 : Nat) : Int) := by rw [IntWalk.i64_in] <;> omega
      rcases hO with ⟨_, h0, _⟩ | ⟨b, t, hb, rfl, hb2, hb3⟩
      · omega
      obtain ⟨r0, r1, r2, r3⟩ := oc_set4 hx
      have e2 : ¬ b = σ.next := by omega
      have row : ((oc R.O).drop (i * 4)).take 2 = [u64 (x.l : Int), u64 (x.e : Int)] := by
        have := congrArg (List.take 2) (oc_at hx)
        rw [List.take_take] at this
        simpa using this
      have k1 : i * 4 + 2 ≤ (oc R.O).length := by rw [oc_len]; omega
      by_cases hm : x.l = l ∧ x.e = e
      · have hm1 : (x.l : Int) = l := by omega
        have hm2 : (x.e : Int) = e := by omega
        by_cases hc : x.c = c
        · have hc' : (x.c : Int) = c := by omega
          have q1 : ¬ σ.next = σ.next + 1 := by omega
          have q2 : ¬ w.r = σ.next + 1 := by omega
          have q3 : ¬ b = σ.next + 1 := by omega
          have q4 : i + 1 ≤ R.O.length := hlt2
          have q5 : i ≤ R.O.length := by omega
          have q6 : IntKind.i64.wrap ((i : Int) + 1) = ((i + 1 : Nat) : Int) := w1
          obtain ⟨v, σ1, v2, σ2, j1, j2, j3, j4, ⟨y, ty, j5, j6, j7, j8⟩, j9, j10, j11⟩ := join2 (σ := ⟨(σ.mem.set σ.next (.cells 2 [u64 (l : Int), u64 (e : Int)])).set (σ.next + 1) (.cells 4 []), σ.next + 1 + 1⟩) (es := 4) (by_ := 40) (b := b) (e := σ.next + 1) (n := i) (m := R.O.length - (i + 1)) (cap1 := R.O.length) (cap2 := R.O.length - (i + 1)) (t2 := t) (t3 := t) (rows := oc R.O) (o2 := (i + 1) * 4) (by omega) (by simp [e2, q3, hb3]) (by simp) q3 (by simp; omega) (by rw [oc_len]; omega) (by rw [oc_len]; omega) (by omega)
          have q7 : 0 ≤ (i : Int) + 1 := by omega
          have jr : σ1.mem.get w.r = some (.cells 4 [.int .u8 (R.kind : Int), lv, .sl b 0 R.O.length R.O.length t, u64 (R.last : Int)]) := by
            rw [j10 _ (by simp; omega) q2]
            simp [e1, q2, hh]
          have jr2 : σ2.mem.get w.r = some (.cells 4 [.int .u8 (R.kind : Int), lv, .sl b 0 R.O.length R.O.length t, u64 (R.last : Int)]) := by
            rw [j11 _ (by simp; omega) q2]
            simp [e1, q2, hh]
          have jb : σ1.mem.get b = some (.cells 4 (oc R.O)) := by
            rw [j10 _ (by simp; omega) q3]
            simp [e2, q3, hb3]
          simp [lk_cons, hh, e1, e2, ↓l1, hlt2, hb3, row, k1, ↓eqs_ps, hm1, hm2, r2, hc, hc', hm, fillL, repL, optM, asliceSl, bnd, q1, q2, q3, q4, q5, q7, w1, ↓j1, ↓j2, jr, jr2, jb, j3, j4, storeL]
          simp only at j6 j9
          have hel : (R.O.eraseIdx i).length = i + (R.O.length - (i + 1)) := by rw [List.length_eraseIdx_of_lt hlt2]; omega
          have hye : y ≠ w.r := by omega
          have old : ∀ a, a < σ.next → σ2.mem.get a = σ.mem.get a := fun a ha => by
            rw [j11 a (by simp; omega) (by omega)]
            simp [show ¬ a = σ.next by omega, show ¬ a = σ.next + 1 by omega]
          refine h3 ⟨w.r, w.lb, some y⟩ _ i x hx hm.1 hm.2 hc ⟨⟨lv, v2, by simp, hL.keep (by show σ.next ≤ σ2.next; omega) fun a ha hb4 => ?_, .inr ⟨y, ty, rfl, by rw [hel]; exact j5, j7, ?_⟩⟩, by show w.r < σ2.next; omega, ⟨hne.1, fun e => hye (Option.some.inj e), fun z hz e => ?_⟩⟩ ⟨rfl, fun z hz => ?_, by show σ.next ≤ σ2.next; omega, fun a ha hn => ?_⟩
          · have : ¬ a = w.r := fun e => hne.1 (by rw [hb4, e])
            simp [this]
            exact old a ha
          · simp [hye]
            rw [j8, erase_rows hlt2]
          · have := h.lt' (.inr (.inl hz))
            cases e; omega
          · rcases hz with e | e | e
            · exact .inl (.inl e)
            · exact .inl (.inr (.inl e))
            · cases e; exact .inr (by omega)
          · have : ¬ a = w.r := fun e => hn (.inl e)
            simp [this]
            exact old a ha
        · have hc' : ¬ (x.c : Int) = c := by omega
          simp [lk_cons, hh, e1, e2, ↓l1, hlt2, hb3, row, k1, ↓eqs_ps, hm1, hm2, r2, hc, hc', hm]
          exact h2 _ i x hx hm.1 hm.2 hc (gg _).1 (gg _).2
      · have hm' : ¬ ((x.l : Int) = l ∧ (x.e : Int) = e) := by omega
        simp [lk_cons, hh, e1, e2, ↓l1, hlt2, hb3, row, k1, ↓eqs_ps, hm, hm', w1]
        refine ⟨R.O.length - (i + 1), by omega, i + 1, rfl, by omega, fun y hy => ?_, rfl, rfl⟩
        rw [List.take_add_one, hx] at hy
        rcases List.mem_append.1 hy with hy | hy
        · exact hp y hy
        · simp at hy; rw [hy]; exact hm
    · obtain rfl : i = R.O.length := by omega
      rw [List.take_length] at hp
      simp [lk_cons, hh, e1, ↓l1]
      exact h1 _ hp (gg _).1 (gg _).2
end Go.Proofs.Ytiikaajopgjliaa.AM

/- The document's desk: Leave. -/
namespace Go.Proofs.Ytiikaajopgjliaa.AM
set_option maxRecDepth 100000
set_option linter.unusedVariables false
set_option linter.unusedSimpArgs false

theorem erase_tc {l : List (Nat × Int)} {i : Nat} (h : i < l.length) : (tc l).take (i * 2) ++ ((tc l).drop ((i + 1) * 2)).take ((l.length - (i + 1)) * 2) = tc (l.eraseIdx i) := by
  have h1 : ∀ (l : List (Nat × Int)) (n : Nat), (tc l).take (n * 2) = tc (l.take n) := by
    intro l
    induction l with
    | nil => intro n; simp [tc]
    | cons x l ih =>
      intro n
      cases n with
      | zero => simp [tc]
      | succ n =>
        have := ih n
        simp only [tc, List.map_cons, List.flatten_cons, List.take_succ_cons] at this ⊢
        rw [show (n + 1) * 2 = n * 2 + 2 by omega]
        simpa using this
  have h2 : ∀ (l : List (Nat × Int)) (n : Nat), (tc l).drop (n * 2) = tc (l.drop n) := by
    intro l
    induction l with
    | nil => intro n; simp [tc]
    | cons x l ih =>
      intro n
      cases n with
      | zero => simp [tc]
      | succ n =>
        have := ih n
        simp only [tc, List.map_cons, List.flatten_cons, List.drop_succ_cons] at this ⊢
        rw [show (n + 1) * 2 = n * 2 + 2 by omega]
        simpa using this
  rw [h1, h2, h1, List.take_of_length_le (l := l.drop (i + 1)) (by simp), ← tc_app, ← List.eraseIdx_eq_take_drop_succ]
def blk : AVal → Option Nat
  | .sl o _ _ _ _ => some o
  | _ => none
theorem OSl.blk {lo : Nat} {σ : St} {v : AVal} {l : List OutR} (h : OSl lo σ v l) : v = .nilsl ∧ l = [] ∨ ∃ o, v = .sl o 0 l.length l.length false ∧ blk v = some o ∧ lo ≤ o ∧ o < σ.next ∧ σ.mem.get o = some (.cells 4 (oc l)) := by
  rcases h with h | ⟨o, h1, h2, h3, h4, h5⟩
  · exact .inl h
  · exact .inr ⟨o, h1, by rw [h1]; rfl, h3, h4, h5⟩
theorem OSl.frB {lo : Nat} {σ S : St} {v : AVal} {l : List OutR} (h : OSl lo σ v l) (a1 : σ.next ≤ S.next) (a2 : ∀ a, a < σ.next → AM.blk v = some a → S.mem.get a = σ.mem.get a) : OSl lo S v l := by
  rcases h with h | ⟨o, h1, h2, h3, h4, h5⟩
  · exact .inl h
  · exact .inr ⟨o, h1, h2, h3, by omega, (a2 o h4 (by rw [h1]; rfl)).trans h5⟩
theorem osl_new {lo : Nat} {ρ : St} {ov : AVal} {l : List OutR} (ho : OSl lo ρ ov l) (hl : l.length ≤ 100000) {b : Nat} {x : OutR} (hb : ρ.mem.get b = some (.cells 4 (orow x))) (hlo : lo ≤ ρ.next) :
    ∃ ρ', evalV ρ (.append 4 40 ov (.sl b 0 1 1 true)) = some (.sl ρ.next 0 (l.length + 1) (l.length + 1) false, ρ') ∧ OSl lo ρ' (.sl ρ.next 0 (l.length + 1) (l.length + 1) false) (l ++ [x]) ∧ ρ'.next = ρ.next + 1 ∧ ∀ a, a < ρ.next → blk ov ≠ some a → ρ'.mem.get a = ρ.mem.get a := by
  rcases ho with ⟨rfl, rfl⟩ | ⟨o, rfl, h2, h3, h4, h5⟩
  · exact ⟨⟨ρ.mem.set ρ.next (.cells 4 (orow x)), ρ.next + 1⟩, by simp [srcL, hb], .inr ⟨ρ.next, by simp, by simp, hlo, Nat.lt_succ_self _, by simp [oc]⟩, rfl, fun a ha _ => by simp [show ¬ a = ρ.next by omega]⟩
  · have k1 : ¬ l.length + 1 ≤ l.length := by omega
    have k2 : l.length * 4 ≤ (oc l).length := by rw [oc_len]; omega
    have k3 : (l.length + 1) * 40 ≤ 140737488355328 ∧ l.length ≤ 9223372036854775806 := by omega
    have k4 : (oc l).take (l.length * 4) = oc l := List.take_of_length_le (by rw [oc_len]; omega)
    exact ⟨⟨(ρ.mem.del o).set ρ.next (.cells 4 (oc l ++ orow x)), ρ.next + 1⟩, by simp [srcL, hb, h5, k1, k2, k3, k4], .inr ⟨ρ.next, by simp, by simp, hlo, Nat.lt_succ_self _, by simp [oc_app, oc]⟩, rfl, fun a ha hne => by
      have : ¬ a = o := fun e => hne (by rw [e]; rfl)
      simp [show ¬ a = ρ.next by omega, this]⟩

def LrJ (w : ROwn) (c b : Nat) (O : List OutR) (ov lv : AVal) (kind last : Nat) (lo : Nat) (σ0 : St) (mm : Nat) (rg : Regs) (σ' : St) : Prop := ∃ (i : Nat) (v7 v8 : AVal), mm = O.length - i ∧ i ≤ O.length ∧ OSl lo σ' v7 (his (O.take i) c) ∧ OSl lo σ' v8 (notHis (O.take i) c) ∧ (∀ o, blk v7 = some o → blk v8 ≠ some o) ∧ lo ≤ σ'.next ∧ (∀ a, a < lo → σ'.mem.get a = σ0.mem.get a) ∧ rg = [(0, .ptr w.r 0), (1, u64 (c : Int)), (7, v7), (8, v8), (9, i64 i)]
set_option maxHeartbeats 1000000 in
theorem rleave_c {σ : St} {w : ROwn} {R : Rk} (h : RR σ w R) (hl : R.L.length ≤ 1000) (hol : R.O.length ≤ 1000) (c : Nat) (Q : AVal → St → Prop)
    (h1 : c ∉ ids R.L → Q (.tup [.nilsl, i64 61]) σ)
    (h2 : ∀ (w' : ROwn) (σ' : St) (i : Nat) (x : Int) (v : AVal), R.L[i]? = some (c, x) → OSl σ.next σ' v (his R.O c) → RR σ' w' { R with L := R.L.eraseIdx i, O := notHis R.O c } → RStp w w' σ σ' → (∀ o, blk v = some o → ¬ w'.has o) → Q (.tup [v, i64 0]) σ') : ACall Try.prog 32 [.ptr w.r 0, u64 (c : Int)] σ Q := by
  refine ACall.of_compF hmx (fun a w => Try.call32 a w) Try.func32 cf32 (n := 2) (by decide) rfl ?_
  obtain ⟨⟨lv, ov, hh, hL, hO⟩, hlt, hne⟩ := id h
  simp [ac32, rs32, lk_cons]
  refine at47_c h hl c _ ?_
  rcases idxN_cases (ids R.L) c with ⟨e1, e2⟩ | ⟨i, e1, e2, e3⟩
  · simp [lk_cons, e1]
    exact h1 e2
  obtain ⟨x, hx⟩ : ∃ x, R.L[i]? = some (c, x) := by
    simp only [ids, List.getElem?_map, Option.map_eq_some_iff] at e2
    obtain ⟨⟨c', x⟩, e4, e5⟩ := e2
    simp only at e5; subst e5
    exact ⟨x, e4⟩
  have hi : i < R.L.length := by simpa using e3
  rcases hL with ⟨_, h0, _⟩ | ⟨b, t, hb, rfl, hb2, hb3⟩
  · omega
  have hi' : ¬ (i : Int) < 0 := by omega
  have q0 : ¬ w.r = σ.next := by omega
  have q1 : ¬ b = σ.next := by omega
  have q4 : i + 1 ≤ R.L.length := hi
  have q5 : i ≤ R.L.length := by omega
  have q7 : 0 ≤ (i : Int) + 1 := by omega
  have w1 : IntKind.i64.wrap ((i : Int) + 1) = ((i + 1 : Nat) : Int) := by rw [IntWalk.i64_in] <;> omega
  obtain ⟨v, σ1, v2, σ2, j1, j2, j3, j4, ⟨y, ty, j5, j6, j7, j8⟩, j9, j10, j11⟩ := join2 (σ := ⟨σ.mem.set σ.next (.cells 2 []), σ.next + 1⟩) (es := 2) (by_ := 16) (b := b) (e := σ.next) (n := i) (m := R.L.length - (i + 1)) (cap1 := R.L.length) (cap2 := R.L.length - (i + 1)) (t2 := t) (t3 := t) (rows := tc R.L) (o2 := (i + 1) * 2) (by omega) (by simp [q1, hb3]) (by simp) q1 (by simp; omega) (by rw [tc_len]; omega) (by rw [tc_len]; omega) (by omega)
  have jr : σ1.mem.get w.r = some (.cells 4 [.int .u8 (R.kind : Int), .sl b 0 R.L.length R.L.length t, ov, u64 (R.last : Int)]) := by
    rw [j10 _ (by simp; omega) q0]
    simp [q0, hh]
  have jr2 : σ2.mem.get w.r = some (.cells 4 [.int .u8 (R.kind : Int), .sl b 0 R.L.length R.L.length t, ov, u64 (R.last : Int)]) := by
    rw [j11 _ (by simp; omega) q0]
    simp [q0, hh]
  have jb : σ1.mem.get b = some (.cells 2 (tc R.L)) := by
    rw [j10 _ (by simp; omega) q1]
    simp [q1, hb3]
  simp [lk_cons, e1, hi', hh, hb3, fillL, repL, optM, asliceSl, bnd, q0, q1, q4, q5, q7, w1, ↓j1, ↓j2, jr, jr2, jb, j3, j4, storeL]
  simp only at j6 j9
  have old : ∀ a, a < σ.next → σ2.mem.get a = σ.mem.get a := fun a ha => by
    rw [j11 a (by simp; omega) (by omega)]
    simp [show ¬ a = σ.next by omega]
  have hyr : y ≠ w.r := by omega
  have hel : (R.L.eraseIdx i).length = i + (R.L.length - (i + 1)) := by rw [List.length_eraseIdx_of_lt hi]; omega
  have lo1 := hO.len
  refine wp_loop (LrJ w c b R.O ov (.sl b 0 R.L.length R.L.length t) R.kind R.last σ2.next ⟨σ2.mem.set w.r (.cells 4 [.int .u8 (R.kind : Int), v2, ov, u64 (R.last : Int)]), σ2.next⟩) R.O.length ?_ ?_
  · exact ⟨0, .nilsl, .nilsl, rfl, Nat.zero_le _, .inl ⟨rfl, by simp⟩, .inl ⟨rfl, by simp⟩, fun o ho => (by cases ho), Nat.le_refl _, fun _ _ => rfl, rfl⟩
  · rintro mm rg σ' ⟨k, v7, v8, rfl, hk, o7, o8, ob78, hn, hold, rfl⟩
    have mr : σ'.mem.get w.r = some (.cells 4 [.int .u8 (R.kind : Int), v2, ov, u64 (R.last : Int)]) := by rw [hold _ (by omega)]; simp
    by_cases hlt2 : k < R.O.length
    · obtain ⟨z, hz⟩ : ∃ z, R.O[k]? = some z := ⟨_, List.getElem?_eq_getElem hlt2⟩
      have w2 : IntKind.i64.wrap ((k : Int) + 1) = ((k + 1 : Nat) : Int) := by rw [IntWalk.i64_in] <;> omega
      rcases hO with ⟨_, h0, _⟩ | ⟨ob, t', hob, rfl, hob2, hob3⟩
      · omega
      have nob : ob ≠ w.r := fun e => hne.2.1 (by rw [hob, e])
      have mo : σ'.mem.get ob = some (.cells 4 (oc R.O)) := by rw [hold _ (by omega)]; simp [nob]; rw [old _ hob2]; exact hob3
      obtain ⟨r0, r1, r2, r3⟩ := oc_set4 hz
      have row := oc_at hz
      have k1 : k * 4 + 4 ≤ (oc R.O).length := by rw [oc_len]; omega
      have htk : R.O.take (k + 1) = R.O.take k ++ [z] := by rw [List.take_add_one, hz]; rfl
      have l7 : (his (R.O.take k) c).length ≤ 100000 := Nat.le_trans (List.length_filter_le _ _) (by simp; omega)
      have l8 : (notHis (R.O.take k) c).length ≤ 100000 := Nat.le_trans (List.length_filter_le _ _) (by simp; omega)
      have lt7 : ∀ o, blk v7 = some o → o < σ'.next ∧ σ2.next ≤ o := fun o ho => by
        rcases o7.blk with ⟨rfl, _⟩ | ⟨o', _, g2, g3, g4, _⟩
        · cases ho
        · rw [g2] at ho; cases ho; exact ⟨g4, g3⟩
      have lt8 : ∀ o, blk v8 = some o → o < σ'.next ∧ σ2.next ≤ o := fun o ho => by
        rcases o8.blk with ⟨rfl, _⟩ | ⟨o', _, g2, g3, g4, _⟩
        · cases ho
        · rw [g2] at ho; cases ho; exact ⟨g4, g3⟩
      have x1 : ¬ w.r = σ'.next := by omega
      have x2 : ¬ ob = σ'.next := by omega
      by_cases hzc : z.c = c
      · subst hzc
        have hh1 : his (R.O.take (k + 1)) z.c = his (R.O.take k) z.c ++ [z] := by rw [htk, his, List.filter_append]; simp [his]
        have hh2 : notHis (R.O.take (k + 1)) z.c = notHis (R.O.take k) z.c := by rw [htk, notHis, List.filter_append]; simp [notHis]
        obtain ⟨ρ', g1, g2, g3, g4⟩ := osl_new (ρ := ⟨σ'.mem.set σ'.next (.cells 4 (orow z)), σ'.next + 1⟩) (o7.frB (by simp) fun a ha _ => by simp [show ¬ a = σ'.next by omega]) l7 (b := σ'.next) (x := z) (by simp) (by simp; omega)
        simp [lk_cons, mr, hlt2, mo, r2, row, k1, fillL, repL, storeL, w2, x1, x2, ↓g1]
        refine ⟨R.O.length - (k + 1), by omega, k + 1, _, v8, rfl, by omega, by rw [hh1]; exact g2, by rw [hh2]; exact o8.frB (by rw [g3]; simp; omega) fun a ha hb4 => (g4 a (by simp; omega) fun e => ob78 a e hb4).trans (by simp [show ¬ a = σ'.next by omega]), fun o ho e => ?_, by rw [g3]; simp; omega, fun a ha => ?_, rfl⟩
        · have := lt8 o e
          cases ho; omega
        · rw [g4 a (by simp; omega) fun e => by have := lt7 a e; omega]
          simp [show ¬ a = σ'.next by omega]
          simpa using hold a ha
      · have hzc' : ¬ (z.c : Int) = c := by omega
        have hh1 : his (R.O.take (k + 1)) c = his (R.O.take k) c := by rw [htk, his, List.filter_append]; simp [his, hzc]
        have hh2 : notHis (R.O.take (k + 1)) c = notHis (R.O.take k) c ++ [z] := by rw [htk, notHis, List.filter_append]; simp [notHis, hzc]
        obtain ⟨ρ', g1, g2, g3, g4⟩ := osl_new (ρ := ⟨σ'.mem.set σ'.next (.cells 4 (orow z)), σ'.next + 1⟩) (o8.frB (by simp) fun a ha _ => by simp [show ¬ a = σ'.next by omega]) l8 (b := σ'.next) (x := z) (by simp) (by simp; omega)
        simp [lk_cons, mr, hlt2, mo, r2, hzc, hzc', row, k1, fillL, repL, storeL, w2, x1, x2, ↓g1]
        refine ⟨R.O.length - (k + 1), by omega, k + 1, v7, _, rfl, by omega, by rw [hh1]; exact o7.frB (by rw [g3]; simp; omega) fun a ha hb4 => (g4 a (by simp; omega) fun e => ob78 a hb4 e).trans (by simp [show ¬ a = σ'.next by omega]), by rw [hh2]; exact g2, fun o ho e => ?_, by rw [g3]; simp; omega, fun a ha => ?_, rfl⟩
        · have := lt7 o ho
          cases e; omega
        · rw [g4 a (by simp; omega) fun e => by have := lt8 a e; omega]
          simp [show ¬ a = σ'.next by omega]
          simpa using hold a ha
    · obtain rfl : k = R.O.length := by omega
      rw [List.take_length] at o7 o8
      have one8 := o8.one
      simp [lk_cons, mr, ↓lo1, storeL, one8]
      have lt7 : ∀ o, blk v7 = some o → o < σ'.next ∧ σ2.next ≤ o := fun o ho => by
        rcases o7.blk with ⟨rfl, _⟩ | ⟨o', _, g2, g3, g4, _⟩
        · cases ho
        · rw [g2] at ho; cases ho; exact ⟨g4, g3⟩
      have lt8 : ∀ o, blk v8 = some o → o < σ'.next ∧ σ2.next ≤ o := fun o ho => by
        rcases o8.blk with ⟨rfl, _⟩ | ⟨o', _, g2, g3, g4, _⟩
        · cases ho
        · rw [g2] at ho; cases ho; exact ⟨g4, g3⟩
      have gn : σ.next ≤ σ2.next := by omega
      have hv7 : OSl σ2.next ⟨σ'.mem.set w.r (.cells 4 [.int .u8 (R.kind : Int), v2, v8, u64 (R.last : Int)]), σ'.next⟩ v7 (his R.O c) := o7.frB (Nat.le_refl _) fun a ha hb4 => by
        have := lt7 a hb4
        simp [show ¬ a = w.r by omega]
      refine h2 ⟨w.r, some y, blk v8⟩ _ i x v7 hx (OSl.frame' hv7 (Nat.le_refl _) gn fun _ _ _ => rfl) ⟨⟨v2, v8, by simp, .inr ⟨y, ty, rfl, by rw [hel]; exact j5, by show y < σ'.next; omega, ?_⟩, ?_⟩, by show w.r < σ'.next; omega, ⟨fun e => hyr (Option.some.inj e), fun e => ?_, fun z hz e => ?_⟩⟩ ⟨rfl, fun z hz => ?_, by show σ.next ≤ σ'.next; omega, fun a ha hnn => ?_⟩ fun o ho hh3 => ?_
      · simp [hyr]
        rw [hold y j7]
        simp [hyr]
        rw [j8, erase_tc hi]
      · rcases o8.blk with ⟨rfl, h0⟩ | ⟨o, g1, g2, g3, g4, g5⟩
        · exact .inl ⟨rfl, by rw [h0]; rfl, by rw [h0]; rfl, rfl⟩
        · refine .inr ⟨o, false, g2, g1, g4, ?_⟩
          simp [show ¬ o = w.r by omega]
          exact g5
      · have := lt8 w.r e; omega
      · cases hz
        have := lt8 _ e; omega
      · rcases hz with e | e | e
        · exact .inl (.inl e)
        · cases e; exact .inr (by omega)
        · exact .inr (by have := lt8 _ e; omega)
      · have n1 : ¬ a = w.r := fun e => hnn (.inl e)
        simp [n1]
        rw [hold a (by omega)]
        simp [n1]
        exact old a ha
      · have l7' := lt7 o ho
        rcases hh3 with e | e | e
        · simp only at e; omega
        · cases e; omega
        · exact ob78 o ho e
end Go.Proofs.Ytiikaajopgjliaa.AM

/- Lists that are alike; places in order. -/
namespace Go.Proofs.Ytiikaajopgjliaa.AM
set_option maxRecDepth 100000
set_option linter.unusedVariables false
set_option linter.unusedSimpArgs false

def RdO (σ : St) (v : AVal) (l : List OutR) : Prop := (∀ ρ : St, evalV ρ (.len 1 v) = some (i64 l.length, ρ)) ∧ ∀ (i : Nat) (x : OutR), l[i]? = some x → ∃ p, (∀ ρ : St, evalV ρ (.idxAddr 4 v (i64 i)) = some (p, ρ)) ∧ evalV σ (.ldn 4 p) = some (.agg (orow x), σ)
theorem OI.rd {v : AVal} {l : List OutR} (h : OI v l) (σ : St) : RdO σ v l := ⟨h.len, fun i x hx => ⟨_, fun ρ => h.at hx ρ, by simp⟩⟩
theorem OSl.len6 {lo : Nat} {σ : St} {v : AVal} {l : List OutR} (h : OSl lo σ v l) (ρ : St) : evalV ρ (.len 1 v) = some (i64 l.length, ρ) := by
  rcases h with ⟨rfl, rfl⟩ | ⟨o, rfl, _⟩ <;> simp
theorem OSl.rd {lo : Nat} {σ : St} {v : AVal} {l : List OutR} (h : OSl lo σ v l) : RdO σ v l := ⟨h.len6, fun i x hx => by
  have hi := (List.getElem?_eq_some_iff.1 hx).1
  rcases h with ⟨_, rfl⟩ | ⟨o, rfl, h1, h2, h3, h4⟩
  · simp at hx
  · have k1 : i * 4 + 4 ≤ (oc l).length := by rw [oc_len]; omega
    exact ⟨.ptr o (i * 4), fun ρ => by simp [hi], by simp [h4, k1, oc_at hx]⟩⟩
theorem SL.rd {σ : St} {v : AVal} {l : List OutR} {b : Option Nat} (h : SL σ 4 (oc l) l.length v b) : RdO σ v l := ⟨h.len, fun i x hx => by
  have hi := (List.getElem?_eq_some_iff.1 hx).1
  rcases h with ⟨_, h0, _⟩ | ⟨o, t, _, rfl, h3, h4⟩
  · omega
  · have k1 : i * 4 + 4 ≤ (oc l).length := by rw [oc_len]; omega
    exact ⟨.ptr o (i * 4), fun ρ => by simp [hi], by simp [h4, k1, oc_at hx]⟩⟩
theorem eqs_out (x : OutR) (ρ : St) : evalV ρ (.eqs true [1, 1, 1, 2] (.agg (orow x)) (.agg (orow x))) = some (.bool false, ρ) := by
  have hb : (x.k == x.k) = true := by
    have : (x.k == x.k) = (x.k.data == x.k.data) := by cases x.k; rfl
    rw [this]; simp
  simp [evalV, shapeOk, kShape, keysEq, keyEq, hb]
theorem eqs_tak (c : Nat) (p : Int) (ρ : St) : evalV ρ (.eqs true [1, 1] (.agg [u64 (c : Int), i64 p]) (.agg [u64 (c : Int), i64 p])) = some (.bool false, ρ) := by
  simp [evalV, shapeOk, kShape, keysEq, keyEq]
def S7J (v1 v2 : AVal) (n : Nat) (σ0 : St) (mm : Nat) (rg : Regs) (σ' : St) : Prop := ∃ i : Nat, mm = n - i ∧ i ≤ n ∧ σ' = σ0 ∧ rg = [(0, v1), (1, v2), (5, i64 i)]
theorem same17_c {σ : St} {v1 v2 : AVal} {l : List OutR} (h1 : RdO σ v1 l) (h2 : RdO σ v2 l) (hl : l.length ≤ 100000) (Q : AVal → St → Prop) (hQ : Q (.bool true) σ) : ACall Try.prog 17 [v1, v2] σ Q := by
  refine ACall.of_compF hmx (fun a w => Try.call17 a w) Try.func17 cf17 (n := 2) (by decide) rfl ?_
  have l1 := h1.1
  have l2 := h2.1
  simp [ac17, rs17, lk_cons, ↓l1, ↓l2]
  refine wp_loop (S7J v1 v2 l.length σ) l.length ?_ ?_
  · exact ⟨0, rfl, Nat.zero_le _, rfl, rfl⟩
  · rintro mm rg σ' ⟨i, rfl, hi, rfl, rfl⟩
    by_cases hlt : i < l.length
    · obtain ⟨x, hx⟩ : ∃ x, l[i]? = some x := ⟨_, List.getElem?_eq_getElem hlt⟩
      have w1 : IntKind.i64.wrap ((i : Int) + 1) = ((i + 1 : Nat) : Int) := by rw [IntWalk.i64_in] <;> omega
      obtain ⟨p, p1, p2⟩ := h1.2 i x hx
      obtain ⟨q, q1, q2⟩ := h2.2 i x hx
      have q3 := eqs_out x
      simp [lk_cons, hlt, ↓l1, ↓p1, ↓p2, ↓q1, ↓q2, ↓q3, w1]
      exact ⟨l.length - (i + 1), by omega, i + 1, rfl, by omega, rfl, rfl⟩
    · obtain rfl : i = l.length := by omega
      simp [lk_cons, ↓l1]
      exact hQ
def RdT (σ : St) (v : AVal) (l : List (Nat × Int)) : Prop := (∀ ρ : St, evalV ρ (.len 1 v) = some (i64 l.length, ρ)) ∧ ∀ (i : Nat) (x : Nat × Int), l[i]? = some x → ∃ p, (∀ ρ : St, evalV ρ (.idxAddr 2 v (i64 i)) = some (p, ρ)) ∧ evalV σ (.ldn 2 p) = some (.agg [u64 (x.1 : Int), i64 x.2], σ)
theorem TI.rd {v : AVal} {l : List (Nat × Int)} (h : TI v l) (σ : St) : RdT σ v l := ⟨h.len, fun i x hx => ⟨_, fun ρ => h.at hx ρ, by simp⟩⟩
theorem SL.rdt {σ : St} {v : AVal} {l : List (Nat × Int)} {b : Option Nat} (h : SL σ 2 (tc l) l.length v b) : RdT σ v l := ⟨h.len, fun i x hx => by
  have hi := (List.getElem?_eq_some_iff.1 hx).1
  rcases h with ⟨_, h0, _⟩ | ⟨o, t, _, rfl, h3, h4⟩
  · omega
  · have k1 : i * 2 + 2 ≤ (tc l).length := by rw [tc_len]; omega
    exact ⟨.ptr o (i * 2), fun ρ => by simp [hi], by simp [h4, k1, tc_get hx]⟩⟩
theorem same19_c {σ : St} {v1 v2 : AVal} {l : List (Nat × Int)} (h1 : RdT σ v1 l) (h2 : RdT σ v2 l) (hl : l.length ≤ 100000) (Q : AVal → St → Prop) (hQ : Q (.bool true) σ) : ACall Try.prog 19 [v1, v2] σ Q := by
  refine ACall.of_compF hmx (fun a w => Try.call19 a w) Try.func19 cf19 (n := 2) (by decide) rfl ?_
  have l1 := h1.1
  have l2 := h2.1
  simp [ac19, rs19, lk_cons, ↓l1, ↓l2]
  refine wp_loop (S7J v1 v2 l.length σ) l.length ?_ ?_
  · exact ⟨0, rfl, Nat.zero_le _, rfl, rfl⟩
  · rintro mm rg σ' ⟨i, rfl, hi, rfl, rfl⟩
    by_cases hlt : i < l.length
    · obtain ⟨x, hx⟩ : ∃ x, l[i]? = some x := ⟨_, List.getElem?_eq_getElem hlt⟩
      have w1 : IntKind.i64.wrap ((i : Int) + 1) = ((i + 1 : Nat) : Int) := by rw [IntWalk.i64_in] <;> omega
      obtain ⟨p, p1, p2⟩ := h1.2 i x hx
      obtain ⟨q, q1, q2⟩ := h2.2 i x hx
      have q3 := eqs_tak x.1 x.2
      simp [lk_cons, hlt, ↓l1, ↓p1, ↓p2, ↓q1, ↓q2, ↓q3, w1]
      exact ⟨l.length - (i + 1), by omega, i + 1, rfl, by omega, rfl, rfl⟩
    · obtain rfl : i = l.length := by omega
      simp [lk_cons, ↓l1]
      exact hQ
theorem eqs_ps2 (a b c d : Int) (ρ : St) : evalV ρ (.eqs false [1, 1] (.agg [u64 a, u64 b]) (.agg [u64 c, u64 d])) = some (.bool (decide (a = c ∧ b = d)), ρ) := by
  rw [eqs_ps]; simp
theorem ord48_c (a b c d : Nat) (σ : St) (Q : AVal → St → Prop) (h : ∀ n : Int, (n < 0 ↔ a < c ∨ a = c ∧ b < d) → Q (i64 n) σ) : ACall Try.prog 48 [ps (a : Int) (b : Int), ps (c : Int) (d : Int)] σ Q := by
  refine ACall.scrub ?_
  refine ACall.of_compF hmx (fun a w => Try.call48 a w) Try.func48 cf48 (n := 2) (by decide) rfl ?_
  have e1 : ¬ σ.next = σ.next + 1 := by omega
  by_cases h1 : a < c
  · have h1' : (a : Int) < c := by omega
    simp [ac48, rs48, lk_cons, e1, h1, h1']
    exact ⟨fun x hx => by simp [show ¬ x = σ.next by omega, show ¬ x = σ.next + 1 by omega], h (-1) (by omega)⟩
  have h1' : ¬ (a : Int) < c := by omega
  by_cases h2 : a = c
  · have h2' : (a : Int) = c := by omega
    by_cases h3 : b < d
    · have h3' : (b : Int) < d := by omega
      simp [ac48, rs48, lk_cons, e1, h1, h1', h2, h2', h3, h3']
      exact ⟨fun x hx => by simp [show ¬ x = σ.next by omega, show ¬ x = σ.next + 1 by omega], h (-1) (by omega)⟩
    have h3' : ¬ (b : Int) < d := by omega
    by_cases h4 : b = d
    · have h4' : (b : Int) = d := by omega
      simp [ac48, rs48, lk_cons, e1, h1, h1', h2, h2', h3, h3', ↓eqs_ps2, h4, h4']
      exact ⟨fun x hx => by simp [show ¬ x = σ.next by omega, show ¬ x = σ.next + 1 by omega], h 0 (by omega)⟩
    · have h4' : ¬ (b : Int) = d := by omega
      simp [ac48, rs48, lk_cons, e1, h1, h1', h2, h2', h3, h3', ↓eqs_ps2, h4, h4']
      exact ⟨fun x hx => by simp [show ¬ x = σ.next by omega, show ¬ x = σ.next + 1 by omega], h 1 (by omega)⟩
  · have h2' : ¬ (a : Int) = c := by omega
    simp [ac48, rs48, lk_cons, e1, h1, h1', h2, h2', ↓eqs_ps2]
    exact ⟨fun x hx => by simp [show ¬ x = σ.next by omega, show ¬ x = σ.next + 1 by omega], h 1 (by omega)⟩
end Go.Proofs.Ytiikaajopgjliaa.AM

/- The document's desk: who may. -/
namespace Go.Proofs.Ytiikaajopgjliaa.AM
set_option maxRecDepth 100000
set_option linter.unusedVariables false
set_option linter.unusedSimpArgs false

def ic (l : List Nat) : List AVal := l.map fun i : Nat => i64 (i : Int)
theorem ic_len (l : List Nat) : (ic l).length = l.length := by simp [ic]
def IS (lo : Nat) (σ : St) (v : AVal) (l : List Nat) : Prop := v = .nilsl ∧ l = [] ∨ ∃ o, v = .sl o 0 l.length l.length false ∧ lo ≤ o ∧ o < σ.next ∧ σ.mem.get o = some (.cells 1 (ic l))
theorem is_new {lo : Nat} {ρ0 ρ : St} {ov : AVal} {l : List Nat} (ho : IS lo ρ0 ov l) (hn : ρ0.next ≤ ρ.next) (hm : ∀ a, lo ≤ a → a < ρ0.next → ρ.mem.get a = ρ0.mem.get a) (hl : l.length ≤ 100000) {b x : Nat} (hb : ρ.mem.get b = some (.cells 1 [i64 (x : Int)])) (hlo : lo ≤ ρ.next) :
    ∃ w ρ', evalV ρ (.append 1 8 ov (.sl b 0 1 1 true)) = some (w, ρ') ∧ IS lo ρ' w (l ++ [x]) ∧ ρ'.next = ρ.next + 1 ∧ ∀ a, a < lo → ρ'.mem.get a = ρ.mem.get a := by
  rcases ho with ⟨rfl, rfl⟩ | ⟨o, rfl, h3, h4, h5⟩
  · exact ⟨.sl ρ.next 0 1 1 false, ⟨ρ.mem.set ρ.next (.cells 1 [i64 (x : Int)]), ρ.next + 1⟩, by simp [srcL, hb], .inr ⟨ρ.next, by simp, hlo, Nat.lt_succ_self _, by simp [ic]⟩, rfl, fun a ha => by simp [show ¬ a = ρ.next by omega]⟩
  · have h5' := (hm o h3 h4).trans h5
    have k1 : ¬ l.length + 1 ≤ l.length := by omega
    have k2 : l.length ≤ (ic l).length := by rw [ic_len]; omega
    have k3 : (l.length + 1) * 8 ≤ 140737488355328 ∧ l.length ≤ 9223372036854775806 := by omega
    have k4 : (ic l).take l.length = ic l := List.take_of_length_le (by rw [ic_len]; omega)
    exact ⟨.sl ρ.next 0 (l.length + 1) (l.length + 1) false, ⟨(ρ.mem.del o).set ρ.next (.cells 1 (ic l ++ [i64 (x : Int)])), ρ.next + 1⟩, by simp [srcL, hb, h5', k1, k2, k3, k4], .inr ⟨ρ.next, by simp, hlo, Nat.lt_succ_self _, by simp [ic]⟩, rfl, fun a ha => by simp [show ¬ a = ρ.next by omega, show ¬ a = o by omega]⟩
def RdI (σ : St) (v : AVal) (l : List Nat) : Prop := (∀ ρ : St, evalV ρ (.len 1 v) = some (i64 l.length, ρ)) ∧ ∀ (i x : Nat), l[i]? = some x → ∃ p, (∀ ρ : St, evalV ρ (.idxAddr 1 v (i64 i)) = some (p, ρ)) ∧ evalV σ (.ld1 p) = some (i64 (x : Int), σ)
theorem IS.rd {lo : Nat} {σ : St} {v : AVal} {l : List Nat} (h : IS lo σ v l) : RdI σ v l := by
  rcases h with ⟨rfl, rfl⟩ | ⟨o, rfl, h3, h4, h5⟩
  · exact ⟨fun ρ => by simp, fun i x hx => by simp at hx⟩
  · refine ⟨fun ρ => by simp, fun i x hx => ?_⟩
    have hi := (List.getElem?_eq_some_iff.1 hx).1
    have hx' : (ic l)[i]? = some (i64 (x : Int)) := by simp [ic, hx]
    exact ⟨.ptr o i, fun ρ => by simp [hi], by simp [h5, hx']⟩
theorem rd1 {σ : St} {o x : Nat} {t : Bool} (h : σ.mem.get o = some (.cells 1 [i64 (x : Int)])) : RdI σ (.sl o 0 1 1 t) [x] := by
  refine ⟨fun ρ => by simp, fun i y hy => ?_⟩
  have hi := (List.getElem?_eq_some_iff.1 hy).1
  have : i = 0 := by simpa using hi
  subst this
  simp at hy; subst hy
  exact ⟨.ptr o 0, fun ρ => by simp, by simp [h]⟩
/-- So many are smaller than the i-th. -/
def lessN (L : List (Nat × Int)) (x : Nat) : Nat := (ids L).countP fun y => decide (y < x)
def pickP (L : List (Nat × Int)) (m i : Nat) : Bool := decide (lessN L ((ids L).getD i 0) = m)
def rmayX (R : Rk) (key : ByteArray) (ix : List Nat) : Prop :=
  R.L = [] ∧ ix = [] ∨ R.L ≠ [] ∧ (
    R.kind = 3 ∧ (∃ f : Nat, idxN (ids R.L) R.last + 1 = f ∧ ix = (List.range R.L.length).map fun i => (f + i) % R.L.length) ∨
    R.kind = 4 ∧ ((∃ x ∈ R.O, x.k = key ∧ ∃ p : Nat, idxN (ids R.L) x.c = p ∧ ix = [p]) ∨ (∀ x ∈ R.O, x.k ≠ key) ∧ ∃ m : Nat, (crcS key).tmod (R.L.length : Int) = m ∧ ix = (List.range R.L.length).filter (pickP R.L m)) ∨
    R.kind ≠ 3 ∧ R.kind ≠ 4 ∧ ix = [0])
def MaJ (w : ROwn) (f n : Nat) (σ0 : St) (mm : Nat) (rg : Regs) (σ' : St) : Prop := ∃ (i : Nat) (v : AVal), mm = n - i ∧ i ≤ n ∧ IS σ0.next σ' v ((List.range i).map fun i => (f + i) % n) ∧ σ0.next ≤ σ'.next ∧ (∀ a, a < σ0.next → σ'.mem.get a = σ0.mem.get a) ∧ rg = [(5, v), (6, i64 n), (7, i64 f), (8, i64 i)]
def MbJ (w : ROwn) (n : Nat) (key : ByteArray) (R : Rk) (σ0 : St) (mm : Nat) (rg : Regs) (σ' : St) : Prop := ∃ i : Nat, mm = R.O.length - i ∧ i ≤ R.O.length ∧ (∀ x ∈ R.O.take i, x.k ≠ key) ∧ σ' = σ0 ∧ rg = [(0, .ptr w.r 0), (1, .str key), (5, .nilsl), (6, i64 n), (9, i64 i)]
def McJ (w : ROwn) (m : Nat) (R : Rk) (σ0 : St) (mm : Nat) (rg : Regs) (σ' : St) : Prop := ∃ (i : Nat) (v : AVal), mm = R.L.length - i ∧ i ≤ R.L.length ∧ IS (σ0.next + 1) σ' v ((List.range i).filter (pickP R.L m)) ∧ σ0.next + 1 ≤ σ'.next ∧ (∀ a, a < σ0.next → σ'.mem.get a = σ0.mem.get a) ∧ rg = [(0, .ptr w.r 0), (5, v), (6, i64 R.L.length), (10, i64 m), (11, i64 i)]
def MdJ (w : ROwn) (m i x : Nat) (v : AVal) (R : Rk) (σ0 : St) (mm : Nat) (rg : Regs) (σ' : St) : Prop := ∃ (j : Nat), mm = R.L.length - j ∧ j ≤ R.L.length ∧ σ' = σ0 ∧ rg = [(0, .ptr w.r 0), (5, v), (6, i64 R.L.length), (10, i64 m), (11, i64 i), (12, i64 (((ids R.L).take j).countP fun y => decide (y < x) : Nat)), (13, i64 j)]
set_option maxHeartbeats 1000000 in
theorem rmay_c {σ : St} {w : ROwn} {R : Rk} (h : RR σ w R) (hl : R.L.length ≤ 1000) (hol : R.O.length ≤ 1000) (hin : ∀ x ∈ R.O, x.c ∈ ids R.L) (key : ByteArray) (hk : key.size ≤ 100000) (Q : AVal → St → Prop)
    (hQ : ∀ v ix σ', rmayX R key ix → RdI σ' v ix → Grow σ σ' → Q v σ') : ACall Try.prog 49 [.ptr w.r 0, .str key] σ Q := by
  refine ACall.of_compF hmx (fun a w => Try.call49 a w) Try.func49 cf49 (n := 2) (by decide) rfl ?_
  obtain ⟨⟨lv, ov, hh, hL, hO⟩, hlt, hne⟩ := id h
  have l1 := hL.len
  have lo1 := hO.len
  by_cases h0 : R.L.length = 0
  · have hnil : R.L = [] := List.length_eq_zero_iff.1 h0
    simp [ac49, rs49, lk_cons, hh, ↓l1, h0]
    exact hQ _ [] _ (.inl ⟨hnil, rfl⟩) ⟨fun ρ => by simp, fun i x hx => by simp at hx⟩ (Grow.refl _)
  have hne0 : R.L ≠ [] := fun e => h0 (by rw [e]; rfl)
  have h0' : ¬ (R.L.length : Int) = 0 := by omega
  by_cases h3 : R.kind = 3
  · have h3' : (R.kind : Int) = 3 := by omega
    simp [ac49, rs49, lk_cons, hh, ↓l1, h0, h0', h3, h3']
    refine at47_c h hl R.last _ ?_
    obtain ⟨f, f1, f2⟩ := idxN_le (ids R.L) R.last
    have f3 : f ≤ 1000 := by simp at f2; omega
    have w1 : IntKind.i64.wrap (idxN (ids R.L) R.last + 1) = (f : Int) := by rw [f1, IntWalk.i64_in]; omega
    simp [lk_cons, w1]
    refine wp_loop (MaJ w f R.L.length σ) R.L.length ?_ ?_
    · exact ⟨0, .nilsl, rfl, Nat.zero_le _, .inl ⟨rfl, by simp⟩, Nat.le_refl _, fun _ _ => rfl, rfl⟩
    · rintro mm rg σ' ⟨i, v, rfl, hi, hv, hn, hm, rfl⟩
      by_cases hlt2 : i < R.L.length
      · have w2 : IntKind.i64.wrap ((i : Int) + 1) = ((i + 1 : Nat) : Int) := by rw [IntWalk.i64_in] <;> omega
        have w3 : IntKind.i64.wrap ((f : Int) + i) = (f : Int) + i := by rw [IntWalk.i64_in] <;> omega
        obtain ⟨q, hq⟩ : ∃ q, (f + i) % R.L.length = q := ⟨_, rfl⟩
        have w4 : ((f : Int) + i).tmod (R.L.length : Int) = (q : Int) := by rw [show (f : Int) + i = ((f + i : Nat) : Int) by simp, ← hq]; rfl
        obtain ⟨nv, ρ', g1, g2, g3, g4⟩ := is_new (ρ := ⟨σ'.mem.set σ'.next (.cells 1 [i64 (q : Int)]), σ'.next + 1⟩) hv (by simp) (fun a ha hb => by simp [show ¬ a = σ'.next by omega]) (by simp; omega) (b := σ'.next) (x := q) (by simp) (by simp; omega)
        simp [lk_cons, hlt2, w3, w4, h0, h0', fillL, repL, storeL, w2, ↓g1]
        have one : nv.one = true ∧ cellsOf nv = [nv] := by rcases g2 with ⟨rfl, _⟩ | ⟨o, rfl, _⟩ <;> simp
        refine ⟨R.L.length - (i + 1), by omega, i + 1, nv, rfl, by omega, ?_, by rw [g3]; simp; omega, fun a ha => ?_, rfl⟩
        · rw [List.range_succ, List.map_append]
          simpa [hq] using g2
        · rw [g4 a ha]
          simp [show ¬ a = σ'.next by omega]
          exact hm a ha
      · obtain rfl : i = R.L.length := by omega
        simp [lk_cons]
        exact hQ _ _ _ (.inr ⟨hne0, .inl ⟨h3, f, f1, rfl⟩⟩) hv.rd ⟨hn, hm⟩
  by_cases h4 : R.kind = 4
  rotate_left
  · have h3' : ¬ (R.kind : Int) = 3 := by omega
    have h4' : ¬ (R.kind : Int) = 4 := by omega
    simp [ac49, rs49, lk_cons, hh, ↓l1, h0, h0', h3, h3', h4, h4', fillL, repL, storeL]
    exact hQ _ [0] _ (.inr ⟨hne0, .inr (.inr ⟨h3, h4, rfl⟩)⟩) (rd1 (by simp)) ⟨by simp, fun a ha => by simp [show ¬ a = σ.next by omega]⟩
  have h3' : ¬ (R.kind : Int) = 3 := by omega
  have h4' : (R.kind : Int) = 4 := by omega
  simp [ac49, rs49, lk_cons, hh, ↓l1, h0, h0', h3, h3', h4, h4']
  refine wp_loop (MbJ w R.L.length key R σ) R.O.length ?_ ?_
  · exact ⟨0, rfl, Nat.zero_le _, by simp, rfl, rfl⟩
  · rintro mm rg σ' ⟨i, rfl, hi, hp, rfl, rfl⟩
    by_cases hlt2 : i < R.O.length
    · obtain ⟨x, hx⟩ : ∃ x, R.O[i]? = some x := ⟨_, List.getElem?_eq_getElem hlt2⟩
      have w2 : IntKind.i64.wrap ((i : Int) + 1) = ((i + 1 : Nat) : Int) := by rw [IntWalk.i64_in] <;> omega
      have hxO := List.mem_of_getElem? hx
      rcases hO with ⟨_, h00, _⟩ | ⟨ob, t', hob, rfl, hob2, hob3⟩
      · omega
      obtain ⟨r0, r1, r2, r3⟩ := oc_set4 hx
      by_cases hxk : x.k = key
      · simp [lk_cons, hh, ↓lo1, hlt2, hob3, r3, ↓bytes_eq, hxk, r2]
        refine at47_c h hl x.c _ ?_
        rcases idxN_cases (ids R.L) x.c with ⟨_, e2⟩ | ⟨p, e1, _, _⟩
        · exact absurd (hin x hxO) e2
        simp [lk_cons, e1, fillL, repL, storeL]
        exact hQ _ [p] _ (.inr ⟨hne0, .inr (.inl ⟨h4, .inl ⟨x, hxO, hxk, p, e1, rfl⟩⟩)⟩) (rd1 (by simp)) ⟨by simp, fun a ha => by simp [show ¬ a = σ'.next by omega]⟩
      · simp [lk_cons, hh, ↓lo1, hlt2, hob3, r3, ↓bytes_eq, hxk, w2]
        refine ⟨R.O.length - (i + 1), by omega, i + 1, rfl, by omega, fun y hy => ?_, rfl, rfl⟩
        rw [List.take_add_one, hx] at hy
        rcases List.mem_append.1 hy with hy | hy
        · exact hp y hy
        · simp at hy; rw [hy]; exact hxk
    · obtain rfl : i = R.O.length := by omega
      rw [List.take_length] at hp
      have hk' : key.size ≤ 140737488355328 := by omega
      simp [lk_cons, hh, ↓lo1, hk']
      refine sum60_c (by simp) hk _ ?_
      have c0 := xor_in (sumN key.data.toList) 4294967295
      obtain ⟨m, hm⟩ : ∃ m : Nat, (crcS key).tmod (R.L.length : Int) = m := ⟨((crcS key).tmod (R.L.length : Int)).toNat, (Int.toNat_of_nonneg (Int.tmod_nonneg _ c0.1)).symm⟩
      have hml : m < R.L.length := by have := Int.tmod_lt_of_pos (crcS key) (b := (R.L.length : Int)) (by omega); omega
      have w2 : IntKind.u64.wrap (crcS key) = crcS key := by rw [IntWalk.u64_in]; have := c0.1; have := c0.2; simp only [crcS] at *; omega
      have w3 : IntKind.u64.wrap (R.L.length : Int) = R.L.length := by rw [IntWalk.u64_in]; omega
      have w4 : IntKind.i64.wrap (m : Int) = m := by rw [IntWalk.i64_in]; omega
      simp [lk_cons, w2, w3, h0, h0', hm, w4]
      rcases hL with ⟨_, h00, _⟩ | ⟨b, t, hb, rfl, hb2, hb3⟩
      · omega
      refine wp_loop (McJ w m R σ') R.L.length ?_ ?_
      · exact ⟨0, .nilsl, rfl, Nat.zero_le _, .inl ⟨rfl, by simp⟩, by simp, fun a ha => by simp [show ¬ a = σ'.next by omega], rfl⟩
      · rintro mm rg σ2 ⟨i, v, rfl, hi, hv, hn, hold, rfl⟩
        have mr := (hold _ hlt).trans hh
        have mb := (hold _ hb2).trans hb3
        by_cases hlt2 : i < R.L.length
        · obtain ⟨x, hx⟩ : ∃ x, R.L[i]? = some x := ⟨_, List.getElem?_eq_getElem hlt2⟩
          have w5 : IntKind.i64.wrap ((i : Int) + 1) = ((i + 1 : Nat) : Int) := by rw [IntWalk.i64_in] <;> omega
          have t0 := tc_get0 hx
          have hgx : (ids R.L).getD i 0 = x.1 := by simp [hx]
          simp [lk_cons, hlt2]
          refine wp_loop (MdJ w m i x.1 v R σ2) R.L.length ?_ ?_
          · exact ⟨0, rfl, Nat.zero_le _, rfl, rfl⟩
          · rintro mm2 rg2 σ3 ⟨j, rfl, hj, rfl, rfl⟩
            by_cases hlt3 : j < R.L.length
            · obtain ⟨y, hy⟩ : ∃ y, R.L[j]? = some y := ⟨_, List.getElem?_eq_getElem hlt3⟩
              have w6 : IntKind.i64.wrap ((j : Int) + 1) = ((j + 1 : Nat) : Int) := by rw [IntWalk.i64_in] <;> omega
              have t1 := tc_get0 hy
              have htk : (ids R.L).take (j + 1) = (ids R.L).take j ++ [y.1] := by rw [List.take_add_one]; simp [hy]
              have hcl : ((ids R.L).take j).countP (fun y => decide (y < x.1)) ≤ 1000 := Nat.le_trans List.countP_le_length (by simp; omega)
              obtain ⟨cn, hcn⟩ : ∃ cn, ((ids R.L).take j).countP (fun y => decide (y < x.1)) = cn := ⟨_, rfl⟩
              rw [hcn] at hcl
              rw [hcn]
              by_cases hyx : y.1 < x.1
              · have hyx' : (y.1 : Int) < x.1 := by omega
                have w7 : IntKind.i64.wrap ((cn : Int) + 1) = ((cn + 1 : Nat) : Int) := by rw [IntWalk.i64_in] <;> omega
                simp [lk_cons, hlt3, hlt2, mr, mb, t0, t1, hyx, hyx', w6, w7]
                refine ⟨R.L.length - (j + 1), by omega, j + 1, rfl, by omega, rfl, ?_⟩
                rw [htk, List.countP_append, hcn]
                simp [hyx]
              · have hyx' : ¬ (y.1 : Int) < x.1 := by omega
                simp [lk_cons, hlt3, hlt2, mr, mb, t0, t1, hyx, hyx', w6]
                refine ⟨R.L.length - (j + 1), by omega, j + 1, rfl, by omega, rfl, ?_⟩
                rw [htk, List.countP_append, hcn]
                simp [hyx]
            · obtain rfl : j = R.L.length := by omega
              have hfull : ((ids R.L).take R.L.length).countP (fun y => decide (y < x.1)) = lessN R.L x.1 := by rw [List.take_of_length_le (by simp)]; rfl
              rw [hfull]
              by_cases hp2 : lessN R.L x.1 = m
              · have hpick : pickP R.L m i = true := by simp only [pickP, hgx]; exact decide_eq_true hp2
                obtain ⟨nv, ρ', g1, g2, g3, g4⟩ := is_new (ρ := ⟨σ3.mem.set σ3.next (.cells 1 [i64 (i : Int)]), σ3.next + 1⟩) hv (by simp) (fun a ha hb => by simp [show ¬ a = σ3.next by omega]) (Nat.le_trans (List.length_filter_le _ _) (by simp; omega)) (b := σ3.next) (x := i) (by simp) (by simp; omega)
                have one : nv.one = true ∧ cellsOf nv = [nv] := by rcases g2 with ⟨rfl, _⟩ | ⟨o, rfl, _⟩ <;> simp
                simp [lk_cons, hp2, fillL, repL, storeL, ↓g1, w5]
                refine ⟨R.L.length - (i + 1), by omega, i + 1, nv, rfl, by omega, ?_, by rw [g3]; simp; omega, fun a ha => ?_, rfl⟩
                · rw [List.range_succ, List.filter_append]
                  simpa [hpick] using g2
                · rw [g4 a (by omega)]
                  simp [show ¬ a = σ3.next by omega]
                  exact hold a ha
              · have hpick : pickP R.L m i = false := by simp only [pickP, hgx]; exact decide_eq_false hp2
                have hp3 : ¬ (lessN R.L x.1 : Int) = m := by omega
                simp [lk_cons, hp2, hp3, w5]
                refine ⟨R.L.length - (i + 1), by omega, i + 1, v, rfl, by omega, ?_, hn, hold, rfl⟩
                rw [List.range_succ, List.filter_append]
                simpa [hpick] using hv
        · obtain rfl : i = R.L.length := by omega
          simp [lk_cons]
          exact hQ _ _ _ (.inr ⟨hne0, .inr (.inl ⟨h4, .inr ⟨hp, m, hm, rfl⟩⟩)⟩) hv.rd ⟨by omega, hold⟩
end Go.Proofs.Ytiikaajopgjliaa.AM

/- The document's desk: Offer. -/
namespace Go.Proofs.Ytiikaajopgjliaa.AM
set_option maxRecDepth 100000
set_option linter.unusedVariables false
set_option linter.unusedSimpArgs false

/-- One put between two parts of a slice. -/
theorem join3 {σ : St} {b nx n k cap : Nat} {t t3 : Bool} {rows : List AVal} {x : OutR} (hm : σ.mem.get b = some (.cells 4 rows)) (hx : σ.mem.get nx = some (.cells 4 (orow x))) (hbn : b ≠ nx) (hlt : b < σ.next ∧ nx < σ.next) (hr : rows.length = n * 4) (hk : k ≤ n) (hn : n ≤ 1000) :
    ∃ v1 σ1 σ2 y, evalV σ (.append 4 40 (.sl nx 0 1 1 true) (.sl b (k * 4) (n - k) cap t3)) = some (v1, σ1) ∧ evalV σ1 (.append 4 40 (.sl b 0 k k t) v1) = some (.sl y 0 (n + 1) (n + 1) false, σ2) ∧ σ.next ≤ y ∧ y < σ2.next ∧ σ2.mem.get y = some (.cells 4 (rows.take (k * 4) ++ (orow x ++ rows.drop (k * 4)))) ∧ σ.next ≤ σ2.next ∧ (∀ a, a < σ.next → σ1.mem.get a = σ.mem.get a) ∧ ∀ a, a < σ.next → a ≠ b → σ2.mem.get a = σ.mem.get a := by
  have hd : (rows.drop (k * 4)).take ((n - k) * 4) = rows.drop (k * 4) := List.take_of_length_le (by rw [List.length_drop]; omega)
  have q1 : k * 4 + (n - k) * 4 ≤ rows.length := by omega
  have q2 : k * 4 ≤ rows.length := by omega
  have b1 : ¬ b = σ.next := by omega
  have b2 : ¬ nx = σ.next := by omega
  have b3 : ¬ b = σ.next + 1 := by omega
  by_cases hkn : n = k
  · subst hkn
    have c1 : ¬ n + 1 ≤ n := by omega
    have c2 : (n + 1) * 40 ≤ 140737488355328 ∧ n ≤ 9223372036854775806 := by omega
    have hde : rows.drop (n * 4) = [] := List.drop_eq_nil_of_le (by omega)
    have hset : ∀ a, (σ.mem.set nx (.cells 4 (orow x))).get a = σ.mem.get a := fun a => by
      by_cases e : a = nx
      · subst e; simp [hx]
      · simp [e]
    cases t
    · refine ⟨.sl nx 0 1 1 true, ⟨σ.mem.set nx (.cells 4 (orow x)), σ.next⟩, ⟨((σ.mem.set nx (.cells 4 (orow x))).del b).set σ.next (.cells 4 (rows.take (n * 4) ++ orow x)), σ.next + 1⟩, σ.next, by simp [srcL, hm, hx, storeL, q2], by simp [srcL, hm, hx, hbn, Ne.symm hbn, c1, c2, q2], Nat.le_refl _, by simp, by simp [hde], by simp, fun a ha => hset a, fun a ha hb => by
        by_cases e : a = nx
        · subst e; simp [hx, show ¬ a = σ.next by omega, hb]
        · simp [e, show ¬ a = σ.next by omega, hb]⟩
    · refine ⟨.sl nx 0 1 1 true, ⟨σ.mem.set nx (.cells 4 (orow x)), σ.next⟩, ⟨(σ.mem.set nx (.cells 4 (orow x))).set σ.next (.cells 4 (rows.take (n * 4) ++ orow x)), σ.next + 1⟩, σ.next, by simp [srcL, hm, hx, storeL, q2], by simp [srcL, hm, hx, hbn, Ne.symm hbn, c1, c2, q2], Nat.le_refl _, by simp, by simp [hde], by simp, fun a ha => hset a, fun a ha hb => by
        by_cases e : a = nx
        · subst e; simp [hx, show ¬ a = σ.next by omega]
        · simp [e, show ¬ a = σ.next by omega]⟩
  · have c1 : ¬ 1 + (n - k) ≤ 1 := by omega
    have c2 : (1 + (n - k)) * 40 ≤ 140737488355328 ∧ 1 + (n - k) ≤ 9223372036854775807 := by omega
    have c3 : ¬ k + (1 + (n - k)) ≤ k := by omega
    have c4 : (k + (1 + (n - k))) * 40 ≤ 140737488355328 ∧ k + (1 + (n - k)) ≤ 9223372036854775807 := by omega
    have c5 : k + (1 + (n - k)) = n + 1 := by omega
    have c6 : (1 + (n - k)) * 4 ≤ (orow x ++ rows.drop (k * 4)).length := by simp; omega
    have c7 : (orow x ++ rows.drop (k * 4)).take ((1 + (n - k)) * 4) = orow x ++ rows.drop (k * 4) := List.take_of_length_le (by simp; omega)
    have c6' : (1 + (n - k)) * 4 ≤ rows.length - k * 4 + 1 + 1 + 1 + 1 := by omega
    have c7' : List.take ((1 + (n - k)) * 4) (u64 (x.l : Int) :: u64 (x.e : Int) :: u64 (x.c : Int) :: .str x.k :: rows.drop (k * 4)) = u64 (x.l : Int) :: u64 (x.e : Int) :: u64 (x.c : Int) :: .str x.k :: rows.drop (k * 4) := c7
    cases t
    · refine ⟨.sl σ.next 0 (1 + (n - k)) (1 + (n - k)) false, ⟨σ.mem.set σ.next (.cells 4 (orow x ++ rows.drop (k * 4))), σ.next + 1⟩, ⟨((σ.mem.set σ.next (.cells 4 (orow x ++ rows.drop (k * 4)))).del b).set (σ.next + 1) (.cells 4 (rows.take (k * 4) ++ (orow x ++ rows.drop (k * 4)))), σ.next + 1 + 1⟩, σ.next + 1, ?_, ?_, by omega, by simp, by simp, by simp; omega, fun a ha => by simp [show ¬ a = σ.next by omega], fun a ha hb => by simp [show ¬ a = σ.next by omega, show ¬ a = σ.next + 1 by omega, hb]⟩
      · simp [srcL, hm, hx, q1, c1, c2, hd]
      · rw [← c5]
        simp [srcL, hm, b1, c3, c4, c6', c7', q2]
    · refine ⟨.sl σ.next 0 (1 + (n - k)) (1 + (n - k)) false, ⟨σ.mem.set σ.next (.cells 4 (orow x ++ rows.drop (k * 4))), σ.next + 1⟩, ⟨(σ.mem.set σ.next (.cells 4 (orow x ++ rows.drop (k * 4)))).set (σ.next + 1) (.cells 4 (rows.take (k * 4) ++ (orow x ++ rows.drop (k * 4)))), σ.next + 1 + 1⟩, σ.next + 1, ?_, ?_, by omega, by simp, by simp, by simp; omega, fun a ha => by simp [show ¬ a = σ.next by omega], fun a ha hb => by simp [show ¬ a = σ.next by omega, show ¬ a = σ.next + 1 by omega]⟩
      · simp [srcL, hm, hx, q1, c1, c2, hd]
      · rw [← c5]
        simp [srcL, hm, b1, c3, c4, c6', c7', q2]

theorem oc_take : ∀ (l : List OutR) (n : Nat), (oc l).take (n * 4) = oc (l.take n)
  | [], n => by simp [oc]
  | x :: l, 0 => by simp [oc]
  | x :: l, n + 1 => by
    have := oc_take l n
    simp only [oc, List.map_cons, List.flatten_cons, List.take_succ_cons] at this ⊢
    rw [show (n + 1) * 4 = n * 4 + 4 by omega]
    simpa using this
theorem oc_drop : ∀ (l : List OutR) (n : Nat), (oc l).drop (n * 4) = oc (l.drop n)
  | [], n => by simp [oc]
  | x :: l, 0 => by simp [oc]
  | x :: l, n + 1 => by
    have := oc_drop l n
    simp only [oc, List.map_cons, List.flatten_cons, List.drop_succ_cons] at this ⊢
    rw [show (n + 1) * 4 = n * 4 + 4 by omega]
    simpa using this
theorem oc_ins (O : List OutR) (k : Nat) (x : OutR) : (oc O).take (k * 4) ++ (orow x ++ (oc O).drop (k * 4)) = oc (O.take k ++ x :: O.drop k) := by
  rw [oc_take, oc_drop, oc_app]
  simp [oc]
/-- Where a place comes. -/
def atX (O : List OutR) (l e k : Nat) : Prop := k ≤ O.length ∧ (∀ x, 0 < k → O[k - 1]? = some x → x.l < l ∨ x.l = l ∧ x.e < e) ∧ ∀ (j : Nat) (x : OutR), k ≤ j → O[j]? = some x → ¬ (x.l < l ∨ x.l = l ∧ x.e < e)
def RoJ (w : ROwn) (l e : Nat) (key : ByteArray) (R : Rk) (σ0 : St) (mm : Nat) (rg : Regs) (σ' : St) : Prop := ∃ (i k : Nat), mm = R.O.length - i ∧ i ≤ R.O.length ∧ (∀ x ∈ R.O.take i, ¬ (x.l = l ∧ x.e = e)) ∧ atX (R.O.take i) l e k ∧ σ' = ⟨σ0.mem.set σ0.next (.cells 2 [u64 (l : Int), u64 (e : Int)]), σ0.next + 1⟩ ∧ rg = [(0, .ptr w.r 0), (2, .str key), (4, .ptr σ0.next 0), (8, i64 k), (9, i64 i)]
def RpJ (w : ROwn) (key : ByteArray) (pb k : Nat) (v : AVal) (ix : List Nat) (R : Rk) (σ1 : St) (mm : Nat) (rg : Regs) (σ' : St) : Prop := ∃ (i : Nat), mm = ix.length - i ∧ i ≤ ix.length ∧ (∀ p ∈ ix.take i, ∀ y, R.L[p]? = some y → ¬ 0 < y.2) ∧ σ' = σ1 ∧ rg = [(0, .ptr w.r 0), (2, .str key), (4, .ptr pb 0), (8, i64 k), (10, v), (11, i64 i)]
theorem rmayX_in {R : Rk} {key : ByteArray} {ix : List Nat} (h : rmayX R key ix) : (∀ p ∈ ix, p < R.L.length) ∧ ix.length ≤ R.L.length + 1 := by
  rcases h with ⟨_, rfl⟩ | ⟨hne, ⟨_, f, _, rfl⟩ | ⟨_, ⟨x, _, _, p, hp, rfl⟩ | ⟨_, m, _, rfl⟩⟩ | ⟨_, _, rfl⟩⟩
  · exact ⟨fun p hp => (by cases hp), by simp⟩
  · have hpos : 0 < R.L.length := List.length_pos_iff.2 hne
    refine ⟨fun p hp => ?_, by simp⟩
    obtain ⟨i, _, rfl⟩ := List.mem_map.1 hp
    exact Nat.mod_lt _ hpos
  · refine ⟨fun q hq => ?_, by simp⟩
    rw [List.mem_singleton.1 hq]
    rcases idxN_cases (ids R.L) x.c with ⟨e1, _⟩ | ⟨i, e1, _, e3⟩
    · omega
    · have : p = i := by omega
      rw [this]; simpa using e3
  · refine ⟨fun p hp => ?_, Nat.le_trans (List.length_filter_le _ _) (by simp)⟩
    exact List.mem_range.1 (List.mem_filter.1 hp).1
  · have hpos : 0 < R.L.length := List.length_pos_iff.2 hne
    exact ⟨fun p hp => by rw [List.mem_singleton.1 hp]; exact hpos, by simp⟩
set_option maxHeartbeats 2000000 in
theorem roffer_c {σ : St} {w : ROwn} {R : Rk} (h : RR σ w R) (hl : R.L.length ≤ 100) (hol : R.O.length ≤ 256) (hin : ∀ x ∈ R.O, x.c ∈ ids R.L) (hp : ∀ x ∈ R.L, 0 ≤ x.2 ∧ x.2 ≤ 1000) (l e : Nat) (key : ByteArray) (hk : key.size ≤ 100000) (Q : AVal → St → Prop)
    (h1 : ∀ σ', (∃ x ∈ R.O, x.l = l ∧ x.e = e) → RStp w w σ σ' → RR σ' w R → Q (.tup [u64 0, i64 62]) σ')
    (h2 : ∀ σ', R.O.length = 256 → (∀ x ∈ R.O, ¬ (x.l = l ∧ x.e = e)) → RStp w w σ σ' → RR σ' w R → Q (.tup [u64 0, i64 14]) σ')
    (h3 : ∀ (w' : ROwn) (σ' : St) (ix : List Nat) (i p c : Nat) (y : Int) (k : Nat), R.O.length ≠ 256 → (∀ x ∈ R.O, ¬ (x.l = l ∧ x.e = e)) → rmayX R key ix → ix[i]? = some p → R.L[p]? = some (c, y) → 0 < y → (∀ q ∈ ix.take i, ∀ z, R.L[q]? = some z → ¬ 0 < z.2) → atX R.O l e k → RR σ' w' { R with L := R.L.set p (c, y - 1), O := R.O.take k ++ ⟨l, e, c, key⟩ :: R.O.drop k, last := c } → RStp w w' σ σ' → Q (.tup [u64 (c : Int), i64 0]) σ')
    (h4 : ∀ σ' ix, R.O.length ≠ 256 → (∀ x ∈ R.O, ¬ (x.l = l ∧ x.e = e)) → rmayX R key ix → (∀ q ∈ ix, ∀ z, R.L[q]? = some z → ¬ 0 < z.2) → RStp w w σ σ' → RR σ' w R → Q (.tup [u64 0, i64 60]) σ') :
    ACall Try.prog 35 [.ptr w.r 0, ps (l : Int) (e : Int), .str key] σ Q := by
  refine ACall.of_compF hmx (fun a w => Try.call35 a w) Try.func35 cf35 (n := 3) (by decide) rfl ?_
  obtain ⟨⟨lv, ov, hh, hL, hO⟩, hlt, hne⟩ := id h
  have e1 : ¬ w.r = σ.next := by omega
  have lo1 := hO.len
  have gg : ∀ S : St, Grow σ S → RStp w w σ S ∧ RR S w R := fun S hS => ⟨⟨rfl, fun _ h => .inl h, hS.1, fun a ha _ => hS.2 a ha⟩, h.keep hS.1 fun a ha _ => hS.2 a ha⟩
  have g1 : ∀ A : Blk, Grow σ ⟨σ.mem.set σ.next A, σ.next + 1⟩ := fun A => ⟨by simp, fun a ha => by simp [show ¬ a = σ.next by omega]⟩
  simp [ac35, rs35, lk_cons]
  refine wp_loop (RoJ w l e key R σ) R.O.length ?_ ?_
  · exact ⟨0, 0, rfl, Nat.zero_le _, by simp, ⟨by simp, fun x hx => by omega, fun j x _ hx => by simp at hx⟩, rfl, rfl⟩
  · rintro mm rg σ' ⟨i, k, rfl, hi, hno, hat, rfl, rfl⟩
    by_cases hlt2 : i < R.O.length
    · obtain ⟨x, hx⟩ : ∃ x, R.O[i]? = some x := ⟨_, List.getElem?_eq_getElem hlt2⟩
      have w1 : IntKind.i64.wrap ((i : Int) + 1) = ((i + 1 : Nat) : Int) := by rw [IntWalk.i64_in] <;> omega
      rcases hO with ⟨_, h00, _⟩ | ⟨ob, t', hob, rfl, hob2, hob3⟩
      · omega
      have e2 : ¬ ob = σ.next := by omega
      have row : ((oc R.O).drop (i * 4)).take 2 = [u64 (x.l : Int), u64 (x.e : Int)] := by
        have := congrArg (List.take 2) (oc_at hx)
        rw [List.take_take] at this
        simpa using this
      have k1 : i * 4 + 2 ≤ (oc R.O).length := by rw [oc_len]; omega
      have htk : R.O.take (i + 1) = R.O.take i ++ [x] := by rw [List.take_add_one, hx]; rfl
      by_cases hm : x.l = l ∧ x.e = e
      · have hm1 : (x.l : Int) = l := by omega
        have hm2 : (x.e : Int) = e := by omega
        simp [lk_cons, hh, e1, e2, ↓lo1, hlt2, hob3, row, k1, ↓eqs_ps2, hm1, hm2]
        exact h1 _ ⟨x, List.mem_of_getElem? hx, hm⟩ (gg _ (g1 _)).1 (gg _ (g1 _)).2
      · have hm' : ¬ ((x.l : Int) = l ∧ (x.e : Int) = e) := by omega
        have hno' : ∀ y ∈ R.O.take (i + 1), ¬ (y.l = l ∧ y.e = e) := fun y hy => by
          rw [htk] at hy
          rcases List.mem_append.1 hy with hy | hy
          · exact hno y hy
          · rw [List.mem_singleton.1 hy]; exact hm
        simp [lk_cons, hh, e1, e2, ↓lo1, hlt2, hob3, row, k1, ↓eqs_ps2, hm, hm']
        refine ord48_c x.l x.e l e _ _ fun n hn => ?_
        by_cases hn0 : n < 0
        · simp [lk_cons, hn0, w1]
          refine ⟨R.O.length - (i + 1), by omega, i + 1, i + 1, rfl, by omega, hno', ⟨by simp; omega, fun y _ hy => ?_, fun j y hj hy => ?_⟩, rfl, rfl⟩
          · have : y = x := by
              simp only [Nat.add_sub_cancel, List.getElem?_take, if_pos (Nat.lt_succ_self i), hx] at hy
              exact (Option.some.inj hy).symm
            rw [this]; exact hn.1 hn0
          · have := (List.getElem?_eq_some_iff.1 hy).1
            simp at this; omega
        · simp [lk_cons, hn0, w1]
          refine ⟨R.O.length - (i + 1), by omega, i + 1, k, rfl, by omega, hno', ⟨?_, fun y h0 hy => ?_, fun j y hj hy => ?_⟩, rfl, rfl⟩
          · have := hat.1; simp at this ⊢; omega
          · have hk1 := hat.1
            simp at hk1
            refine hat.2.1 y h0 ?_
            rw [List.getElem?_take] at hy ⊢
            rw [if_pos (by omega)] at hy
            rw [if_pos (by omega)]; exact hy
          · rw [htk] at hy
            by_cases hji : j < i
            · refine hat.2.2 j y hj ?_
              rw [List.getElem?_append_left (by simp; omega)] at hy
              exact hy
            · have hjl := (List.getElem?_eq_some_iff.1 hy).1
              simp at hjl
              have hji' : j = i := by omega
              subst hji'
              rw [List.getElem?_append_right (by simp; omega)] at hy
              have : (List.take j R.O).length = j := by simp; omega
              rw [this] at hy
              simp at hy
              rw [← hy]
              exact fun hh => hn0 (hn.2 hh)
    · obtain rfl : i = R.O.length := by omega
      rw [List.take_length] at hno hat
      by_cases hfull : R.O.length = 256
      · have hfull' : (R.O.length : Int) = 256 := by omega
        simp [lk_cons, hh, e1, ↓lo1, hfull, hfull']
        exact h2 _ hfull hno (gg _ (g1 _)).1 (gg _ (g1 _)).2
      have hfull' : ¬ (R.O.length : Int) = 256 := by omega
      simp [lk_cons, hh, e1, ↓lo1, hfull, hfull']
      refine rmay_c (gg _ (g1 _)).2 (by omega) (by omega) hin key hk _ fun v ix σ1 m1 m2 m3 => ?_
      have m4 : Grow σ σ1 := Grow.trans (g1 _) m3
      obtain ⟨ixlt, ixl⟩ := rmayX_in m1
      have li := m2.1
      simp [lk_cons]
      refine wp_loop (RpJ w key σ.next k v ix R σ1) ix.length ?_ ?_
      · exact ⟨0, rfl, Nat.zero_le _, by simp, rfl, rfl⟩
      · rintro mm rg σ2 ⟨i, rfl, hi, hz, rfl, rfl⟩
        have mr := (m4.2 _ hlt).trans hh
        have mb : σ2.mem.get σ.next = some (.cells 2 [u64 (l : Int), u64 (e : Int)]) := by rw [m3.2 _ (by simp)]; simp
        by_cases hlt2 : i < ix.length
        · obtain ⟨p, hpx⟩ : ∃ p, ix[i]? = some p := ⟨_, List.getElem?_eq_getElem hlt2⟩
          have w1 : IntKind.i64.wrap ((i : Int) + 1) = ((i + 1 : Nat) : Int) := by rw [IntWalk.i64_in] <;> omega
          obtain ⟨q, q1, q2⟩ := m2.2 i p hpx
          have hpl := ixlt p (List.mem_of_getElem? hpx)
          obtain ⟨cy, hcy⟩ : ∃ cy, R.L[p]? = some cy := ⟨_, List.getElem?_eq_getElem hpl⟩
          obtain ⟨c, y⟩ := cy
          rcases hL with ⟨_, h00, _⟩ | ⟨b, t, hb, rfl, hb2, hb3⟩
          · omega
          have t0 := tc_get0 hcy
          have t1 := tc_get1 hcy
          have py := hp _ (List.mem_of_getElem? hcy)
          simp only at t0 t1 py
          have mbb := (m4.2 _ hb2).trans hb3
          by_cases hy0 : 0 < y
          · have w2 : IntKind.i64.wrap (y - 1) = y - 1 := by rw [IntWalk.i64_in] <;> omega
            have k2 : p * 2 + 1 + 1 ≤ (tc R.L).length := by rw [tc_len]; omega
            have wrb : ¬ w.r = b := fun e => hne.1 (by rw [hb, e])
            have bwr : ¬ b = w.r := fun e => wrb e.symm
            have pbb : ¬ σ.next = b := by omega
            have pbr : ¬ σ.next = w.r := by omega
            have rn : ¬ w.r = σ2.next := by have := m4.1; omega
            have bn : ¬ b = σ2.next := by have := m4.1; omega
            have pn : ¬ σ.next = σ2.next := by have := m3.1; simp at this; omega
            have hkO := hat.1
            have rn1 : ¬ w.r = σ2.next + 1 := by have := m4.1; omega
            have nr1 : ¬ σ2.next + 1 = w.r := fun e => rn1 e.symm
            have nr0 : ¬ σ2.next = w.r := fun e => rn e.symm
            have bn1 : ¬ b = σ2.next + 1 := by have := m4.1; omega
            rcases hO with ⟨rfl, h00, h01, hob⟩ | ⟨ob, t', hob, rfl, hob2, hob3⟩
            · have hk0 : k = 0 := by omega
              subst hk0
              simp [lk_cons, ↓li, hlt2, mr, ↓q1, ↓q2, hpl, mbb, t0, t1, hy0, w2, k2, storeL, wrb, bwr, pbb, pbr, rn, bn, pn, mb, fillL, repL, optM, asliceSl, bnd, srcL, rn1, nr1, nr0]
              have hsn := m4.1
              refine h3 ⟨w.r, some b, some (σ2.next + 1)⟩ _ ix i p c y 0 hfull hno m1 hpx hcy hy0 hz hat ⟨⟨.sl b 0 R.L.length R.L.length t, .sl (σ2.next + 1) 0 (1) (1) false, by simp, .inr ⟨b, t, rfl, by simp, ?_, ?_⟩, .inr ⟨σ2.next + 1, false, rfl, ?_, ?_, ?_⟩⟩, ?_, ⟨fun e => bwr (Option.some.inj e), fun e => ?_, fun z hz1 hz2 => ?_⟩⟩ ⟨rfl, fun z hz => ?_, ?_, fun a ha hn => ?_⟩
              · show b < σ2.next + 1 + 1; omega
              · simp [bwr, bn1, bn]
                exact tc_set hcy
              · simp [h00]
              · show σ2.next + 1 < σ2.next + 1 + 1; omega
              · simp [nr1, List.length_eq_zero_iff.1 h00, oc]
              · show w.r < σ2.next + 1 + 1; omega
              · exact nr1 (Option.some.inj e)
              · have h8 : b = z := Option.some.inj hz1
                have h9 : σ2.next + 1 = z := Option.some.inj hz2
                omega
              · rcases hz with e | e | e
                · exact .inl (.inl e)
                · exact .inl (.inr (.inl (by rw [hb]; exact e)))
                · have h9 : σ2.next + 1 = z := Option.some.inj e
                  exact .inr (by omega)
              · show σ.next ≤ σ2.next + 1 + 1; omega
              · have n1 : ¬ a = w.r := fun e => hn (.inl e)
                have n2 : ¬ a = b := fun e => hn (.inr (.inl (by rw [hb, e])))
                simp [n1, n2, show ¬ a = σ2.next by omega, show ¬ a = σ2.next + 1 by omega]
                exact m4.2 a ha
            · have obn : ¬ ob = σ2.next := by have := m4.1; omega
              have obr : ¬ ob = w.r := fun e => hne.2.1 (by rw [hob, e])
              have obb : ¬ ob = b := fun e => hne.2.2 b hb (by rw [hob, e])
              have mob := (m4.2 _ hob2).trans hob3
              obtain ⟨v1, s1, s2, yb, j1, j2, j3, j4, j5, j6, j7, j8⟩ := join3 (σ := ⟨((σ2.mem.set b (.cells 2 ((tc R.L).set (p * 2 + 1) (i64 (y - 1))))).set w.r (.cells 4 [.int .u8 (R.kind : Int), .sl b 0 R.L.length R.L.length t, .sl ob 0 R.O.length R.O.length t', u64 (c : Int)])).set σ2.next (.cells 4 (orow ⟨l, e, c, key⟩)), σ2.next + 1⟩) (b := ob) (nx := σ2.next) (n := R.O.length) (k := k) (cap := R.O.length - k) (t := true) (t3 := t') (rows := oc R.O) (x := ⟨l, e, c, key⟩) (by simp [obn, obr, obb, mob]) (by simp) obn (by have := m4.1; simp; omega) (by rw [oc_len]) hkO (by omega)
              have sr : s1.mem.get w.r = some (.cells 4 [.int .u8 (R.kind : Int), .sl b 0 R.L.length R.L.length t, .sl ob 0 R.O.length R.O.length t', u64 (c : Int)]) := by
                rw [j7 _ (by have := m4.1; simp; omega)]
                simp [rn]
              have so : s1.mem.get ob = some (.cells 4 (oc R.O)) := by
                rw [j7 _ (by have := m4.1; simp; omega)]
                simp [obn, obr, obb, mob]
              have sr2 : s2.mem.get w.r = some (.cells 4 [.int .u8 (R.kind : Int), .sl b 0 R.L.length R.L.length t, .sl ob 0 R.O.length R.O.length t', u64 (c : Int)]) := by
                rw [j8 _ (by have := m4.1; simp; omega) (fun e => obr e.symm)]
                simp [rn]
              simp [lk_cons, ↓li, hlt2, mr, ↓q1, ↓q2, hpl, mbb, t0, t1, hy0, w2, k2, storeL, wrb, bwr, pbb, pbr, rn, bn, pn, mb, fillL, repL, optM, asliceSl, bnd, hkO, sr, so, sr2, obn, obr, obb, mob, ↓j1, ↓j2]
              have hsn := m4.1
              refine h3 ⟨w.r, some b, some yb⟩ _ ix i p c y k hfull hno m1 hpx hcy hy0 hz hat ⟨⟨.sl b 0 R.L.length R.L.length t, .sl yb 0 (R.O.length + 1) (R.O.length + 1) false, by simp, .inr ⟨b, t, rfl, by simp, ?_, ?_⟩, .inr ⟨yb, false, rfl, ?_, ?_, ?_⟩⟩, ?_, ⟨fun e => bwr (Option.some.inj e), fun e => ?_, fun z hz1 hz2 => ?_⟩⟩ ⟨rfl, fun z hz => ?_, ?_, fun a ha hn => ?_⟩
              · simp only at j6; show b < s2.next; omega
              · simp [bwr]
                rw [j8 _ (by simp; omega) (fun e => obb e.symm)]
                simp [bwr, bn]
                exact tc_set hcy
              · have : (R.O.take k ++ (⟨l, e, c, key⟩ : OutR) :: R.O.drop k).length = R.O.length + 1 := by simp; omega
                rw [this]
              · exact j4
              · simp only at j3
                simp [show ¬ yb = w.r by omega]
                rw [j5, oc_ins]
              · simp only at j6; show w.r < s2.next; omega
              · have h9 : yb = w.r := Option.some.inj e
                simp only at j3; omega
              · have h8 : b = z := Option.some.inj hz1
                have h9 : yb = z := Option.some.inj hz2
                simp only at j3; omega
              · rcases hz with e | e | e
                · exact .inl (.inl e)
                · exact .inl (.inr (.inl (by rw [hb]; exact e)))
                · have h9 : yb = z := Option.some.inj e
                  simp only at j3
                  exact .inr (by omega)
              · simp only at j6; show σ.next ≤ s2.next; omega
              · have n1 : ¬ a = w.r := fun e => hn (.inl e)
                have n2 : ¬ a = b := fun e => hn (.inr (.inl (by rw [hb, e])))
                have n3 : a ≠ ob := fun e => hn (.inr (.inr (by rw [hob, e])))
                simp [n1]
                rw [j8 a (by simp; omega) n3]
                simp [n1, n2, show ¬ a = σ2.next by omega]
                exact m4.2 a ha
          · simp [lk_cons, ↓li, hlt2, mr, ↓q1, ↓q2, hpl, mbb, t1, hy0, w1]
            refine ⟨ix.length - (i + 1), by omega, i + 1, rfl, by omega, fun p' hp' z hz' => ?_, rfl, rfl⟩
            rw [List.take_add_one, hpx] at hp'
            rcases List.mem_append.1 hp' with hp' | hp'
            · exact hz p' hp' z hz'
            · simp at hp'; rw [hp', hcy] at hz'
              cases hz'; exact hy0
        · obtain rfl : i = ix.length := by omega
          rw [List.take_length] at hz
          simp [lk_cons, ↓li]
          exact h4 _ ix hfull hno m1 hz (gg _ m4).1 (gg _ m4).2
end Go.Proofs.Ytiikaajopgjliaa.AM

/- Both desks. -/
namespace Go.Proofs.Ytiikaajopgjliaa.AM
set_option maxRecDepth 100000
set_option linter.unusedVariables false
set_option linter.unusedSimpArgs false

def oLt (x y : OutR) : Prop := ordO x y < 0
theorem oLt_asymm {x y : OutR} (h : oLt x y) (k : oLt y x) : False := by
  unfold oLt at *; rw [ordO_lt] at h k; omega
theorem pw_uniq : ∀ {l1 l2 : List OutR}, l1.Pairwise oLt → l2.Pairwise oLt → l1.Perm l2 → l1 = l2
  | [], l2, _, _, h => h.nil_eq
  | x :: l1, [], _, _, h => absurd h.length_eq (by simp)
  | x :: l1, y :: l2, h1, h2, h => by
    rw [List.pairwise_cons] at h1 h2
    have hxy : x = y := by
      have hx : x ∈ y :: l2 := h.mem_iff.1 List.mem_cons_self
      have hy : y ∈ x :: l1 := h.mem_iff.2 List.mem_cons_self
      rcases List.mem_cons.1 hx with e | e
      · exact e
      · rcases List.mem_cons.1 hy with e2 | e2
        · exact e2.symm
        · exact (oLt_asymm (h1.1 y e2) (h2.1 x e)).elim
    subst hxy
    rw [pw_uniq h1.2 h2.2 (List.Perm.cons_inv h)]
theorem ris_pw {l : List OutR} (h : Ris l) (hk : (l.map okey).Nodup) : l.Pairwise oLt := by
  rw [List.pairwise_iff_getElem]
  intro i j hi hj hij
  have h1 := h i j l[i] l[j] hij (List.getElem?_eq_getElem hi) (List.getElem?_eq_getElem hj)
  have h2 := List.pairwise_iff_getElem.1 hk i j (by simpa using hi) (by simpa using hj) hij
  simp only [List.getElem_map, okey, ne_eq, Prod.mk.injEq] at h2
  unfold oLt
  rw [ordO_lt] at h1 ⊢
  omega
structure Same (D : Dk) (R : Rk) : Prop where
  kind : R.kind = D.kind
  L : R.L = D.L.map fun c => (c, tk D.T c)
  pw : R.O.Pairwise oLt
  pm : R.O.Perm D.O
  last : R.last = D.last
theorem Same.ids {D : Dk} {R : Rk} (h : Same D R) : AM.ids R.L = D.L := by
  rw [h.L]; simp [AM.ids, Function.comp_def]
theorem Same.all {D : Dk} {R : Rk} {ys : List OutR} (h : Same D R) (hk : KO D.O) (h1 : ys.Perm D.O) (h2 : Ris ys) : ys = R.O :=
  pw_uniq (ris_pw h2 (((h1.map okey).nodup_iff).2 hk)) h.pw (h1.trans h.pm.symm)
structure Both (K : Nat) (σ : St) (w : Own) (rw : ROwn) (D : Dk) (R : Rk) : Prop where
  dr : DR σ w D
  rr : RR σ rw R
  inv : Inv K D
  same : Same D R
  dis : ∀ a, rw.has a → ¬ w.has a
theorem dis_d {σ σ' : St} {w w' : Own} {rw : ROwn} {R : Rk} (hr : RR σ rw R) (hd : ∀ a, rw.has a → ¬ w.has a) (hs : Stp w w' σ σ') : RR σ' rw R ∧ ∀ a, rw.has a → ¬ w'.has a :=
  ⟨hr.keep hs.next fun a ha hh => hs.keep a ha (hd a hh), fun a hh => hs.has (hr.lt' hh) (hd a hh)⟩
theorem dis_r {σ σ' : St} {w : Own} {rw rw' : ROwn} {D : Dk} (hr : DR σ w D) (hd : ∀ a, rw.has a → ¬ w.has a) (hs : RStp rw rw' σ σ') : DR σ' w D ∧ ∀ a, rw'.has a → ¬ w.has a :=
  ⟨hr.keep hs.next fun a ha hh => hs.keep a ha fun e => hd a e hh, fun a hh hw => by
    rcases hs.own a hh with e | e
    · exact hd a e hw
    · have := hr.lt' hw; omega⟩
theorem same_L {D : Dk} {i c : Nat} {x : Int} {R : Rk} (hs : Same D R) (h : R.L[i]? = some (c, x)) : D.L[i]? = some c ∧ x = tk D.T c := by
  rw [hs.L, List.getElem?_map, Option.map_eq_some_iff] at h
  obtain ⟨c', h1, h2⟩ := h
  cases h2
  exact ⟨h1, rfl⟩
theorem nodup_ix {l : List Nat} (h : l.Nodup) {i j c : Nat} (h1 : l[i]? = some c) (h2 : l[j]? = some c) : i = j := by
  obtain ⟨a1, e1⟩ := List.getElem?_eq_some_iff.1 h1
  obtain ⟨a2, e2⟩ := List.getElem?_eq_some_iff.1 h2
  rcases Nat.lt_trichotomy i j with h' | h' | h'
  · exact absurd (e1.trans e2.symm) (List.pairwise_iff_getElem.1 h i j a1 a2 h')
  · exact h'
  · exact absurd (e2.trans e1.symm) (List.pairwise_iff_getElem.1 h j i a2 a1 h')
theorem set_L {D : Dk} {i c : Nat} {y : Int} (hn : D.L.Nodup) (h : D.L[i]? = some c) : (D.L.map fun c => (c, tk D.T c)).set i (c, y) = D.L.map fun z => (z, tk (setN D.T c y) z) := by
  apply List.ext_getElem?
  intro j
  rw [List.getElem?_set, List.getElem?_map, List.getElem?_map]
  have hi := (List.getElem?_eq_some_iff.1 h).1
  by_cases e : i = j
  · subst e
    rw [if_pos rfl, if_pos (by simpa using hi), h]
    simp [tk_set]
  · rw [if_neg e]
    cases hz : D.L[j]? with
    | none => rfl
    | some z =>
      have : z ≠ c := fun e2 => e (nodup_ix hn h (e2 ▸ hz))
      simp [tk_set, this]
theorem Same.flow {K : Nat} {D : Dk} {R : Rk} {i c : Nat} {x y : Int} (hs : Same D R) (hi : Inv K D) (h : R.L[i]? = some (c, x)) : Same { D with T := setN D.T c y } { R with L := R.L.set i (c, y) } := by
  obtain ⟨h1, rfl⟩ := same_L hs h
  exact ⟨hs.kind, by show R.L.set i (c, y) = _; rw [hs.L]; exact set_L hi.nd h1, hs.pw, hs.pm, hs.last⟩
theorem Same.join {K : Nat} {D : Dk} {R : Rk} {c : Nat} (hs : Same D R) (hi : Inv K D) (hc : c ∉ D.L) : Same { D with L := D.L ++ [c] } { R with L := R.L ++ [(c, 0)] } :=
  ⟨hs.kind, by show R.L ++ [(c, 0)] = (D.L ++ [c]).map _; rw [hs.L]; simp [show tk D.T c = 0 from by by_cases h0 : tk D.T c = 0; exact h0; (obtain ⟨p, hp, e⟩ := tk_mem h0; exact absurd (hi.tin p hp) (by rw [e]; exact hc))], hs.pw, hs.pm, hs.last⟩
theorem Same.leave {K : Nat} {D : Dk} {R : Rk} {i c : Nat} {x : Int} {O' : List OutR} (hs : Same D R) (hi : Inv K D) (h : R.L[i]? = some (c, x)) (hp : O'.Perm (notHis D.O c)) : Same { D with L := rmv D.L c, T := delN D.T c, O := O' } { R with L := R.L.eraseIdx i, O := notHis R.O c } := by
  obtain ⟨h1, rfl⟩ := same_L hs h
  have he : ∀ {l : List Nat} {i : Nat}, l.Nodup → l[i]? = some c → rmv l c = l.eraseIdx i := by
    intro l
    induction l with
    | nil => intro i _ h; simp at h
    | cons z l ih =>
      intro i hn h
      rw [List.nodup_cons] at hn
      cases i with
      | zero =>
        simp at h; subst h
        have : rmv l z = l := List.filter_eq_self.2 fun y hy => by simp; exact fun e => hn.1 (e ▸ hy)
        simp only [rmv] at this ⊢
        simp only [List.filter_cons, List.eraseIdx_zero, List.tail_cons]
        simpa using this
      | succ i =>
        have hz : z ≠ c := fun e => hn.1 (e ▸ List.mem_of_getElem? (by simpa using h))
        have := ih hn.2 (i := i) (by simpa using h)
        simp only [rmv] at this ⊢
        rw [List.filter_cons, if_pos (by simpa using hz), this, List.eraseIdx_cons_succ]
  refine ⟨hs.kind, ?_, hs.pw.filter _, (hs.pm.filter _).trans hp.symm, hs.last⟩
  show R.L.eraseIdx i = (rmv D.L c).map fun z => (z, tk (delN D.T c) z)
  have hm : ∀ (l : List Nat) (f : Nat → Nat × Int), (l.map f).eraseIdx i = (l.eraseIdx i).map f := fun l f => by simp [List.eraseIdx_eq_take_drop_succ]
  rw [hs.L, hm, ← he hi.nd h1]
  refine List.map_congr_left fun z hz => ?_
  rw [tk_del _ hi.tnd, if_neg (rmv_mem.1 hz).2]

theorem Same.done {K : Nat} {D : Dk} {R : Rk} {i j : Nat} {x y : OutR} (hs : Same D R) (hi : Inv K D) (h : R.O[i]? = some x) (h2 : D.O[j]? = some y) (hl : x.l = y.l) (he : x.e = y.e) : Same { D with O := D.O.eraseIdx j } { R with O := R.O.eraseIdx i } := by
  have hx : x ∈ D.O := hs.pm.mem_iff.1 (List.mem_of_getElem? h)
  have : x = y := nodup_inj hi.ko hx (List.mem_of_getElem? h2) (by simp [okey, hl, he])
  subst this
  exact ⟨hs.kind, hs.L, hs.pw.sublist (List.eraseIdx_sublist _ _), List.Perm.cons_inv (((cons_erase h).symm.trans hs.pm).trans (cons_erase h2)), hs.last⟩
theorem Same.offer {K : Nat} {D : Dk} {R : Rk} {l e c p k : Nat} {key : ByteArray} {y : Int} (hs : Same D R) (hi : Inv K D) (hp : R.L[p]? = some (c, y)) (hno : ∀ x ∈ R.O, ¬ (x.l = l ∧ x.e = e)) (hat : atX R.O l e k) :
    Same { D with T := setN D.T c (tk D.T c - 1), O := D.O ++ [⟨l, e, c, key⟩], last := c } { R with L := R.L.set p (c, y - 1), O := R.O.take k ++ ⟨l, e, c, key⟩ :: R.O.drop k, last := c } := by
  obtain ⟨h1, rfl⟩ := same_L hs hp
  refine ⟨hs.kind, by show R.L.set p _ = _; rw [hs.L]; exact set_L hi.nd h1, ?_, ?_, rfl⟩
  · show (R.O.take k ++ ⟨l, e, c, key⟩ :: R.O.drop k).Pairwise oLt
    have hsp : (R.O.take k ++ R.O.drop k).Pairwise oLt := by rw [List.take_append_drop]; exact hs.pw
    rw [List.pairwise_append] at hsp
    obtain ⟨s1, s2, s3⟩ := hsp
    have low : ∀ x ∈ R.O.take k, oLt x ⟨l, e, c, key⟩ := fun x hx => by
      obtain ⟨i, hi2⟩ := List.getElem?_of_mem hx
      rw [List.getElem?_take] at hi2
      split at hi2
      · rename_i hik
        obtain ⟨hil, hie⟩ := List.getElem?_eq_some_iff.1 hi2
        obtain ⟨z, hz⟩ : ∃ z, R.O[k - 1]? = some z := ⟨_, List.getElem?_eq_getElem (by have := hat.1; omega)⟩
        have hzl := hat.2.1 z (by omega) hz
        unfold oLt
        rw [ordO_lt]
        by_cases e1 : i = k - 1
        · subst e1; rw [hi2] at hz; cases hz; exact hzl
        · obtain ⟨hzk, hze⟩ := List.getElem?_eq_some_iff.1 hz
          have := List.pairwise_iff_getElem.1 hs.pw i (k - 1) hil hzk (by omega)
          rw [hie, hze] at this
          unfold oLt at this
          rw [ordO_lt] at this
          show x.l < l ∨ x.l = l ∧ x.e < e
          omega
      · cases hi2
    have high : ∀ x ∈ R.O.drop k, oLt ⟨l, e, c, key⟩ x := fun x hx => by
      obtain ⟨i, hi2⟩ := List.getElem?_of_mem hx
      rw [List.getElem?_drop] at hi2
      have h3 := hat.2.2 (k + i) x (by omega) hi2
      have h4 := hno x (List.mem_of_getElem? hi2)
      unfold oLt
      rw [ordO_lt]
      show l < x.l ∨ l = x.l ∧ e < x.e
      omega
    rw [List.pairwise_append, List.pairwise_cons]
    refine ⟨s1, ⟨high, s2⟩, fun x hx y hy => ?_⟩
    rcases List.mem_cons.1 hy with rfl | hy
    · exact low x hx
    · exact s3 x hx y hy
  · show (R.O.take k ++ ⟨l, e, c, key⟩ :: R.O.drop k).Perm (D.O ++ [⟨l, e, c, key⟩])
    refine List.perm_middle.trans ?_
    rw [List.take_append_drop]
    exact (hs.pm.cons _).trans (List.perm_append_singleton _ _).symm
end Go.Proofs.Ytiikaajopgjliaa.AM

/- Both desks: who may. -/
namespace Go.Proofs.Ytiikaajopgjliaa.AM
set_option maxRecDepth 100000
set_option linter.unusedVariables false
set_option linter.unusedSimpArgs false

theorem range_one {n p : Nat} {P : Nat → Bool} (hp : p < n) (h1 : P p = true) (h2 : ∀ i, i < n → P i = true → i = p) : (List.range n).filter P = [p] := by
  induction n with
  | zero => omega
  | succ n ih =>
    rw [List.range_succ, List.filter_append]
    by_cases e : p = n
    · subst e
      have : (List.range p).filter P = [] := List.filter_eq_nil_iff.2 fun i hi hP => by
        have := h2 i (by have := List.mem_range.1 hi; omega) hP
        have := List.mem_range.1 hi; omega
      rw [this]; simp [h1]
    · rw [ih (by omega) fun i hi hP => h2 i (by omega) hP]
      have : P n = false := by
        cases hP : P n
        · rfl
        · exact absurd (h2 n (by omega) hP).symm e
      simp [this]
theorem rank {l : List Nat} {m c : Nat} (hs : Srt l l.length) (hn : l.Nodup) (h : l[m]? = some c) : l.countP (fun y => decide (y < c)) = m := by
  obtain ⟨hm, hc⟩ := List.getElem?_eq_some_iff.1 h
  have e : l = l.take m ++ l.drop m := (List.take_append_drop m l).symm
  have h1 : (l.take m).countP (fun y => decide (y < c)) = m := by
    have : (l.take m).countP (fun y => decide (y < c)) = (l.take m).length := List.countP_eq_length.2 fun y hy => by
      obtain ⟨i, hi⟩ := List.getElem?_of_mem hy
      rw [List.getElem?_take] at hi
      split at hi
      · rename_i him
        have hle := hs i m y c him hm hi h
        have hne : y ≠ c := fun e => by
          subst e
          have := nodup_ix hn hi h
          omega
        simp; omega
      · cases hi
    rw [this, List.length_take]; omega
  have h2 : (l.drop m).countP (fun y => decide (y < c)) = 0 := List.countP_eq_zero.2 fun y hy => by
    obtain ⟨i, hi⟩ := List.getElem?_of_mem hy
    rw [List.getElem?_drop] at hi
    have him := (List.getElem?_eq_some_iff.1 hi).1
    by_cases hi0 : i = 0
    · subst hi0
      rw [Nat.add_zero, h] at hi
      cases hi; simp
    · have hle := hs m (m + i) c y (by omega) him h hi
      simp; omega
  have hcp := congrArg (List.countP fun y => decide (y < c)) e
  rw [List.countP_append, h1, h2] at hcp
  exact hcp
theorem rot {α : Type} (L : List α) (f : Nat) (hf : f ≤ L.length) (hn : 0 < L.length) (d : α) : L.drop f ++ L.take f = (List.range L.length).map fun i => L.getD ((f + i) % L.length) d := by
  apply List.ext_getElem?
  intro j
  by_cases hj : j < L.length
  · rw [List.getElem?_map, List.getElem?_range hj]
    simp only [Option.map_some]
    by_cases h1 : j < L.length - f
    · rw [List.getElem?_append_left (by simp; omega), List.getElem?_drop, Nat.mod_eq_of_lt (by omega)]
      simp [show f + j < L.length by omega]
    · rw [List.getElem?_append_right (by simp; omega)]
      have h3 : (f + j) % L.length = j - (L.drop f).length := by
        rw [List.length_drop, Nat.mod_eq_sub_mod (by omega), Nat.mod_eq_of_lt (by omega)]; omega
      rw [h3, List.getElem?_take, if_pos (by simp; omega)]
      have hlt : j - (L.drop f).length < L.length := by simp; omega
      rw [List.getD, List.getElem?_eq_getElem hlt]; rfl
  · rw [List.getElem?_eq_none (by simp; omega), List.getElem?_eq_none (by simp; omega)]
theorem tk_out2 {K : Nat} {D : Dk} (hi : Inv K D) {x : Nat} (h : x ∉ D.L) : tk D.T x = 0 := by
  by_cases h0 : tk D.T x = 0
  · exact h0
  · obtain ⟨p, hp, rfl⟩ := tk_mem h0
    exact absurd (hi.tin p hp) h
theorem may_same {K : Nat} {D : Dk} {R : Rk} {key : ByteArray} {ls ix : List Nat} (hs : Same D R) (hi : Inv K D) (h1 : mayL D key ls) (h2 : rmayX R key ix) : ls = ix.map (fun p => D.L.getD p 0) ∨ (∀ c ∈ ls, tk D.T c = 0) ∧ ix = [] := by
  have hids := hs.ids
  have hlen : R.L.length = D.L.length := by rw [hs.L]; simp
  rcases h2 with ⟨e1, rfl⟩ | ⟨hne, h2⟩
  · have hD : D.L = [] := by rw [hs.L] at e1; simpa using e1
    refine .inr ⟨fun c _ => tk_out2 hi (by rw [hD]; simp), rfl⟩
  have hpos : 0 < D.L.length := by rw [← hlen]; exact List.length_pos_iff.2 hne
  left
  have hkd := hs.kind
  rcases h1 with ⟨k3, i, i1, i2, rfl⟩ | ⟨k4, c, hc, rfl⟩ | ⟨k3, k4, rfl⟩
  · rcases h2 with ⟨_, f, f1, rfl⟩ | ⟨k4, _⟩ | ⟨k3', _⟩
    · rw [hids, hs.last, i1] at f1
      have : i = f := by omega
      subst this
      rw [rot D.L i i2 hpos 0, List.map_map, hlen]; rfl
    · omega
    · omega
  · rcases h2 with ⟨k3, _⟩ | ⟨_, h2⟩ | ⟨_, k4', _⟩
    · omega
    · have getp : ∀ p : Nat, D.L[p]? = some c → [c] = [p].map (fun p => D.L.getD p 0) := fun p hp => by simp [List.getD, hp]
      rcases h2 with ⟨x, hx, hxk, p, hp, rfl⟩ | ⟨hno, m, hm, rfl⟩
      · have hxD := hs.pm.mem_iff.1 hx
        rcases hc with ⟨z, hz, hzk, rfl⟩ | ⟨hno, _⟩
        · have hcc := hi.keys (hi.kind.symm.trans k4) z hz x hxD (by rw [hzk, hxk])
          rw [hids] at hp
          refine getp p ?_
          rcases idxN_cases D.L x.c with ⟨e1, e2⟩ | ⟨q, e1, e2, _⟩
          · omega
          · have : p = q := by omega
            rw [this, hcc]; exact e2
        · exact absurd hxk (hno x hxD)
      · rcases hc with ⟨z, hz, hzk, rfl⟩ | ⟨_, ⟨_, h0⟩ | ⟨l, m', p1, p2, p3, p4⟩⟩
        · exact absurd hzk (hno z (hs.pm.mem_iff.2 hz))
        · rw [h0] at hpos; simp at hpos
        · have hmm : m' = m := by
            rw [p1.length_eq, ← hlen] at p3
            omega
          subst hmm
          have hln : l.Nodup := p1.nodup_iff.2 hi.nd
          have rk : ∀ (q : Nat) (z : Nat), l[q]? = some z → lessN R.L z = q := fun q z hz => by
            unfold lessN
            rw [hids, ← p1.countP_eq]
            exact rank p2 hln hz
          have hcL : c ∈ D.L := p1.mem_iff.1 (List.mem_of_getElem? p4)
          obtain ⟨p, hp⟩ := List.getElem?_of_mem hcL
          have hpl := (List.getElem?_eq_some_iff.1 hp).1
          rw [hlen, range_one (p := p) hpl ?_ fun i hi2 hP => ?_]
          · exact getp p hp
          · simp only [pickP, hids]
            rw [show D.L.getD p 0 = c by simp [List.getD, hp]]
            exact decide_eq_true (rk _ _ p4)
          · simp only [pickP, hids, decide_eq_true_eq] at hP
            obtain ⟨z, hz⟩ : ∃ z, D.L[i]? = some z := ⟨_, List.getElem?_eq_getElem hi2⟩
            rw [show D.L.getD i 0 = z by simp [List.getD, hz]] at hP
            obtain ⟨q, hq⟩ := List.getElem?_of_mem (p1.mem_iff.2 (List.mem_of_getElem? hz))
            have := rk q z hq
            have : q = m' := by omega
            subst this
            rw [hq] at p4; cases p4
            exact nodup_ix hi.nd hz hp
    · omega
  · rcases h2 with ⟨k3', _⟩ | ⟨k4', _⟩ | ⟨_, _, rfl⟩
    · omega
    · omega
    · cases hL : D.L with
      | nil => rw [hL] at hpos; simp at hpos
      | cons z t => simp
end Go.Proofs.Ytiikaajopgjliaa.AM

/- Both desks do the same. -/
namespace Go.Proofs.Ytiikaajopgjliaa.AM
set_option maxRecDepth 100000
set_option linter.unusedVariables false
set_option linter.unusedSimpArgs false

theorem Both.grow {K : Nat} {σ σ' : St} {w : Own} {rw : ROwn} {D : Dk} {R : Rk} (h : Both K σ w rw D R) (g : Grow σ σ') : Both K σ' w rw D R := ⟨h.dr.frame g, h.rr.keep g.1 fun a ha _ => g.2 a ha, h.inv, h.same, h.dis⟩
set_option maxHeartbeats 2000000 in
theorem did_c {K : Nat} {σ : St} {w : Own} {rw : ROwn} {D : Dk} {R : Rk} {a : Act} (hB : Both K σ w rw D R) (aok : a.ok) (hk : a.key.size ≤ 200) (Q : AVal → St → Prop)
    (hQ : ∀ σ' w' rw' D' R', Both K σ' w' rw' D' R' → w'.d = w.d → rw'.r = rw.r → Q (.bool true) σ') : ACall Try.prog 15 [.ptr w.d 0, .ptr rw.r 0, .agg (arow a)] σ Q := by
  refine ACall.of_compF hmx (fun a w => Try.call15 a w) Try.func15 cf15 (n := 3) (by decide) rfl ?_
  obtain ⟨k8, hk8, hk9⟩ : ∃ k8 : Nat, (a.k : Int).tmod 8 = (k8 : Int) ∧ k8 = a.k % 8 := ⟨a.k % 8, rfl, rfl⟩
  have g1 : Grow σ ⟨σ.mem.set σ.next (.cells 7 (arow a)), σ.next + 1⟩ := ⟨by simp, fun x hx => by simp [show ¬ x = σ.next by omega]⟩
  have hB1 := hB.grow g1
  have nb : ¬ w.has σ.next := fun hh => by have := hB.dr.lt' hh; omega
  have box : ∀ (w2 : Own) (σ2 : St), Stp w w2 ⟨σ.mem.set σ.next (.cells 7 (arow a)), σ.next + 1⟩ σ2 → σ2.mem.get σ.next = some (.cells 7 (arow a)) := fun w2 σ2 hs => by
    rw [hs.keep _ (by simp) nb]; simp
  obtain ⟨dr, rr, inv, same, dis⟩ := id hB1
  have hids := same.ids
  have hll := inv.len
  have hol := inv.olen
  have hRl : R.L.length = D.L.length := by rw [same.L]; simp
  have hRo : R.O.length = D.O.length := same.pm.length_eq
  have hj : joinK R.kind (ids R.L) a.c = joinK D.kind D.L a.c := by rw [hids, same.kind]
  have hpR : ∀ x ∈ R.L, 0 ≤ x.2 ∧ x.2 ≤ 1000 := fun x hx => by
    rw [same.L] at hx
    obtain ⟨c, _, rfl⟩ := List.mem_map.1 hx
    exact inv.per c
  have hinR : ∀ x ∈ R.O, x.c ∈ ids R.L := fun x hx => by rw [hids]; exact inv.oin x (same.pm.mem_iff.1 hx)
  rcases (by omega : k8 = 0 ∨ k8 = 1 ∨ (k8 = 2 ∨ k8 = 3) ∨ k8 = 7 ∨ (k8 = 4 ∨ k8 = 5 ∨ k8 = 6)) with rfl | rfl | k23 | rfl | k456
  · simp [ac15, rs15, lk_cons, hk8]
    refine join18_c dr (by omega) a.c _ (fun h0 => ?_) fun w' σ2 h0 d1 d2 => ?_
    · simp [lk_cons]
      refine rjoin_c rr (by omega) a.c _ (fun r0 => ?_) fun w2 σ3 r0 _ _ => ?_
      · rw [hj]; simp [lk_cons]
        exact hQ _ _ _ _ _ hB1 rfl rfl
      · rw [hj] at r0; exact absurd r0 h0
    · have bx := box _ _ d2
      obtain ⟨rr2, dis2⟩ := dis_d rr dis d2
      simp [lk_cons, bx]
      refine rjoin_c rr2 (by omega) a.c _ (fun r0 => ?_) fun w2 σ3 r0 e1 e2 => ?_
      · rw [hj] at r0; exact absurd h0 r0
      · obtain ⟨dr3, dis3⟩ := dis_r d1 dis2 e2
        simp [lk_cons]
        have hcL : a.c ∉ D.L := fun hc => by
          simp only [joinK] at h0
          by_cases h00 : a.c = 0
          · rw [if_pos h00] at h0; cases h0
          · rw [if_neg h00, if_pos hc] at h0; cases h0
        exact hQ _ _ _ _ _ ⟨dr3, e1, inv.did (a := ⟨0, a.c, 0, 0, 0, ⟨#[]⟩, false⟩) (c := 0) (e := 16) (.inl ⟨rfl, rfl, rfl, .inr ⟨h0, rfl⟩⟩), same.join inv hcL, dis3⟩ d2.d e2.r
  · simp [ac15, rs15, lk_cons, hk8]
    refine leave18_c dr (by omega) (by omega) inv.ko a.c _ (fun σ2 h0 h1 => ?_) fun v ys O' σ2 h0 y1 y2 y3 y4 d1 d2 => ?_
    · have hB2 := hB1.grow h1
      have bx := box _ _ (h1.stp w)
      simp [lk_cons, bx]
      refine rleave_c hB2.rr (by omega) (by omega) a.c _ (fun r0 => ?_) fun w2 σ3 i x v2 r0 _ _ _ _ => ?_
      · simp [lk_cons]
        refine same17_c (l := []) ⟨fun ρ => by simp, fun i x hx => by simp at hx⟩ ⟨fun ρ => by simp, fun i x hx => by simp at hx⟩ (by simp) _ ?_
        simp [lk_cons]
        exact hQ _ _ _ _ _ hB2 rfl rfl
      · exact absurd (by rw [← hids]; simp only [ids, List.mem_map]; exact ⟨_, List.mem_of_getElem? r0, rfl⟩) h0
    · have bx := box _ _ d2
      obtain ⟨rr2, dis2⟩ := dis_d rr dis d2
      simp [lk_cons, bx]
      refine rleave_c rr2 (by omega) (by omega) a.c _ (fun r0 => absurd h0 (by rw [← hids]; exact r0)) fun w2 σ3 i x v2 r0 o2 e1 e2 _ => ?_
      obtain ⟨dr3, dis3⟩ := dis_r d1 dis2 e2
      have hys : ys = R.O := same.all inv.ko y1 y2
      have y5 : OSl (σ.next + 1) σ3 v (his ys a.c) := y4.frB e2.next fun b hb hv => e2.keep b hb fun hh => by
        have h1 := rr.lt' hh
        rcases y4.blk with ⟨rfl, _⟩ | ⟨o, _, g2, g3, _⟩
        · cases hv
        · rw [g2] at hv; cases hv
          simp only at h1 g3; omega
      rw [hys] at y5
      simp [lk_cons]
      refine same17_c y5.rd o2.rd (Nat.le_trans (List.length_filter_le _ _) (by omega)) _ ?_
      simp [lk_cons]
      exact hQ _ _ _ _ _ ⟨dr3, e1, inv.did (a := ⟨1, a.c, 0, 0, 0, ⟨#[]⟩, false⟩) (c := 0) (e := 16) (.inr (.inl ⟨rfl, rfl, rfl, .inr ⟨h0, O', y3, rfl⟩⟩)), same.leave inv r0 y3, dis3⟩ d2.d e2.r
  · have memi : ∀ (i : Nat) (x : Int), R.L[i]? = some (a.c, x) → a.c ∈ D.L ∧ x = tk D.T a.c := fun i x h => by
      obtain ⟨h1, h2⟩ := same_L same h
      exact ⟨List.mem_of_getElem? h1, h2⟩
    have fl : ∀ (P : Prop), (k8 = 2 → P) → (k8 = 3 → P) → P := fun P a b => by rcases k23 with h | h; exact a h; exact b h
    rcases k23 with rfl | rfl
    all_goals
      simp [ac15, rs15, lk_cons, hk8]
      refine flow18_c dr (by omega) inv.per a.c a.n aok.n _ (fun h0 => ?_) (fun h0 hb => ?_) fun σ2 h0 n1 n2 d1 d2 => ?_
      · simp [lk_cons]
        refine rflow_c rr (by omega) hpR a.c a.n aok.n _ (fun r0 => ?_) (fun i x r0 _ => absurd (memi i x r0).1 h0) fun σ3 i x r0 _ _ _ _ => absurd (memi i x r0).1 h0
        simp [lk_cons]
        exact hQ _ _ _ _ _ hB1 rfl rfl
      · simp [lk_cons]
        refine rflow_c rr (by omega) hpR a.c a.n aok.n _ (fun r0 => absurd h0 (by rw [← hids]; exact r0)) (fun i x r0 rb => ?_) fun σ3 i x r0 r1 r2 _ _ => ?_
        · simp [lk_cons]
          exact hQ _ _ _ _ _ hB1 rfl rfl
        · have := (memi i x r0).2; omega
      · have bx := box _ _ d2
        obtain ⟨rr2, dis2⟩ := dis_d rr dis d2
        simp [lk_cons, bx]
        refine rflow_c rr2 (by omega) hpR a.c a.n aok.n _ (fun r0 => absurd h0 (by rw [← hids]; exact r0)) (fun i x r0 rb => ?_) fun σ3 i x r0 r1 r2 e1 e2 => ?_
        · have := (memi i x r0).2; omega
        · obtain ⟨dr3, dis3⟩ := dis_r d1 dis2 e2
          obtain ⟨_, rfl⟩ := memi i x r0
          simp [lk_cons]
          exact hQ _ _ _ _ _ ⟨dr3, e1, inv.did (a := ⟨2, a.c, a.n, 0, 0, ⟨#[]⟩, false⟩) (c := 0) (e := 16) (.inr (.inr (.inl ⟨.inl rfl, rfl, rfl, .inr ⟨h0, n1, n2, rfl⟩⟩))), same.flow inv r0, dis3⟩ d2.d e2.r
  · simp [ac15, rs15, lk_cons, hk8]
    have uni : ∀ (i j : Nat) (x y : OutR), R.O[i]? = some x → D.O[j]? = some y → x.l = a.l → x.e = a.e → y.l = a.l → y.e = a.e → x = y := fun i j x y h1 h2 e1 e2 e3 e4 =>
      nodup_inj inv.ko (same.pm.mem_iff.1 (List.mem_of_getElem? h1)) (List.mem_of_getElem? h2) (by simp [okey, e1, e2, e3, e4])
    refine done18_c dr a.c a.l a.e _ (fun σ2 h0 h1 => ?_) (fun σ2 j y j1 j2 j3 j4 h1 => ?_) fun σ2 j y j1 j2 j3 j4 d1 d2 => ?_
    · have hB2 := hB1.grow h1
      have bx := box _ _ (h1.stp w)
      simp [lk_cons, bx]
      refine rdone_c hB2.rr (by omega) a.c a.l a.e _ (fun σ3 _ e1 e2 => ?_) (fun σ3 i x r0 r1 r2 _ _ _ => absurd ⟨r1, r2⟩ (h0 x (same.pm.mem_iff.1 (List.mem_of_getElem? r0)))) fun w2 σ3 i x r0 r1 r2 _ _ _ => absurd ⟨r1, r2⟩ (h0 x (same.pm.mem_iff.1 (List.mem_of_getElem? r0)))
      obtain ⟨dr3, dis3⟩ := dis_r hB2.dr hB2.dis e1
      simp [lk_cons]
      exact hQ _ _ _ _ _ ⟨dr3, e2, inv, same, dis3⟩ rfl rfl
    · have hB2 := hB1.grow h1
      have bx := box _ _ (h1.stp w)
      simp [lk_cons, bx]
      refine rdone_c hB2.rr (by omega) a.c a.l a.e _ (fun σ3 r0 _ _ => absurd ⟨j2, j3⟩ (r0 y (same.pm.mem_iff.2 (List.mem_of_getElem? j1)))) (fun σ3 i x r0 r1 r2 r3 e1 e2 => ?_) fun w2 σ3 i x r0 r1 r2 r3 _ _ => ?_
      · obtain ⟨dr3, dis3⟩ := dis_r hB2.dr hB2.dis e1
        simp [lk_cons]
        exact hQ _ _ _ _ _ ⟨dr3, e2, inv, same, dis3⟩ rfl rfl
      · have := uni i j x y r0 j1 r1 r2 j2 j3
        subst this
        exact absurd r3 j4
    · have bx := box _ _ d2
      obtain ⟨rr2, dis2⟩ := dis_d rr dis d2
      simp [lk_cons, bx]
      refine rdone_c rr2 (by omega) a.c a.l a.e _ (fun σ3 r0 _ _ => absurd ⟨j2, j3⟩ (r0 y (same.pm.mem_iff.2 (List.mem_of_getElem? j1)))) (fun σ3 i x r0 r1 r2 r3 e1 e2 => ?_) fun w2 σ3 i x r0 r1 r2 r3 e1 e2 => ?_
      · have := uni i j x y r0 j1 r1 r2 j2 j3
        subst this
        exact absurd j4 r3
      · obtain ⟨dr3, dis3⟩ := dis_r d1 dis2 e2
        have := uni i j x y r0 j1 r1 r2 j2 j3
        subst this
        simp [lk_cons]
        exact hQ _ _ _ _ _ ⟨dr3, e1, inv.did (a := ⟨7, a.c, 0, 0, 0, ⟨#[]⟩, false⟩) (c := 0) (e := 16) (.inr (.inr (.inr (.inl ⟨rfl, rfl, rfl, .inr ⟨j, x, j1, rfl⟩⟩)))), same.done inv r0 j1 rfl rfl, dis3⟩ d2.d e2.r
  · have mat : (∃ x ∈ R.O, x.l = a.l ∧ x.e = a.e) → (∃ x ∈ D.O, x.l = a.l ∧ x.e = a.e) := fun ⟨x, h1, h2⟩ => ⟨x, same.pm.mem_iff.1 h1, h2⟩
    have mat2 : (∃ x ∈ D.O, x.l = a.l ∧ x.e = a.e) → (∃ x ∈ R.O, x.l = a.l ∧ x.e = a.e) := fun ⟨x, h1, h2⟩ => ⟨x, same.pm.mem_iff.2 h1, h2⟩
    have getg : ∀ (ix : List Nat), rmayX R a.key ix → ∀ q ∈ ix, R.L[q]? = some (D.L.getD q 0, tk D.T (D.L.getD q 0)) := fun ix hx q hq => by
      have := (rmayX_in hx).1 q hq
      rw [same.L, List.getElem?_map, List.getElem?_eq_getElem (by omega)]
      simp [List.getD, List.getElem?_eq_getElem (show q < D.L.length by omega)]
    have noH : ∀ (ls ix : List Nat), mayL D a.key ls → rmayX R a.key ix → (∀ y ∈ ls, ¬ 0 < tk D.T y) → ∀ q ∈ ix, ∀ z, R.L[q]? = some z → ¬ 0 < z.2 := fun ls ix m1 m2 h q hq z hz => by
      rw [getg ix m2 q hq] at hz
      cases hz
      rcases may_same same inv m1 m2 with rfl | ⟨_, rfl⟩
      · exact h _ (List.mem_map.2 ⟨q, hq, rfl⟩)
      · cases hq
    have hit : ∀ (ls ix : List Nat) (i i' p c c' : Nat) (y : Int), mayL D a.key ls → rmayX R a.key ix → ls[i]? = some c → (∀ y ∈ ls.take i, ¬ 0 < tk D.T y) → 0 < tk D.T c → ix[i']? = some p → R.L[p]? = some (c', y) → 0 < y → (∀ q ∈ ix.take i', ∀ z, R.L[q]? = some z → ¬ 0 < z.2) → c = c' := fun ls ix i i' p c c' y m1 m2 h1 h2 h3 h4 h5 h6 h7 => by
      have hp := getg ix m2 p (List.mem_of_getElem? h4)
      rw [h5] at hp
      cases hp
      rcases may_same same inv m1 m2 with rfl | ⟨h0, rfl⟩
      · rw [List.getElem?_map] at h1
        obtain ⟨q, hq, e1⟩ := Option.map_eq_some_iff.1 h1
        rcases Nat.lt_trichotomy i i' with h | h | h
        · have hqm : q ∈ ix.take i' := List.mem_of_getElem? (i := i) (by rw [List.getElem?_take, if_pos h]; exact hq)
          have := h7 q hqm _ (getg ix m2 q (List.mem_of_getElem? hq))
          simp only at this
          rw [e1] at this
          exact absurd h3 this
        · subst h
          rw [h4] at hq; cases hq
          exact e1.symm
        · have : D.L.getD p 0 ∈ (ix.map fun p => D.L.getD p 0).take i := List.mem_of_getElem? (i := i') (by rw [List.getElem?_take, if_pos h, List.getElem?_map, h4]; rfl)
          exact absurd h6 (h2 _ this)
      · simp at h4
    rcases k456 with rfl | rfl | rfl
    all_goals
      simp [ac15, rs15, lk_cons, hk8]
      refine offer18_c dr (by omega) (by omega) inv.per a.l a.e a.key (by omega) _ (fun σ2 h0 h1 => ?_) (fun σ2 hf hno h1 => ?_) (fun σ2 ls i c hf hno m1 i1 i2 i3 d1 d2 => ?_) fun σ2 ls hf hno m1 i1 h1 => ?_
      · have hB2 := hB1.grow h1
        have bx := box _ _ (h1.stp w)
        simp [lk_cons, bx]
        refine roffer_c hB2.rr (by omega) (by omega) hinR hpR a.l a.e a.key (by omega) _ (fun σ3 _ e1 e2 => ?_) (fun σ3 _ n0 _ _ => absurd (mat2 h0) (fun ⟨x, q1, q2⟩ => n0 x q1 q2)) (fun w2 σ3 ix i p c y k _ n0 _ _ _ _ _ _ _ _ => absurd (mat2 h0) (fun ⟨x, q1, q2⟩ => n0 x q1 q2)) fun σ3 ix _ n0 _ _ _ _ => absurd (mat2 h0) (fun ⟨x, q1, q2⟩ => n0 x q1 q2)
        obtain ⟨dr3, dis3⟩ := dis_r hB2.dr hB2.dis e1
        simp [lk_cons]
        exact hQ _ _ _ _ _ ⟨dr3, e2, inv, same, dis3⟩ rfl rfl
      · have hB2 := hB1.grow h1
        have bx := box _ _ (h1.stp w)
        simp [lk_cons, bx]
        refine roffer_c hB2.rr (by omega) (by omega) hinR hpR a.l a.e a.key (by omega) _ (fun σ3 r0 _ _ => absurd (mat r0) (fun ⟨x, q1, q2⟩ => hno x q1 q2)) (fun σ3 _ n0 e1 e2 => ?_) (fun w2 σ3 ix i p c y k r0 n0 _ _ _ _ _ _ _ _ => absurd (show R.O.length = 256 by omega) r0) fun σ3 ix r0 n0 _ _ _ _ => absurd (show R.O.length = 256 by omega) r0
        obtain ⟨dr3, dis3⟩ := dis_r hB2.dr hB2.dis e1
        simp [lk_cons]
        exact hQ _ _ _ _ _ ⟨dr3, e2, inv, same, dis3⟩ rfl rfl
      · have bx := box _ _ d2
        obtain ⟨rr2, dis2⟩ := dis_d rr dis d2
        simp [lk_cons, bx]
        refine roffer_c rr2 (by omega) (by omega) hinR hpR a.l a.e a.key (by omega) _ (fun σ3 r0 _ _ => absurd (mat r0) (fun ⟨x, q1, q2⟩ => hno x q1 q2)) (fun σ3 r0 _ _ _ => absurd r0 (by omega)) (fun w2 σ3 ix i' p c' y k r0 n0 m2 r1 r2 r3 r4 r5 e1 e2 => ?_) fun σ3 ix r0 n0 m2 r1 _ _ => ?_
        · obtain ⟨dr3, dis3⟩ := dis_r d1 dis2 e2
          have hcc := hit ls ix i i' p c c' y m1 m2 i1 i2 i3 r1 r2 r3 r4
          subst hcc
          simp [lk_cons]
          exact hQ _ _ _ _ _ ⟨dr3, e1, inv.did (a := ⟨4, 0, 0, a.l, a.e, a.key, false⟩) (c := c) (e := 0) (.inr (.inr (.inr (.inr ⟨.inl rfl, .inr ⟨rfl, hk, hf, hno, i3, ⟨ls, i, m1, i1⟩, rfl⟩⟩)))), same.offer inv r2 n0 r5, dis3⟩ d2.d e2.r
        · exfalso
          rcases may_same same inv m1 m2 with hls | ⟨h0, _⟩
          · rw [hls, List.getElem?_map] at i1
            obtain ⟨q, hq, e1⟩ := Option.map_eq_some_iff.1 i1
            have hqm := List.mem_of_getElem? hq
            have := r1 q hqm _ (getg ix m2 q hqm)
            simp only at this
            rw [e1] at this
            exact this i3
          · have := h0 c (List.mem_of_getElem? i1); omega
      · have hB2 := hB1.grow h1
        have bx := box _ _ (h1.stp w)
        simp [lk_cons, bx]
        refine roffer_c hB2.rr (by omega) (by omega) hinR hpR a.l a.e a.key (by omega) _ (fun σ3 r0 _ _ => absurd (mat r0) (fun ⟨x, q1, q2⟩ => hno x q1 q2)) (fun σ3 r0 _ _ _ => absurd r0 (by omega)) (fun w2 σ3 ix i' p c' y k r0 n0 m2 r1 r2 r3 r4 r5 e1 e2 => absurd r3 (noH ls ix m1 m2 i1 p (List.mem_of_getElem? r1) _ r2)) fun σ3 ix r0 n0 m2 r1 e1 e2 => ?_
        obtain ⟨dr3, dis3⟩ := dis_r hB2.dr hB2.dis e1
        simp [lk_cons]
        exact hQ _ _ _ _ _ ⟨dr3, e2, inv, same, dis3⟩ rfl rfl
end Go.Proofs.Ytiikaajopgjliaa.AM

/- DispatchPlays. -/
namespace Go.Proofs.Ytiikaajopgjliaa.AM
set_option maxRecDepth 100000
set_option linter.unusedVariables false
set_option linter.unusedSimpArgs false

theorem newbad_c (k : Nat) (hk : ¬ (1 ≤ k ∧ k ≤ 4)) (σ : St) (Q : AVal → St → Prop) (h : Q (.tup [.nilp, i64 16]) σ) : ACall Try.prog 11 [.int .u8 (k : Int)] σ Q := by
  refine ACall.of_compF hmx (fun a w => Try.call11 a w) Try.func11 cf11 (n := 1) (by decide) rfl ?_
  by_cases h1 : k < 1
  · have h1' : (k : Int) < 1 := by omega
    simp [ac11, rs11, lk_cons, h1']
    exact h
  · have h1' : ¬ (k : Int) < 1 := by omega
    have h2' : (4 : Int) < k := by omega
    simp [ac11, rs11, lk_cons, h1', h2']
    exact h
def PyJ (K : Nat) (v : AVal) (l : List Act) (mm : Nat) (rg : Regs) (σ' : St) : Prop := ∃ (i : Nat) (w : Own) (rw : ROwn) (D : Dk) (R : Rk), mm = l.length - i ∧ i ≤ l.length ∧ Both K σ' w rw D R ∧ rg = [(7, .ptr w.d 0), (8, i64 0), (9, .ptr rw.r 0), (47, v), (48, i64 l.length), (49, i64 i)]
set_option maxHeartbeats 1000000 in
theorem plays_c (kind : Nat) (hkb : kind < 256) {v : AVal} {l : List Act} (hv : AI v l) (hok : ∀ a ∈ l, a.ok) (hlen : l.length ≤ 9223372036854775807) : ACall Try.prog 4 [.int .u8 (kind : Int), v] σ0 fun v _ => v = .bool true := by
  refine ACall.of_compF hmx (fun a w => Try.call4 a w) Try.func4 cf4 (n := 2) (by decide) rfl ?_
  have l1 := hv.len
  obtain ⟨m, hm, hm4⟩ : ∃ m : Nat, (kind : Int).tmod 4 = (m : Int) ∧ m < 4 := ⟨kind % 4, rfl, by omega⟩
  have w1 : IntKind.u8.wrap (1 + (m : Int)) = ((1 + m : Nat) : Int) := by simp (disch := omega) only [IntWalk.u8_in]; omega
  simp [ac4, rs4, lk_cons]
  refine awake _ _ ?_
  have first : ∀ Q, (1 ≤ kind ∧ kind ≤ 4 → ∀ x σ', Q (.tup [.ptr x 0, i64 0]) σ') → (¬ (1 ≤ kind ∧ kind ≤ 4) → Q (.tup [.nilp, i64 16]) σ0) → ACall Try.prog 11 [.int .u8 (kind : Int)] σ0 Q := fun Q a b => by
    by_cases hh : 1 ≤ kind ∧ kind ≤ 4
    · exact new18_c kind hh _ _ fun w σ' _ _ _ => a hh w.d σ'
    · exact newbad_c kind hh _ _ (b hh)
  simp [lk_cons]
  refine first _ (fun hh x σ' => ?_) (fun hh => ?_)
  case' refine_1 =>
    have c1 : (1 : Int) ≤ kind := by omega
    have c2 : (kind : Int) ≤ 4 := by omega
    have c3 : 1 ≤ kind := hh.1
    simp [lk_cons, c1, c2, c3, hh.2, hm, w1]
  case' refine_2 =>
    by_cases c3 : 1 ≤ kind
    case' pos =>
      have c1 : (1 : Int) ≤ kind := by omega
      have c2 : ¬ (kind : Int) ≤ 4 := by omega
      have c4 : ¬ kind ≤ 4 := by omega
      simp [lk_cons, c1, c2, c3, c4, hm, w1]
    case' neg =>
      have c1 : ¬ (1 : Int) ≤ kind := by omega
      simp [lk_cons, c1, c3, hm, w1]
  all_goals
    refine new18_c (1 + m) (by omega) _ _ fun w σ1 d1 d2 d3 => ?_
    have e1 : ¬ σ1.next = w.d := by have := d1.lt; omega
    simp [lk_cons, ↓l1, fillL, storeL]
    refine wp_loop (PyJ (1 + m) v l) l.length ?_ ?_
    · refine ⟨0, w, ⟨σ1.next, none, none⟩, ⟨1 + m, [], [], [], 0⟩, ⟨1 + m, [], [], 0⟩, rfl, Nat.zero_le _, ⟨d1.frame ⟨by simp, fun x hx => by simp [show ¬ x = σ1.next by omega]⟩, ⟨⟨.nilsl, .nilsl, by simp, .inl ⟨rfl, rfl, rfl, rfl⟩, .inl ⟨rfl, rfl, rfl, rfl⟩⟩, by simp, by simp⟩, ⟨rfl, by simp, by simp, by simp, by simp, by simp, by simp, fun c => by simp [tk, lkN], by simp, by simp [KO], by simp, by simp, by simp, by simp⟩, ⟨rfl, rfl, by simp, .refl _, rfl⟩, fun a ha hw => ?_⟩, rfl⟩
      have := d1.lt' hw
      rcases ha with e | e | e
      · simp only at e; omega
      · cases e
      · cases e
    · rintro mm rg σ' ⟨i, w, rw, D, R, rfl, hi, hB, rfl⟩
      by_cases hlt : i < l.length
      · obtain ⟨a, ha⟩ : ∃ a, l[i]? = some a := ⟨_, List.getElem?_eq_getElem hlt⟩
        have w2 : IntKind.i64.wrap ((i : Int) + 1) = ((i + 1 : Nat) : Int) := by rw [IntWalk.i64_in] <;> omega
        have q1 := hv.at ha
        have aok := hok a (List.mem_of_getElem? ha)
        by_cases h200 : 200 < i
        · have h200' : (200 : Int) < i := by omega
          simp [lk_cons, hlt, ↓q1, storeL, h200, h200']
        have h200' : ¬ (200 : Int) < i := by omega
        by_cases hkz : 200 < a.key.size
        · have hkz' : (200 : Int) < a.key.size := by omega
          simp [lk_cons, hlt, ↓q1, storeL, h200, h200', hkz, hkz']
        have hkz' : ¬ (200 : Int) < a.key.size := by omega
        simp [lk_cons, hlt, ↓q1, storeL, h200, h200', hkz, hkz']
        refine few_c a aok (by omega) _ _ fun b b1 b2 b3 => ?_
        simp [lk_cons]
        refine did_c (hB.grow ⟨by simp, fun x hx => by simp [show ¬ x = σ'.next by omega]⟩) b1 b2 _ fun σ2 w2' rw2 D2 R2 hB2 hd hr => ?_
        obtain ⟨⟨lv, ov, hh, hL, hO⟩, hlt2, hne⟩ := id hB2.rr
        have hlD := hB2.inv.len
        have hlO := hB2.inv.olen
        have hRo : R2.O.length = D2.O.length := hB2.same.pm.length_eq
        rw [← hd, ← hr]
        simp [lk_cons, hh]
        refine all_c hB2.dr (by omega) _ fun vo ys y1 y2 y3 => ?_
        have hys := hB2.same.all hB2.inv.ko y1 y2
        simp [lk_cons, hh]
        refine same17_c (y3.rd σ2) (by rw [hys]; exact hO.rd) (by rw [hys]; omega) _ ?_
        simp [lk_cons, hh]
        refine consumers_c hB2.dr (by omega) _ fun vc hc => ?_
        simp [lk_cons, hh]
        refine same19_c (hc.rd σ2) (by rw [← hB2.same.L]; exact hL.rdt) (by simp; omega) _ ?_
        simp [lk_cons, w2]
        exact ⟨l.length - (i + 1), by omega, i + 1, w2', rw2, D2, R2, rfl, by omega, hB2, rfl⟩
      · obtain rfl : i = l.length := by omega
        simp [lk_cons]
end Go.Proofs.Ytiikaajopgjliaa.AM
