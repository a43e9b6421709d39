/- What the functions of this chapter give: their contracts over the machine. -/
import Derived.Test.YtiikaajopgjliaaCt18
/- DispatchFirst's look. -/
namespace Go.Proofs.Ytiikaajopgjliaa.AM
set_option maxRecDepth 100000
set_option linter.unusedVariables false
set_option linter.unusedSimpArgs false

def FiJ (v vo : AVal) (ys : List OutR) (σ0 : St) (mm : Nat) (rg : Regs) (σ' : St) : Prop := ∃ i : Nat, mm = ys.length - i ∧ i ≤ ys.length ∧ Grow σ0 σ' ∧ rg = [(10, v), (39, vo), (40, i64 ys.length), (41, i64 i)]
set_option maxHeartbeats 1000000 in
theorem look22_c {σ : St} {w : Own} {D : Dk} {K cb : Nat} {one : Bool} {a : Act} {c : Nat} {e : Int} (h : DR σ w D) (hi : Inv K D) (hK : K = 1 ∨ K = 2) (h1 : one = true → K = 1) (he : e = 0 → D.L.head? = some c) (hm : σ.mem.get cb = some (.cells 1 [.bool one])) (hcb : cb < σ.next)
    (Q : AVal → St → Prop) (hQ : ∀ σ', Grow σ σ' → Q (.bool true) σ') : ACall Try.prog 22 [.ptr w.d 0, .agg (arow a), u64 (c : Int), i64 e, .ptr cb 0] σ Q := by
  refine ACall.of_compF hmx (fun a w => Try.call22 a w) Try.func22 cf22 (n := 5) (by decide) rfl ?_
  have z1 : ¬ cb = σ.next := by omega
  have g1 : ∀ A : Blk, Grow σ ⟨σ.mem.set σ.next A, σ.next + 1⟩ := fun A => ⟨by simp, fun x hx => by simp [show ¬ x = σ.next by omega]⟩
  have hll := hi.len
  have hol := hi.olen
  simp [ac22, rs22, lk_cons]
  refine consumers_c (D := D) (h.frame (g1 _)) (by omega) _ fun v hv => ?_
  have l1 := hv.len
  have first := hi.first hK
  cases hL : D.L with
  | nil =>
    have hO : D.O = [] := by
      cases hO : D.O with
      | nil => rfl
      | cons x t => have := hi.oin x (by rw [hO]; exact List.mem_cons_self); rw [hL] at this; cases this
    have e0 : ¬ e = 0 := fun h0 => by have := he h0; rw [hL] at this; cases this
    have l2 : ∀ ρ : St, evalV ρ (.len 1 v) = some (i64 0, ρ) := fun ρ => by rw [l1, hL]; rfl
    cases one <;>
    · simp [lk_cons, hm, z1, ↓l2, e0]
      refine all_c (D := D) (h.frame (g1 _)) (by omega) _ fun vo ys y1 y2 y3 => ?_
      have hys : ys = [] := by
        have := y1.length_eq
        rw [hO] at this
        exact List.length_eq_zero_iff.1 this
      subst hys
      have l3 := y3.len
      simp [lk_cons, ↓l3]
      refine wp_loop (FiJ v vo [] σ) 0 ?_ ?_
      · exact ⟨0, rfl, Nat.le_refl _, g1 _, rfl⟩
      · rintro mm rg σ' ⟨i, rfl, hi', hg, rfl⟩
        obtain rfl : i = 0 := by simpa using hi'
        simp [lk_cons]
        exact hQ _ hg
  | cons hd t =>
    have l2 : ∀ ρ : St, evalV ρ (.len 1 v) = some (i64 ((t.length : Int) + 1), ρ) := fun ρ => by rw [l1, hL]; simp
    have a0 : ∀ ρ : St, evalV ρ (.idxAddr 2 v (i64 0)) = some (.iptr [u64 (hd : Int), i64 (tk D.T hd)], ρ) := fun ρ => hv.at (i := 0) (x := (hd, tk D.T hd)) (by rw [hL]; rfl) ρ
    have hall : ∀ x ∈ D.O, x.c = hd := fun x hx => by have := first x hx; rw [hL] at this; simpa using this.symm
    have hone : one = true → t = [] := fun h0 => by
      have := hi.one (h1 h0)
      rw [hL] at this
      exact List.length_eq_zero_iff.1 (by simpa using this)
    have hh : e = 0 → hd = c := fun h0 => by have := he h0; rw [hL] at this; simpa using this
    have k1 : ¬ (t.length : Int) + 1 = 0 := by omega
    have k2 : one = true → ¬ (1 : Int) < (t.length : Int) + 1 := fun h0 => by rw [hone h0]; simp
    have k3 : e = 0 → (hd : Int) = c := fun h0 => by rw [hh h0]
    rcases Bool.eq_false_or_eq_true one with ho | ho <;> by_cases he0 : e = 0
    all_goals
      (try have k2' := k2 ho)
      (try have k3' := k3 he0)
      simp [lk_cons, hm, z1, ↓l2, ↓a0, ho, he0, *]
      refine all_c (D := D) (h.frame (g1 _)) (by omega) _ fun vo ys y1 y2 y3 => ?_
      have l3 := y3.len
      have yl : ys.length = D.O.length := y1.length_eq
      simp [lk_cons, ↓l3]
      refine wp_loop (FiJ v vo ys σ) ys.length ?_ ?_
      · exact ⟨0, rfl, Nat.zero_le _, g1 _, rfl⟩
      · rintro mm rg σ' ⟨i, rfl, hi', hg, rfl⟩
        by_cases hlt : i < ys.length
        · obtain ⟨x, hx⟩ : ∃ x, ys[i]? = some x := ⟨_, List.getElem?_eq_getElem hlt⟩
          have q1 := y3.at hx
          have w1 : IntKind.i64.wrap ((i : Int) + 1) = ((i + 1 : Nat) : Int) := by rw [IntWalk.i64_in] <;> omega
          have hxc : x.c = hd := hall x (y1.mem_iff.1 (List.mem_of_getElem? hx))
          simp [lk_cons, hlt, ↓q1, storeL, ↓l2, ↓a0, k1, hxc, w1]
          exact ⟨ys.length - (i + 1), by omega, i + 1, rfl, by omega, Grow.trans hg ⟨by simp, fun z hz => by simp [show ¬ z = σ'.next by omega]⟩, rfl⟩
        · obtain rfl : i = ys.length := by omega
          simp [lk_cons]
          exact hQ _ hg

theorem Did.head {K : Nat} {D D' : Dk} {a : Act} {c : Nat} {e : Int} (hi : Inv K D) (hK : K = 1 ∨ K = 2) (h : Did D a D' c e) : e = 0 → D'.L.head? = some c := by
  intro h0
  have h' := h
  rcases h with ⟨_, _, h1, _⟩ | ⟨_, _, h1, _⟩ | ⟨_, _, h1, _⟩ | ⟨_, _, h1, _⟩ | ⟨_, ⟨_, _, h1⟩ | ⟨_, _, _, _, _, _, rfl⟩⟩
  · omega
  · omega
  · omega
  · omega
  · exact absurd h0 h1
  · exact (hi.did h').first hK ⟨a.l, a.e, c, a.key⟩ (List.mem_append_right _ List.mem_cons_self)
theorem first_c (one : Bool) {v : AVal} {l : List Act} (hv : AI v l) (hok : ∀ a ∈ l, a.ok) (hlen : l.length ≤ 9223372036854775807) : ACall Try.prog 5 [.bool one, v] σ0 fun v _ => v = .bool true := by
  refine ACall.of_compF hmx (fun a w => Try.call5 a w) Try.func5 cf5 (n := 2) (by decide) rfl ?_
  simp [ac5, rs5, lk_cons]
  refine awake _ _ ?_
  have key : ∀ (K : Nat) (S : St), S.mem.get σ0.next = some (.cells 1 [.bool one]) → σ0.next < S.next → (K = 1 ∨ K = 2) → (one = true → K = 1) → ∀ Q, (∀ σ', Q (.bool true) σ') → ACall Try.prog 21 [.int .u8 (K : Int), v, .fn 22 [] [.ptr σ0.next 0]] S Q := by
    intro K S m1 m2 hK h1 Q hQ
    refine play_c K (by omega) 22 [.ptr σ0.next 0] hv hok hlen S (fun w D σ => σ.mem.get σ0.next = some (.cells 1 [.bool one]) ∧ σ0.next < σ.next ∧ ¬ w.has σ0.next) (fun w σ' d1 d2 d3 => ⟨(d2.2 _ m2).trans m1, Nat.lt_of_lt_of_le m2 d2.1, fun hh => by have := d3 _ hh; omega⟩) ?_ Q hQ
    intro s0 s1 w0 w D0 D a c e Q ⟨j1, j2, j3⟩ dr0 i0 aok hd dr1 i1 st hq
    have n1 : s1.mem.get σ0.next = some (.cells 1 [.bool one]) := (st.keep _ j2 j3).trans j1
    have n2 : σ0.next < s1.next := Nat.lt_of_lt_of_le j2 st.next
    exact look22_c dr1 i1 hK h1 (hd.head i0 hK) n1 n2 Q fun σ' hg => hq w D σ' ⟨(hg.2 _ n2).trans n1, Nat.lt_of_lt_of_le n2 hg.1, st.has j2 j3⟩ (dr1.frame hg) i1 rfl
  cases one
  · simp [lk_cons]
    refine key 2 _ (by simp) (by simp) (.inr rfl) (by simp) _ fun σ' => ?_
    simp [lk_cons]
  · simp [lk_cons]
    refine key 1 _ (by simp) (by simp) (.inl rfl) (by simp) _ fun σ' => ?_
    simp [lk_cons]
end Go.Proofs.Ytiikaajopgjliaa.AM
