/- A law's arguments that are structs, slices of structs, and so on, opened as Lean data: what the rows of this seat use where the given pattern serves no such argument. No condition. -/
import Derived.Test.YtehhpcijhclkfaaWMore
import Derived.Deep.Slices
import Derived.SizedLaws
import Derived.Carry
namespace Go.Proofs.Ytehhpcijhclkfaa.OpenKd
open Go.ChangeShapes Go.WideShapes Go.Deep Go.RowKit Go.Proofs.YtehhpcijhclkfaaW.PrintWords

/-- All weights of a datum are within the form's reach. -/
def WOk {H : Type} (P : Program) (t : TypeId) (d : DataW H) : Prop := ∀ n ∈ d.weights P t, n ≤ reachBytes

/-- Whatever reads as a datum of type t is an element of the kind d, and ok. -/
def Opens {α : Type} (P : Program) (d : Kd α) (t : TypeId) (ok : α → Prop) : Prop :=
  ∀ (H : Type) (enc : TypeId × Value → H) (w : World) (base : Nat) (spare : Nat → Bool) (held : Bool) (fuel : Nat) (cs : List Value) (x : DataW H × List MemPlace),
    DataW.trod enc P w base spare held fuel t cs = some x → WOk P t x.1 → ∃ a, d.K w a cs ∧ ok a

section
variable {P : Program} {t : TypeId}

theorem opens_int {k : IntKind} (ht : P.underlying t = some (.int k)) : Opens P (Kd.int k) t (fun n => (Lit.int k n).wf = true) := by
  intro H enc w base spare held fuel cs x h _
  obtain ⟨n, rfl, _, hw⟩ := DataW.trod_int ht h
  exact ⟨n, rfl, hw⟩

theorem opens_bool (ht : P.underlying t = some .bool) : Opens P Kd.bool t (fun _ => True) := by
  intro H enc w base spare held fuel cs x h _
  obtain ⟨n, rfl, _⟩ := DataW.trod_bool ht h
  exact ⟨n, rfl, trivial⟩

theorem opens_string (ht : P.underlying t = some .string) : Opens P Kd.string t (fun s => s.size ≤ 140737488351232) := by
  intro H enc w base spare held fuel cs x h hw
  obtain ⟨s, rfl, rfl, _⟩ := DataW.trod_string ht h
  refine ⟨s, rfl, ?_⟩
  have := hw s.data.toList.length (by simp [DataW.weights])
  rw [Array.length_toList] at this
  exact this

/-- Fields from the offset o on. -/
def OpensF {α : Type} (P : Program) (d : Kd α) (fs : List Field) (o : Nat) (ok : α → Prop) : Prop :=
  ∀ (H : Type) (enc : TypeId × Value → H) (w : World) (base : Nat) (spare : Nat → Bool) (held : Bool) (n : Nat) (cs : List Value) (ys : List (DataW H × List MemPlace)), cs.length = d.sz → ys.length = fs.length →
    (∀ (i : Nat) (f : Field), fs[i]? = some f → DataW.trod enc P w base spare held n f.type ((cs.drop (f.offset - o)).take (P.cellsOf f.type)) = ys[i]?) →
    (∀ m ∈ DataW.weightsEach P (fs.map (·.type)) (ys.map (·.1)), m ≤ reachBytes) → ∃ a, d.K w a cs ∧ ok a

theorem opensF_one {α : Type} {d : Kd α} {f : Field} {o : Nat} {ok : α → Prop} (h : Opens P d f.type ok) (ho : f.offset = o) (hc : P.cellsOf f.type = d.sz) : OpensF P d [f] o ok := by
  intro H enc w base spare held n cs ys hl hy hf hw
  match ys, hy with
  | [y], _ =>
    have h1 := hf 0 f rfl
    rw [ho, Nat.sub_self, List.drop_zero, hc, List.take_of_length_le (by omega)] at h1
    exact h H enc w base spare held n cs y h1 (fun m hm => hw m (by simp [DataW.weightsEach, hm]))

theorem opensF_cons {α β : Type} {d : Kd α} {d' : Kd β} {f : Field} {fs : List Field} {o : Nat} {ok : α → Prop} {ok' : β → Prop} (h : Opens P d f.type ok) (ho : f.offset = o) (hc : P.cellsOf f.type = d.sz)
    (hle : (fs.all fun g => decide (o + d.sz ≤ g.offset)) = true) (hr : OpensF P d' fs (o + d.sz) ok') : OpensF P (Kd.pair d d') (f :: fs) o (fun x => ok x.1 ∧ ok' x.2) := by
  intro H enc w base spare held n cs ys hl hy hf hw
  match ys, hy with
  | y :: ys, hy =>
    have h1 := hf 0 f rfl
    rw [ho, Nat.sub_self, List.drop_zero, hc] at h1
    obtain ⟨a, ha, hoa⟩ := h H enc w base spare held n _ y h1 (fun m hm => hw m (by simp [DataW.weightsEach, hm]))
    have hl' : cs.length = d.sz + d'.sz := hl
    obtain ⟨b, hb, hob⟩ := hr H enc w base spare held n (cs.drop d.sz) ys (by rw [List.length_drop]; omega) (by simpa using hy) (fun i g hg => by
      have h2 := hf (i + 1) g (by simpa using hg)
      have h3 := of_decide_eq_true (List.all_eq_true.1 hle g (List.mem_of_getElem? hg))
      rw [List.drop_drop, show d.sz + (g.offset - (o + d.sz)) = g.offset - o by omega]
      simpa using h2) (fun m hm => hw m (by simp [DataW.weightsEach, hm]))
    exact ⟨(a, b), ⟨cs.take d.sz, cs.drop d.sz, (List.take_append_drop _ _).symm, ha, hb⟩, hoa, hob⟩

theorem opens_struct {α β : Type} {d : Kd α} {g : β → α} (inv : α → β) (hi : ∀ a, g (inv a) = a) {fs : Array Field} (ht : P.underlying t = some (.struct fs)) (hc : P.cellsOf t = d.sz) {ok : α → Prop} (h : OpensF P d fs.toList 0 ok) :
    Opens P (Kd.iso d g) t (fun x => ok (g x)) := by
  intro H enc w base spare held fuel cs x hx hw
  obtain ⟨ys, n, _, rfl, hl, hyl, hf⟩ := DataW.trod_struct ht hx
  obtain ⟨a, ha, hok⟩ := h H enc w base spare held n cs ys (by rw [hl, hc]) (by simpa using hyl) (fun i f hif => by
    have := hf i f (by simpa using hif)
    simpa using this) (fun m hm => hw m (by simp only [DataW.weights, ht]; exact hm))
  exact ⟨inv a, by show d.K w (g (inv a)) cs; rw [hi]; exact ha, by show ok (g (inv a)); rw [hi]; exact hok⟩

theorem list_of {α : Type} {n : Nat} {p : Nat → α → Prop} (h : ∀ i, i < n → ∃ x, p i x) : ∃ l : List α, l.length = n ∧ ∀ i x, l[i]? = some x → p i x := by
  induction n with
  | zero => exact ⟨[], rfl, fun i x hx => by simp at hx⟩
  | succ n ih =>
    obtain ⟨l, hl, hp⟩ := ih fun i hi => h i (by omega)
    obtain ⟨y, hy⟩ := h n (by omega)
    refine ⟨l ++ [y], by simp [hl], fun i x hx => ?_⟩
    rcases Nat.lt_or_ge i l.length with hlt | hge
    · rw [List.getElem?_append_left hlt] at hx; exact hp i x hx
    · rw [List.getElem?_append_right hge] at hx
      have hi : i - l.length = 0 := by
        rcases Nat.eq_zero_or_pos (i - l.length) with h0 | h0
        · exact h0
        · rw [List.getElem?_eq_none (by simp; omega)] at hx; cases hx
      rw [hi] at hx
      simp only [List.getElem?_cons_zero, Option.some.injEq] at hx
      subst hx
      have : i = n := by omega
      subst this; exact hy

theorem weightsAll_mem {H : Type} {e : TypeId} : ∀ {l : List (DataW H)} {i : Nat} {d : DataW H}, l[i]? = some d → ∀ m ∈ d.weights P e, m ∈ DataW.weightsAll P e l
  | d0 :: l, 0, d, h, m, hm => by
    simp only [List.getElem?_cons_zero, Option.some.injEq] at h
    subst h
    simp [DataW.weightsAll, hm]
  | d0 :: l, i + 1, d, h, m, hm => by
    simp only [List.getElem?_cons_succ] at h
    simp only [DataW.weightsAll, List.mem_append]
    exact .inr (weightsAll_mem h m hm)

theorem opens_slice {α : Type} {d : Kd α} {e : TypeId} {ok : α → Prop} (ht : P.underlying t = some (.slice e)) (hc : P.cellsOf e = d.sz) (h : Opens P d e ok) :
    Opens P (Kd.slice e d) t (fun l => (∀ x ∈ l, ok x) ∧ l.length ≤ maxLen ∧ l.length * P.bytesOf e ≤ 140737488351232) := by
  intro H enc w base spare held fuel cs x hx hw
  rcases DataW.trod_slice ht hx with ⟨rfl, rfl⟩ | ⟨a, len, cap, elems, rest, n, _, rfl, rfl, hb, hl, hm, hlen, hel, _, _⟩
  · exact ⟨[], ⟨none, 0, rfl, Nat.le_refl _, Kd.C_nil d w⟩, by simp, by simp, by simp⟩
  · have hel' : ∀ i, i < len → ∃ y : α, ∃ c : List Value, c.length = d.sz ∧ d.K w y c ∧ (∀ j u, c[j]? = some u → w.cell? (a.add (i * d.sz + j)) = some u) ∧ ok y := by
      intro i hi
      have h1 := hel i hi
      rw [List.getElem?_eq_getElem (by omega)] at h1
      obtain ⟨c, h2, h3⟩ := Option.bind_eq_some_iff.1 h1
      obtain ⟨_, hcl, hcc⟩ := World.cells?_some h2
      obtain ⟨y, hy, hoy⟩ := h H enc w base spare held n c _ h3 (fun m hm' => hw m (by
        simp only [DataW.weights, ht, List.mem_cons, List.mem_append]
        refine .inr (.inl (weightsAll_mem (i := i) ?_ m hm'))
        rw [List.getElem?_map, List.getElem?_eq_getElem (by omega)]; rfl))
      refine ⟨y, c, by rw [hcl, hc], hy, fun j u hj => ?_, hoy⟩
      have hjl : j < c.length := (List.getElem?_eq_some_iff.1 hj).1
      have h4 := hcc j (by omega)
      rw [Go.Deep.add_add, hc] at h4
      rw [h4, hj]
    obtain ⟨l, hll, hp⟩ := list_of hel'
    have h5 := hw _ (by simp only [DataW.weights, ht, List.mem_cons]; exact .inl rfl)
    rw [List.length_map, List.length_map, hlen] at h5
    refine ⟨l, ⟨some a, cap, by rw [hll], by omega, rfl, by unfold maxLen at hm; omega, fun _ => ⟨a, rfl, fun j p hj => ?_⟩⟩, fun y hy => ?_, by omega, ?_⟩
    · obtain ⟨c, h1, h2, h3, _⟩ := hp j p hj
      exact ⟨c, h1, h2, h3⟩
    · obtain ⟨i, hi⟩ := List.mem_iff_getElem?.1 hy
      obtain ⟨c, _, _, _, h4⟩ := hp i y hi
      exact h4
    · rw [hll]
      exact Nat.le_trans (Nat.mul_le_mul_right _ (Nat.le_add_right _ _)) h5

/-- Of the row's weights: one argument's. -/
theorem wok_of {H : Type} {ts : List TypeId} {ds : List (DataW H)} (hsz : (DataW.weightsEach P ts ds).all (· ≤ reachBytes) = true) {j : Nat} {d : DataW H} (ht : ts[j]? = some t) (hd : ds[j]? = some d) : WOk P t d := fun n hn => by
  simpa using List.all_eq_true.1 hsz _ (DataW.weights_mem_each ht hd n hn)

theorem top_slice {H : Type} {enc : TypeId × Value → H} {w : World} {base : Nat} {spare : Nat → Bool} {held : Bool} {α : Type} {d : Kd α} {e : TypeId} {ok : List α → Prop} (hO : Opens P (Kd.slice e d) t ok) {A : Option Addr} {n c : Nat} {dd : DataW H} {ps : List MemPlace}
    (h : DataW.Trod enc P w base spare held t (.slice A n c) dd ps) (hw : WOk P t dd) : ∃ l : List α, n = l.length ∧ l.length ≤ c ∧ d.C w A l.length l ∧ ok l := by
  obtain ⟨fuel, hf⟩ := h
  obtain ⟨l, ⟨A', c', he, hl, hC⟩, hok⟩ := hO H enc w base spare held fuel _ _ hf hw
  simp [Value.cells] at he
  obtain ⟨rfl, rfl, rfl⟩ := he
  exact ⟨l, rfl, hl, hC, hok⟩

theorem top_agg {H : Type} {enc : TypeId × Value → H} {w : World} {base : Nat} {spare : Nat → Bool} {held : Bool} {α : Type} {d : Kd α} {ok : α → Prop} (hO : Opens P d t ok) {cs : Array Value} {dd : DataW H} {ps : List MemPlace}
    (h : DataW.Trod enc P w base spare held t (.agg cs) dd ps) (hw : WOk P t dd) : ∃ a : α, d.K w a cs.toList ∧ ok a := by
  obtain ⟨fuel, hf⟩ := h
  obtain ⟨a, hk, hok⟩ := hO H enc w base spare held fuel _ _ hf hw
  exact ⟨a, by simpa [Value.cells] using hk, hok⟩
end
end Go.Proofs.Ytehhpcijhclkfaa.OpenKd
