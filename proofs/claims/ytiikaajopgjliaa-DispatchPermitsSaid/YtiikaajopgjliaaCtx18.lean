/- What the functions of this chapter give: their contracts over the machine. -/
import Derived.Test.YtiikaajopgjliaaCt18
/- DispatchPermits: what is counted. -/
namespace Go.Proofs.Ytiikaajopgjliaa.AM
set_option maxRecDepth 100000
set_option linter.unusedVariables false
set_option linter.unusedSimpArgs false

def bB (b : Bool) : AVal := .bool b
abbrev md (n : Int) : Int := IntKind.i64.wrap n
theorem lookI {m ck : Nat} {es : List MEnt} {T : List (Nat × Int)} (h2 : All2 (EN iV) es T) (x : Nat) (ρ : St) (hm : ρ.mem.get m = some (.map ck es)) : evalV ρ (.lookup (i64 0) false [1] (.map m) (u64 (x : Int)) false) = some (i64 (tk T x), ρ) := by
  rcases findN (k := x) h2 with ⟨f1, f2⟩ | ⟨i, y, f1, f2, _⟩ <;> simp [hm, f1, tk, f2, keyIs, shapeOk, kShape, iV]
theorem lookB {m ck : Nat} {es : List MEnt} {T : List (Nat × Bool)} (h2 : All2 (EN bB) es T) (x : Nat) (ρ : St) (hm : ρ.mem.get m = some (.map ck es)) : evalV ρ (.lookup (.bool false) false [1] (.map m) (u64 (x : Int)) false) = some (.bool ((lkN T x).getD false), ρ) := by
  rcases findN (k := x) h2 with ⟨f1, f2⟩ | ⟨i, y, f1, f2, _⟩ <;> simp [hm, f1, f2, keyIs, shapeOk, kShape, bB]
theorem setE {β : Type} {f : β → AVal} {m ck : Nat} {es : List MEnt} {T : List (Nat × β)} (h2 : All2 (EN f) es T) (h3 : ∀ e ∈ es, e.1 < ck) (h4 : (es.map (·.1)).Nodup) (x : Nat) (y : β) :
    ∃ ck' es', (∀ ρ : St, ρ.mem.get m = some (.map ck es) → evalV ρ (.mapSet false [1] (.map m) (u64 (x : Int)) (f y)) = some (.nilp, ⟨ρ.mem.set m (.map ck' es'), ρ.next⟩)) ∧ All2 (EN f) es' (setN T x y) ∧ (∀ e ∈ es', e.1 < ck') ∧ (es'.map (·.1)).Nodup := by
  rcases MapN.put h2 h3 h4 x y with ⟨f1, f2, f3⟩ | ⟨i, z, f1, f2, f3⟩
  · obtain ⟨c, e, g1, g2⟩ := f3 ⟨σ0.mem.set 0 (.map (ck + 1) (es ++ [(ck, u64 (x : Int), f y)])), 0⟩ 0 (by simp)
    simp at g1
    obtain ⟨rfl, rfl⟩ := g1
    exact ⟨_, _, fun ρ hm => by simp [hm, f1, keyIs, shapeOk, kShape], g2⟩
  · obtain ⟨c, e, g1, g2⟩ := f3 ⟨σ0.mem.set 0 (.map ck (es.modify i fun e => (e.1, u64 (x : Int), f y))), 0⟩ 0 (by simp)
    simp at g1
    obtain ⟨rfl, rfl⟩ := g1
    exact ⟨_, _, fun ρ hm => by simp [hm, f1, keyIs, shapeOk, kShape], g2⟩
theorem delE {m ck : Nat} {es : List MEnt} {T : List (Nat × Int)} (h2 : All2 (EN iV) es T) (h3 : ∀ e ∈ es, e.1 < ck) (h4 : (es.map (·.1)).Nodup) (x : Nat) :
    ∃ es', (∀ ρ : St, ρ.mem.get m = some (.map ck es) → evalV ρ (.delete false [1] (.map m) (u64 (x : Int))) = some (.tup [], ⟨ρ.mem.set m (.map ck es'), ρ.next⟩)) ∧ All2 (EN iV) es' (delN T x) ∧ es'.Sublist es := by
  rcases dropN (k := x) h2 with ⟨f1, f2⟩ | ⟨i, y, f1, f2⟩
  · exact ⟨es, fun ρ hm => by simp [hm, f1, keyIs, shapeOk, kShape], by rw [f2]; exact h2, .refl _⟩
  · exact ⟨es.eraseIdx i, fun ρ hm => by simp [hm, f1, keyIs, shapeOk, kShape], f2, List.eraseIdx_sublist _ _⟩
theorem set_nodup {β : Type} {T : List (Nat × β)} (h : (T.map (·.1)).Nodup) (n : Nat) (y : β) : ((setN T n y).map (·.1)).Nodup := by
  rw [set_keys]
  split
  · exact h
  · rename_i hn
    rw [List.nodup_append]
    exact ⟨h, by simp, fun x hx y hy e => by simp at hy; subst hy; subst e; exact hn hx⟩
theorem del_nodup {β : Type} {T : List (Nat × β)} (h : (T.map (·.1)).Nodup) (n : Nat) : ((delN T n).map (·.1)).Nodup := h.sublist ((del_sub n T).map _)

structure Acc (D : Dk) (G V H : List (Nat × Int)) : Prop where
  gn : (G.map (·.1)).Nodup
  vn : (V.map (·.1)).Nodup
  hn : (H.map (·.1)).Nodup
  had : ∀ x, tk H x = tk D.T x
  sum : ∀ x, md (tk V x - tk G x) = tk D.T x
  out : ∀ x, x ∉ D.L → lkN H x = none ∧ tk V x = 0 ∧ tk G x = 0
  inn : ∀ x ∈ D.L, lkN H x ≠ none
def got (G : List (Nat × Int)) (c : Nat) (e : Int) : List (Nat × Int) := if e = 0 then setN G c (md (tk G c + 1)) else G
def flw (a : Act) : Prop := a.k % 8 = 2 ∨ a.k % 8 = 3
theorem tk_out {K : Nat} {D : Dk} (hi : Inv K D) {x : Nat} (h : x ∉ D.L) : tk D.T x = 0 := by
  by_cases h0 : tk D.T x = 0
  · exact h0
  · obtain ⟨p, hp, rfl⟩ := tk_mem h0
    exact absurd (hi.tin p hp) h
theorem Did.perm {K : Nat} {D D' : Dk} {a : Act} {c : Nat} {e : Int} (hi : Inv K D) (h : Did D a D' c e) :
    (flw a → e ≠ 0) ∧ (flw a → ∀ x ∈ D'.L, x ∈ D.L) ∧ (¬ flw a → ∀ x ∈ D'.L, tk D'.T x = tk D.T x - if e = 0 ∧ x = c then 1 else 0) ∧ (e = 0 → c ∈ D'.L) := by
  unfold flw
  rcases h with ⟨k, _, h1, rfl | ⟨hj, rfl⟩⟩ | ⟨k, _, h1, rfl | ⟨hc, O', hp, rfl⟩⟩ | ⟨k, _, h1, rfl | ⟨hc, hn1, hn2, rfl⟩⟩ | ⟨k, _, h1, rfl | ⟨i, x, hx, rfl⟩⟩ | ⟨k, ⟨rfl, _, h1⟩ | ⟨h1, hks, hl, hno, hpos, ⟨ls, i, hm, hg⟩, rfl⟩⟩
  all_goals subst_vars
  · exact ⟨by omega, by omega, fun _ x _ => by simp, by omega⟩
  · exact ⟨by omega, by omega, fun _ x _ => by simp, by omega⟩
  · exact ⟨by omega, by omega, fun _ x _ => by simp, by omega⟩
  · refine ⟨by omega, by omega, fun _ x hx => ?_, by omega⟩
    show tk (delN D.T a.c) x = _
    rw [tk_del _ hi.tnd, if_neg (rmv_mem.1 hx).2]; simp
  · exact ⟨by omega, fun _ x hx => hx, by omega, by omega⟩
  · exact ⟨by omega, fun _ x hx => hx, by omega, by omega⟩
  · exact ⟨by omega, by omega, fun _ x _ => by simp, by omega⟩
  · exact ⟨by omega, by omega, fun _ x _ => by simp, by omega⟩
  · exact ⟨by omega, by omega, fun _ x _ => by simp [h1], fun h => absurd h h1⟩
  · obtain ⟨p0, hp0, hpc⟩ := tk_mem (T := D.T) (c := c) (by omega)
    refine ⟨by omega, by omega, fun _ x hx => ?_, fun _ => by rw [← hpc]; exact hi.tin p0 hp0⟩
    show tk (setN D.T c _) x = _
    rw [tk_set]
    by_cases hxc : x = c
    · simp [hxc]
    · simp [hxc]
theorem Acc.step {K : Nat} {D D' : Dk} {a : Act} {c : Nat} {e : Int} {G V H : List (Nat × Int)} (hi : Inv K D) (hi' : Inv K D') (h : Did D a D' c e) (hA : Acc D G V H) (x : Nat) (hx : x ∈ D'.L) :
    (flw a → md (md (tk V x + md (tk D'.T x - tk H x)) - tk (got G c e) x) = tk D'.T x) ∧ (¬ flw a → md (tk V x - tk (got G c e) x) = tk D'.T x) := by
  obtain ⟨p1, p2, p3, p4⟩ := h.perm hi
  have hs := hA.sum x
  have hh := hA.had x
  have b1 := hi.per x
  have b2 := hi'.per x
  constructor
  · intro hf
    have he := p1 hf
    simp only [got, if_neg he]
    rw [hh]
    simp only [md, IntKind.wrap_i64] at *
    omega
  · intro hf
    have h3 := p3 hf x hx
    by_cases he : e = 0
    · simp only [got, if_pos he, tk_set]
      by_cases hxc : x = c
      · subst hxc
        simp only [he, true_and, if_true] at h3 ⊢
        simp only [md, IntKind.wrap_i64] at *
        omega
      · simp only [hxc, and_false, if_false] at h3 ⊢
        rw [hs, h3]; omega
    · simp only [got, if_neg he] at h3 ⊢
      simp only [he, false_and, if_false] at h3
      rw [hs, h3]; omega
end Go.Proofs.Ytiikaajopgjliaa.AM

/- DispatchPermits' look. -/
namespace Go.Proofs.Ytiikaajopgjliaa.AM
set_option maxRecDepth 100000
set_option linter.unusedVariables false
set_option linter.unusedSimpArgs false

structure Bx where
  g : Nat
  gb : Nat
  v : Nat
  vb : Nat
  h : Nat
  hb : Nat
structure Bx.ok (B : Bx) : Prop where
  gv : B.g ≠ B.v
  gh : B.g ≠ B.h
  vh : B.v ≠ B.h
  bg : B.gb ≠ B.g ∧ B.gb ≠ B.v ∧ B.gb ≠ B.h
  bv : B.vb ≠ B.g ∧ B.vb ≠ B.v ∧ B.vb ≠ B.h
  bh : B.hb ≠ B.g ∧ B.hb ≠ B.v ∧ B.hb ≠ B.h
/-- The three maps, in their boxes. -/
structure PM (B : Bx) (G V H : List (Nat × Int)) (σ : St) : Prop where
  gb : σ.mem.get B.gb = some (.cells 1 [.map B.g])
  vb : σ.mem.get B.vb = some (.cells 1 [.map B.v])
  hb : σ.mem.get B.hb = some (.cells 1 [.map B.h])
  g : MapN iV σ B.g G
  v : MapN iV σ B.v V
  h : MapN iV σ B.h H
/-- What else there was is as it was. -/
structure Els (B : Bx) (σ σ' : St) : Prop where
  next : σ.next ≤ σ'.next
  keep : ∀ a, a < σ.next → a ≠ B.g → a ≠ B.v → a ≠ B.h → σ'.mem.get a = σ.mem.get a
structure Bx.at (B : Bx) (w : Own) (σ : St) : Prop where
  lt : B.g < σ.next ∧ B.gb < σ.next ∧ B.v < σ.next ∧ B.vb < σ.next ∧ B.h < σ.next ∧ B.hb < σ.next
  no : ¬ w.has B.g ∧ ¬ w.has B.gb ∧ ¬ w.has B.v ∧ ¬ w.has B.vb ∧ ¬ w.has B.h ∧ ¬ w.has B.hb
theorem Els.dr {B : Bx} {w : Own} {D : Dk} {σ σ' : St} (h : Els B σ σ') (hB : B.at w σ) (d : DR σ w D) : DR σ' w D :=
  d.keep h.next fun a ha hh => h.keep a ha (fun e => hB.no.1 (e ▸ hh)) (fun e => hB.no.2.2.1 (e ▸ hh)) (fun e => hB.no.2.2.2.2.1 (e ▸ hh))
def PeJ (B : Bx) (w : Own) (D : Dk) (G : List (Nat × Int)) (V H : List (Nat × Int)) (a : Act) (v : AVal) (σ0 : St) (mm : Nat) (rg : Regs) (σ' : St) : Prop := ∃ (i : Nat) (V' H' : List (Nat × Int)) (Th : List (Nat × Bool)), mm = D.L.length - i ∧ i ≤ D.L.length ∧ Els B σ0 σ' ∧ σ0.next + 1 + 1 ≤ σ'.next ∧ σ'.mem.get σ0.next = some (.cells 7 (arow a)) ∧ PM B G V' H' σ' ∧ MapN bB σ' (σ0.next + 1) Th ∧ (V'.map (·.1)).Nodup ∧ (H'.map (·.1)).Nodup ∧
  (∀ x ∈ D.L.take i, md (tk V' x - tk G x) = tk D.T x ∧ lkN H' x = some (tk D.T x) ∧ lkN Th x = some true) ∧ (∀ x, x ∉ D.L.take i → tk V' x = tk V x ∧ lkN H' x = lkN H x ∧ lkN Th x = none) ∧
  rg = [(0, .ptr w.d 0), (4, .ptr B.gb 0), (5, .ptr B.vb 0), (6, .ptr B.hb 0), (8, .ptr σ0.next 0), (12, .map (σ0.next + 1)), (26, v), (27, i64 D.L.length), (28, i64 i)]
theorem got_nodup {G : List (Nat × Int)} (h : (G.map (·.1)).Nodup) (c : Nat) (e : Int) : ((got G c e).map (·.1)).Nodup := by
  by_cases he : e = 0
  · rw [got, if_pos he]; exact set_nodup h _ _
  · rw [got, if_neg he]; exact h
theorem got_out {G : List (Nat × Int)} {c x : Nat} {e : Int} (h : e = 0 → x ≠ c) : tk (got G c e) x = tk G x := by
  by_cases he : e = 0
  · rw [got, if_pos he, tk_set, if_neg (h he)]
  · rw [got, if_neg he]
def PeK (B : Bx) (w : Own) (D : Dk) (Th : List (Nat × Bool)) (σ0 : St) (it clock : Nat) (mm : Nat) (rg : Regs) (σ' : St) : Prop := ∃ (S : List Nat) (G V H : List (Nat × Int)) (ents : List MEnt), mm = leftE S ents ∧ σ'.mem.get it = some (.iter (some B.h) clock S clock) ∧ σ'.mem.get B.h = some (.map clock ents) ∧ All2 (EN iV) ents H ∧ (∀ e ∈ ents, e.1 < clock) ∧ (ents.map (·.1)).Nodup ∧
  σ'.mem.get B.gb = some (.cells 1 [.map B.g]) ∧ σ'.mem.get B.vb = some (.cells 1 [.map B.v]) ∧ σ'.mem.get B.hb = some (.cells 1 [.map B.h]) ∧ MapN iV σ' B.g G ∧ MapN iV σ' B.v V ∧ MapN bB σ' (σ0.next + 1) Th ∧ (G.map (·.1)).Nodup ∧ (V.map (·.1)).Nodup ∧ (H.map (·.1)).Nodup ∧
  (∀ x ∈ D.L, lkN H x = some (tk D.T x) ∧ md (tk V x - tk G x) = tk D.T x) ∧ (∀ x, x ∉ D.L → lkN H x = none → tk V x = 0 ∧ tk G x = 0) ∧ (∀ e ∈ ents, e.1 ∈ S → ∃ k : Nat, e.2.1 = u64 (k : Int) ∧ k ∈ D.L) ∧ Els B σ0 σ' ∧ σ0.next + 1 < it ∧ it < σ'.next ∧
  rg = [(0, .ptr w.d 0), (4, .ptr B.gb 0), (5, .ptr B.vb 0), (6, .ptr B.hb 0), (12, .map (σ0.next + 1)), (81, .ptr it 0)]
theorem rise {ys : List OutR} (h : (ys.map okey).Nodup) (hr : Ris ys) {i : Nat} {x y : OutR} (hx : ys[i]? = some x) (hy : ys[i + 1]? = some y) : ordO x y < 0 := by
  have h1 := hr i (i + 1) x y (by omega) hx hy
  obtain ⟨a1, rfl⟩ := List.getElem?_eq_some_iff.1 hx
  obtain ⟨a2, rfl⟩ := List.getElem?_eq_some_iff.1 hy
  have h2 := List.pairwise_iff_getElem.1 h i (i + 1) (by simpa using a1) (by simpa using a2) (by omega)
  simp only [List.getElem_map, okey, ne_eq, Prod.mk.injEq] at h2
  rw [ordO_lt] at h1 ⊢
  omega
theorem ACall.atS {P : Env} {f : FuncId} {args : List AVal} {Q : AVal → St → Prop} (S : St) (X : St → Prop) (hX : X S) (h : ∀ S, X S → ACall P f args S Q) : ACall P f args S Q := h S hX
set_option maxHeartbeats 2000000 in
theorem look24_c {σ : St} {w : Own} {D0 D : Dk} {K : Nat} {B : Bx} {a : Act} {c : Nat} {e : Int} {G V H : List (Nat × Int)} (hB : B.ok) (h : DR σ w D) (hi0 : Inv K D0) (hi : Inv K D) (hd : Did D0 a D c e) (hA : Acc D0 G V H) (hP : PM B G V H σ) (hat : B.at w σ)
    (Q : AVal → St → Prop) (hQ : ∀ σ' G' V' H', Els B σ σ' → Acc D G' V' H' → PM B G' V' H' σ' → Q (.bool true) σ') : ACall Try.prog 24 [.ptr w.d 0, .agg (arow a), u64 (c : Int), i64 e, .ptr B.gb 0, .ptr B.vb 0, .ptr B.hb 0] σ Q := by
  refine ACall.of_compF hmx (fun a w => Try.call24 a w) Try.func24 cf24 (n := 7) (by decide) rfl ?_
  have hll := hi.len
  have hol := hi.olen
  obtain ⟨⟨l1, l2, l3, l4, l5, l6⟩, hno⟩ := id hat
  obtain ⟨pgb, pvb, phb, ⟨cg, eg, mg1, mg2, mg3, mg4⟩, hV, hH⟩ := id hP
  -- got
  have n1 : ¬ B.gb = σ.next := by omega
  have n2 : ¬ B.g = σ.next := by omega
  have n3 : ¬ σ.next = B.g := by omega
  obtain ⟨cg', eg', sg1, sg2⟩ := setE (m := B.g) mg2 mg3 mg4 c (md (tk G c + 1))
  obtain ⟨k8, hk8, hk9⟩ : ∃ k8 : Nat, (a.k : Int).tmod 8 = (k8 : Int) ∧ k8 = a.k % 8 := ⟨a.k % 8, rfl, rfl⟩
  by_cases he : e = 0
  case' pos =>
    have s1 := lookI (m := B.g) (ck := cg) mg2 c ⟨σ.mem.set σ.next (.cells 7 (arow a)), σ.next + 1⟩ (by simp [n2, mg1])
    have s2 := sg1 ⟨σ.mem.set σ.next (.cells 7 (arow a)), σ.next + 1⟩ (by simp [n2, mg1])
    simp only [iV, md] at s2
    simp [ac24, rs24, lk_cons, he, pgb, n1, ↓s1, ↓s2]
    refine ACall.atS _ (fun S => Els B σ S ∧ σ.next + 1 + 1 ≤ S.next ∧ S.mem.get σ.next = some (.cells 7 (arow a)) ∧ PM B (got G c e) V H S ∧ S.mem.get (σ.next + 1) = some (.map 0 [])) ⟨⟨by simp; omega, fun x hx a1 a2 a3 => by simp [show ¬ x = σ.next by omega, show ¬ x = σ.next + 1 by omega, a1]⟩, by simp, by simp [n3, show ¬ σ.next = σ.next + 1 by omega], ⟨?_, ?_, ?_, ?_, ?_, ?_⟩, by simp⟩ fun S hS => ?_
    · simp [show ¬ B.gb = σ.next + 1 by omega, n1, hB.bg.1, pgb]
    · simp [show ¬ B.vb = σ.next + 1 by omega, show ¬ B.vb = σ.next by omega, hB.bv.1, pvb]
    · simp [show ¬ B.hb = σ.next + 1 by omega, show ¬ B.hb = σ.next by omega, hB.bh.1, phb]
    · rw [got, if_pos he]
      exact ⟨cg', eg', by simp [show ¬ B.g = σ.next + 1 by omega], sg2⟩
    · exact hV.frame (by simp [show ¬ B.v = σ.next + 1 by omega, show ¬ B.v = σ.next by omega, Ne.symm hB.gv])
    · exact hH.frame (by simp [show ¬ B.h = σ.next + 1 by omega, show ¬ B.h = σ.next by omega, Ne.symm hB.gh])
  case' neg =>
    simp [ac24, rs24, lk_cons, he]
    refine ACall.atS _ (fun S => Els B σ S ∧ σ.next + 1 + 1 ≤ S.next ∧ S.mem.get σ.next = some (.cells 7 (arow a)) ∧ PM B (got G c e) V H S ∧ S.mem.get (σ.next + 1) = some (.map 0 [])) ⟨⟨by simp; omega, fun x hx a1 a2 a3 => by simp [show ¬ x = σ.next by omega, show ¬ x = σ.next + 1 by omega]⟩, by simp, by simp [show ¬ σ.next = σ.next + 1 by omega], ⟨?_, ?_, ?_, ?_, ?_, ?_⟩, by simp⟩ fun S hS => ?_
    · simp [show ¬ B.gb = σ.next + 1 by omega, n1, pgb]
    · simp [show ¬ B.vb = σ.next + 1 by omega, show ¬ B.vb = σ.next by omega, pvb]
    · simp [show ¬ B.hb = σ.next + 1 by omega, show ¬ B.hb = σ.next by omega, phb]
    · rw [got, if_neg he]
      exact hP.g.frame (by simp [show ¬ B.g = σ.next + 1 by omega, n2])
    · exact hV.frame (by simp [show ¬ B.v = σ.next + 1 by omega, show ¬ B.v = σ.next by omega])
    · exact hH.frame (by simp [show ¬ B.h = σ.next + 1 by omega, show ¬ B.h = σ.next by omega])
  all_goals
    obtain ⟨f1, f2, f3, f4, f5⟩ := hS
    refine consumers_c (D := D) (f1.dr hat h) (by omega) _ fun v hv => ?_
    have ll : ∀ ρ : St, evalV ρ (.len 1 v) = some (i64 D.L.length, ρ) := fun ρ => by rw [hv.len]; simp
    simp [lk_cons, ↓ll]
    refine wp_loop (PeJ B w D (got G c e) V H a v σ) D.L.length ?_ ?_
    · exact ⟨0, V, H, [], rfl, Nat.zero_le _, f1, f2, f3, f4, ⟨0, [], f5, trivial, by simp, by simp⟩, hA.vn, hA.hn, by simp, fun x _ => ⟨rfl, rfl, rfl⟩, rfl⟩
    · rintro mm rg σ' ⟨i, V', H', Th, rfl, hi', g1, g2, g3, g4, g5, g6, g7, g8, g9, rfl⟩
      obtain ⟨pg, pv, ph, ⟨cG, eG, G1, G2, G3, G4⟩, ⟨cv, ev, v1, v2, v3, v4⟩, ⟨ch, eh, h1, h2, h3, h4⟩⟩ := id g4
      obtain ⟨ct, et, t1, t2, t3, t4⟩ := id g5
      by_cases hlt : i < D.L.length
      · obtain ⟨x, hx⟩ : ∃ x, D.L[i]? = some x := ⟨_, List.getElem?_eq_getElem hlt⟩
        have q1 := hv.at (i := i) (x := (x, tk D.T x)) (by simp [hx])
        have w1 : IntKind.i64.wrap ((i : Int) + 1) = ((i + 1 : Nat) : Int) := by rw [IntWalk.i64_in] <;> omega
        have hxL : x ∈ D.L := List.mem_of_getElem? hx
        have htk : D.L.take (i + 1) = D.L.take i ++ [x] := by rw [List.take_add_one, hx]; rfl
        have hxt : x ∉ D.L.take i := fun hh => by
          have := hi.nd.sublist (List.take_sublist (i + 1) D.L)
          rw [htk, List.nodup_append] at this
          exact this.2.2 x hh x (by simp) rfl
        obtain ⟨y1, y2, y3⟩ := g9 x hxt
        have acc := Acc.step hi0 hi hd hA x hxL
        have per := hi.per x
        obtain ⟨ct', et', st1, st2⟩ := setE (m := σ.next + 1) t2 t3 t4 x true
        obtain ⟨ch', eh', sh1, sh2⟩ := setE (m := B.h) h2 h3 h4 x (tk D.T x)
        have lv1 := fun ρ => lookI (m := B.v) (ck := cv) v2 x ρ
        have lh1 := fun ρ => lookI (m := B.h) (ck := ch) h2 x ρ
        have lg1 := fun ρ => lookI (m := B.g) (ck := cG) G2 x ρ
        have hy2 : tk H' x = tk H x := by simp only [tk, y2]
        rw [y1] at lv1
        rw [hy2] at lh1
        simp only [iV, bB] at st1 sh1
        have d1 : ¬ σ.next + 1 = σ'.next := by omega
        have d2 : ¬ B.v = σ'.next := by have := g1.next; omega
        have d3 : ¬ B.h = σ'.next := by have := g1.next; omega
        have d4 : ¬ B.g = σ'.next := by have := g1.next; omega
        have d5 : ¬ B.v = σ.next + 1 := by omega
        have d6 : ¬ B.h = σ.next + 1 := by omega
        have d7 : ¬ B.g = σ.next + 1 := by omega
        have d8 : ¬ B.gb = σ'.next := by have := g1.next; omega
        have d9 : ¬ B.vb = σ'.next := by have := g1.next; omega
        have d10 : ¬ B.hb = σ'.next := by have := g1.next; omega
        have d11 : ¬ B.gb = σ.next + 1 := by omega
        have d12 : ¬ B.vb = σ.next + 1 := by omega
        have d13 : ¬ B.hb = σ.next + 1 := by omega
        have d14 : ¬ σ.next = σ'.next := by omega
        have d15 : ¬ σ.next = σ.next + 1 := by omega
        have d16 : ¬ σ'.next = σ.next + 1 := by omega
        have d17 : ¬ σ.next = B.v := by omega
        have d18 : ¬ σ.next = B.h := by omega
        have d19 : ¬ σ'.next = B.v := by have := g1.next; omega
        have d20 : ¬ σ'.next = B.h := by have := g1.next; omega
        have d21 : ¬ σ'.next = σ.next := by omega
        have els : ∀ (A C E F : Blk), Els B σ ⟨((((σ'.mem.set σ'.next A).set σ'.next C).set (σ.next + 1) E).set B.h F), σ'.next + 1⟩ := fun A C E F => ⟨by have := g1.next; simp; omega, fun z hz a1 a2 a3 => by have := g1.next; simp [show ¬ z = σ'.next by omega, show ¬ z = σ.next + 1 by omega, a3]; exact g1.keep z hz a1 a2 a3⟩
        have d22 : ¬ σ.next + 1 = B.v := by omega
        have d23 : ¬ σ.next + 1 = B.h := by omega
        have els2 : ∀ (A C E F G : Blk), Els B σ ⟨(((((σ'.mem.set σ'.next A).set σ'.next C).set (σ.next + 1) E).set B.v F).set B.h G), σ'.next + 1⟩ := fun A C E F G => ⟨by have := g1.next; simp; omega, fun z hz a1 a2 a3 => by have := g1.next; simp [show ¬ z = σ'.next by omega, show ¬ z = σ.next + 1 by omega, a2, a3]; exact g1.keep z hz a1 a2 a3⟩
        have all8 : ∀ V2 : List (Nat × Int), (∀ y, y ≠ x → tk V2 y = tk V' y) → md (tk V2 x - tk (got G c e) x) = tk D.T x → ∀ y ∈ D.L.take (i + 1), md (tk V2 y - tk (got G c e) y) = tk D.T y ∧ lkN (setN H' x (tk D.T x)) y = some (tk D.T y) ∧ lkN (setN Th x true) y = some true := fun V2 a1 a2 y hy => by
          by_cases hyx : y = x
          · subst hyx
            exact ⟨a2, by rw [lk_set, if_pos rfl], by rw [lk_set, if_pos rfl]⟩
          · rw [htk] at hy
            have hy' : y ∈ D.L.take i := by
              rcases List.mem_append.1 hy with hy | hy
              · exact hy
              · exact absurd (List.mem_singleton.1 hy) hyx
            rw [a1 y hyx, lk_set, if_neg hyx, lk_set, if_neg hyx]
            exact g8 y hy'
        have all9 : ∀ V2 : List (Nat × Int), (∀ y, y ≠ x → tk V2 y = tk V' y) → ∀ y, y ∉ D.L.take (i + 1) → tk V2 y = tk V y ∧ lkN (setN H' x (tk D.T x)) y = lkN H y ∧ lkN (setN Th x true) y = none := fun V2 a1 y hy => by
          rw [htk] at hy
          have hyx : y ≠ x := fun e => hy (by rw [e]; simp)
          have hy' : y ∉ D.L.take i := fun e => hy (List.mem_append_left _ e)
          rw [a1 y hyx, lk_set, if_neg hyx, lk_set, if_neg hyx]
          exact g9 y hy'
        by_cases hf : flw a
        · obtain ⟨cv', ev', sv1, sv2⟩ := setE (m := B.v) v2 v3 v4 x (md (tk V x + md (tk D.T x - tk H x)))
          have lv2 := fun ρ => lookI (m := B.v) (ck := cv') sv2.1 x ρ
          rw [tk_set, if_pos rfl] at lv2
          simp only [iV, md] at sv1
          have acc1 := acc.1 hf
          have hneg : ¬ tk D.T x < 0 := by omega
          have k23 : k8 = 2 ∨ k8 = 3 := by rw [hk9]; exact hf
          rcases k23 with rfl | rfl
          · simp [lk_cons, hlt, ↓q1, storeL, hk8, d1, d2, d3, d4, d5, d6, d7, d8, d9, d10, d11, d12, d13, d14, d15, d16, d17, d18, d19, d20, d21, hB.gv, hB.gh, hB.vh, Ne.symm hB.gv, Ne.symm hB.gh, Ne.symm hB.vh, hB.bg, hB.bv, hB.bh, pg, pv, ph, t1, G1, v1, h1, g3, ↓st1, ↓sh1, ↓sv1, ↓lv1, ↓lh1, ↓lg1, ↓lv2, acc1, hneg, w1]
            refine ⟨D.L.length - (i + 1), by omega, i + 1, setN V' x (md (tk V x + md (tk D.T x - tk H x))), setN H' x (tk D.T x), setN Th x true, rfl, by omega, els2 _ _ _ _ _, by have := g1.next; simp; omega, by simp [d14, d15, d17, d18, g3], ⟨?_, ?_, ?_, ?_, ?_, ?_⟩, ⟨ct', et', by simp [d22, d23], st2⟩, set_nodup g6 _ _, set_nodup g7 _ _, all8 _ (fun y hy => by rw [tk_set, if_neg hy]) (by rw [tk_set, if_pos rfl]; exact acc1), all9 _ (fun y hy => by rw [tk_set, if_neg hy]), rfl⟩
            · simp [d8, d11, hB.bg, pg]
            · simp [d9, d12, hB.bv, pv]
            · simp [d10, d13, hB.bh, ph]
            · exact ⟨cG, eG, by simp [d4, d7, hB.gv, hB.gh, G1], G2, G3, G4⟩
            · exact ⟨cv', ev', by simp [hB.vh], sv2⟩
            · exact ⟨ch', eh', by simp, sh2⟩
          · simp [lk_cons, hlt, ↓q1, storeL, hk8, d1, d2, d3, d4, d5, d6, d7, d8, d9, d10, d11, d12, d13, d14, d15, d16, d17, d18, d19, d20, d21, hB.gv, hB.gh, hB.vh, Ne.symm hB.gv, Ne.symm hB.gh, Ne.symm hB.vh, hB.bg, hB.bv, hB.bh, pg, pv, ph, t1, G1, v1, h1, g3, ↓st1, ↓sh1, ↓sv1, ↓lv1, ↓lh1, ↓lg1, ↓lv2, acc1, hneg, w1]
            refine ⟨D.L.length - (i + 1), by omega, i + 1, setN V' x (md (tk V x + md (tk D.T x - tk H x))), setN H' x (tk D.T x), setN Th x true, rfl, by omega, els2 _ _ _ _ _, by have := g1.next; simp; omega, by simp [d14, d15, d17, d18, g3], ⟨?_, ?_, ?_, ?_, ?_, ?_⟩, ⟨ct', et', by simp [d22, d23], st2⟩, set_nodup g6 _ _, set_nodup g7 _ _, all8 _ (fun y hy => by rw [tk_set, if_neg hy]) (by rw [tk_set, if_pos rfl]; exact acc1), all9 _ (fun y hy => by rw [tk_set, if_neg hy]), rfl⟩
            · simp [d8, d11, hB.bg, pg]
            · simp [d9, d12, hB.bv, pv]
            · simp [d10, d13, hB.bh, ph]
            · exact ⟨cG, eG, by simp [d4, d7, hB.gv, hB.gh, G1], G2, G3, G4⟩
            · exact ⟨cv', ev', by simp [hB.vh], sv2⟩
            · exact ⟨ch', eh', by simp, sh2⟩
        · have acc2 := acc.2 hf
          have hneg : ¬ tk D.T x < 0 := by omega
          have k2 : ¬ k8 = 2 := fun h => hf (.inl (by omega))
          have k3 : ¬ k8 = 3 := fun h => hf (.inr (by omega))
          have k2' : ¬ (k8 : Int) = 2 := by omega
          have k3' : ¬ (k8 : Int) = 3 := by omega
          simp [lk_cons, hlt, ↓q1, storeL, hk8, k2, k3, k2', k3', d1, d2, d3, d4, d5, d6, d7, d8, d9, d10, d11, d12, d13, d14, d15, d16, d17, d18, d19, d20, d21, hB.gv, hB.gh, hB.vh, Ne.symm hB.gv, Ne.symm hB.gh, Ne.symm hB.vh, hB.bg, hB.bv, hB.bh, pg, pv, ph, t1, G1, v1, h1, g3, ↓st1, ↓sh1, ↓lv1, ↓lh1, ↓lg1, acc2, hneg, w1]
          refine ⟨D.L.length - (i + 1), by omega, i + 1, V', setN H' x (tk D.T x), setN Th x true, rfl, by omega, els _ _ _ _, by have := g1.next; simp; omega, by simp [d14, d15, d17, d18, g3], ⟨?_, ?_, ?_, ?_, ?_, ?_⟩, ⟨ct', et', by simp [d22, d23], st2⟩, g6, set_nodup g7 _ _, all8 _ (fun y hy => rfl) (by rw [y1]; exact acc2), all9 _ (fun y hy => rfl), rfl⟩
          · simp [d8, d11, hB.bg, pg]
          · simp [d9, d12, hB.bv, pv]
          · simp [d10, d13, hB.bh, ph]
          · exact ⟨cG, eG, by simp [d4, d7, hB.gv, hB.gh, G1], G2, G3, G4⟩
          · exact ⟨cv, ev, by simp [d2, d5, hB.vh, v1], v2, v3, v4⟩
          · exact ⟨ch', eh', by simp, sh2⟩
      · obtain rfl : i = D.L.length := by omega
        rw [List.take_length] at g8 g9
        simp [lk_cons, ph, h1]
        have itn : ¬ B.h = σ'.next := by have := g1.next; omega
        have els3 : ∀ A : Blk, Els B σ ⟨σ'.mem.set σ'.next A, σ'.next + 1⟩ := fun A => ⟨by have := g1.next; simp; omega, fun z hz a1 a2 a3 => by have := g1.next; simp [show ¬ z = σ'.next by omega]; exact g1.keep z hz a1 a2 a3⟩
        have gn' := got_nodup hA.gn c e
        have p4 := (hd.perm hi0).2.2.2
        refine wp_loop (PeK B w D Th σ σ'.next ch) (leftE [] eh) ?_ ?_
        · refine ⟨[], got G c e, V', H', eh, rfl, by simp, by simp [itn, h1], h2, h3, h4, by simp [show ¬ B.gb = σ'.next by have := g1.next; omega, pg], by simp [show ¬ B.vb = σ'.next by have := g1.next; omega, pv], by simp [show ¬ B.hb = σ'.next by have := g1.next; omega, ph], ⟨cG, eG, by simp [show ¬ B.g = σ'.next by have := g1.next; omega, G1], G2, G3, G4⟩, ⟨cv, ev, by simp [show ¬ B.v = σ'.next by have := g1.next; omega, v1], v2, v3, v4⟩, ⟨ct, et, by simp [show ¬ σ.next + 1 = σ'.next by omega, t1], t2, t3, t4⟩, gn', g6, g7, fun x hx => ⟨(g8 x hx).2.1, (g8 x hx).1⟩, fun x hx hn => ?_, fun e _ he => (by cases he), els3 _, by omega, by simp, rfl⟩
          obtain ⟨u1, u2, _⟩ := g9 x hx
          rw [u2] at hn
          have hx0 : x ∉ D0.L := fun hh => hA.inn x hh hn
          obtain ⟨_, o2, o3⟩ := hA.out x hx0
          exact ⟨by rw [u1]; exact o2, (got_out fun he0 e => hx (by rw [e]; exact p4 he0)).trans o3⟩
        · rintro mm rg σ2 ⟨S, G2', V2', H2', ents, rfl, c1, c2, c3, c4, c5, c6, c7, c8, ⟨kg, xg, gA, gB, gC, gD⟩, ⟨kv, xv, vA, vB, vC, vD⟩, ⟨kt, xt, tA, tB, tC, tD⟩, c12, c13, c14, c15, c16, c17, c18, c19, c20, rfl⟩
          obtain ⟨L, m1, m2⟩ := next_all c1 c2 c4
          simp [lk_cons, ↓m1]
          intro r1 r2 hr
          rcases m2 _ hr with ⟨hre, hall⟩ | ⟨en, hen, hns, hre⟩
          · cases hre
            have hout : ∀ x, x ∉ D.L → lkN H2' x = none := fun x hx => by
              cases hl : lkN H2' x with
              | none => rfl
              | some y =>
                obtain ⟨j, hj⟩ := List.getElem?_of_mem (lk_mem hl)
                obtain ⟨en, he1, he2, _⟩ := All2.get' c3 hj
                have hme := List.mem_of_getElem? he1
                obtain ⟨k, k1, k2⟩ := c17 en hme (hall en hme)
                rw [k1] at he2
                simp only [AVal.int.injEq, true_and] at he2
                exact absurd (by rwa [show x = k by omega]) hx
            have accF : Acc D G2' V2' H2' := ⟨c12, c13, c14, fun x => by
              by_cases hx : x ∈ D.L
              · simp [tk, (c15 x hx).1]
              · rw [tk_out hi hx]; simp [tk, hout x hx], fun x => by
              by_cases hx : x ∈ D.L
              · exact (c15 x hx).2
              · rw [tk_out hi hx, (c16 x hx (hout x hx)).1, (c16 x hx (hout x hx)).2]; rfl, fun x hx => ⟨hout x hx, c16 x hx (hout x hx)⟩, fun x hx => by rw [(c15 x hx).1]; simp⟩
            simp [lk_cons]
            refine all_c (D := D) (c18.dr hat h) (by omega) _ fun vo ys y1 y2 y3 => ?_
            have l3 := y3.len
            have yl : ys.length = D.O.length := y1.length_eq
            have yko : (ys.map okey).Nodup := ((y1.map okey).nodup_iff).2 hi.ko
            simp [lk_cons, ↓l3]
            refine wp_loop (fun mm rg σ3 => ∃ i : Nat, mm = ys.length - i ∧ i ≤ ys.length ∧ σ3 = σ2 ∧ rg = [(16, vo), (99, i64 ys.length), (100, i64 i)]) ys.length ?_ ?_
            · exact ⟨0, rfl, Nat.zero_le _, rfl, rfl⟩
            · rintro mm rg σ3 ⟨i, rfl, hi3, rfl, rfl⟩
              by_cases hlt3 : i < ys.length
              · obtain ⟨y, hy⟩ : ∃ y, ys[i]? = some y := ⟨_, List.getElem?_eq_getElem hlt3⟩
                have w1 : IntKind.i64.wrap ((i : Int) + 1) = ((i + 1 : Nat) : Int) := by rw [IntWalk.i64_in] <;> omega
                match i, hi3, hlt3, hy, w1 with
                | 0, hi3, hlt3, hy, w1 =>
                  simp [lk_cons, hlt3, w1]
                  exact ⟨ys.length - 1, by omega, 1, rfl, by omega, rfl⟩
                | j + 1, hi3, hlt3, hy, w1 =>
                  obtain ⟨x, hx⟩ : ∃ x, ys[j]? = some x := ⟨_, List.getElem?_eq_getElem (by omega)⟩
                  have qx := y3.at hx
                  have qy := y3.at hy
                  have hlt4 : (0 : Int) < (j : Int) + 1 := by omega
                  have w2 : IntKind.i64.wrap (j : Int) = (j : Int) := by rw [IntWalk.i64_in]; omega
                  have hr := rise yko y2 hx hy
                  have hlt5 : (j : Int) + 1 < ys.length := by omega
                  simp at qy w1
                  simp [lk_cons, hlt3, hlt5, w1, w2, ↓qx, ↓qy, hlt4]
                  refine order_c _ _ _ _ _ _ ?_
                  have hr' : ¬ 0 ≤ ordM (x.l : Int) (x.e : Int) (y.l : Int) (y.e : Int) := by show ¬ 0 ≤ ordO x y; omega
                  simp [lk_cons, hr', w1]
                  exact ⟨ys.length - (j + 1 + 1), by omega, j + 1 + 1, rfl, by omega, rfl⟩
              · obtain rfl : i = ys.length := by omega
                simp [lk_cons]
                exact hQ _ _ _ _ c18 accF ⟨c6, c7, c8, ⟨kg, xg, gA, gB, gC, gD⟩, ⟨kv, xv, vA, vB, vC, vD⟩, ⟨ch, ents, c2, c3, c4, c5⟩⟩
          · cases hre
            obtain ⟨j, hj⟩ := List.getElem?_of_mem hen
            obtain ⟨p, hp1, hp2, hp3⟩ := c3.get hj
            obtain ⟨k, y⟩ := p
            simp only [iV] at hp2 hp3
            have b1 : ¬ B.h = σ'.next := itn
            have el := entry_last (σ := ⟨σ2.mem.set σ'.next (.iter (some B.h) ch (S ++ [en.1]) ch), σ2.next⟩) (it := σ'.next) (mp := B.h) (clock := ch) (S := S) (by simp) (by simp [itn, c2]) c5 hen
            rw [hp2, hp3] at el
            have lt1 := fun ρ => lookB (m := σ.next + 1) (ck := kt) tB k ρ
            obtain ⟨es1, e11, e12, e13⟩ := delE (m := B.h) c3 c4 c5 k
            obtain ⟨es2, e21, e22, e23⟩ := delE (m := B.v) vB vC vD k
            obtain ⟨es3, e31, e32, e33⟩ := delE (m := B.g) gB gC gD k
            have x1 : ¬ σ.next + 1 = σ'.next := by omega
            have x2 : ¬ B.v = σ'.next := by have := g1.next; omega
            have x3 : ¬ B.g = σ'.next := by have := g1.next; omega
            have x4 : ¬ B.gb = σ'.next := by have := g1.next; omega
            have x5 : ¬ B.vb = σ'.next := by have := g1.next; omega
            have x6 : ¬ B.hb = σ'.next := by have := g1.next; omega
            by_cases hkL : k ∈ D.L
            · have hth := (g8 k hkL).2.2
              rw [hth] at lt1
              simp [lk_cons, ↓el, ↓lt1, x1, tA]
              refine ⟨leftE (S ++ [en.1]) ents, leftE_lt hen hns, S ++ [en.1], G2', V2', H2', ents, rfl, by simp, by simp [itn, c2], c3, c4, c5, by simp [x4, c6], by simp [x5, c7], by simp [x6, c8], ⟨kg, xg, by simp [x3, gA], gB, gC, gD⟩, ⟨kv, xv, by simp [x2, vA], vB, vC, vD⟩, ⟨kt, xt, by simp [x1, tA], tB, tC, tD⟩, c12, c13, c14, c15, c16, fun e2 he2 hs => ?_, ⟨c18.next, fun z hz a1 a2 a3 => by have := g1.next; simp [show ¬ z = σ'.next by omega]; exact c18.keep z hz a1 a2 a3⟩, c19, c20, rfl⟩
              rcases List.mem_append.1 hs with hs | hs
              · exact c17 e2 he2 hs
              · rw [stamp_inj c5 he2 hen (List.mem_singleton.1 hs)]
                exact ⟨k, hp2, hkL⟩
            · have hth := (g9 k hkL).2.2
              rw [hth] at lt1
              simp [lk_cons, ↓el, ↓lt1, x1, tA, ↓e11, ↓e21, ↓e31, x1, x2, x3, x4, x5, x6, itn, c2, c6, c7, c8, vA, gA, hB.gv, hB.gh, hB.vh, Ne.symm hB.gv, Ne.symm hB.gh, Ne.symm hB.vh, hB.bg, hB.bv, hB.bh]
              have hle : leftE (S ++ [en.1]) es1 ≤ leftE (S ++ [en.1]) ents := e13.countP_le
              refine ⟨leftE (S ++ [en.1]) es1, Nat.lt_of_le_of_lt hle (leftE_lt hen hns), S ++ [en.1], delN G2' k, delN V2' k, delN H2' k, es1, rfl, by simp [Ne.symm itn, Ne.symm x2, Ne.symm x3], by simp [Ne.symm hB.gh, Ne.symm hB.vh, hB.gh, hB.vh], e12, fun e he => c4 e (e13.mem he), c5.sublist (e13.map _), by simp [x4, hB.bg, c6], by simp [x5, hB.bv, c7], by simp [x6, hB.bh, c8],
                ⟨kg, es3, by simp, e32, fun e he => gC e (e33.mem he), gD.sublist (e33.map _)⟩, ⟨kv, es2, by simp [Ne.symm hB.gv], e22, fun e he => vC e (e23.mem he), vD.sublist (e23.map _)⟩, ⟨kt, xt, by simp [x1, show ¬ σ.next + 1 = B.g by omega, show ¬ σ.next + 1 = B.v by omega, show ¬ σ.next + 1 = B.h by omega, tA], tB, tC, tD⟩, del_nodup c12 _, del_nodup c13 _, del_nodup c14 _, fun x hx => ?_, fun x hx hn => ?_, fun e2 he2 hs => ?_, ⟨c18.next, fun z hz a1 a2 a3 => by have := g1.next; simp [show ¬ z = σ'.next by omega, a1, a2, a3]; exact c18.keep z hz a1 a2 a3⟩, c19, c20, rfl⟩
              · have hxk : x ≠ k := fun e => hkL (e ▸ hx)
                rw [lk_del _ _ _ c14, if_neg hxk, tk_del _ c13, if_neg hxk, tk_del _ c12, if_neg hxk]
                exact c15 x hx
              · by_cases hxk : x = k
                · rw [tk_del _ c13, if_pos hxk, tk_del _ c12, if_pos hxk]; exact ⟨rfl, rfl⟩
                · rw [lk_del _ _ _ c14, if_neg hxk] at hn
                  rw [tk_del _ c13, if_neg hxk, tk_del _ c12, if_neg hxk]
                  exact c16 x hx hn
              · rcases List.mem_append.1 hs with hs | hs
                · exact c17 e2 (e13.mem he2) hs
                · exfalso
                  have hee := stamp_inj c5 (e13.mem he2) hen (List.mem_singleton.1 hs)
                  obtain ⟨j2, hj2⟩ := List.getElem?_of_mem he2
                  obtain ⟨p2, hq1, hq2, _⟩ := e12.get hj2
                  rw [hee, hp2] at hq2
                  simp only [AVal.int.injEq, true_and] at hq2
                  exact del_notin c14 p2 (List.mem_of_getElem? hq1) (by omega)
end Go.Proofs.Ytiikaajopgjliaa.AM

/- DispatchPermits. -/
namespace Go.Proofs.Ytiikaajopgjliaa.AM
set_option maxRecDepth 100000
set_option linter.unusedVariables false
set_option linter.unusedSimpArgs false

def bx0 : Bx := ⟨σ0.next + 1, σ0.next + 1 + 1 + 1, σ0.next, σ0.next + 1 + 1, σ0.next + 1 + 1 + 1 + 1, σ0.next + 1 + 1 + 1 + 1 + 1⟩
theorem bx0_ok : bx0.ok := ⟨by simp [bx0], by simp [bx0], by simp [bx0], by simp [bx0], by simp [bx0], by simp [bx0]⟩
theorem PM.stp {B : Bx} {G V H : List (Nat × Int)} {w w' : Own} {σ σ' : St} (h : PM B G V H σ) (hs : Stp w w' σ σ') (ha : B.at w σ) : PM B G V H σ' ∧ B.at w' σ' := by
  obtain ⟨⟨l1, l2, l3, l4, l5, l6⟩, ⟨m1, m2, m3, m4, m5, m6⟩⟩ := ha
  have hn := hs.next
  exact ⟨⟨(hs.keep _ l2 m2).trans h.gb, (hs.keep _ l4 m4).trans h.vb, (hs.keep _ l6 m6).trans h.hb, h.g.frame (hs.keep _ l1 m1), h.v.frame (hs.keep _ l3 m3), h.h.frame (hs.keep _ l5 m5)⟩,
    ⟨⟨by omega, by omega, by omega, by omega, by omega, by omega⟩, ⟨hs.has l1 m1, hs.has l2 m2, hs.has l3 m3, hs.has l4 m4, hs.has l5 m5, hs.has l6 m6⟩⟩⟩
theorem permits_c (kind : Nat) (hk : kind < 256) {v : AVal} {l : List Act} (hv : AI v l) (hok : ∀ a ∈ l, a.ok) (hlen : l.length ≤ 9223372036854775807) : ACall Try.prog 7 [.int .u8 (kind : Int), v] σ0 fun v _ => v = .bool true := by
  refine ACall.of_compF hmx (fun a w => Try.call7 a w) Try.func7 cf7 (n := 2) (by decide) rfl ?_
  simp [ac7, rs7, lk_cons]
  refine awake _ _ ?_
  obtain ⟨m, hm, hm4⟩ : ∃ m : Nat, (kind : Int).tmod 4 = (m : Int) ∧ m < 4 := ⟨kind % 4, rfl, by omega⟩
  have w1 : IntKind.u8.wrap (1 + (m : Int)) = ((1 + m : Nat) : Int) := by simp (disch := omega) only [IntWalk.u8_in]; omega
  simp [lk_cons, storeL, hm, w1]
  refine ACall.atS _ (fun S => S.next = σ0.next + 1 + 1 + 1 + 1 + 1 + 1 ∧ PM bx0 [] [] [] S) ⟨by simp, ⟨?_, ?_, ?_, ⟨0, [], ?_, trivial, by simp, by simp⟩, ⟨0, [], ?_, trivial, by simp, by simp⟩, ⟨0, [], ?_, trivial, by simp, by simp⟩⟩⟩ fun S hS => ?_
  · simp [bx0]
  · simp [bx0]
  · simp [bx0]
  · simp [bx0]
  · simp [bx0]
  · simp [bx0]
  obtain ⟨s1, s2⟩ := hS
  have key : ∀ Q, (∀ σ', Q (.bool true) σ') → ACall Try.prog 21 [.int .u8 ((1 + m : Nat) : Int), v, .fn 24 [] [.ptr bx0.gb 0, .ptr bx0.vb 0, .ptr bx0.hb 0]] S Q := fun Q hQ => by
    refine play_c (1 + m) (by omega) 24 _ hv hok hlen _ (fun w D σ => ∃ G V H, Acc D G V H ∧ PM bx0 G V H σ ∧ bx0.at w σ) (fun w σ' d1 d2 d3 => ⟨[], [], [], ⟨by simp, by simp, by simp, fun x => rfl, fun x => rfl, fun x _ => ⟨rfl, rfl, rfl⟩, fun x hx => by cases hx⟩, ?_, ?_⟩) ?_ Q hQ
    · have lt : ∀ a, a < S.next → σ'.mem.get a = S.mem.get a := d2.2
      exact ⟨(lt _ (by rw [s1]; simp [bx0])).trans s2.gb, (lt _ (by rw [s1]; simp [bx0])).trans s2.vb, (lt _ (by rw [s1]; simp [bx0])).trans s2.hb, s2.g.frame (lt _ (by rw [s1]; simp [bx0])), s2.v.frame (lt _ (by rw [s1]; simp [bx0])), s2.h.frame (lt _ (by rw [s1]; simp [bx0]))⟩
    · have hn := d2.1
      rw [s1] at hn
      refine ⟨by simp only [bx0]; omega, ⟨fun hh => ?_, fun hh => ?_, fun hh => ?_, fun hh => ?_, fun hh => ?_, fun hh => ?_⟩⟩ <;> (have := d3 _ hh; rw [s1] at this; simp only [bx0] at this; omega)
    · intro t0 t1 w0 w D0 D a c e Q ⟨G, V, H, hA, hP, ha⟩ dr0 i0 aok hd dr1 i1 st hq
      obtain ⟨p1, p2⟩ := hP.stp st ha
      refine look24_c bx0_ok dr1 i0 i1 hd hA p1 p2 Q fun σ' G' V' H' e1 e2 e3 => hq w D σ' ⟨G', V', H', e2, e3, ?_⟩ (e1.dr p2 dr1) i1 rfl
      have hn := e1.next
      obtain ⟨⟨l1, l2, l3, l4, l5, l6⟩, hno⟩ := p2
      exact ⟨⟨by omega, by omega, by omega, by omega, by omega, by omega⟩, hno⟩
  refine key _ fun σ' => ?_
  simp [lk_cons]
end Go.Proofs.Ytiikaajopgjliaa.AM
