/- What the functions of this chapter give: their contracts over the machine. -/
import Derived.Test.YtiikaajopgjliaaCt18
/- DispatchKeys' look. -/
namespace Go.Proofs.Ytiikaajopgjliaa.AM
set_option maxRecDepth 100000
set_option linter.unusedVariables false
set_option linter.unusedSimpArgs false

def bV (b : Bool) : AVal := .bool b
def ES (e : MEnt) (p : ByteArray × Nat) : Prop := e.2.1 = .str p.1 ∧ e.2.2 = u64 (p.2 : Int)
theorem ba_beq (a b : ByteArray) : (a == b) = decide (a = b) := by
  have h : (a == b) = (a.data == b.data) := by
    cases a; cases b; rfl
  rw [h]
  by_cases hab : a = b
  · subst hab; simp
  · have : ¬ a.data = b.data := fun e => hab (ByteArray.ext e)
    simp [hab, this]
theorem keq_str (a b : ByteArray) : keyEqA (.str a) (.str b) = some (decide (a = b)) := by
  simp only [keyEqA, keyEq, ba_beq]
theorem findS (key : ByteArray) : ∀ {ents : List MEnt} {W : List (ByteArray × Nat)}, All2 ES ents W → findA (.str key) ents = some none ∨
    ∃ (i c : Nat), findA (.str key) ents = some (some (i, u64 (c : Int))) ∧ (key, c) ∈ W ∧ ∀ y : Nat, ∃ W', All2 ES (ents.modify i fun e => (e.1, .str key, u64 (y : Int))) W' ∧ ∀ p ∈ W', p ∈ W ∨ p = (key, y)
  | [], [], _ => .inl rfl
  | (st, y, d) :: ents, (k, c) :: W, h => by
    obtain ⟨⟨hy, hd⟩, ht⟩ := h
    simp only at hy hd
    subst hy hd
    by_cases hk : key = k
    · subst hk
      refine .inr ⟨0, c, by simp [findA, keq_str], List.mem_cons_self, fun y => ⟨(key, y) :: W, ?_, fun p hp => ?_⟩⟩
      · simp only [List.modify_zero_cons]
        exact ⟨⟨rfl, rfl⟩, ht⟩
      · rcases List.mem_cons.1 hp with rfl | hp
        · exact .inr rfl
        · exact .inl (List.mem_cons_of_mem _ hp)
    · have hf : keyEqA (.str key) (.str k) = some false := by rw [keq_str, decide_eq_false hk]
      rcases findS key ht with h1 | ⟨i, c1, h1, h2, h3⟩
      · exact .inl (by simp only [findA]; rw [hf]; simp only; rw [h1]; rfl)
      · refine .inr ⟨i + 1, c1, by simp only [findA]; rw [hf]; simp only; rw [h1]; rfl, List.mem_cons_of_mem _ h2, fun y => ?_⟩
        obtain ⟨W', w1, w2⟩ := h3 y
        refine ⟨(k, c) :: W', by simp only [List.modify_succ_cons]; exact ⟨⟨rfl, rfl⟩, w1⟩, fun p hp => ?_⟩
        rcases List.mem_cons.1 hp with rfl | hp
        · exact .inl List.mem_cons_self
        · rcases w2 p hp with h | h
          · exact .inl (List.mem_cons_of_mem _ h)
          · exact .inr h
  | [], _ :: _, h => h.elim
  | _ :: _, [], h => h.elim

def KeJ1 (v : AVal) (w : Own) (D : Dk) (σ0 : St) (mm : Nat) (rg : Regs) (σ' : St) : Prop := ∃ (i : Nat) (T : List (Nat × Bool)), mm = D.L.length - i ∧ i ≤ D.L.length ∧ Grow σ0 σ' ∧ σ'.mem.get (σ0.next + 1) = some (.map 0 []) ∧ MapN bV σ' (σ0.next + 1 + 1) T ∧ (∀ c ∈ D.L.take i, lkN T c = some true) ∧ σ0.next + 1 + 1 + 1 ≤ σ'.next ∧ rg = [(0, .ptr w.d 0), (9, .map (σ0.next + 1)), (10, .map (σ0.next + 1 + 1)), (20, v), (21, i64 D.L.length), (22, i64 i)]
def KeJ2 (vo : AVal) (ys : List OutR) (D : Dk) (T : List (Nat × Bool)) (σ0 : St) (mm : Nat) (rg : Regs) (σ' : St) : Prop := ∃ (i : Nat) (W : List (ByteArray × Nat)) (clock : Nat) (ents : List MEnt), mm = ys.length - i ∧ i ≤ ys.length ∧ Grow σ0 σ' ∧ σ'.mem.get (σ0.next + 1) = some (.map clock ents) ∧ All2 ES ents W ∧ (∀ p ∈ W, ∃ x ∈ D.O, x.k = p.1 ∧ x.c = p.2) ∧ MapN bV σ' (σ0.next + 1 + 1) T ∧ σ0.next + 1 + 1 + 1 ≤ σ'.next ∧ rg = [(9, .map (σ0.next + 1)), (10, .map (σ0.next + 1 + 1)), (31, vo), (32, i64 ys.length), (33, i64 i)]
set_option maxHeartbeats 1000000 in
theorem look23_c {σ : St} {w : Own} {D : Dk} {a : Act} {c : Nat} {e : Int} (h : DR σ w D) (hi : Inv 4 D)
    (Q : AVal → St → Prop) (hQ : ∀ σ', Grow σ σ' → Q (.bool true) σ') : ACall Try.prog 23 [.ptr w.d 0, .agg (arow a), u64 (c : Int), i64 e] σ Q := by
  refine ACall.of_compF hmx (fun a w => Try.call23 a w) Try.func23 cf23 (n := 4) (by decide) rfl ?_
  have hll := hi.len
  have hol := hi.olen
  have g1 : ∀ A B C : Blk, Grow σ ⟨((σ.mem.set σ.next A).set (σ.next + 1) B).set (σ.next + 1 + 1) C, σ.next + 1 + 1 + 1⟩ := fun A B C => ⟨by simp; omega, fun x hx => by simp [show ¬ x = σ.next by omega, show ¬ x = σ.next + 1 by omega, show ¬ x = σ.next + 1 + 1 by omega]⟩
  have n1 : ¬ σ.next + 1 = σ.next + 1 + 1 := by omega
  simp [ac23, rs23, lk_cons]
  refine consumers_c (D := D) (h.frame (g1 _ _ _)) (by omega) _ fun v hv => ?_
  have l1 : ∀ ρ : St, evalV ρ (.len 1 v) = some (i64 D.L.length, ρ) := fun ρ => by rw [hv.len]; simp
  simp [lk_cons, ↓l1]
  refine wp_loop (KeJ1 v w D σ) D.L.length ?_ ?_
  · exact ⟨0, [], rfl, Nat.zero_le _, g1 _ _ _, by simp [n1], ⟨0, [], by simp, trivial, by simp, by simp⟩, by simp, by simp, rfl⟩
  · rintro mm rg σ' ⟨i, T, rfl, hi', hg, m1, hT, hTL, hn, rfl⟩
    by_cases hlt : i < D.L.length
    · obtain ⟨x, hx⟩ : ∃ x, D.L[i]? = some x := ⟨_, List.getElem?_eq_getElem hlt⟩
      have q1 := hv.at (i := i) (x := (x, tk D.T x)) (by simp [hx])
      have w1 : IntKind.i64.wrap ((i : Int) + 1) = ((i + 1 : Nat) : Int) := by rw [IntWalk.i64_in] <;> omega
      obtain ⟨ck, es, t1, t2, t3, t4⟩ := hT
      have z1 : ¬ σ.next + 1 + 1 = σ'.next := by omega
      have z2 : ¬ σ.next + 1 = σ'.next := by omega
      have step : ∀ (b : Blk) (S : St), S = ⟨((σ'.mem.set σ'.next (.cells 2 [.int .u64 0, .int .i64 0])).set σ'.next (.cells 2 [u64 (x : Int), i64 (tk D.T x)])).set (σ.next + 1 + 1) b, σ'.next + 1⟩ → MapN bV S (σ.next + 1 + 1) (setN T x true) → ∃ m', m' < D.L.length - i ∧ KeJ1 v w D σ m' [(0, .ptr w.d 0), (9, .map (σ.next + 1)), (10, .map (σ.next + 1 + 1)), (20, v), (21, i64 D.L.length), (22, i64 ((i + 1 : Nat) : Int))] S := by
        rintro b S rfl hS
        refine ⟨D.L.length - (i + 1), by omega, i + 1, _, rfl, by omega, ⟨by have := hg.1; simp; omega, fun z hz => ?_⟩, ?_, hS, fun y hy => ?_, by simp; omega, rfl⟩
        · have := hg.1
          simp [show ¬ z = σ.next + 1 + 1 by omega, show ¬ z = σ'.next by omega]
          exact hg.2 z hz
        · simp [n1, z2]
          exact m1
        · rw [lk_set]
          by_cases hyx : y = x
          · rw [if_pos hyx]
          · rw [if_neg hyx]
            rw [List.take_add_one, hx] at hy
            rcases List.mem_append.1 hy with hy | hy
            · exact hTL y hy
            · exact absurd (by simpa using hy) hyx
      rcases MapN.put t2 t3 t4 x true with ⟨f1, f2, f3⟩ | ⟨j, y, f1, f2, f3⟩
      · simp [lk_cons, hlt, ↓q1, storeL, z1, z2, t1, f1, keyIs, shapeOk, kShape, w1]
        exact step _ _ rfl (f3 _ _ (by simp [bV]))
      · simp [lk_cons, hlt, ↓q1, storeL, z1, z2, t1, f1, keyIs, shapeOk, kShape, w1]
        exact step _ _ rfl (f3 _ _ (by simp [bV]))
    · obtain rfl : i = D.L.length := by omega
      rw [List.take_length] at hTL
      simp [lk_cons]
      refine all_c (D := D) (h.frame hg) (by omega) _ fun vo ys y1 y2 y3 => ?_
      have l3 := y3.len
      have yl : ys.length = D.O.length := y1.length_eq
      simp [lk_cons, ↓l3]
      refine wp_loop (KeJ2 vo ys D T σ) ys.length ?_ ?_
      · exact ⟨0, [], 0, [], rfl, Nat.zero_le _, hg, m1, trivial, by simp, hT, hn, rfl⟩
      · rintro mm rg σ2 ⟨i, W, ck, es, rfl, hi', hg, m1, hW, hWO, hT, hn, rfl⟩
        by_cases hlt : i < ys.length
        · obtain ⟨x, hx⟩ : ∃ x, ys[i]? = some x := ⟨_, List.getElem?_eq_getElem hlt⟩
          have q1 := y3.at hx
          have w1 : IntKind.i64.wrap ((i : Int) + 1) = ((i + 1 : Nat) : Int) := by rw [IntWalk.i64_in] <;> omega
          have hxO : x ∈ D.O := y1.mem_iff.1 (List.mem_of_getElem? hx)
          have z1 : ¬ σ.next + 1 + 1 = σ2.next := by omega
          have z2 : ¬ σ.next + 1 = σ2.next := by omega
          obtain ⟨ct, et, t1, t2, t3, t4⟩ := hT
          have hlk := hTL x.c (hi.oin x hxO)
          rcases findN (k := x.c) t2 with ⟨_, k2⟩ | ⟨jt, bt, k1, k2, _⟩
          · rw [hlk] at k2; cases k2
          have hbt : bt = true := by rw [hlk] at k2; exact (Option.some.inj k2).symm
          subst hbt
          have gr : ∀ (A B C : Blk), Grow σ ⟨((σ2.mem.set σ2.next A).set σ2.next B).set (σ.next + 1) C, σ2.next + 1⟩ := fun A B C => ⟨by have := hg.1; simp; omega, fun z hz => by have := hg.1; simp [show ¬ z = σ.next + 1 by omega, show ¬ z = σ2.next by omega]; exact hg.2 z hz⟩
          rcases findS x.k hW with f1 | ⟨j, c1, f1, f2, f3⟩
          · simp [lk_cons, hlt, ↓q1, storeL, z1, z2, m1, t1, f1, k1, keyIs, shapeOk, kShape, w1, bV, n1]
            refine ⟨ys.length - (i + 1), by omega, i + 1, W ++ [(x.k, x.c)], ck + 1, es ++ [(ck, .str x.k, u64 (x.c : Int))], rfl, by omega, gr _ _ _, by simp, All2.snoc (R := ES) ⟨rfl, rfl⟩ hW, fun p hp => ?_, ⟨ct, et, by simp [z1, Ne.symm n1, t1], t2, t3, t4⟩, by simp; omega, rfl⟩
            rcases List.mem_append.1 hp with hp | hp
            · exact hWO p hp
            · rw [List.mem_singleton.1 hp]; exact ⟨x, hxO, rfl, rfl⟩
          · have hc1 : c1 = x.c := by
              obtain ⟨y, hy, hy1, hy2⟩ := hWO _ f2
              exact hy2.symm.trans (hi.keys rfl y hy x hxO hy1)
            subst hc1
            simp [lk_cons, hlt, ↓q1, storeL, z1, z2, m1, t1, f1, k1, keyIs, shapeOk, kShape, w1, bV, n1]
            obtain ⟨W', u1, u2⟩ := f3 x.c
            refine ⟨ys.length - (i + 1), by omega, i + 1, W', ck, es.modify j fun e => (e.1, .str x.k, u64 (x.c : Int)), rfl, by omega, gr _ _ _, by simp, u1, fun p hp => ?_, ⟨ct, et, by simp [z1, Ne.symm n1, t1], t2, t3, t4⟩, by simp; omega, rfl⟩
            rcases u2 p hp with hp | rfl
            · exact hWO p hp
            · exact ⟨x, hxO, rfl, rfl⟩
        · obtain rfl : i = ys.length := by omega
          simp [lk_cons]
          exact hQ _ hg

theorem keys_c {v : AVal} {l : List Act} (hv : AI v l) (hok : ∀ a ∈ l, a.ok) (hlen : l.length ≤ 9223372036854775807) : ACall Try.prog 6 [v] σ0 fun v _ => v = .bool true := by
  refine ACall.of_compF hmx (fun a w => Try.call6 a w) Try.func6 cf6 (n := 1) (by decide) rfl ?_
  simp [ac6, rs6, lk_cons]
  refine awake _ _ ?_
  simp [lk_cons]
  refine play_c 4 (by omega) 23 [] hv hok hlen _ (fun _ _ _ => True) (fun _ _ _ _ _ => trivial) ?_ _ fun σ' => ?_
  · intro s0 s1 w0 w D0 D a c e Q _ dr0 i0 aok hd dr1 i1 st hq
    exact look23_c dr1 i1 Q fun σ' hg => hq w D σ' trivial (dr1.frame hg) i1 rfl
  · simp [lk_cons]
end Go.Proofs.Ytiikaajopgjliaa.AM
