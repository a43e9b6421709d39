/- What the functions of this chapter give: their contracts over the machine. -/
import Derived.Test.YticefdfhcahlfaaDoorCtxx121
import Derived.Test.YticefdfhcahlfaaDoorCtx121
import Derived.Test.YticefdfhcahlfaaDoorCt121
namespace Go.Proofs.YticefdfhcahlfaaDoor.AM
set_option maxRecDepth 100000
set_option linter.unusedVariables false
set_option linter.unusedSimpArgs false
def lnCond (T : Tbl) (i : Nat) : Prop := ∀ x, T[i]? = some x → (1 ≤ x.1.size ∧ x.1.size ≤ 64) ∧ x.2.1 = x.2.2.1 ∧ x.2.2.1 ≠ 0 ∧ (∀ y, 0 < i → T[i - 1]? = some y → lessB y.1 x.1 = true) ∧ i < 16
def lnOkT (T : Tbl) : Prop := ∀ i, i < T.length → lnCond T i
theorem lnOk_step {T : Tbl} {i : Nat} (hh : ∀ j, j < i → lnCond T j) (hi : lnCond T i) : ∀ j, j < i + 1 → lnCond T j := fun j hj => by
  by_cases e : j = i
  · rw [e]; exact hi
  · exact hh j (by omega)
theorem ln_less {T : Tbl} {n : Nat} (hh : ∀ j, j < n → lnCond T j) : ∀ (k j : Nat) (x y : ByteArray × Ln), j < k → k < n → T[j]? = some x → T[k]? = some y → lessB x.1 y.1 = true := by
  intro k
  induction k with
  | zero => intro j x y h; omega
  | succ k ih =>
    intro j x y hj hk hx hy
    have hkl := (List.getElem?_eq_some_iff.1 hy).1
    obtain ⟨z, hz⟩ : ∃ z, T[k]? = some z := ⟨_, List.getElem?_eq_getElem (by omega)⟩
    have h1 := (hh (k + 1) hk y hy).2.2.2.1 z (by omega) (by simpa using hz)
    by_cases e : j = k
    · subst e; rw [hx] at hz; cases hz; exact h1
    · exact lessB_trans (ih j x z (by omega) (by omega) hx hz) h1
theorem lk_take {T : Tbl} {i : Nat} {x : ByteArray × Ln} (hh : ∀ j, j < i → lnCond T j) (hx : T[i]? = some x) (hc : ∀ y, 0 < i → T[i - 1]? = some y → lessB y.1 x.1 = true) : lkB (T.take i) x.1 = none := by
  rw [lkB_none]
  intro hm
  obtain ⟨p, hp, he⟩ := List.mem_map.1 hm
  obtain ⟨j, hj⟩ := List.getElem?_of_mem hp
  rw [List.getElem?_take] at hj
  split at hj
  · rename_i hji
    have hless : lessB p.1 x.1 = true := by
      have hil := (List.getElem?_eq_some_iff.1 hx).1
      obtain ⟨z, hz⟩ : ∃ z, T[i - 1]? = some z := ⟨_, List.getElem?_eq_getElem (by omega)⟩
      have h1 := hc z (by omega) hz
      by_cases e : j = i - 1
      · rw [← e, hj] at hz; cases hz; exact h1
      · exact lessB_trans (ln_less hh (i - 1) j p z (by omega) (by omega) hj hz) h1
    rw [he, lessB_irrefl] at hless
    cases hless
  · cases hj
theorem setB_last {n : ByteArray} {y z : Ln} : ∀ {T : Tbl}, lkB T n = none → setB (T ++ [(n, y)]) n z = T ++ [(n, z)]
  | [], _ => by simp [setB]
  | p :: T, h => by
    by_cases e : n = p.1
    · have : n ∈ (p :: T).map (·.1) := by rw [e]; simp
      exact absurd this (lkB_none.1 h)
    · have h2 : lkB T n = none := by
        rw [lkB_none] at h ⊢
        exact fun hm => h (by simp; right; simpa using hm)
      have ih := setB_last (y := y) (z := z) h2
      cases p with
      | mk a b =>
        simp only [List.cons_append, setB]
        have e' : ¬ n = a := e
        have e2 : ¬ a = n := fun h => e' h.symm
        simp [e', e2, ih]
theorem lkB_last {n : ByteArray} {y : Ln} : ∀ {T : Tbl}, lkB T n = none → lkB (T ++ [(n, y)]) n = some y := fun {T} h => by
  rw [← setB_new h, setB_get]; simp
def TbJ (nv : AVal) (T : Tbl) (t mp : Nat) (σ0 : St) (mm : Nat) (rg : Regs) (σ' : St) : Prop := ∃ i : Nat, mm = T.length - i ∧ i ≤ T.length ∧ TRep σ' t mp (T.take i) ∧ Grow σ0 σ' ∧ (∀ j, j < i → lnCond T j) ∧ rg = [(0, nv), (4, .ptr t 0), (8, nv), (9, i64 (T.length : Nat)), (10, i64 i)]
set_option maxHeartbeats 4000000 in
theorem table_c {σ : St} {nv : AVal} {T : Tbl} (hg : Rd 5 σ nv T.length (rws rwL T)) (hl : T.length ≤ 100000) (hn : ∀ x ∈ T, x.1.size ≤ 1000) (Q : AVal → St → Prop)
    (hB : ∀ σ', ¬ lnOkT T → Grow σ σ' → Q (.tup [.nilp, .bool false]) σ') (hQ : ∀ t mp σ', lnOkT T → TRep σ' t mp T → σ.next ≤ t ∧ σ.next ≤ mp → Grow σ σ' → Q (.tup [.ptr t 0, .bool true]) σ') : ACall Tryd.prog 59 [nv] σ Q := by
  refine ACall.of_compF hmx (fun a w => Tryd.call59 a w) Tryd.func59 cf59 (n := 1) (by decide) rfl ?_
  have hlen := hg.len
  simp [ac59, rs59, lk_cons]
  refine tnew_c _ _ fun t mp σ1 t1 n1 k1 hlo => ?_
  simp [lk_cons, ↓hlen]
  refine wp_loop (TbJ nv T t mp σ) T.length ?_ ?_
  · exact ⟨0, rfl, Nat.zero_le _, by simpa using t1, ⟨n1, k1⟩, by omega, by simp [lk_cons]⟩
  rintro mm rg σ2 ⟨i, rfl, hi, t2, g2, hall, rfl⟩
  have n2 := g2.1
  by_cases hlt : i < T.length
  · obtain ⟨⟨xn, x1, x2, xa, xb⟩, hx⟩ : ∃ x, T[i]? = some x := ⟨_, List.getElem?_eq_getElem hlt⟩
    have w1 : IntKind.i64.wrap ((i : Int) + 1) = ((i + 1 : Nat) : Int) := by rw [IntWalk.i64_in] <;> omega
    have htk : T.take (i + 1) = T.take i ++ [(xn, x1, x2, xa, xb)] := by rw [List.take_add_one, hx]; rfl
    have htl : (T.take i).length = i := by rw [List.length_take]; omega
    obtain ⟨p, p1, p2, _⟩ := hg.at hlt (ρ := σ2) g2.2
    have row : ((rws rwL T).drop (i * 5)).take 5 = [.str xn, u64 (x1 : Int), u64 (x2 : Int), u64 (xa : Int), u64 (xb : Int)] := rws_at rwL hx
    rw [row] at p2
    have hxn := hn _ (List.mem_of_getElem? hx)
    obtain ⟨S, hS⟩ : ∃ S : St, S = ⟨(σ2.mem.set σ2.next (.cells 5 [.str ⟨#[]⟩, .int .u64 0, .int .u64 0, .int .u64 0, .int .u64 0])).set σ2.next (.cells 5 [.str xn, u64 (x1 : Int), u64 (x2 : Int), u64 (xa : Int), u64 (xb : Int)]), σ2.next + 1⟩ := ⟨_, rfl⟩
    have nS : S.next = σ2.next + 1 := by rw [hS]
    have kS : ∀ a, a < σ2.next → S.mem.get a = σ2.mem.get a := fun a ha => by rw [hS]; simp [show ¬ a = σ2.next by omega]
    have gS : Grow σ S := g2.trans ⟨by omega, kS⟩
    have mS : S.mem.get σ2.next = some (.cells 5 [.str xn, u64 (x1 : Int), u64 (x2 : Int), u64 (xa : Int), u64 (xb : Int)]) := by rw [hS]; simp
    have tl := t2.lt
    have tS : TRep S t mp (T.take i) := t2.frame (fun a ha => kS a (by rcases ha with rfl | rfl <;> omega)) (by omega)
    have bad : ¬ lnCond T i → Q (.tup [.nilp, .bool false]) S := fun hc => hB S (fun e => hc (e i hlt)) gS
    have hprev : i = 0 ∨ 0 < i ∧ ∃ y P P0, T[i - 1]? = some y ∧ evalV S (.idxAddr 5 nv (.int .i64 ((i : Int) - 1))) = some (P, S) ∧ evalV S (.fieldAddr 0 P) = some (P0, S) ∧ evalV S (.ld1 P0) = some (.str y.1, S) := by
      by_cases h0 : i = 0
      · exact .inl h0
      · obtain ⟨y, hy⟩ : ∃ y, T[i - 1]? = some y := ⟨_, List.getElem?_eq_getElem (by omega)⟩
        obtain ⟨P, q1, _, qf⟩ := hg.at (show i - 1 < T.length by omega) (ρ := S) gS.2
        obtain ⟨P0, r1, _, r2⟩ := qf 0 1 (by decide)
        refine .inr ⟨by omega, y, P, P0, hy, ?_, r1, r2 _ (by decide) (rwL_row hy).1⟩
        rw [← q1]; congr 2; simp only [i64]; congr 1; omega
    have ws : 0 < i → IntKind.i64.wrap ((i : Int) - 1) = (i : Int) - 1 := fun h => by rw [IntWalk.i64_in] <;> omega
    rw [hS] at hprev
    have good : (∀ y, 0 < i → T[i - 1]? = some y → lessB y.1 xn = true) → x1 = x2 → ¬ begC (T.take i) xn x2 = 0 → ¬ lnCond T i := fun hc e1 hb hlc => by
      obtain ⟨h1, h2, h3, h4, h5⟩ := hlc _ hx
      simp only at h1 h2 h3
      apply hb
      have hk := lk_take hall hx hc
      rw [begC, if_neg (by omega), if_neg h3, hk]
      simp only [htl]
      rw [if_neg (by omega)]
    have good2 : (∀ y, 0 < i → T[i - 1]? = some y → lessB y.1 xn = true) → x1 = x2 → begC (T.take i) xn x2 = 0 → doneC (begT (T.take i) xn x2) xn x2 = 0 ∧ doneT (begT (T.take i) xn x2) xn x2 (xa, xb) = T.take (i + 1) ∧ lnCond T i := fun hc e1 hb => by
      have hk := lk_take hall hx hc
      have hb0 := hb
      rw [begC] at hb
      split at hb
      · cases hb
      rename_i c1
      split at hb
      · cases hb
      rename_i c2
      rw [hk] at hb
      simp only [htl] at hb
      split at hb
      · cases hb
      rename_i c3
      have hbt : begT (T.take i) xn x2 = T.take i ++ [(xn, (x2, (0, 0, 0)))] := by
        rw [begT, if_pos hb0, setB_new hk, hk]; rfl
      have hlk := lkB_last (y := (x2, (0, 0, 0))) hk
      have hd : doneC (begT (T.take i) xn x2) xn x2 = 0 := by
        rw [hbt, doneC, hlk]
        show (if x2 < x2 then (11 : Int) else if x2 ≤ 0 then 40 else 0) = 0
        rw [if_neg (by omega), if_neg (by omega)]
      refine ⟨hd, ?_, fun z hz => ?_⟩
      · rw [doneT, if_pos hd, hbt, hlk, setB_last hk, htk]
        subst e1
        rfl
      · rw [hx] at hz; cases hz
        exact ⟨⟨by show 1 ≤ xn.size; omega, by show xn.size ≤ 64; omega⟩, e1, c2, hc, by omega⟩
    rcases hprev with hi0 | ⟨hi1, y, P, P0, hy, q1, q2, q3⟩
    case' inl =>
      have hi1 : ¬ 0 < i := by omega
      have hc : ∀ y, 0 < i → T[i - 1]? = some y → lessB y.1 xn = true := fun y h0 => absurd h0 hi1
      by_cases e1 : x1 = x2
      case' neg =>
        have e1' : ¬ (x1 : Int) = (x2 : Int) := by omega
        simp [lk_cons, hlt, ↓p1, ↓p2, storeL, hi1, e1, e1']
        rw [← hS]
        exact bad fun e => e1 (e _ hx).2.1
      case' pos =>
        subst e1
        simp [lk_cons, hlt, ↓p1, ↓p2, storeL, hi1]
    case' inr =>
      have ws := ws hi1
      have hi1' : (0 : Int) < i := by omega
      cases hle : lessB y.1 xn
      case' false =>
        simp [lk_cons, hlt, ↓p1, ↓p2, storeL, hi1, hi1', ws, ↓q1, ↓q2, ↓q3, strGeq, hle]
        rw [← hS]
        exact bad fun e => by have := (e _ hx).2.2.2.1 y hi1 hy; rw [hle] at this; cases this
      case' true =>
        have hc : ∀ y, 0 < i → T[i - 1]? = some y → lessB y.1 xn = true := fun z _ hz => by rw [hy] at hz; cases hz; exact hle
        by_cases e1 : x1 = x2
        case' neg =>
          have e1' : ¬ (x1 : Int) = (x2 : Int) := by omega
          simp [lk_cons, hlt, ↓p1, ↓p2, storeL, hi1, hi1', ws, ↓q1, ↓q2, ↓q3, strGeq, hle, e1, e1']
          rw [← hS]
          exact bad fun e => e1 (e _ hx).2.1
        case' pos =>
          subst e1
          simp [lk_cons, hlt, ↓p1, ↓p2, storeL, hi1, hi1', ws, ↓q1, ↓q2, ↓q3, strGeq, hle]
    all_goals
      rw [← hS]
      have hxs : xn.size ≤ 140737488355328 := by have : xn.size ≤ 1000 := hxn; omega
      refine begin_c tS xn hxs x1 _ fun σ3 t3 g3 => ?_
      have hmp : mp < σ2.next := tl.2
      have ht : t < σ2.next := tl.1
      have G3 : Grow σ σ3 := ⟨Nat.le_trans gS.1 g3.1, fun a ha => (g3.2 a (by have := gS.1; omega) (by omega)).trans (gS.2 a ha)⟩
      by_cases hb : begC (T.take i) xn x1 = 0
      · obtain ⟨d1, d2, d3⟩ := good2 hc rfl hb
        have m3 := (g3.2 σ2.next (by rw [hS]; exact Nat.lt_succ_self _) (by omega)).trans mS
        simp [lk_cons, hb, m3]
        refine done_c t3 xn x1 (xa, xb) _ fun σ4 t4 g4 => ?_
        simp [lk_cons, d1, w1]
        have n3 := G3.1
        refine ⟨T.length - (i + 1), by omega, i + 1, rfl, by omega, by rw [← d2]; exact t4, ⟨Nat.le_trans G3.1 g4.1, fun a ha => (g4.2 a (by omega) (by omega)).trans (G3.2 a ha)⟩, lnOk_step hall d3, rfl⟩
      · simp [lk_cons, hb]
        exact hB σ3 (fun e => good hc rfl hb (e i hlt)) G3
  have : i = T.length := by omega
  subst this
  rw [List.take_length] at t2
  simp [lk_cons]
  exact hQ t mp σ2 hall t2 hlo g2
end Go.Proofs.YticefdfhcahlfaaDoor.AM

namespace Go.Proofs.YticefdfhcahlfaaDoor.AM
open Go.RowKit
set_option maxRecDepth 100000
set_option linter.unusedVariables false
set_option linter.unusedSimpArgs false
def SbI : List AVal → List SbV → Prop
  | [], [] => True
  | a :: b :: c :: d :: e :: cs, x :: xs => (a = .str x.name ∧ b = .int .u8 (x.kind : Int) ∧ c = u64 x.ml ∧ d = u64 x.me ∧ HI e x.h) ∧ SbI cs xs
  | _, _ => False
theorem SbI.c {σ : St} : ∀ {cs : List AVal} {xs : List SbV}, SbI cs xs → SbC σ cs xs
  | [], [], _ => trivial
  | a :: b :: c :: d :: e :: cs, x :: xs, h => ⟨⟨h.1.1, h.1.2.1, h.1.2.2.1, h.1.2.2.2.1, .inl h.1.2.2.2.2⟩, SbI.c h.2⟩
  | [], _ :: _, h => h.elim
  | [_], _, h => by cases ‹List SbV› <;> exact h.elim
  | [_, _], _, h => by cases ‹List SbV› <;> exact h.elim
  | [_, _, _], _, h => by cases ‹List SbV› <;> exact h.elim
  | [_, _, _, _], _, h => by cases ‹List SbV› <;> exact h.elim
  | _ :: _ :: _ :: _ :: _ :: _, [], h => h.elim
theorem SbI.get : ∀ {cs : List AVal} {xs : List SbV} {i : Nat} {x : SbV}, SbI cs xs → xs[i]? = some x → ∃ hv, HI hv x.h ∧ (cs.drop (i * 5)).take 5 = sbA x hv
  | a :: b :: c :: d :: e :: cs, y :: xs, 0, x, h, hx => by
    simp at hx; subst hx
    obtain ⟨⟨rfl, rfl, rfl, rfl, h5⟩, _⟩ := h
    exact ⟨e, h5, by simp [sbA]⟩
  | a :: b :: c :: d :: e :: cs, y :: xs, i + 1, x, h, hx => by
    obtain ⟨hv, h1, h2⟩ := h.2.get (i := i) (by simpa using hx)
    have e1 : (i + 1) * 5 = i * 5 + 1 + 1 + 1 + 1 + 1 := by omega
    exact ⟨hv, h1, by rw [e1]; simpa using h2⟩
  | [], [], _, _, _, hx => by simp at hx
  | [], _ :: _, _, _, h, _ => h.elim
  | [_], _, _, _, h, _ => by cases ‹List SbV› <;> exact h.elim
  | [_, _], _, _, _, h, _ => by cases ‹List SbV› <;> exact h.elim
  | [_, _, _], _, _, _, h, _ => by cases ‹List SbV› <;> exact h.elim
  | [_, _, _, _], _, _, _, h, _ => by cases ‹List SbV› <;> exact h.elim
  | _ :: _ :: _ :: _ :: _ :: _, [], _, _, h, _ => h.elim
def ldB (x : Ld) : List UInt8 := beN 8 x.f0.toNat ++ beN 1 (if x.f1 then 1 else 0) ++ beN 8 x.f2.toNat
def ldsB (t : List Ld) : List UInt8 := (t.map ldB).flatten
def sbB (x : SbV) : List UInt8 := txB x.name ++ beN 1 x.kind ++ cuB x.ml x.me x.h
def sbsB (s : List SbV) : List UInt8 := (s.map sbB).flatten
def tpB (ep last : Nat) (t : List Ld) (s : List SbV) (T : Tbl) : List UInt8 := beN 8 ep ++ beN 8 last ++ beN 1 (t.length % 256) ++ ldsB t ++ beN 1 (s.length % 256) ++ sbsB s ++ encT T
theorem ldsB_snoc (t : List Ld) (x : Ld) : ldsB (t ++ [x]) = ldsB t ++ ldB x := by simp [ldsB]
theorem sbsB_snoc (t : List SbV) (x : SbV) : sbsB (t ++ [x]) = sbsB t ++ sbB x := by simp [sbsB]
theorem ldsB_len : ∀ t : List Ld, (ldsB t).length = 17 * t.length
  | [] => rfl
  | x :: t => by
    have := ldsB_len t
    simp only [ldsB, List.map_cons, List.flatten_cons, List.length_append, ldB, beN_len, List.length_cons] at this ⊢
    omega
theorem sbsB_take (s : List SbV) (i : Nat) : (sbsB (s.take i)).length ≤ (sbsB s).length := by
  conv => rhs; rw [← List.take_append_drop i s]
  simp only [sbsB, List.map_append, List.flatten_append, List.length_append]
  omega
structure TBd (ep last : Nat) (t : List Ld) (s : List SbV) (T : Tbl) : Prop where
  bl : ∀ x ∈ t, In64 x.f0 ∧ In64 x.f2
  bs : ∀ x ∈ s, HSm x.h ∧ (In64 x.ml ∧ In64 x.me) ∧ x.kind < 256
  bT : ∀ x ∈ T, LnOk x
  bTl : T.length ≤ 200
  be : ep < 18446744073709551616 ∧ last < 18446744073709551616
def EnRel (ep last : Nat) (t : List Ld) (s : List SbV) (T : Tbl) (σ' : St) (v : AVal) (c : Nat) : Prop := (c = 23 ∧ v = .nilsl ∧ ¬ (lnOkT T ∧ tpOk (last : Int) t s)) ∨ (lnOkT T ∧ tpOk (last : Int) t s) ∧ (c = 3 ∧ v = .nilsl ∧ 3840 < (tpB ep last t s T).length ∨ c = 0 ∧ (∃ b, GS rwB σ' v (tpB ep last t s T) b) ∧ (tpB ep last t s T).length ≤ 3840)
def ElJ (W p q : Nat) (lv : AVal) (t : List Ld) (l : List UInt8) (S : St) (mm : Nat) (rg : Regs) (σ' : St) : Prop := ∃ (i : Nat) (b' : Option Nat), mm = t.length - i ∧ i ≤ t.length ∧ WB σ' W (l ++ ldsB (t.take i)) b' ∧ WStp W none b' S σ' ∧ rg = [(1, .ptr p 0), (4, .ptr q 0), (6, .ptr W 0), (41, lv), (42, i64 t.length), (43, i64 i)]
def EsJ (W q : Nat) (sv : AVal) (s : List SbV) (l : List UInt8) (S : St) (mm : Nat) (rg : Regs) (σ' : St) : Prop := ∃ (i : Nat) (b' : Option Nat), mm = s.length - i ∧ i ≤ s.length ∧ WB σ' W (l ++ sbsB (s.take i)) b' ∧ WStp W none b' S σ' ∧ rg = [(4, .ptr q 0), (6, .ptr W 0), (68, sv), (69, i64 s.length), (70, i64 i)]
theorem ris_of {T : Tbl} (h : lnOkT T) : RisL T ∧ (T.map (·.1)).Nodup := by
  have hl := ln_less (n := T.length) h
  have lt : ∀ {k : Nat} {y : ByteArray × Ln}, T[k]? = some y → k < T.length := fun h => (List.getElem?_eq_some_iff.1 h).1
  refine ⟨fun i j x y hij hx hy => lessB_asymm (hl j i x y hij (lt hy) hx hy), ?_⟩
  rw [List.nodup_iff_pairwise_ne, List.pairwise_iff_getElem]
  intro i j hi hj hij e
  simp only [List.length_map] at hi hj
  simp only [List.getElem_map] at e
  have := hl j i T[i] T[j] hij (by omega) (List.getElem?_eq_getElem hi) (List.getElem?_eq_getElem hj)
  rw [e, lessB_irrefl] at this; cases this
theorem dn_ok {T : Tbl} (h : lnOkT T) : dn T = T := by
  rw [dn, List.filter_eq_self]
  intro x hx
  obtain ⟨i, hi⟩ := List.getElem?_of_mem hx
  have := (h i (List.getElem?_eq_some_iff.1 hi).1 x hi).2.2.1
  simpa using this
end Go.Proofs.YticefdfhcahlfaaDoor.AM

namespace Go.Proofs.YticefdfhcahlfaaDoor.AM
open Go.RowKit
set_option maxRecDepth 100000
set_option linter.unusedVariables false
set_option linter.unusedSimpArgs false
set_option maxHeartbeats 4000000 in
theorem encode_c {σ : St} {lv sv nv : AVal} {t : List Ld} {s : List SbV} {cs : List AVal} {T : Tbl} {ep last : Nat} (hr : TpR σ lv sv t s cs) (hI : SbI cs s) (hn : Rd 5 σ nv T.length (rws rwL T)) (hf : TFew t s) (hb : TBd ep last t s T) (hsb : (sbsB s).length ≤ 400000) (Q : AVal → St → Prop)
    (hQ : ∀ v c σ', EnRel ep last t s T σ' v c → Grow σ σ' → Q (.tup [v, i64 (c : Nat)]) σ') : ACall Tryd.prog 26 [.agg [u64 (ep : Int), u64 (last : Int), lv, sv, nv]] σ Q := by
  refine ACall.of_compF hmx (fun a w => Tryd.call26 a w) Tryd.func26 cf26 (n := 1) (by decide) rfl ?_
  obtain ⟨o1, o2⟩ := hr.rl.one
  obtain ⟨o3, o4⟩ := hr.rs.one
  obtain ⟨o5, o6⟩ := hn.one
  have l1 := hr.rl.len
  have l2 := hr.rs.len
  simp [ac26, rs26, lk_cons, o1, o2, o3, o4, o5, o6]
  obtain ⟨S, hS⟩ : ∃ S : St, S = ⟨σ.mem.set σ.next (.cells 5 [u64 (ep : Int), u64 (last : Int), lv, sv, nv]), σ.next + 1⟩ := ⟨_, rfl⟩
  have gS : Grow σ S := ⟨by rw [hS]; exact Nat.le_succ _, fun a ha => by rw [hS]; simp [show ¬ a = σ.next by omega]⟩
  have nS : S.next = σ.next + 1 := by rw [hS]
  have mS : S.mem.get σ.next = some (.cells 5 [u64 (ep : Int), u64 (last : Int), lv, sv, nv]) := by rw [hS]; simp
  rw [← hS]
  refine table_c (hn.frame gS.1 gS.2) (by have := hb.bTl; omega) (fun x hx => (hb.bT x hx).1) _ (fun σ1 hno g1 => ?_) fun tt mp σ1 hok t1 hge g1 => ?_
  · have m1 := (g1.2 σ.next (by omega)).trans mS
    simp [lk_cons, m1]
    exact hQ .nilsl 23 σ1 (.inl ⟨rfl, rfl, fun e => hno e.1⟩) (gS.trans g1)
  have G1 := gS.trans g1
  have n1 := G1.1
  have n1' := g1.1
  have m1 := (g1.2 σ.next (by omega)).trans mS
  simp [lk_cons, m1]
  refine tpcheck_g ⟨hr.rl.frame G1.1 G1.2, hr.rs.frame G1.1 G1.2, hr.rc.frame G1.1 G1.2⟩ hf (ep : Int) (last : Int) o5 _ fun b hbk => ?_
  cases b with
  | false =>
    simp [lk_cons]
    exact hQ .nilsl 23 σ1 (.inl ⟨rfl, rfl, fun e => by have := hbk.2 e.2; cases this⟩) G1
  | true =>
    have htp := hbk.1 rfl
    have h64 := htp.1.1
    have h2 := htp.2.2.1
    have tl := t1.lt
    obtain ⟨W, hW⟩ : ∃ W, σ1.next = W := ⟨_, rfl⟩
    obtain ⟨S1, hS1⟩ : ∃ S1 : St, S1 = ⟨σ1.mem.set σ1.next (.cells 1 [.nilsl]), σ1.next + 1⟩ := ⟨_, rfl⟩
    have gS1 : Grow σ1 S1 := ⟨by rw [hS1]; exact Nat.le_succ _, fun a ha => by rw [hS1]; simp [show ¬ a = σ1.next by omega]⟩
    have nS1 : S1.next = σ1.next + 1 := by rw [hS1]
    have w0 : WB S1 W [] none := ⟨.nilsl, by rw [hS1, ← hW]; simp, GS.nil _, by simp, by omega⟩
    have mS1 := (gS1.2 σ.next (by omega)).trans m1
    have eW : ¬ σ.next = σ1.next := by omega
    simp [lk_cons, fillL, m1, eW, repL, storeL]
    obtain ⟨S2, hS2⟩ : ∃ S2 : St, S2 = ⟨(σ1.mem.set σ1.next (.cells 1 [.nilsl])).set (σ1.next + 1) (.cells 1 [u64 (ep : Int), u64 (last : Int)]), σ1.next + 1 + 1⟩ := ⟨_, rfl⟩
    have gS2 : Grow S1 S2 := ⟨by rw [hS1, hS2]; exact Nat.le_succ _, fun a ha => by rw [hS2, hS1]; simp [show ¬ a = σ1.next + 1 by rw [hS1] at ha; exact Nat.ne_of_lt ha]⟩
    have nS2 : S2.next = σ1.next + 2 := by rw [hS2]
    have mS2 : S2.mem.get (σ1.next + 1) = some (.cells 1 ([ep, last].map fun n : Nat => u64 (n : Int))) := by rw [hS2]; simp
    rw [← hS2, hW]
    have e2 : ∀ n : Nat, (2 : Nat) = [ep, last].length := fun _ => rfl
    rw [hW] at mS2
    refine puts_c (xs := [ep, last]) (t := true) (w0.grow gS2) (o := W + 1) (by omega) mS2 (by omega) (by simp) (by simp) (by simp) _ fun σ3 b3 h3 t3 => ?_
    simp only [List.nil_append] at h3
    have gW : ∀ {σ' : St} {b' : Option Nat}, WStp W none b' S2 σ' → ∀ a, a < σ1.next → σ'.mem.get a = σ1.mem.get a := fun q a ha => (q.keep a (by omega) (by omega) (by simp)).trans ((gS2.2 a (by omega)).trans (gS1.2 a ha))
    have gA : ∀ {σ' : St} {b' : Option Nat}, WStp W none b' S2 σ' → Grow σ σ' := fun q => ⟨by have := q.next; omega, fun a ha => (gW q a (by omega)).trans (G1.2 a ha)⟩
    have mA : ∀ {σ' : St} {b' : Option Nat}, WStp W none b' S2 σ' → σ'.mem.get σ.next = some (.cells 5 [u64 (ep : Int), u64 (last : Int), lv, sv, nv]) := fun q => (gW q σ.next (by omega)).trans m1
    have wl : IntKind.u8.wrap (t.length : Int) = t.length := by rw [IntWalk.u8_in]; omega
    have wl2 : IntKind.u8.wrap (s.length : Int) = s.length := by rw [IntWalk.u8_in]; omega
    have hnl : (numsB [ep, last]).length = 16 := numsB_len _
    simp [lk_cons, mA t3, ↓l1, wl]
    refine wu8_c h3 (n := t.length) (by omega) (by omega) _ fun σ4 b4 h4 t4 => ?_
    have t4 := t3.trans t4
    simp [lk_cons, mA t4, ↓l1]
    obtain ⟨L0, hL0⟩ : ∃ L0, numsB [ep, last] ++ beN 1 t.length = L0 := ⟨_, rfl⟩
    have hL0l : L0.length = 17 := by rw [← hL0, List.length_append, hnl, beN_len]
    rw [hL0] at h4
    refine wp_loop (ElJ W σ.next tt lv t L0 S2) t.length ?_ ?_
    · exact ⟨0, b4, rfl, Nat.zero_le _, by simpa [ldsB] using h4, t4, by simp [lk_cons]⟩
    rintro mm rg σ5 ⟨i, b5, rfl, hi, h5, s5, rfl⟩
    by_cases hlt : i < t.length
    · obtain ⟨x, hx⟩ : ∃ x, t[i]? = some x := ⟨_, List.getElem?_eq_getElem hlt⟩
      have hxm := List.mem_of_getElem? hx
      have w1 : IntKind.i64.wrap ((i : Int) + 1) = ((i + 1 : Nat) : Int) := by rw [IntWalk.i64_in] <;> omega
      have htk : t.take (i + 1) = t.take i ++ [x] := by rw [List.take_add_one, hx]; rfl
      obtain ⟨p, p1, p2, _⟩ := hr.rl.at hlt (ρ := σ5) (gA s5).2
      rw [(ldc_take hx).1] at p2
      obtain ⟨na, ea, ta, _⟩ := nat_of (hb.bl x hxm).1
      obtain ⟨nc, ec, tc, _⟩ := nat_of (hb.bl x hxm).2
      rw [ea, ec] at p2
      have hll := ldsB_len (t.take i)
      rw [List.length_take] at hll
      simp [lk_cons, hlt, ↓p1, ↓p2, storeL]
      obtain ⟨S5, hS5⟩ : ∃ S5 : St, S5 = ⟨(σ5.mem.set σ5.next (.cells 3 [.int .u64 0, .bool false, .int .u64 0])).set σ5.next (.cells 3 [u64 (na : Int), .bool x.f1, u64 (nc : Int)]), σ5.next + 1⟩ := ⟨_, rfl⟩
      have gS5 : Grow σ5 S5 := ⟨by rw [hS5]; exact Nat.le_succ _, fun a ha => by rw [hS5]; simp [show ¬ a = σ5.next by omega]⟩
      have nS5 : S5.next = σ5.next + 1 := by rw [hS5]
      have mS5 : S5.mem.get σ5.next = some (.cells 3 [u64 (na : Int), .bool x.f1, u64 (nc : Int)]) := by rw [hS5]; simp
      obtain ⟨hb5, hw5⟩ := h5.lt
      have mm5 : ∀ {σ' : St} {b' : Option Nat}, WStp W b5 b' S5 σ' → σ'.mem.get σ5.next = S5.mem.get σ5.next := fun q => q.keep σ5.next (by omega) (by omega) (fun e => by have := hb5 _ e; omega)
      have s5S : WStp W none b5 S2 S5 := s5.grow hb5 gS5 (by omega)
      rw [← hS5]
      refine wu64_c (h5.grow gS5) (by rw [List.length_append]; omega) _ fun σ6 b6 h6 t6 => ?_
      simp [lk_cons, mm5 t6, mS5]
      refine flag_c _ _ ?_
      simp [lk_cons]
      refine wu8_c h6 (n := if x.f1 then 1 else 0) (by split <;> decide) (by simp only [List.length_append, beN_len]; omega) _ fun σ7 b7 h7 t7 => ?_
      have t7 := t6.trans t7
      simp [lk_cons, mm5 t7, mS5]
      refine wu64_c h7 (by simp only [List.length_append, beN_len]; omega) _ fun σ8 b8 h8 t8 => ?_
      have t8 := t7.trans t8
      simp [lk_cons, w1]
      refine ⟨t.length - (i + 1), by omega, i + 1, b8, rfl, by omega, ?_, s5S.trans t8, rfl⟩
      rw [htk, ldsB_snoc, ldB, ta, tc]
      simpa [List.append_assoc] using h8
    have : i = t.length := by omega
    subst this
    rw [List.take_length] at h5
    have hll := ldsB_len t
    simp [lk_cons, mA s5, ↓l2, wl2]
    refine wu8_c h5 (n := s.length) (by omega) (by rw [List.length_append]; omega) _ fun σ6 b6 h6 t6 => ?_
    have t6 := s5.trans t6
    simp [lk_cons, mA t6, ↓l2]
    obtain ⟨L1, hL1⟩ : ∃ L1, L0 ++ ldsB t ++ beN 1 s.length = L1 := ⟨_, rfl⟩
    have hL1l : L1.length ≤ 2000 := by rw [← hL1]; simp only [List.length_append, beN_len]; omega
    rw [hL1] at h6
    refine wp_loop (EsJ W tt sv s L1 S2) s.length ?_ ?_
    · exact ⟨0, b6, rfl, Nat.zero_le _, by simpa [sbsB] using h6, t6, by simp [lk_cons]⟩
    rintro mm rg σ7 ⟨i, b7, rfl, hi, h7, s7, rfl⟩
    have sbl : ∀ j, (sbsB (s.take j)).length ≤ 400000 := fun j => Nat.le_trans (sbsB_take s j) hsb
    by_cases hlt : i < s.length
    · obtain ⟨x, hx⟩ : ∃ x, s[i]? = some x := ⟨_, List.getElem?_eq_getElem hlt⟩
      have hxm := List.mem_of_getElem? hx
      have hxc := htp.2.2.2 i hlt x hx
      have w1 : IntKind.i64.wrap ((i : Int) + 1) = ((i + 1 : Nat) : Int) := by rw [IntWalk.i64_in] <;> omega
      have htk : s.take (i + 1) = s.take i ++ [x] := by rw [List.take_add_one, hx]; rfl
      obtain ⟨p, p1, p2, _⟩ := hr.rs.at hlt (ρ := σ7) (gA s7).2
      obtain ⟨hv, c1, c2⟩ := hI.get hx
      rw [c2] at p2
      simp only [sbA] at p2
      have hv1 := c1.one
      have hsl := sbl i
      have hbx := hb.bs x hxm
      have hxn := hxc.1.2
      simp [lk_cons, hlt, ↓p1, ↓p2, storeL, hv1]
      obtain ⟨S7, hS7⟩ : ∃ S7 : St, S7 = ⟨(σ7.mem.set σ7.next (.cells 5 [.str ⟨#[]⟩, .int .u8 0, .int .u64 0, .int .u64 0, .nilsl])).set σ7.next (.cells 5 [.str x.name, .int .u8 (x.kind : Int), u64 x.ml, u64 x.me, hv]), σ7.next + 1⟩ := ⟨_, rfl⟩
      have gS7 : Grow σ7 S7 := ⟨by rw [hS7]; exact Nat.le_succ _, fun a ha => by rw [hS7]; simp [show ¬ a = σ7.next by omega]⟩
      have nS7 : S7.next = σ7.next + 1 := by rw [hS7]
      have mS7 : S7.mem.get σ7.next = some (.cells 5 [.str x.name, .int .u8 (x.kind : Int), u64 x.ml, u64 x.me, hv]) := by rw [hS7]; simp
      obtain ⟨hb7, hw7⟩ := h7.lt
      have mm7 : ∀ {σ' : St} {b' : Option Nat}, WStp W b7 b' S7 σ' → σ'.mem.get σ7.next = S7.mem.get σ7.next := fun q => q.keep σ7.next (by omega) (by omega) (fun e => by have := hb7 _ e; omega)
      have s7S : WStp W none b7 S2 S7 := s7.grow hb7 gS7 (by omega)
      rw [← hS7]
      refine wtext_c (h7.grow gS7) (by rw [List.length_append]; omega) (by omega) _ fun σ8 b8 h8 t8 => ?_
      simp [lk_cons, mm7 t8, mS7]
      refine wu8_c h8 (n := x.kind) hbx.2.2 (by simp only [List.length_append, beN_len]; simp; omega) _ fun σ9 b9 h9 t9 => ?_
      have t9 := t8.trans t9
      simp [lk_cons, mm7 t9, mS7]
      refine cwrite_c h9 c1 hbx.1 hbx.2.1.1 hbx.2.1.2 (by simp only [List.length_append, beN_len]; simp; omega) _ fun σa ba ha ta => ?_
      have ta := t9.trans ta
      simp [lk_cons, w1]
      refine ⟨s.length - (i + 1), by omega, i + 1, ba, rfl, by omega, ?_, s7S.trans ta, rfl⟩
      rw [htk, sbsB_snoc, sbB, txB]
      simpa [List.append_assoc] using ha
    have : i = s.length := by omega
    subst this
    rw [List.take_length] at h7
    have hsl := sbl s.length
    rw [List.take_length] at hsl
    simp [lk_cons]
    have t7 : TRep σ7 tt mp T := t1.frame (fun a ha => gW s7 a (by rcases ha with rfl | rfl <;> omega)) (by have := s7.next; omega)
    refine wwrite_g t7 h7 (by rw [List.length_append]; omega) hb.bTl hb.bT _ fun ys σ8 b8 py ry h8 t8 => ?_
    have t8 := s7.trans t8
    have hys : ys = T := RisL.uniq ry (ris_of hok).1 ((py.map _).nodup_iff.2 (ris_of hok).2) py
    subst hys
    have hTB : L1 ++ sbsB s ++ encT ys = tpB ep last t s ys := by
      rw [← hL1, ← hL0, tpB, Nat.mod_eq_of_lt (by omega), Nat.mod_eq_of_lt (by omega)]
      simp [numsB, List.append_assoc]
    rw [hTB] at h8
    have hlT := lnsB_len (T := dn ys) fun x hx => hb.bT x (List.mem_filter.1 hx).1
    have hdl := dn_len ys
    have htpl : (tpB ep last t s ys).length ≤ 20000000 := by
      rw [← hTB]
      simp only [List.length_append, encT, beN_len]
      have := hb.bTl
      omega
    simp [lk_cons]
    refine wdone_c h8 (by omega) _ fun σ9 v9 b9 h9 h10 h11 => ?_
    have hlen := h9.len
    have G9 : Grow σ σ9 := (gA t8).trans h11
    by_cases hc : (tpB ep last t s ys).length ≤ 3840
    · have hc' : ((tpB ep last t s ys).length : Int) ≤ 3840 := by omega
      simp [lk_cons, ↓hlen, hc, hc']
      exact hQ v9 0 σ9 (.inr ⟨⟨hok, htp⟩, .inr ⟨rfl, ⟨b9, h9⟩, hc⟩⟩) G9
    · have hc' : ¬ ((tpB ep last t s ys).length : Int) ≤ 3840 := by omega
      simp [lk_cons, ↓hlen, hc, hc']
      exact hQ .nilsl 3 σ9 (.inr ⟨⟨hok, htp⟩, .inl ⟨rfl, rfl, by omega⟩⟩) G9
end Go.Proofs.YticefdfhcahlfaaDoor.AM

namespace Go.Proofs.YticefdfhcahlfaaDoor.AM
open Go.RowKit
set_option maxRecDepth 100000
set_option linter.unusedVariables false
set_option linter.unusedSimpArgs false
theorem BStp.ofG (b : Option Nat) {σ σ' : St} (g : Grow σ σ') : BStp b b σ σ' := ⟨g.1, fun _ h => .inl h, fun a ha _ => g.2 a ha⟩
end Go.Proofs.YticefdfhcahlfaaDoor.AM

namespace Go.Proofs.YticefdfhcahlfaaDoor.AM
open Go.RowKit
set_option maxRecDepth 100000
set_option linter.unusedVariables false
set_option linter.unusedSimpArgs false
theorem nilStr (ρ : St) : evalV ρ (.bytesStr .nilsl) = some (.str ⟨#[]⟩, ρ) := by simp [srcL, listM]
theorem EnRel.str {ep last : Nat} {t : List Ld} {s : List SbV} {T : Tbl} {σ : St} {v : AVal} {c : Nat} (h : EnRel ep last t s T σ v c) : v.one = true ∧ ∃ l : List UInt8, ∀ {ρ : St}, Grow σ ρ → evalV ρ (.bytesStr v) = some (.str ⟨l.toArray⟩, ρ) := by
  rcases h with ⟨_, rfl, _⟩ | ⟨_, ⟨_, rfl, _⟩ | ⟨_, ⟨b, hb⟩, _⟩⟩
  · exact ⟨rfl, [], fun g => nilStr _⟩
  · exact ⟨rfl, [], fun g => nilStr _⟩
  · exact ⟨hb.one.1, _, fun g => (RdB.ofGS (hb.keep g.1 fun a ha _ => g.2 a ha)).str⟩
end Go.Proofs.YticefdfhcahlfaaDoor.AM

namespace Go.Proofs.YticefdfhcahlfaaDoor.AM
open Go.RowKit
set_option maxRecDepth 100000
set_option linter.unusedVariables false
set_option linter.unusedSimpArgs false
theorem LOut.rd {lo : Nat} {σ : St} {v : AVal} {l : List Ld} (h : LOut lo σ v l) : Rd 3 σ v l.length (ldc l) := by
  refine ⟨ldc_len l, ?_⟩
  rcases h with ⟨rfl, rfl⟩ | ⟨o, rfl, h1, h2, h3, h4⟩
  · exact .inl ⟨rfl, rfl⟩
  · exact .inr (.inr ⟨o, l.length, false, rfl, h3, h4⟩)
abbrev SbP := SbV × {v : AVal // v.one = true}
def rwS : Rw SbP 5 := ⟨fun p => [.str p.1.name, .int .u8 (p.1.kind : Int), u64 p.1.ml, u64 p.1.me, p.2.1], fun _ => rfl, fun p => by simp [p.2.2]⟩
theorem GS.rd {α : Type} {k : Nat} {R : Rw α k} {σ : St} {v : AVal} {l : List α} {b : Option Nat} (h : GS R σ v l b) : Rd k σ v l.length (rws R l) := by
  refine ⟨rws_len R l, ?_⟩
  rcases h with ⟨rfl, rfl, _⟩ | ⟨o, t, _, rfl, h3, h4⟩
  · exact .inl ⟨rfl, rfl⟩
  · exact .inr (.inr ⟨o, l.length, t, rfl, h3, h4⟩)
theorem sbI_rws : ∀ {l : List SbP}, (∀ p ∈ l, HI p.2.1 p.1.h) → SbI (rws rwS l) (l.map (·.1))
  | [], _ => trivial
  | p :: l, h => by
    rw [rws_cons]
    exact ⟨⟨rfl, rfl, rfl, rfl, h p (by simp)⟩, sbI_rws fun q hq => h q (by simp [hq])⟩
structure Sm (x : SbV) : Prop where
  name : x.name.size ≤ 200
  kind : x.kind < 256
  num : In64 x.ml ∧ In64 x.me
  hs : HSm x.h
  few : x.h.length ≤ 40 ∧ ∀ y ∈ x.h, y.f1.length ≤ 40
theorem hdsB_len4 {h : List Hd} (he : ∀ x ∈ h, x.f1.length ≤ 40) : (hdsB h).length ≤ 650 * h.length := by
  induction h with
  | nil => simp [hdsB]
  | cons x l ih =>
    have h1 := ih fun y hy => he y (by simp [hy])
    have h2 := he x (by simp)
    have h3 := rgsB_len x.f1
    simp only [hdsB, List.map_cons, List.flatten_cons, List.length_append, List.length_cons, hdB, beN_len] at h1 ⊢
    omega
theorem sm_sum : ∀ {s : List SbV}, (∀ x ∈ s, Sm x) → (sbsB s).length ≤ 30000 * s.length
  | [], _ => by simp [sbsB]
  | x :: s, h => by
    have h1 := sm_sum (s := s) fun y hy => h y (by simp [hy])
    have h2 := h x (by simp)
    have h3 := hdsB_len4 h2.few.2
    have h4 := h2.few.1
    have h5 := h2.name
    simp only [sbsB, List.map_cons, List.flatten_cons, List.length_append, List.length_cons, sbB, cuB, beN_len, txB_len] at h1 ⊢
    omega
theorem HSm.ofC {ml me : Int} {h : List Hd} (hC : COk ml me h) (h7 : h.length ≤ 7) (h14 : ∀ x ∈ h, x.f1.length ≤ 14) : HSm h ∧ (h.length ≤ 40 ∧ ∀ y ∈ h, y.f1.length ≤ 40) := by
  refine ⟨⟨by omega, fun x hx => by have := h14 x hx; omega, fun x hx => ?_, fun x hx z hz => ?_⟩, by omega, fun x hx => by have := h14 x hx; omega⟩
  · have h1 := (hok_mem hC.1 x hx).1
    have h2 := hC.2.1 x hx
    exact ⟨by omega, by omega⟩
  · have h1 := good_mem (hok_mem hC.1 x hx).2.1 z hz
    exact ⟨⟨by omega, by omega⟩, by omega, by omega⟩
end Go.Proofs.YticefdfhcahlfaaDoor.AM

namespace Go.Proofs.YticefdfhcahlfaaDoor.AM
open Go.RowKit
set_option maxRecDepth 100000
set_option linter.unusedVariables false
set_option linter.unusedSimpArgs false
structure MT (lo : Nat) (σ : St) (last : Nat) (t : List Ld) (s : List SbP) (T : Tbl) (lv sv nv : AVal) (bs bn : Option Nat) : Prop where
  ml : LOut lo σ lv t
  ms : GS rwS σ sv s bs
  mn : GS rwL σ nv T bn
  nb : ∀ x, bs = some x → bn ≠ some x
  lost : ∀ x, bs = some x ∨ bn = some x → lo ≤ x
  ok : Mk t
  sm : ∀ p ∈ s, Sm p.1 ∧ HI p.2.1 p.1.h
  s2 : s.length ≤ 2
  tl : T.length ≤ 16
  ln : ∀ x ∈ T, LnOk x
  lb : last < 18446744073709551616
end Go.Proofs.YticefdfhcahlfaaDoor.AM

namespace Go.Proofs.YticefdfhcahlfaaDoor.AM
open Go.RowKit
set_option maxRecDepth 100000
set_option linter.unusedVariables false
set_option linter.unusedSimpArgs false
def rwD : Rw Ld 3 := ⟨fun x => [u64 x.f0, .bool x.f1, u64 x.f2], fun _ => rfl, fun _ => rfl⟩
theorem rwsD : ∀ t : List Ld, rws rwD t = ldc t
  | [] => rfl
  | x :: t => by rw [rws_cons, rwsD t]; rfl
def pLd : Prs Ld := pB (pNum 8) fun a => pB pFlag fun b => pB (pNum 8) fun c => pR ⟨(a : Int), b, (c : Int)⟩
def pSb : Prs SbV := pB pTx fun nm => pB (pNum 1) fun k => pB pCu fun c => pR ⟨nm, k, c.ml, c.me, c.h⟩
structure Tp where
  ep : Nat
  last : Nat
  t : List Ld
  s : List SbV
  T : Tbl
open Classical in
noncomputable def pT5 (ep last : Nat) (t : List Ld) (s : List SbV) : Prs Tp := pB pTab fun T l => if tpOk (last : Int) t s then .ok (⟨ep, last, t, s, T⟩, l) else .error 23
noncomputable def pT4 (ep last : Nat) (t : List Ld) : Prs Tp := pB (pNum 1) fun n => pB (pMany pSb n) fun s => pT5 ep last t s
noncomputable def pTp : Prs Tp := pB (pNum 8) fun ep => pB (pNum 8) fun last => pB (pNum 1) fun n => pB (pMany pLd n) fun t => pT4 ep last t
theorem RgN.mono2 {lo hi hi' : Nat} {m m' : Mem} {v : AVal} {l : List S25} (h : RgN lo hi m v l) (h2 : hi ≤ hi') (hm : ∀ a, lo ≤ a → a < hi → (∃ cs, m.get a = some (.cells 2 cs)) → m'.get a = m.get a) : RgN lo hi' m' v l := by
  rcases h with h | ⟨b, c, t, e, k1, k2, k3⟩
  · exact .inl h
  · exact .inr ⟨b, c, t, e, k1, Nat.lt_of_lt_of_le k2 h2, (hm b k1 k2 ⟨_, k3⟩).trans k3⟩
theorem HCM.mono2 {lo hi hi' : Nat} {m m' : Mem} (h2 : hi ≤ hi') (hm : ∀ a, lo ≤ a → a < hi → (∃ cs, m.get a = some (.cells 2 cs)) → m'.get a = m.get a) : ∀ {cs : List AVal} {xs : List Hd}, HCM lo hi m cs xs → HCM lo hi' m' cs xs
  | [], [], _ => trivial
  | a :: b :: cs, x :: xs, h => ⟨h.1, h.2.1.mono2 h2 hm, HCM.mono2 h2 hm h.2.2⟩
  | [], _ :: _, h => h.elim
  | [_], _, h => by cases ‹List Hd› <;> exact h.elim
  | _ :: _ :: _, [], h => h.elim
theorem HOut.frame2 {lo : Nat} {σ1 σ2 : St} {v : AVal} {h : List Hd} (hh : HOut lo σ1 v h) (hn : σ1.next ≤ σ2.next) (hm : ∀ a, lo ≤ a → a < σ1.next → (∃ cs, σ1.mem.get a = some (.cells 2 cs)) → σ2.mem.get a = σ1.mem.get a) : HOut lo σ2 v h := by
  rcases hh with hh | ⟨o, cs, e, h1, h2, h3, h4, h5⟩
  · exact .inl hh
  · exact .inr ⟨o, cs, e, h1, h2, Nat.lt_of_lt_of_le h3 hn, (hm o h2 h3 ⟨_, h4⟩).trans h4, h5.mono2 (Nat.le_refl _) fun a ha hb hc => hm a ha (by omega) hc⟩
theorem GS.blk {α : Type} {k : Nat} {R : Rw α k} {σ : St} {v : AVal} {l : List α} {a : Nat} (h : GS R σ v l (some a)) : σ.mem.get a = some (.cells k (rws R l)) := by
  rcases h with ⟨_, _, h⟩ | ⟨o, t, h1, _, _, h4⟩
  · cases h
  · cases h1; exact h4
theorem setB_le (n : ByteArray) (x : Ln) (T : Tbl) : (setB T n x).length ≤ T.length + 1 := by rw [setB_len]; split <;> omega
theorem pLines_len : ∀ (n : Nat) (T : Tbl) (last : ByteArray) (l l' : List UInt8) (S : Tbl), T.length ≤ 16 → pLines n T last l = .ok (S, l') → S.length ≤ 16
  | 0, T, _, l, l', S, h, e => by simp only [pLines] at e; cases e; exact h
  | n + 1, T, last, l, l', S, h, e => by
    simp only [pLines] at e
    split at e
    · cases e
    · rename_i x l2 _
      by_cases hb : lnBad T last x = true
      · rw [if_pos hb] at e; cases e
      · rw [if_neg hb] at e
        refine pLines_len n _ _ _ _ _ ?_ e
        have h1 := setB_le x.1 x.2 T
        have : ¬ 16 ≤ T.length := fun h2 => hb (by simp [lnBad, h2])
        omega
theorem pTab_len {l l' : List UInt8} {S : Tbl} (h : pTab l = .ok (S, l')) : S.length ≤ 16 := by
  unfold pTab at h
  split at h
  · cases h
  · exact pLines_len _ _ _ _ _ _ (by simp) h
def SbO (lo : Nat) (σ : St) (l : List SbP) : Prop := ∀ p ∈ l, HOut lo σ p.2.1 p.1.h ∧ HFew p.1.h
theorem SbO.frame {lo : Nat} {σ σ' : St} {l : List SbP} (h : SbO lo σ l) (hn : σ.next ≤ σ'.next) (hm : ∀ a, lo ≤ a → a < σ.next → (∃ cs, σ.mem.get a = some (.cells 2 cs)) → σ'.mem.get a = σ.mem.get a) : SbO lo σ' l := fun p hp => ⟨(h p hp).1.frame2 hn hm, (h p hp).2⟩
theorem SbO.c {lo : Nat} {σ : St} : ∀ {l : List SbP}, SbO lo σ l → SbC σ (rws rwS l) (l.map (·.1))
  | [], _ => trivial
  | p :: l, h => by
    rw [rws_cons]
    exact ⟨⟨rfl, rfl, rfl, rfl, .inr ⟨lo, (h p (by simp)).1⟩⟩, SbO.c fun q hq => h q (by simp [hq])⟩
def De1 (res : Except Nat (Tp × List UInt8)) (r tc : Nat) (c : Option Nat) (ep last N : Nat) (S : St) (mm : Nat) (rg : Regs) (σ' : St) : Prop := ∃ (i : Nat) (l : List UInt8) (v : AVal) (t : List Ld) (b : Option Nat), mm = N - i ∧ i ≤ N ∧ t.length = i ∧ RR σ' r l c ∧ l.length ≤ 1000000 ∧ RStpC r tc S σ' ∧ σ'.mem.get tc = some (.cells 5 [u64 (ep : Int), u64 (last : Int), v, .nilsl, .nilsl]) ∧ GS rwD σ' v t b ∧ (∀ z, b = some z → S.next ≤ z) ∧ (∀ x ∈ t, 0 ≤ x.f2) ∧ res = pB (pMany pLd (N - i)) (fun is => pT4 ep last (t ++ is)) l ∧ rg = [(0, .ptr r 0), (1, .ptr tc 0), (10, .int .u8 (N : Int)), (11, .int .u8 (i : Int))]
def De2 (res : Except Nat (Tp × List UInt8)) (r tc : Nat) (c : Option Nat) (ep last : Nat) (t : List Ld) (lv : AVal) (bt : Option Nat) (N : Nat) (S : St) (mm : Nat) (rg : Regs) (σ' : St) : Prop := ∃ (i : Nat) (l : List UInt8) (v : AVal) (s : List SbP) (b : Option Nat), mm = N - i ∧ i ≤ N ∧ s.length = i ∧ RR σ' r l c ∧ l.length ≤ 1000000 ∧ RStpC r tc S σ' ∧ σ'.mem.get tc = some (.cells 5 [u64 (ep : Int), u64 (last : Int), lv, v, .nilsl]) ∧ GS rwD σ' lv t bt ∧ GS rwS σ' v s b ∧ SbO S.next σ' s ∧ (∀ z, b = some z → S.next ≤ z) ∧ res = pB (pMany pSb (N - i)) (fun is => pT5 ep last t (s.map (·.1) ++ is)) l ∧ rg = [(0, .ptr r 0), (1, .ptr tc 0), (27, .int .u8 (N : Int)), (28, .int .u8 (i : Int))]
def TpM (tc : Nat) (x : Tp) (σ σ' : St) : Prop := ∃ lv sv nv bt bs bn s ys, σ'.mem.get tc = some (.cells 5 [u64 (x.ep : Int), u64 (x.last : Int), lv, sv, nv]) ∧ GS rwD σ' lv x.t bt ∧ GS rwS σ' sv s bs ∧ x.s = s.map (·.1) ∧ SbO σ.next σ' s ∧ GS rwL σ' nv ys bn ∧ ys.Perm x.T ∧ RisL ys ∧ (∀ z, bt = some z ∨ bs = some z ∨ bn = some z → σ.next ≤ z)
set_option maxHeartbeats 4000000 in
theorem decc_c {T : AVal → St → Prop} {σ : St} {r tc : Nat} {l : List UInt8} {c : Option Nat} {K : AVal → St → Prop} (h : RR σ r l c) (hl : l.length ≤ 1000000) (htc : σ.mem.get tc = some (.cells 5 [.int .u64 0, .int .u64 0, .nilsl, .nilsl, .nilsl])) (htl : tc < σ.next) (hrt : tc ≠ r) (hct : c ≠ some tc)
    (hT : ∀ e σ', pTp l = .error e → RStpC r tc σ σ' → T (thrownV (e : Int)) σ')
    (hK : ∀ x l' σ', pTp l = .ok (x, l') → RR σ' r l' c → TpM tc x σ σ' → RStpC r tc σ σ' → K (.tup []) σ') : ACall (Env.th Tryd.prog T) 63 [.ptr r 0, .ptr tc 0] σ K := by
  refine ACall.of_compF hmx (fun a w => Tryd.call63 a w) Tryd.func63 cf63 (n := 2) (by decide) rfl ?_
  obtain ⟨v, q1, q2, q3, q4⟩ := id h
  have kR : ∀ {σ' : St} {l' : List UInt8} (B : Blk), RR σ' r l' c → RR ⟨σ'.mem.set tc B, σ'.next⟩ r l' c := fun B hr => hr.keep (Nat.le_refl _) fun a ha hac => by
    have : a ≠ tc := by
      rcases hac with rfl | hac
      · exact Ne.symm hrt
      · exact fun e => hct (by rw [hac, e])
    simp [this]
  have hcl : ∀ a, c = some a → a < σ.next := fun a ha => q2.lt ha
  simp [ac63, rs63, lk_cons]
  refine ru64_c h (by omega) (fun e he => hT e σ (by rw [pTp]; exact pB_err he) ⟨Nat.le_refl _, fun _ _ _ _ => rfl⟩) fun ep l1 σ1 p1 h1 s1 => ?_
  have hl1 := (pNum_len p1).1
  have n1 := s1.next
  simp [lk_cons]
  refine ru64_c h1 (by omega) (fun e he => hT e σ1 (by rw [pTp, pB_ok p1]; exact pB_err he) s1.c) fun last l2 σ2 p2 h2 s2 => ?_
  have s2 := s1.trans s2
  have hl2 := (pNum_len p2).1
  have n2 := s2.next
  have m2 := (s2.keep tc htl hrt).trans htc
  simp [lk_cons, m2, storeL]
  obtain ⟨S3, hS3⟩ : ∃ S : St, S = ⟨(σ2.mem.set tc (.cells 5 [u64 (ep : Int), .int .u64 0, .nilsl, .nilsl, .nilsl])).set tc (.cells 5 [u64 (ep : Int), u64 (last : Int), .nilsl, .nilsl, .nilsl]), σ2.next⟩ := ⟨_, rfl⟩
  have nS3 : S3.next = σ2.next := by rw [hS3]
  have mS3 : S3.mem.get tc = some (.cells 5 [u64 (ep : Int), u64 (last : Int), .nilsl, .nilsl, .nilsl]) := by rw [hS3]; simp
  have rS3 : RR S3 r l2 c := by rw [hS3]; exact kR (σ' := ⟨_, σ2.next⟩) _ (kR _ h2)
  have sS3 : RStpC r tc σ S3 := by rw [hS3]; exact (s2.c.trans RStpC.st).trans (RStpC.st (σ := ⟨_, σ2.next⟩))
  rw [← hS3]
  refine ru8_c rS3 (by omega) (fun e he => hT e S3 (by rw [pTp, pB_ok p1, pB_ok p2]; exact pB_err he) sS3) fun N l3 σ4 p3 h4 s4 => ?_
  have hl3 := (pNum_len p3).1
  have hN := (pNum_len p3).2
  have n4 := s4.next
  have m4 := (s4.keep tc (by omega) hrt).trans mS3
  have sS4 := sS3.trans s4.c
  have hr4 : pTp l = pB (pMany pLd N) (fun is => pT4 ep last is) l3 := by rw [pTp, pB_ok p1, pB_ok p2, pB_ok p3]
  simp [lk_cons]
  refine wp_loop (De1 (pTp l) r tc c ep last N σ4) N ?_ ?_
  · exact ⟨0, l3, .nilsl, [], none, rfl, by omega, rfl, h4, by omega, ⟨Nat.le_refl _, fun _ _ _ _ => rfl⟩, m4, GS.nil _, by simp, by simp, hr4, rfl⟩
  rintro mm rg σ5 ⟨i, l5, v5, t, b, rfl, hi, hti, h5, hl5, s5, m5, g5, hb5, hp5, hr5, rfl⟩
  have n5 := s5.next
  by_cases hlt : i < N
  · have hlt' : (i : Int) < N := by omega
    have w1 : IntKind.u8.wrap ((i : Int) + 1) = ((i + 1 : Nat) : Int) := by rw [IntWalk.u8_in] <;> omega
    obtain ⟨j, hj⟩ : ∃ j, N - i = j + 1 := ⟨N - i - 1, by omega⟩
    rw [hj, pMany_step] at hr5
    simp [lk_cons, hlt, hlt', m5]
    refine ru64_c h5 (by omega) (fun e he => hT e σ5 (by rw [hr5]; exact pB_err (pB_err he)) (sS4.trans s5)) fun a l6 σ6 u1 h6 s6 => ?_
    have n6 := s6.next
    have hl6 := (pNum_len u1).1
    have s6c := s5.trans s6.c
    have m6 := (s6.keep tc (by omega) hrt).trans m5
    simp [lk_cons, m6]
    refine ryes_c h6 (by omega) (fun e σ' he hs => hT e σ' (by rw [hr5]; exact pB_err (by rw [pLd, pB_ok u1]; exact pB_err he)) (sS4.trans (s6c.trans hs.c))) fun y l7 σ7 u2 h7 s7 hl7 => ?_
    have n7 := s7.next
    have s7c := s6c.trans s7.c
    have m7 := (s7.keep tc (by omega) hrt).trans m6
    simp [lk_cons, m7]
    refine ru64_c h7 (by omega) (fun e he => hT e σ7 (by rw [hr5]; exact pB_err (by rw [pLd, pB_ok u1, pB_ok u2]; exact pB_err he)) (sS4.trans s7c)) fun z l8 σ8 u3 h8 s8 => ?_
    have n8 := s8.next
    have hl8 := (pNum_len u3).1
    have s8c := s7c.trans s8.c
    have m8 := (s8.keep tc (by omega) hrt).trans m7
    have g8 : GS rwD σ8 v5 t b := g5.keep (by omega) fun a ha hab => by
      have := hb5 a hab
      exact (s8.keep a (by omega) (by omega)).trans ((s7.keep a (by omega) (by omega)).trans (s6.keep a ha (by omega)))
    obtain ⟨x, hx⟩ : ∃ x : Ld, x = ⟨(a : Int), y, (z : Int)⟩ := ⟨_, rfl⟩
    have hxA : rwD.a x = [u64 (a : Int), .bool y, u64 (z : Int)] := by rw [hx]; rfl
    have g9 : GS rwD ⟨σ8.mem.set σ8.next (.cells 3 (rwD.a x)), σ8.next + 1⟩ v5 t b := g8.keep (by simp) fun a ha _ => by simp [show ¬ a = σ8.next by omega]
    obtain ⟨σ9, f1, f2, f3, f4⟩ := gs_app1 g9 (nb := σ8.next) (by_ := 24) (t := true) (x := x) (by decide) (by simp) (fun e => by have := g8.lt e; omega) (by omega) (by omega)
    rw [hxA] at f1
    have m9 : σ9.mem.get tc = some (.cells 5 [u64 (ep : Int), u64 (last : Int), v5, .nilsl, .nilsl]) := by
      rw [f4 tc (by show tc < σ8.next + 1; omega) fun e => by have := hb5 _ e; omega]
      simp [show ¬ tc = σ8.next by omega]; exact m8
    simp [lk_cons, m8, fillL, storeL, repL, ↓f1, m9, w1]
    have k9 : ∀ a, a < σ4.next → σ9.mem.get a = σ8.mem.get a := fun a ha => by
      rw [f4 a (by show a < σ8.next + 1; omega) fun e => by have := hb5 _ e; omega]
      simp [show ¬ a = σ8.next by omega]
    have n9 : σ9.next = σ8.next + 2 := by rw [f3]
    have r9 : RR σ9 r l8 c := h8.keep (by omega) fun a ha hac => k9 a (by
      rcases hac with rfl | hac
      · omega
      · have := hcl a hac; omega)
    refine ⟨N - (i + 1), by omega, i + 1, l8, _, t ++ [x], some (σ8.next + 1), rfl, by omega, by simp [hti], kR _ r9, by omega, ⟨by show σ4.next ≤ σ9.next; omega, fun a ha h1 h2 => ?_⟩, by simp, f2.keep (Nat.le_refl _) fun a ha hab => ?_, fun z hz => ?_, fun y2 hy => ?_, ?_, by simp⟩
    · simp [h2]; exact (k9 a ha).trans (s8c.keep a ha h1 h2)
    · have hab : σ8.next + 1 = a := Option.some.inj hab
      simp [show ¬ a = tc by omega]
    · have hz : σ8.next + 1 = z := Option.some.inj hz
      omega
    · rcases List.mem_append.1 hy with hy | hy
      · exact hp5 y2 hy
      · rw [List.mem_singleton.1 hy, hx]; show (0 : Int) ≤ z; omega
    · rw [hr5, pLd, pB_assoc, pB_ok u1, pB_assoc, pB_ok u2, pB_assoc, pB_ok u3, pB_pR, show N - (i + 1) = j by omega, hx]
      simp
  have : i = N := by omega
  subst this
  simp [lk_cons]
  rw [Nat.sub_self] at hr5
  have sS5 := sS4.trans s5
  simp only [pMany, pB_pR, List.append_nil] at hr5
  refine ru8_c h5 (by omega) (fun e he => hT e σ5 (by rw [hr5, pT4]; exact pB_err he) sS5) fun M l6 σ6 u1 h6 s6 => ?_
  have hl6 := (pNum_len u1).1
  have hM := (pNum_len u1).2
  have n6 := s6.next
  have m6 := (s6.keep tc (by omega) hrt).trans m5
  have sS6 := sS5.trans s6.c
  have g6 : GS rwD σ6 v5 t b := g5.keep (by omega) fun a ha hab => s6.keep a ha (by have := hb5 a hab; omega)
  have hr6 : pTp l = pB (pMany pSb M) (fun is => pT5 ep last t is) l6 := by rw [hr5, pT4, pB_ok u1]
  have hb6 : ∀ z, b = some z → z < σ6.next ∧ σ4.next ≤ z := fun z hz => ⟨g6.lt hz, hb5 z hz⟩
  simp [lk_cons]
  refine wp_loop (De2 (pTp l) r tc c ep last t v5 b M σ6) M ?_ ?_
  · exact ⟨0, l6, .nilsl, [], none, rfl, by omega, rfl, h6, by omega, ⟨Nat.le_refl _, fun _ _ _ _ => rfl⟩, m6, g6, GS.nil _, fun _ h => absurd h List.not_mem_nil, by simp, hr6, rfl⟩
  rintro mm rg σ7 ⟨i2, l7, v7, s, b7, rfl, hi2, hsi, h7, hl7, s7, m7, gt7, g7, o7, hb7, hr7, rfl⟩
  have n7 := s7.next
  by_cases hlt : i2 < M
  · have hlt' : (i2 : Int) < M := by omega
    have w1 : IntKind.u8.wrap ((i2 : Int) + 1) = ((i2 + 1 : Nat) : Int) := by rw [IntWalk.u8_in] <;> omega
    obtain ⟨j, hj⟩ : ∃ j, M - i2 = j + 1 := ⟨M - i2 - 1, by omega⟩
    rw [hj, pMany_step] at hr7
    simp [lk_cons, hlt, hlt', m7]
    refine rtext_c h7 (by omega) (fun e σ' he hs => hT e σ' (by rw [hr7]; exact pB_err (by rw [pSb]; exact pB_err (by rw [pTx]; exact pB_err he))) (sS6.trans (s7.trans hs.c))) fun nm l8 σ8 u2 h8 s8 => ?_
    have n8 := s8.next
    have hl8 := (pText_len u2).1
    have s8c := s7.trans s8.c
    have m8 := (s8.keep tc (by omega) hrt).trans m7
    simp [lk_cons, m8]
    refine ru8_c h8 (by omega) (fun e he => hT e σ8 (by rw [hr7]; exact pB_err (by rw [pSb, pTx, pB_assoc, pB_ok u2, pB_pR]; exact pB_err he)) (sS6.trans s8c)) fun k l9 σ9 u3 h9 s9 => ?_
    have n9 := s9.next
    have hl9 := (pNum_len u3).1
    have hk := (pNum_len u3).2
    have s9c := s8c.trans s9.c
    have m9 := (s9.keep tc (by omega) hrt).trans m8
    simp [lk_cons, m9]
    refine ctake_c h9 (by omega) (fun e σ' he hs => hT e σ' (by rw [hr7]; exact pB_err (by rw [pSb, pTx, pB_assoc, pB_ok u2, pB_pR, pB_ok u3]; exact pB_err he)) (sS6.trans (s9c.trans hs.c))) fun cu l10 hv σ10 u4 h10 ho10 hf10 s10 => ?_
    have n10 := s10.next
    have s10c := s9c.trans s10.c
    have m10 := (s10.keep tc (by omega) hrt).trans m9
    have hv1 := ho10.one
    obtain ⟨x, hx⟩ : ∃ x : SbP, x = (⟨⟨nm.toArray⟩, k, cu.ml, cu.me, cu.h⟩, ⟨hv, hv1.1⟩) := ⟨_, rfl⟩
    have hxA : rwS.a x = [.str ⟨nm.toArray⟩, .int .u8 (k : Int), u64 cu.ml, u64 cu.me, hv] := by rw [hx]; rfl
    have hb7r : ∀ a, b7 = some a → a ≠ r ∧ a ≠ tc := fun a ha => by have := hb7 a ha; omega
    have k10 : ∀ a, a < σ7.next → a ≠ r → σ10.mem.get a = σ7.mem.get a := fun a ha hr => (s10.keep a (by omega) hr).trans ((s9.keep a (by omega) hr).trans (s8.keep a ha hr))
    have g10 : GS rwS σ10 v7 s b7 := g7.keep (by omega) fun a ha hab => k10 a ha (hb7r a hab).1
    have o10 : SbO σ6.next σ10 s := o7.frame (by omega) fun a ha hb _ => k10 a hb (by omega)
    have g11 : GS rwS ⟨σ10.mem.set σ10.next (.cells 5 (rwS.a x)), σ10.next + 1⟩ v7 s b7 := g10.keep (by simp) fun a ha _ => by simp [show ¬ a = σ10.next by omega]
    obtain ⟨σ11, f1, f2, f3, f4⟩ := gs_app1 g11 (nb := σ10.next) (by_ := 64) (t := true) (x := x) (by decide) (by simp) (fun e => by have := g10.lt e; omega) (by omega) (by omega)
    rw [hxA] at f1
    have k11 : ∀ a, a < σ10.next → b7 ≠ some a → σ11.mem.get a = σ10.mem.get a := fun a ha hb => by
      rw [f4 a (by show a < σ10.next + 1; omega) hb]
      simp [show ¬ a = σ10.next by omega]
    have m11 := (k11 tc (by omega) fun e => (hb7r _ e).2 rfl).trans m10
    simp [lk_cons, m10, fillL, storeL, repL, hv1, ↓f1, m11, w1]
    have n11 : σ11.next = σ10.next + 2 := by rw [f3]
    have r11 : RR σ11 r l10 c := h10.keep (by omega) fun a ha hac => k11 a ha fun e => by
      rcases hac with rfl | hac
      · exact (hb7r _ e).1 rfl
      · have := hcl a hac; have := hb7 a e; omega
    have hl10 : l10.length ≤ l9.length := pCu_len _ _ _ u4
    refine ⟨M - (i2 + 1), by omega, i2 + 1, l10, _, s ++ [x], some (σ10.next + 1), rfl, by omega, by simp [hsi], kR _ r11, by omega, ⟨by show σ6.next ≤ σ11.next; omega, fun a ha h1 h2 => ?_⟩, by simp, gt7.keep (by show σ7.next ≤ σ11.next; omega) fun a ha hab => ?_, f2.keep (Nat.le_refl _) fun a ha hab => ?_, fun p hp => ?_, fun z hz => ?_, ?_, by simp⟩
    · simp [h2]; exact (k11 a (by omega) fun e => by have := hb7 a e; omega).trans (s10c.keep a ha h1 h2)
    · have hb := hb6 a hab
      have hne : a ≠ tc := by omega
      simp [hne]
      exact (k11 a (by omega) fun e => by have := hb7 a e; omega).trans (k10 a ha (by omega))
    · have hab : σ10.next + 1 = a := Option.some.inj hab
      simp [show ¬ a = tc by omega]
    · have fr : ∀ {v : AVal} {h : List Hd}, HOut σ6.next σ10 v h → HOut σ6.next ⟨σ11.mem.set tc (.cells 5 [u64 (ep : Int), u64 (last : Int), v5, .sl (σ10.next + 1) 0 (s.length + 1) (s.length + 1) false, .nilsl]), σ11.next⟩ v h := fun hh => hh.frame2 (by show σ10.next ≤ σ11.next; omega) fun a ha hb hc => by
        simp [show ¬ a = tc by omega]
        refine k11 a hb fun e => ?_
        have := (e ▸ g10).blk
        obtain ⟨cs, hc⟩ := hc
        rw [this] at hc; cases hc
      rcases List.mem_append.1 hp with hp | hp
      · exact ⟨fr (o10 p hp).1, (o10 p hp).2⟩
      · rw [List.mem_singleton.1 hp, hx]
        exact ⟨fr (ho10.mono (by omega)), hf10⟩
    · have hz : σ10.next + 1 = z := Option.some.inj hz
      omega
    · rw [hr7, pSb, pTx, pB_assoc, pB_assoc, pB_ok u2, pB_pR, pB_assoc, pB_ok u3, pB_assoc, pB_ok u4, pB_pR, show M - (i2 + 1) = j by omega, hx]
      simp
  have : i2 = M := by omega
  subst this
  rw [Nat.sub_self] at hr7
  simp only [pMany, pB_pR, List.append_nil] at hr7
  have hrn : r < σ.next := q4
  have sS7 := sS6.trans s7
  simp [lk_cons]
  refine dtake_c h7 (by omega) (fun e σ' he hs => hT e σ' (by rw [hr7, pT5]; exact pB_err he) (sS7.trans hs.c)) fun Tb l8 tt mp σ8 u2 tr h8 s8 hge => ?_
  have n8 := s8.next
  have m8 := (s8.keep tc (by omega) hrt).trans m7
  simp [lk_cons]
  refine ACall.into (all_c tr ?_ _ fun nv ys σ9 bn p9 ris g9 hbn gr9 => ?_)
  · have := pTab_len u2
    omega
  have n9 := gr9.1
  have m9 := (gr9.2 tc (by omega)).trans m8
  have hnv := g9.one
  simp [lk_cons, m9, storeL, hnv]
  have k9 : ∀ a, a < σ7.next → a ≠ r → σ9.mem.get a = σ7.mem.get a := fun a ha hr => (gr9.2 a (by omega)).trans (s8.keep a ha hr)
  obtain ⟨F, hF⟩ : ∃ F : St, F = ⟨σ9.mem.set tc (.cells 5 [u64 (ep : Int), u64 (last : Int), v5, v7, nv]), σ9.next⟩ := ⟨_, rfl⟩
  have nF : F.next = σ9.next := by rw [hF]
  have kF : ∀ a, a ≠ tc → F.mem.get a = σ9.mem.get a := fun a ha => by rw [hF]; simp [ha]
  have mF : F.mem.get tc = some (.cells 5 [u64 (ep : Int), u64 (last : Int), v5, v7, nv]) := by rw [hF]; simp
  have rF : RR F r l8 c := by rw [hF]; exact kR _ (h8.grow gr9)
  rw [← hF]
  have gtF : GS rwD F v5 t b := gt7.keep (by omega) fun a ha hab => by
    have := hb6 a hab
    exact (kF a (by omega)).trans (k9 a ha (by omega))
  have gsF : GS rwS F v7 s b7 := g7.keep (by omega) fun a ha hab => by
    have := hb7 a hab
    exact (kF a (by omega)).trans (k9 a ha (by omega))
  have goF : SbO σ6.next F s := o7.frame (by omega) fun a ha hb _ => (kF a (by omega)).trans (k9 a hb (by omega))
  have gnF : GS rwL F nv ys bn := g9.keep (by omega) fun a ha hab => by
    have := hbn a hab
    exact kF a (by omega)
  have sF : RStpC r tc σ F := (sS7.trans (s8.c.trans gr9.rstpc)).trans ⟨by omega, fun a ha _ h2 => kF a h2⟩
  have hlt' := hti
  refine ACall.into (tpcheck_g (t := t) (s := s.map (·.1)) (cs := rws rwS s) ⟨by have := gtF.rd; rwa [rwsD] at this, by simpa using gsF.rd, goF.c⟩ ⟨by omega, hp5, by simp; omega, fun x hx => ?_⟩ (ep : Int) (last : Int) hnv.1 _ fun bb hbb => ?_)
  · obtain ⟨p, hp, rfl⟩ := List.mem_map.1 hx
    exact (goF p hp).2
  cases bb with
  | true =>
    have htp := hbb.1 rfl
    simp [lk_cons]
    refine hK ⟨ep, last, t, s.map (·.1), Tb⟩ l8 F (by rw [hr7, pT5, pB_ok u2, if_pos htp]) rF ⟨v5, v7, nv, b, b7, bn, s, ys, mF, gtF, gsF, rfl, fun p hp => ⟨((goF p hp).1).mono (by omega), (goF p hp).2⟩, gnF, p9, ris, fun z hz => ?_⟩ sF
    rcases hz with hz | hz | hz
    · have := hb6 z hz; omega
    · have := hb7 z hz; omega
    · have := hbn z hz; omega
  | false =>
    have htp : ¬ tpOk (last : Int) t (s.map (·.1)) := fun e => by have := hbb.2 e; cases this
    simp [lk_cons]
    refine fail_c (fun _ => ?_) fun e => by cases e
    exact hT 23 F (by rw [hr7, pT5, pB_ok u2, if_neg htp]) sF
end Go.Proofs.YticefdfhcahlfaaDoor.AM

namespace Go.Proofs.YticefdfhcahlfaaDoor.AM
open Go.RowKit
set_option maxRecDepth 100000
set_option linter.unusedVariables false
set_option linter.unusedSimpArgs false
theorem HOut.frz2 {lo lo' : Nat} {σ' : St} {v : AVal} {h : List Hd} (hh : HOut lo σ' v h) (hl : lo' ≤ lo) : ∃ hv, frzD lo' σ'.mem 2 v = some hv ∧ HI hv h := by
  rcases hh with ⟨rfl, rfl⟩ | ⟨o, cs, rfl, h2, h3, h4, h5, h6⟩
  · exact ⟨.nilsl, by simp [frzD], .inl ⟨rfl, rfl⟩⟩
  · obtain ⟨cs', k1, k2⟩ := h6.frz hl
    have hlen := h6.len
    refine ⟨.isl cs' h.length false, ?_, .inr ⟨cs', false, rfl, k2⟩⟩
    rw [frzD_sl (Nat.le_trans hl h3) h5 (by rw [hlen]; omega), List.drop_zero, List.take_of_length_le (by rw [hlen]; omega), k1]
    rfl
theorem GS.frz3 {α : Type} {k : Nat} {R : Rw α k} {σ : St} {v : AVal} {l : List α} {b : Option Nat} {lo : Nat} (h : GS R σ v l b) (hb : ∀ z, b = some z → lo ≤ z) {cs : List AVal} (hc : listM (frzD lo σ.mem 2) (rws R l) = some cs) : ∃ v', frzD lo σ.mem 3 v = some v' ∧ ∀ ρ, Rd k ρ v' l.length cs := by
  have hcl : cs.length = l.length * k := by rw [(listM_get hc).1, rws_len]
  rcases h with ⟨rfl, rfl, _⟩ | ⟨o, t, hbo, rfl, h3, h4⟩
  · exact ⟨.nilsl, by simp [frzD], fun ρ => ⟨hcl, .inl ⟨rfl, rfl⟩⟩⟩
  · refine ⟨.isl cs l.length (t && decide (l.length = l.length)), ?_, fun ρ => ⟨hcl, .inr (.inl ⟨_, rfl⟩)⟩⟩
    rw [frzD_sl (hb o hbo) h4 (by rw [rws_len]; omega), List.drop_zero, List.take_of_length_le (by rw [rws_len]; omega), hc]
    rfl
theorem ldc_frz (lo : Nat) (m : Mem) : ∀ t : List Ld, listM (frzD lo m 2) (rws rwD t) = some (ldc t)
  | [] => rfl
  | x :: t => by
    have ih := ldc_frz lo m t
    rw [rws_cons]
    show listM (frzD lo m 2) (u64 x.f0 :: .bool x.f1 :: u64 x.f2 :: rws rwD t) = _
    have e1 : ∀ b : Bool, frzD lo m 2 (.bool b) = some (.bool b) := fun b => by simp [frzD]
    have e2 : ∀ k (x : Int), frzD lo m 2 (.int k x) = some (.int k x) := fun k x => by simp [frzD]
    rw [listM_cons, e2, listM_cons, e1, listM_cons, e2, ih]
    rfl
theorem lns_frz (lo : Nat) (m : Mem) : ∀ t : Tbl, listM (frzD lo m 2) (rws rwL t) = some (rws rwL t)
  | [] => rfl
  | x :: t => by
    have ih := lns_frz lo m t
    rw [rws_cons]
    show listM (frzD lo m 2) (.str x.1 :: u64 (x.2.1 : Int) :: u64 (x.2.2.1 : Int) :: u64 (x.2.2.2.1 : Int) :: u64 (x.2.2.2.2 : Int) :: rws rwL t) = _
    have e1 : ∀ x : ByteArray, frzD lo m 2 (.str x) = some (.str x) := fun x => by simp [frzD]
    have e2 : ∀ k (x : Int), frzD lo m 2 (.int k x) = some (.int k x) := fun k x => by simp [frzD]
    rw [listM_cons, e1, listM_cons, e2, listM_cons, e2, listM_cons, e2, listM_cons, e2, ih]
    rfl
theorem sbs_frz {lo lo' : Nat} {σ : St} (hl : lo' ≤ lo) : ∀ {s : List SbP}, SbO lo σ s → ∃ cs, listM (frzD lo' σ.mem 2) (rws rwS s) = some cs ∧ SbI cs (s.map (·.1))
  | [], _ => ⟨[], rfl, trivial⟩
  | p :: s, h => by
    obtain ⟨cs, h1, h2⟩ := sbs_frz hl (s := s) fun q hq => h q (by simp [hq])
    obtain ⟨hv, h3, h4⟩ := (h p (by simp)).1.frz2 hl
    rw [rws_cons]
    refine ⟨.str p.1.name :: .int .u8 (p.1.kind : Int) :: u64 p.1.ml :: u64 p.1.me :: hv :: cs, ?_, ⟨rfl, rfl, rfl, rfl, h4⟩, h2⟩
    show listM (frzD lo' σ.mem 2) (.str p.1.name :: .int .u8 (p.1.kind : Int) :: u64 p.1.ml :: u64 p.1.me :: p.2.1 :: rws rwS s) = _
    have e1 : ∀ x : ByteArray, frzD lo' σ.mem 2 (.str x) = some (.str x) := fun x => by simp [frzD]
    have e2 : ∀ k (x : Int), frzD lo' σ.mem 2 (.int k x) = some (.int k x) := fun k x => by simp [frzD]
    rw [listM_cons, e1, listM_cons, e2, listM_cons, e2, listM_cons, e2, listM_cons, h3, h1]
    rfl
def tpZ : List AVal := [.int .u64 0, .int .u64 0, .nilsl, .nilsl, .nilsl]
def TpI (x : Tp) (ys : Tbl) (lv sv nv : AVal) (cs : List AVal) : Prop := (∀ σ, Rd 3 σ lv x.t.length (ldc x.t)) ∧ (∀ σ, Rd 5 σ sv x.s.length cs) ∧ SbI cs x.s ∧ (∀ σ, Rd 5 σ nv ys.length (rws rwL ys)) ∧ ys.Perm x.T ∧ RisL ys
def DecRel (l : List UInt8) (gv : AVal) (code : Nat) : Prop := (pTp l = .error code ∧ gv = .agg tpZ) ∨ (∃ x l', pTp l = .ok (x, l') ∧ l' ≠ [] ∧ gv = .agg tpZ ∧ code = 5) ∨ ∃ x lv sv nv cs ys, pTp l = .ok (x, []) ∧ gv = .agg [u64 (x.ep : Int), u64 (x.last : Int), lv, sv, nv] ∧ TpI x ys lv sv nv cs ∧ code = 0
theorem pFlag_err {l : List UInt8} {e : Nat} (h : pFlag l = .error e) : e ≠ 0 := by
  unfold pFlag at h
  rcases pB_inve h with h | ⟨x, m, h1, h2⟩
  · exact pNum_err h
  · split at h2
    · cases h2; decide
    · cases h2
theorem pLine_err {l : List UInt8} {e : Nat} (h : pLine l = .error e) : e ≠ 0 := by
  unfold pLine at h
  split at h
  · rename_i h1; cases h; exact pText_err h1
  · split at h
    · rename_i h1; cases h; exact pNum_err h1
    · split at h
      · rename_i h1; cases h; exact pNum_err h1
      · split at h
        · rename_i h1; cases h; exact pNum_err h1
        · cases h
theorem pLines_err : ∀ (n : Nat) (T : Tbl) (last : ByteArray) (l : List UInt8) (e : Nat), pLines n T last l = .error e → e ≠ 0
  | 0, T, _, l, e, h => by simp only [pLines] at h; cases h
  | n + 1, T, last, l, e, h => by
    simp only [pLines] at h
    split at h
    · rename_i h1; cases h; exact pLine_err h1
    · rename_i x l2 _
      by_cases hb : lnBad T last x = true
      · rw [if_pos hb] at h; cases h; decide
      · rw [if_neg hb] at h
        exact pLines_err n _ _ _ _ h
theorem pTab_err {l : List UInt8} {e : Nat} (h : pTab l = .error e) : e ≠ 0 := by
  unfold pTab at h
  split at h
  · rename_i h1; cases h; exact pNum_err h1
  · exact pLines_err _ _ _ _ _ h
theorem pSb_ne0 : ∀ l e, pSb l = .error e → e ≠ 0 := ne0 (ne0 (fun l e => pText_err) fun _ => pR_ne0 _) fun _ => ne0 (fun l e => pNum_err) fun _ => ne0 pCu_ne0 fun _ => pR_ne0 _
theorem pLd_ne0 : ∀ l e, pLd l = .error e → e ≠ 0 := ne0 (fun l e => pNum_err) fun _ => ne0 (fun l e => pFlag_err) fun _ => ne0 (fun l e => pNum_err) fun _ => pR_ne0 _
theorem pTp_ne0 : ∀ l e, pTp l = .error e → e ≠ 0 := ne0 (fun l e => pNum_err) fun _ => ne0 (fun l e => pNum_err) fun _ => ne0 (fun l e => pNum_err) fun n => ne0 (pMany_ne0 pLd_ne0 n) fun _ => ne0 (fun l e => pNum_err) fun n => ne0 (pMany_ne0 pSb_ne0 n) fun _ => ne0 (fun l e => pTab_err) fun _ l e h => by
  split at h
  · cases h
  · cases h; decide
theorem tpZ_frz (lo : Nat) (m : Mem) (e : Int) : frzD lo m 5 (.tup [.agg tpZ, i64 e]) = some (.tup [.agg tpZ, i64 e]) := by
  simp [frzD, tpZ]
set_option maxHeartbeats 4000000 in
theorem decode_c {σ : St} {bv : AVal} {l : List UInt8} {c : Option Nat} (hb : RdB σ bv l c) (hl : l.length ≤ 1000000) (Q : AVal → St → Prop) (hQ : ∀ gv code, DecRel l gv code → Q (.tup [gv, i64 (code : Nat)]) σ) : ACall Tryd.prog 27 [bv] σ Q := by
  refine ACall.freezeD 5 ?_
  refine ACall.of_compF hmx (fun a w => Tryd.call27 a w) Tryd.func27 cf27 (n := 1) (by decide) rfl ?_
  simp [ac27, rs27, lk_cons]
  obtain ⟨S, hS⟩ : ∃ S : St, S = ⟨(σ.mem.set σ.next (.cells 5 tpZ)).set (σ.next + 1) (.cells 5 tpZ), σ.next + 1 + 1⟩ := ⟨_, rfl⟩
  have nS : S.next = σ.next + 2 := by rw [hS]
  have kS : ∀ a, a < σ.next → S.mem.get a = σ.mem.get a := fun a ha => by rw [hS]; simp [show ¬ a = σ.next by omega, show ¬ a = σ.next + 1 by omega]
  have m2 : S.mem.get σ.next = some (.cells 5 tpZ) := by rw [hS]; simp
  have m4 : S.mem.get (σ.next + 1) = some (.cells 5 tpZ) := by rw [hS]; simp
  unfold tpZ at hS
  rw [← hS]
  refine read_h (X := Tp) (res := pTp l) (Post := fun x σ1 σ' => TpM (σ.next + 1) x σ1 σ') (hb.keep (by omega) fun a ha _ => kS a ha) (cell := σ.next + 1) (by omega) _ (fun T r σa K k1 k2 k3 k4 k5 => ?_) (fun e σb he hn hk => ?_) (fun x l' σa σb σc hx hpost hga hna hmem hnx hnab hkeep => ?_)
  · have htc := (k3.2 (σ.next + 1) (by omega)).trans m4
    exact decc_c k1 hl htc (by have := k3.1; omega) (by omega) (fun ec => by have := hb.lt ec; omega) (fun e σ' he hs => k4 e σ' he hs) fun x l' σ' h1 h2 h3 h4 => k5 x l' σ' h1 h2 h3 h4.next h4.keep
  · have he0 := pTp_ne0 _ _ he
    have he0' : ¬ (e : Int) = 0 := by omega
    have hm := (hk σ.next (by omega) (by omega)).trans m2
    unfold tpZ at hm
    simp [lk_cons, he0, he0', hm, storeL, fillL]
    refine ⟨fun a ha => ?_, _, tpZ_frz _ _ _, hQ _ e (.inl ⟨he, rfl⟩)⟩
    simp [show ¬ a = σ.next by omega]
    exact (hk a (by omega) (by omega)).trans (kS a ha)
  · obtain ⟨lv, sv, nv, bt, bs, bn, s, ys, z1, z2, z3, z4, z5, z6, z7, z8, z9⟩ := hpost
    have hm : σc.mem.get (σ.next + 1) = some (.cells 5 [u64 (x.ep : Int), u64 (x.last : Int), lv, sv, nv]) := (hmem (σ.next + 1) (by omega)).trans z1
    have hm2 : σc.mem.get σ.next = some (.cells 5 tpZ) := (hmem σ.next (by omega)).trans ((hkeep σ.next (by omega) (by omega)).trans m2)
    have gk : ∀ a, a < σ.next → σc.mem.get a = σ.mem.get a := fun a ha => by
      rw [hmem a (by omega), hkeep a (by omega) (by omega), kS a ha]
    unfold tpZ at hm2
    obtain ⟨o1, o2⟩ := z2.one
    obtain ⟨o3, o4⟩ := z3.one
    obtain ⟨o5, o6⟩ := z6.one
    cases l' with
    | nil =>
      simp [lk_cons, hm, hm2, storeL, o1, o3, o5]
      obtain ⟨F, hF⟩ : ∃ F : St, F = ⟨σc.mem.set σ.next (.cells 5 [u64 (x.ep : Int), u64 (x.last : Int), lv, sv, nv]), σc.next⟩ := ⟨_, rfl⟩
      have nF : F.next = σc.next := by rw [hF]
      have kF : ∀ a, a ≠ σ.next → F.mem.get a = σc.mem.get a := fun a ha => by rw [hF]; simp [ha]
      have eF : F.mem = σc.mem.set σ.next (.cells 5 [u64 (x.ep : Int), u64 (x.last : Int), lv, sv, nv]) := by rw [hF]
      rw [← hF, ← eF]
      have n1 := hga.1
      have kk : ∀ a, σa.next ≤ a → F.mem.get a = σb.mem.get a := fun a ha => (kF a (by omega)).trans (hmem a (by omega))
      have gl : GS rwD F lv x.t bt := z2.keep (by omega) fun a ha hab => kk a (z9 a (.inl hab))
      have gsb : GS rwS F sv s bs := z3.keep (by omega) fun a ha hab => kk a (z9 a (.inr (.inl hab)))
      have gn : GS rwL F nv ys bn := z6.keep (by omega) fun a ha hab => kk a (z9 a (.inr (.inr hab)))
      have go : SbO σa.next F s := z5.frame (by omega) fun a ha _ _ => kk a ha
      have up : ∀ {z}, σa.next ≤ z → σ.next ≤ z := fun h => by omega
      obtain ⟨lv', f1, r1⟩ := gl.frz3 (lo := σ.next) (fun z hz => up (z9 z (.inl hz))) (ldc_frz _ _ _)
      obtain ⟨cs, f2, r2⟩ := sbs_frz (lo' := σ.next) (show σ.next ≤ σa.next by omega) go
      obtain ⟨sv', f3, r3⟩ := gsb.frz3 (lo := σ.next) (fun z hz => up (z9 z (.inr (.inl hz)))) f2
      obtain ⟨nv', f4, r4⟩ := gn.frz3 (lo := σ.next) (fun z hz => up (z9 z (.inr (.inr hz)))) (lns_frz _ _ _)
      refine ⟨fun a ha => (kF a (by omega)).trans (gk a ha), .tup [.agg [u64 (x.ep : Int), u64 (x.last : Int), lv', sv', nv'], i64 0], ?_, hQ _ 0 (.inr (.inr ⟨x, lv', sv', nv', cs, ys, hx, rfl, ⟨r1, fun ρ => by rw [z4, List.length_map]; exact r3 ρ, by rw [z4]; exact r2, r4, z7, z8⟩, rfl⟩))⟩
      have e2 : ∀ k (x : Int), frzD σ.next F.mem 3 (.int k x) = some (.int k x) := fun k x => by simp [frzD]
      have e4 : frzD σ.next F.mem 4 (.int .i64 0) = some (.int .i64 0) := by simp [frzD]
      have ea : frzD σ.next F.mem 4 (.agg [u64 (x.ep : Int), u64 (x.last : Int), lv, sv, nv]) = some (.agg [u64 (x.ep : Int), u64 (x.last : Int), lv', sv', nv']) := by
        show (listM (frzD σ.next F.mem 3) [u64 (x.ep : Int), u64 (x.last : Int), lv, sv, nv]).map AVal.agg = _
        rw [listM_cons, e2, listM_cons, e2, listM_cons, f1, listM_cons, f3, listM_cons, f4]
        rfl
      show (listM (frzD σ.next F.mem 4) [.agg [u64 (x.ep : Int), u64 (x.last : Int), lv, sv, nv], i64 0]).map AVal.tup = _
      rw [listM_cons, ea, listM_cons, e4]
      rfl
    | cons y l' =>
      simp [lk_cons, hm, hm2, storeL, fillL]
      refine ⟨fun a ha => ?_, _, tpZ_frz _ _ _, hQ _ 5 (.inr (.inl ⟨x, y :: l', hx, by simp, rfl, rfl⟩))⟩
      simp [show ¬ a = σ.next by omega]
      exact gk a ha
end Go.Proofs.YticefdfhcahlfaaDoor.AM


namespace Go.Proofs.YticefdfhcahlfaaDoor.AM
open Go.RowKit
set_option maxRecDepth 100000
set_option linter.unusedVariables false
set_option linter.unusedSimpArgs false
def Mk2 (t : List Ld) : Prop := Mk t ∧ (∀ x ∈ t, 1 ≤ x.f0) ∧ ∀ i x, t[i]? = some x → x.f1 = false → x.f2 = 0 ∧ i + 1 = t.length
theorem mk2_true {t : List Ld} (h : Mk t) (h1 : ∀ x ∈ t, 1 ≤ x.f0 ∧ x.f1 = true) : Mk2 t := ⟨h, fun x hx => (h1 x hx).1, fun i x hx e => by
  have := (h1 x (List.mem_of_getElem? hx)).2
  rw [this] at e; cases e⟩
theorem mk2_last {m : List Ld} {a : Int} (h : Mk (m ++ [⟨a, false, 0⟩])) (h1 : ∀ x ∈ m, 1 ≤ x.f0 ∧ x.f1 = true) (ha : 1 ≤ a) : Mk2 (m ++ [⟨a, false, 0⟩]) := ⟨h, fun x hx => by
  rcases List.mem_append.1 hx with hx | hx
  · exact (h1 x hx).1
  · rw [List.mem_singleton.1 hx]; exact ha, fun i x hx e => by
  rcases Nat.lt_or_ge i m.length with hi | hi
  · rw [List.getElem?_append_left hi] at hx
    have := (h1 x (List.mem_of_getElem? hx)).2
    rw [this] at e; cases e
  · rw [List.getElem?_append_right hi] at hx
    have hi2 : i - m.length < 1 := by have := (List.getElem?_eq_some_iff.1 hx).1; simpa using this
    have : i = m.length := by omega
    subst this
    simp at hx
    subst hx
    exact ⟨rfl, by simp⟩⟩
theorem mk2_ok {t : List Ld} (h : Mk2 t) : ldOk t := by
  obtain ⟨⟨h1, h2, h3⟩, h4, h5⟩ := h
  refine ⟨by omega, fun i hi x hx => ?_⟩
  have hm := List.mem_of_getElem? hx
  have a1 := h4 x hm
  have a2 := h3 x hm
  refine ⟨by omega, by omega, fun y h0 hy => ?_, h5 i x hx⟩
  obtain ⟨i1, e1⟩ := List.getElem?_eq_some_iff.1 hx
  obtain ⟨i2, e2⟩ := List.getElem?_eq_some_iff.1 hy
  have := List.pairwise_iff_getElem.1 h2 (i - 1) i i2 i1 (by omega)
  rw [e1, e2] at this
  exact this
theorem can_ok : ∀ {l : List S25} {b : Int}, Can b l → rgOk l
  | [], _, _, i, hi, _, _ => by simp at hi
  | x :: l, b, h, 0, _, y, hy => by
    simp at hy; subst hy
    exact ⟨h.2.1, fun _ h0 => absurd h0 (by omega)⟩
  | x :: l, b, h, i + 1, hi, y, hy => by
    have ih := can_ok h.2.2 i (by simpa using hi) y (by simpa using hy)
    refine ⟨ih.1, fun z _ hz => ?_⟩
    cases i with
    | zero =>
      simp at hz; subst hz
      exact (can_mem h.2.2 y (List.mem_of_getElem? (by simpa using hy : l[0]? = some y))).1
    | succ i => exact ih.2 z (by omega) (by simpa using hz)
theorem hok_ix : ∀ {h : List Hd} {b : Int}, HOk b h → ∀ i x, h[i]? = some x → (b < x.f0 ∧ GoodR x.f1 ∧ x.f1 ≠ [] ∧ ofM x.f0 h = x.f1) ∧ ∀ y, 0 < i → h[i - 1]? = some y → y.f0 < x.f0
  | [], _, _, i, _, hx => by simp at hx
  | a :: h, b, hh, 0, x, hx => by
    simp at hx; subst hx
    obtain ⟨h1, h2, h3, h4⟩ := hh
    exact ⟨⟨h1, h2, h3, by simp [ofM]⟩, fun _ h0 => absurd h0 (by omega)⟩
  | a :: h, b, hh, i + 1, x, hx => by
    obtain ⟨h1, h2, h3, h4⟩ := hh
    obtain ⟨⟨e1, e2, e3, e4⟩, e5⟩ := hok_ix h4 i x (by simpa using hx)
    refine ⟨⟨by omega, e2, e3, ?_⟩, fun y _ hy => ?_⟩
    · rw [ofM, if_neg (by omega)]; exact e4
    · cases i with
      | zero => simp at hy; subst hy; exact e1
      | succ i => exact e5 y (by omega) (by simpa using hy)
theorem cok_ok {ml me : Int} {h : List Hd} (hc : COk ml me h) : cuOk ml me h := fun i hi x hx => by
  obtain ⟨⟨e1, e2, e3, e4⟩, e5⟩ := hok_ix hc.1 i x hx
  refine ⟨e3, can_ok e2.1, e5, fun z hz => ?_⟩
  have hzm := List.mem_of_getElem? hz
  have := hc.2.2 x.f0 z.f0 (by rw [e4]; exact ⟨z, hzm, by omega, (can_mem e2.1 z hzm).2⟩)
  rw [ord_lt]
  omega
def MdX (d : AVal) (op : Bool) (l : List UInt8) (σ0 : St) (mm : Nat) (rg : Regs) (σ' : St) : Prop := ∃ (i : Nat) (ov : AVal) (acc : List Ld) (id : Int), mm = l.length - i ∧ i ≤ l.length ∧ i ≤ 13 ∧ acc.length = i ∧ (Mk acc ∧ ∀ x ∈ acc, 1 ≤ x.f0 ∧ x.f1 = true) ∧ (∀ x ∈ acc, x.f0 ≤ id) ∧ 0 ≤ id ∧ id ≤ 4 * (i : Int) ∧ Grow σ0 σ' ∧ LOut σ0.next σ' ov acc ∧ rg = [(1, .bool op), (5, ov), (6, u64 id), (10, d), (11, i64 l.length), (12, i64 i)]
set_option maxHeartbeats 1000000 in
theorem made13_x {d : AVal} {l : List UInt8} (hb : BytesOf d l) (hl : l.length ≤ 9223372036854775806) (op : Bool) (σ : St) (Q : AVal → St → Prop) (hq : ∀ v t σ', LOut σ.next σ' v t → Mk2 t → Grow σ σ' → Q v σ') : ACall Tryd.prog 29 [d, .bool op] σ Q := by
  refine ACall.of_compF hmx (fun a w => Tryd.call29 a w) Tryd.func29 cf29 (n := 2) (by decide) rfl ?_
  have l1 := hb.len
  simp only [ac29, rs29]
  refine wp_cut (fun rg s => rg = [(0, d), (1, .bool op)] ∧ s = σ) (by simp [lk_cons]) ?_
  rintro _ s ⟨rfl, hs⟩
  rw [hs]
  clear hs s
  refine wp_cut (fun rg s => rg = [(0, d), (1, .bool op), (5, .nilsl)] ∧ s = σ) (by simp [lk_cons]) ?_
  rintro _ s ⟨rfl, hs⟩
  rw [hs]
  clear hs s
  refine wp_cut (fun rg s => rg = [(0, d), (1, .bool op), (5, .nilsl), (6, u64 0)] ∧ s = σ) (by simp [lk_cons]) ?_
  rintro _ s ⟨rfl, hs⟩
  rw [hs]
  clear hs s
  refine wp_cut (fun rg s => ∃ ov acc, (Mk acc ∧ ∀ x ∈ acc, 1 ≤ x.f0 ∧ x.f1 = true) ∧ Grow σ s ∧ LOut σ.next s ov acc ∧ rg.lookup 1 = some (.bool op) ∧ rg.lookup 5 = some ov) ?_ ?_
  · simp [lk_cons, ↓l1]
    refine wp_loop (MdX d op l σ) l.length ?_ ?_
    · exact ⟨0, .nilsl, [], 0, rfl, Nat.zero_le _, by omega, rfl, ⟨⟨by simp, by simp [RisingP], by simp⟩, by simp⟩, by simp, by omega, by omega, Grow.refl _, .inl ⟨rfl, rfl⟩, rfl⟩
    · rintro mm rg σ' ⟨i, ov, acc, id, rfl, hi, hi13, hal, ⟨hmk, hone⟩, hid, hid0, hid4, hg, ho, rfl⟩
      by_cases hlt : i < l.length
      · by_cases h12 : i = 13
        · obtain ⟨x, hx⟩ : ∃ x, l[i]? = some x := ⟨_, List.getElem?_eq_getElem hlt⟩
          obtain ⟨p, p1, p2⟩ := hb.at14 hx σ'
          have c12 : (12 : Int) < (i : Int) := by omega
          simp [lk_cons, hlt, ↓p1, ↓p2, c12]
          exact ⟨ov, acc, ⟨hmk, hone⟩, hg, ho, rfl⟩
        · obtain ⟨x, hx⟩ : ∃ x, l[i]? = some x := ⟨_, List.getElem?_eq_getElem hlt⟩
          obtain ⟨k, hk⟩ : ∃ k, i + 1 = k := ⟨_, rfl⟩
          have w1 : IntKind.i64.wrap ((i : Int) + 1) = (k : Int) := by rw [IntWalk.i64_in] <;> omega
          have c12 : ¬ (12 : Int) < (i : Int) := by omega
          obtain ⟨p, p1, p2⟩ := hb.at14 hx σ'
          have xb : x.toNat < 256 := x.toNat_lt
          simp [lk_cons, hlt, ↓p1, ↓p2, c12]
          have q1 : IntKind.u8.wrap ((x.toNat : Int) / 64) = (x.toNat : Int) / 64 := by rw [IntWalk.u8_in]; omega
          have q2 : IntKind.u64.wrap ((x.toNat : Int) / 64) = (x.toNat : Int) / 64 := by rw [IntWalk.u64_in]; omega
          have q3 : IntKind.u64.wrap (1 + (x.toNat : Int) / 64) = 1 + (x.toNat : Int) / 64 := by rw [IntWalk.u64_in]; omega
          have q4 : IntKind.u64.wrap (id + (1 + (x.toNat : Int) / 64)) = id + (1 + (x.toNat : Int) / 64) := by rw [IntWalk.u64_in]; omega
          have q5 : Int.tmod (x.toNat : Int) 6 = (x.toNat : Int) % 6 := Int.tmod_eq_emod_of_nonneg (by omega)
          have q6 : IntKind.u64.wrap ((x.toNat : Int) % 6) = (x.toNat : Int) % 6 := by rw [IntWalk.u64_in]; omega
          obtain ⟨w, ρ', e1, e2, e3, e4⟩ := lout_app (b := σ'.next) (ρ0 := σ') (ρ := ⟨σ'.mem.set σ'.next (.cells 3 [u64 (id + (1 + (x.toNat : Int) / 64)), .bool true, u64 ((x.toNat : Int) % 6)]), σ'.next + 1⟩) ho (fun a ha hb => by simp [show ¬ a = σ'.next by omega]) (by simp) (by omega) ⟨id + (1 + (x.toNat : Int) / 64), true, (x.toNat : Int) % 6⟩ (by simp) hg.1
          simp [lk_cons, hlt, ↓p1, ↓p2, c12, q1, q2, q3, q4, q5, q6, fillL, storeL, repL, ↓e1, w1]
          refine ⟨l.length - k, by omega, k, w, acc ++ [⟨id + (1 + (x.toNat : Int) / 64), true, (x.toNat : Int) % 6⟩], id + (1 + (x.toNat : Int) / 64), rfl, by omega, by omega, by simp; omega, ⟨⟨by simp; omega, ?_, fun y hy => ?_⟩, fun y hy => ?_⟩, fun y hy => ?_, ?_, ?_, ⟨by rw [e3]; have := hg.1; simp; omega, fun a ha => ?_⟩, e2, rfl⟩
          · unfold RisingP
            rw [List.pairwise_append]
            refine ⟨hmk.2.1, by simp, fun a ha b hb => ?_⟩
            rw [List.mem_singleton.1 hb]
            have := hid a ha
            show a.f0 < id + (1 + (x.toNat : Int) / 64)
            omega
          · rcases List.mem_append.1 hy with hy | hy
            · exact hmk.2.2 y hy
            · rw [List.mem_singleton.1 hy]
              show (0 ≤ id + (1 + (x.toNat : Int) / 64) ∧ id + (1 + (x.toNat : Int) / 64) ≤ 52) ∧ 0 ≤ (x.toNat : Int) % 6 ∧ (x.toNat : Int) % 6 ≤ 5
              omega
          · rcases List.mem_append.1 hy with hy | hy
            · exact hone y hy
            · rw [List.mem_singleton.1 hy]
              exact ⟨by show 1 ≤ id + (1 + (x.toNat : Int) / 64); omega, rfl⟩
          · rcases List.mem_append.1 hy with hy | hy
            · have := hid y hy; omega
            · rw [List.mem_singleton.1 hy]; exact Int.le_refl _
          · omega
          · omega
          · rw [e4 a ha]
            have := hg.1
            simp [show ¬ a = σ'.next by omega]
            exact hg.2 a ha
      · have : i = l.length := by omega
        subst this
        simp [lk_cons]
        exact ⟨ov, acc, ⟨hmk, hone⟩, hg, ho, rfl⟩
  · rintro rg s ⟨ov, acc, ⟨hmk, hone⟩, hg, ho, r1, r5⟩
    have l2 := ho.len
    cases op with
    | false =>
      simp [lk_cons, r1, r5, ↓l2]
      exact hq ov acc s ho (mk2_true hmk hone) hg
    | true =>
      rcases List.eq_nil_or_concat acc with rfl | ⟨m, x, rfl⟩
      · simp [lk_cons, r1, r5, ↓l2]
        exact hq ov [] s ho (mk2_true hmk hone) hg
      · rw [List.concat_eq_append] at *
        obtain ⟨k1, k2, k3⟩ := hmk
        have hml : m.length ≤ 12 := by simp at k1; omega
        have l3 : ∀ ρ : St, evalV ρ (.len 1 ov) = some (i64 ((m.length : Int) + 1), ρ) := fun ρ => by rw [l2]; simp
        have c1 : (0 : Int) < (m.length : Int) + 1 := by omega
        have w1 : IntKind.i64.wrap (m.length : Int) = (m.length : Int) := by rw [IntWalk.i64_in] <;> omega
        rcases ho with ⟨_, h0⟩ | ⟨o, rfl, h0, h1, h2, h3⟩
        · simp at h0
        · have c2 : (m.length : Int) < (m.length : Int) + 1 := by omega
          have e1 : (ldc m ++ [u64 x.f0, .bool x.f1, u64 x.f2]).set (m.length * 3 + 1) (.bool false) = ldc m ++ [u64 x.f0, .bool false, u64 x.f2] := by
            rw [← ldc_len m, List.set_append_right _ _ (by omega)]; simp
          simp [lk_cons, r1, r5, c1, w1, h3, ldc_app, ldc, ldc_len, c2, storeL, e1]
          have e2 : ldc m ++ [u64 x.f0, .bool false, .int .u64 0] = ldc (m ++ [⟨x.f0, false, 0⟩]) := by rw [ldc_app]; rfl
          rw [e2]
          have ho2 : LOut σ.next ⟨(s.mem.set o (.cells 3 (ldc m ++ [u64 x.f0, .bool false, u64 x.f2]))).set o (.cells 3 (ldc (m ++ [⟨x.f0, false, 0⟩]))), s.next⟩ (.sl o 0 (m.length + 1) (m.length + 1) false) (m ++ [⟨x.f0, false, 0⟩]) := .inr ⟨o, by simp, by simp, h1, h2, by simp⟩
          refine hq _ _ _ ho2 (mk2_last ⟨by simp; omega, ?_, fun y hy => ?_⟩ (fun y hy => hone y (by simp [hy])) (hone x (by simp)).1) ⟨hg.1, fun a ha => ?_⟩
          · unfold RisingP at k2 ⊢
            rw [List.pairwise_append] at k2 ⊢
            refine ⟨k2.1, by simp, fun a ha b hb => ?_⟩
            rw [List.mem_singleton.1 hb]
            exact k2.2.2 a ha x (by simp)
          · rcases List.mem_append.1 hy with hy | hy
            · exact k3 y (by simp [hy])
            · rw [List.mem_singleton.1 hy]
              have := k3 x (by simp)
              exact ⟨this.1, by show (0 : Int) ≤ 0; omega, by show (0 : Int) ≤ 5; omega⟩
          · simp [show ¬ a = o by omega]; exact hg.2 a ha
end Go.Proofs.YticefdfhcahlfaaDoor.AM

namespace Go.Proofs.YticefdfhcahlfaaDoor.AM
open Go.RowKit
set_option maxRecDepth 100000
set_option linter.unusedVariables false
set_option linter.unusedSimpArgs false
def SbK (j : Nat) (p : SbP) : Prop := p.1.name = ⟨#[UInt8.ofNat (97 + j)]⟩ ∧ (1 ≤ p.1.kind ∧ p.1.kind ≤ 4) ∧ cuOk p.1.ml p.1.me p.1.h
def LnK (j : Nat) (x : ByteArray × Ln) : Prop := x.1 = ⟨#[112, UInt8.ofNat (97 + j)]⟩ ∧ x.2.1 = x.2.2.1 ∧ x.2.2.1 ≠ 0
theorem ix_snoc {α : Type} {P : Nat → α → Prop} {l : List α} {x : α} (h : ∀ j p, l[j]? = some p → P j p) (hx : P l.length x) : ∀ j p, (l ++ [x])[j]? = some p → P j p := fun j p hj => by
  rcases Nat.lt_or_ge j l.length with hi | hi
  · rw [List.getElem?_append_left hi] at hj; exact h j p hj
  · rw [List.getElem?_append_right hi] at hj
    have hi2 : j - l.length < 1 := by have := (List.getElem?_eq_some_iff.1 hj).1; simpa using this
    have : j = l.length := by omega
    subst this
    simp at hj
    subst hj
    exact hx
structure MX (lo : Nat) (σ : St) (last : Nat) (t : List Ld) (s : List SbP) (T : Tbl) (lv sv nv : AVal) (bs bn : Option Nat) : Prop extends MT lo σ last t s T lv sv nv bs bn where
  tk : Mk2 t
  tlast : ∀ x, t[t.length - 1]? = some x → x.f0 ≤ (last : Int)
  sk : ∀ j p, s[j]? = some p → SbK j p
  nk : ∀ j x, T[j]? = some x → LnK j x
def MsX (p q : Nat) (sv : AVal) (s : List SbV) (S : St) (mm : Nat) (rg : Regs) (σ' : St) : Prop := ∃ (i : Nat) (v : AVal) (l : List SbP) (b : Option Nat), mm = s.length - i ∧ i ≤ s.length ∧ GS rwS σ' v l b ∧ l.length ≤ i ∧ l.length ≤ 2 ∧ ((∀ x ∈ l, Sm x.1 ∧ HI x.2.1 x.1.h) ∧ (i ≤ 2 → l.length = i) ∧ ∀ j p, l[j]? = some p → SbK j p) ∧ BStp none b S σ' ∧ rg = [(3, .ptr p 0), (6, .ptr q 0), (8, v), (36, sv), (37, i64 s.length), (38, i64 i)]
def MlX (p q : Nat) (sv nv : AVal) (T : Tbl) (S : St) (mm : Nat) (rg : Regs) (σ' : St) : Prop := ∃ (i : Nat) (v : AVal) (l : Tbl) (b : Option Nat), mm = T.length - i ∧ i ≤ T.length ∧ GS rwL σ' v l b ∧ l.length ≤ i ∧ l.length ≤ 16 ∧ ((∀ x ∈ l, LnOk x) ∧ (i ≤ 16 → l.length = i) ∧ ∀ j x, l[j]? = some x → LnK j x) ∧ BStp none b S σ' ∧ rg = [(3, .ptr p 0), (6, .ptr q 0), (8, sv), (11, v), (63, nv), (64, i64 T.length), (65, i64 i)]
set_option maxHeartbeats 4000000 in
theorem made_x {σ : St} {lv sv nv d : AVal} {l : List UInt8} {t : List Ld} {s : List SbV} {cs : List AVal} {T : Tbl} {ep last : Nat} (hlv : lv.one = true ∧ cellsOf lv = [lv]) (hs : Rd 5 σ sv s.length cs) (hI : SbI cs s) (hn : Rd 5 σ nv T.length (rws rwL T)) (hsl : s.length ≤ 1000) (hTl : T.length ≤ 1000) (hsb : ∀ x ∈ s, (In64 x.ml ∧ In64 x.me) ∧ x.kind < 256 ∧ HArg x.h) (hT : ∀ x ∈ T, LnOk x) (hlast : last < 18446744073709551616) (hd : BytesOf d l) (hl : l.length ≤ 9223372036854775806) (op : Bool) (Q : AVal → St → Prop)
    (hQ : ∀ last' t' s' T' lv' sv' nv' bs bn σ', MX σ.next σ' last' t' s' T' lv' sv' nv' bs bn → Grow σ σ' → Q (.agg [u64 (ep : Int), u64 (last' : Int), lv', sv', nv']) σ') : ACall Tryd.prog 12 [.agg [u64 (ep : Int), u64 (last : Int), lv, sv, nv], d, .bool op] σ Q := by
  refine ACall.of_compF hmx (fun a w => Tryd.call12 a w) Tryd.func12 cf12 (n := 3) (by decide) rfl ?_
  obtain ⟨o1, o2⟩ := hlv
  obtain ⟨o3, o4⟩ := hs.one
  obtain ⟨o5, o6⟩ := hn.one
  simp only [ac12, rs12]
  simp [lk_cons, o1, o2, o3, o4, o5, o6]
  obtain ⟨S, hS⟩ : ∃ S : St, S = ⟨(σ.mem.set σ.next (.cells 5 [u64 (ep : Int), u64 (last : Int), lv, sv, nv])).set (σ.next + 1) (.cells 5 [.int .u64 0, .int .u64 0, .nilsl, .nilsl, .nilsl]), σ.next + 1 + 1⟩ := ⟨_, rfl⟩
  have gS : Grow σ S := ⟨by rw [hS]; show σ.next ≤ σ.next + 1 + 1; omega, fun a ha => by rw [hS]; simp [show ¬ a = σ.next by omega, show ¬ a = σ.next + 1 by omega]⟩
  have nS : S.next = σ.next + 2 := by rw [hS]
  have mS : S.mem.get σ.next = some (.cells 5 [u64 (ep : Int), u64 (last : Int), lv, sv, nv]) := by rw [hS]; simp
  have mS2 : S.mem.get (σ.next + 1) = some (.cells 5 [.int .u64 0, .int .u64 0, .nilsl, .nilsl, .nilsl]) := by rw [hS]; simp
  try rw [← hS]
  refine made13_x hd hl op S _ fun lv' t' σ1 h1 hmk2 g1 => ?_
  have hmk := hmk2.1
  have m1 := (g1.2 σ.next (by omega)).trans mS
  have m1q := (g1.2 (σ.next + 1) (by omega)).trans mS2
  have n1 := g1.1
  have ho1 : lv'.one = true ∧ cellsOf lv' = [lv'] := by
    rcases h1 with ⟨rfl, _⟩ | ⟨o, rfl, _⟩ <;> simp
  obtain ⟨q1, q2⟩ := ho1
  have hlen := h1.len
  simp [lk_cons, m1, storeL, q1, q2, ↓hlen]
  obtain ⟨S1, hS1⟩ : ∃ S1 : St, S1 = ⟨σ1.mem.set σ.next (.cells 5 [u64 (ep : Int), u64 (last : Int), lv', sv, nv]), σ1.next⟩ := ⟨_, rfl⟩
  have nS1 : S1.next = σ1.next := by rw [hS1]
  have mS1 : S1.mem.get σ.next = some (.cells 5 [u64 (ep : Int), u64 (last : Int), lv', sv, nv]) := by rw [hS1]; simp
  have kS1 : ∀ a, a ≠ σ.next → S1.mem.get a = σ1.mem.get a := fun a ha => by rw [hS1]; simp [ha]
  rw [← hS1]
  have hO1 : LOut (σ.next + 2) S1 lv' t' := by
    rcases h1 with h | ⟨o, h0, h1, h2, h3, h4⟩
    · exact .inl h
    · exact .inr ⟨o, h0, h1, by omega, by omega, (kS1 o (by omega)).trans h4⟩
  refine condK_mid (fun rg s => ∃ last2 : Nat, last2 < 18446744073709551616 ∧ s.next = S1.next ∧ s.mem.get σ.next = some (.cells 5 [u64 (ep : Int), u64 (last2 : Int), lv', sv, nv]) ∧ (∀ a, a ≠ σ.next → s.mem.get a = S1.mem.get a) ∧ (∀ x, t'[t'.length - 1]? = some x → x.f0 ≤ (last2 : Int)) ∧ rg.lookup 3 = some (.ptr σ.next 0) ∧ rg.lookup 6 = some (.ptr (σ.next + 1) 0)) ?_ ?_
  · by_cases h0 : 0 < t'.length
    · have w1 : IntKind.i64.wrap ((t'.length : Int) - 1) = ((t'.length - 1 : Nat) : Int) := by have := hmk.1; rw [IntWalk.i64_in] <;> omega
      obtain ⟨x, hx⟩ : ∃ x, t'[t'.length - 1]? = some x := ⟨_, List.getElem?_eq_getElem (by omega)⟩
      have hxm := (hmk.2.2 x (List.mem_of_getElem? hx)).1
      obtain ⟨P, p1, p2, pf⟩ := hO1.rd.at (show t'.length - 1 < t'.length by omega) (ρ := S1) (fun _ _ => rfl)
      obtain ⟨P0, f1, _, f2⟩ := pf 0 1 (by decide)
      have f2 := f2 _ (by decide) (ldc_take hx).2.1
      simp [lk_cons, h0, mS1, w1, ↓p1, ↓f1, ↓f2, storeL, hx]
      by_cases hc : (last : Int) < x.f0
      · rw [if_pos hc]
        exact ⟨x.f0.toNat, by omega, by congr 1; omega, fun a h1 h2 => absurd h2 h1, by omega⟩
      · rw [if_neg hc]
        exact ⟨last, hlast, rfl, fun a h1 h2 => absurd h2 h1, by omega⟩
    · have ht0 : t' = [] := List.eq_nil_of_length_eq_zero (by omega)
      simp [lk_cons, h0]
      exact ⟨last, hlast, mS1, fun x hx => by rw [ht0] at hx; simp at hx⟩
  rintro rg W ⟨last2, hl2, sn, sm, sk, hlk, r3, r6⟩
  have hO2 : LOut (σ.next + 2) W lv' t' := by
    rcases hO1 with h | ⟨o, h0, h1, h2, h3, h4⟩
    · exact .inl h
    · exact .inr ⟨o, h0, h1, h2, by omega, (sk o (by omega)).trans h4⟩
  have gs : ∀ a, a < σ.next → W.mem.get a = σ.mem.get a := fun a ha => (sk a (by omega)).trans ((kS1 a (by omega)).trans ((g1.2 a (by omega)).trans (gS.2 a ha)))
  have smq : W.mem.get (σ.next + 1) = some (.cells 5 [.int .u64 0, .int .u64 0, .nilsl, .nilsl, .nilsl]) := (sk _ (by omega)).trans ((kS1 _ (by omega)).trans m1q)
  have nW : σ.next + 2 ≤ W.next := by omega
  have hss := hs.frame (σ' := W) (by omega) gs
  have hnn := hn.frame (σ' := W) (by omega) gs
  have l1 := hs.len
  have l2 := hn.len
  simp [lk_cons, r3, r6, sm, ↓l1]
  refine wp_loop (MsX σ.next (σ.next + 1) sv s W) s.length ?_ ?_
  · exact ⟨0, .nilsl, [], none, rfl, Nat.zero_le _, GS.nil _, by simp, by simp, by simp, BStp.refl none W, rfl⟩
  rintro mm rg σ2 ⟨i, v2, l2s, b2, rfl, hi, h2, hl2i, hl22, hm2, t2, rfl⟩
  have g2 := t2.grow0
  have n2 := g2.1
  by_cases hlt : i < s.length
  · obtain ⟨x, hx⟩ : ∃ x, s[i]? = some x := ⟨_, List.getElem?_eq_getElem hlt⟩
    have hxb := hsb x (List.mem_of_getElem? hx)
    have w1 : IntKind.i64.wrap ((i : Int) + 1) = ((i + 1 : Nat) : Int) := by rw [IntWalk.i64_in] <;> omega
    obtain ⟨p, p1, p2, _⟩ := hss.at hlt (ρ := σ2) g2.2
    obtain ⟨hv, c1, c2⟩ := hI.get hx
    rw [c2] at p2
    simp only [sbA] at p2
    have hv1 := c1.one
    obtain ⟨S2, hS2⟩ : ∃ S : St, S = ⟨(σ2.mem.set σ2.next (.cells 5 [.str ⟨#[]⟩, .int .u8 0, .int .u64 0, .int .u64 0, .nilsl])).set σ2.next (.cells 5 [.str x.name, .int .u8 (x.kind : Int), u64 x.ml, u64 x.me, hv]), σ2.next + 1⟩ := ⟨_, rfl⟩
    have gS2 : Grow σ2 S2 := ⟨by rw [hS2]; exact Nat.le_succ _, fun a ha => by rw [hS2]; simp [show ¬ a = σ2.next by omega]⟩
    have nS2 : S2.next = σ2.next + 1 := by rw [hS2]
    have mS2 : S2.mem.get σ2.next = some (.cells 5 [.str x.name, .int .u8 (x.kind : Int), u64 x.ml, u64 x.me, hv]) := by rw [hS2]; simp
    by_cases h2i : i < 2
    · have h2i' : (i : Int) < 2 := by omega
      have hli : l2s.length = i := hm2.2.1 (by omega)
      have wa : IntKind.i64.wrap (97 + (i : Int)) = 97 + (i : Int) := by rw [IntWalk.i64_in] <;> omega
      have wb : IntKind.u8.wrap (97 + (i : Int)) = 97 + (i : Int) := by rw [IntWalk.u8_in]; omega
      obtain ⟨S3, hS3⟩ : ∃ S : St, S = ⟨((σ2.mem.set σ2.next (.cells 5 [.str ⟨#[]⟩, .int .u8 0, .int .u64 0, .int .u64 0, .nilsl])).set σ2.next (.cells 5 [.str x.name, .int .u8 (x.kind : Int), u64 x.ml, u64 x.me, hv])).set (σ2.next + 1) (.cells 1 [.int .u8 (97 + (i : Int))]), σ2.next + 1 + 1⟩ := ⟨_, rfl⟩
      have gS3 : Grow S2 S3 := ⟨by rw [hS2, hS3]; exact Nat.le_succ _, fun a ha => by rw [hS3, hS2]; simp [show ¬ a = σ2.next + 1 by rw [hS2] at ha; exact Nat.ne_of_lt ha]⟩
      have nS3 : S3.next = σ2.next + 2 := by rw [hS3]
      have mS3 := (gS3.2 _ (by omega)).trans mS2
      obtain ⟨nb, hnb⟩ : ∃ nb : UInt8, nb = UInt8.ofNat (97 + i) := ⟨_, rfl⟩
      have hnb2 : (nb.toNat : Int) = 97 + (i : Int) := by rw [hnb]; simp; omega
      have e3 := (RdB.ofGS (σ := S3) (v := .sl (σ2.next + 1) 0 1 1 true) (l := [nb]) (b := some (σ2.next + 1)) (.inr ⟨σ2.next + 1, true, rfl, rfl, by omega, by rw [hS3]; simp [rwsB, bytesV, hnb2]⟩)).str
      have e3s := e3
      rw [hS3] at e3
      have e4 : Int.tmod (x.kind : Int) 4 = (x.kind : Int) % 4 := Int.tmod_eq_emod_of_nonneg (by omega)
      have wk : IntKind.u8.wrap (1 + (x.kind : Int) % 4) = ((1 + x.kind % 4 : Nat) : Int) := by rw [IntWalk.u8_in] <;> omega
      simp [lk_cons, hlt, ↓p1, ↓p2, storeL, hv1, h2i, h2i', fillL, repL, wa, wb, ↓e3, e4, wk]
      rw [← hS3]
      refine right14_c c1 hxb.2.2 x.ml x.me false ⟨⟨hxb.1.1.1, by have := hxb.1.1.2; omega⟩, hxb.1.2.1, by have := hxb.1.2.2; omega⟩ S3 _ fun ml' me' hv' H' hml hme hH hC h7 h14 => ?_
      have k1 := hH.one.1
      have k2 := hH.one.2
      obtain ⟨hsm, hfew⟩ := HSm.ofC hC h7 h14
      obtain ⟨pp, hpp⟩ : ∃ pp : SbP, pp = (⟨⟨[nb].toArray⟩, 1 + x.kind % 4, ml', me', H'⟩, ⟨hv', k1⟩) := ⟨_, rfl⟩
      have hppA : rwS.a pp = [.str ⟨[nb].toArray⟩, .int .u8 ((1 + x.kind % 4 : Nat) : Int), u64 ml', u64 me', hv'] := by rw [hpp]; rfl
      have hg3 := gS2.trans gS3
      have g4 : GS rwS ⟨S3.mem.set S3.next (.cells 5 (rwS.a pp)), S3.next + 1⟩ v2 l2s b2 := (h2.grow hg3).keep (by simp) fun a ha _ => by simp [show ¬ a = S3.next by omega]
      obtain ⟨σ4, f1, f2, f3, f4⟩ := gs_app1 g4 (nb := S3.next) (by_ := 64) (t := true) (x := pp) (by decide) (by simp) (fun e => by have := h2.lt e; omega) (by omega) (by omega)
      rw [hppA] at f1
      push_cast at f1
      simp [lk_cons, mS3, ↓e3s, e4, wk, k1, k2, storeL, fillL, repL, ↓f1, w1]
      refine ⟨s.length - (i + 1), by omega, i + 1, _, l2s ++ [pp], some (S3.next + 1), rfl, by omega, f2, by simp; omega, by simp; omega, ⟨fun y hy => ?_, fun _ => by simp; omega, ix_snoc hm2.2.2 (by rw [hli, hpp]; exact ⟨by rw [hnb], ⟨by show 1 ≤ 1 + x.kind % 4; omega, by show 1 + x.kind % 4 ≤ 4; omega⟩, cok_ok hC⟩)⟩, (t2.trans (BStp.ofG b2 hg3)).trans ⟨by rw [f3]; show _ ≤ S3.next + 1 + 1; omega, fun z hz => ?_, fun a ha hb => ?_⟩, by simp⟩
      · rcases List.mem_append.1 hy with hy | hy
        · exact hm2.1 y hy
        · rw [List.mem_singleton.1 hy, hpp]
          exact ⟨⟨by show 1 ≤ 200; omega, by show 1 + x.kind % 4 < 256; omega, ⟨⟨hml.1, by show ml' < _; omega⟩, hme.1, by show me' < _; omega⟩, hsm, hfew⟩, hH⟩
      · cases hz; exact .inr (by omega)
      · rw [f4 a (by show a < S3.next + 1; omega) hb]
        simp [show ¬ a = S3.next by omega]
    · have h2i' : ¬ (i : Int) < 2 := by omega
      simp [lk_cons, hlt, ↓p1, ↓p2, storeL, hv1, h2i, h2i', w1]
      rw [← hS2]
      exact ⟨s.length - (i + 1), by omega, i + 1, v2, l2s, b2, rfl, by omega, h2.grow gS2, by omega, hl22, ⟨hm2.1, fun h => by omega, hm2.2.2⟩, t2.trans (BStp.ofG b2 gS2), rfl⟩
  have : i = s.length := by omega
  subst this
  have m2 := (g2.2 σ.next (by omega)).trans sm
  have m2q := (g2.2 (σ.next + 1) (by omega)).trans smq
  simp [lk_cons, m2, ↓l2]
  have nb2 : ∀ x, b2 = some x → W.next ≤ x ∧ x < σ2.next := fun x hx => ⟨(t2.own x hx).resolve_left (by simp), h2.lt hx⟩
  have hn2 := hnn.frame (σ' := σ2) n2 g2.2
  refine wp_loop (MlX σ.next (σ.next + 1) v2 nv T σ2) T.length ?_ ?_
  · exact ⟨0, .nilsl, [], none, rfl, Nat.zero_le _, GS.nil _, by simp, by simp, by simp, BStp.refl none σ2, rfl⟩
  rintro mm rg σ3 ⟨i, v3, l3, b3, rfl, hi, h3, hl3i, hl316, hm3, t3, rfl⟩
  have g3 := t3.grow0
  have n3 := g3.1
  by_cases hlt : i < T.length
  · obtain ⟨⟨xn, x1, x2, xa, xb⟩, hx⟩ : ∃ x, T[i]? = some x := ⟨_, List.getElem?_eq_getElem hlt⟩
    have hxm := hT _ (List.mem_of_getElem? hx)
    have w1 : IntKind.i64.wrap ((i : Int) + 1) = ((i + 1 : Nat) : Int) := by rw [IntWalk.i64_in] <;> omega
    obtain ⟨p, p1, p2, _⟩ := hn2.at hlt (ρ := σ3) g3.2
    have row : ((rws rwL T).drop (i * 5)).take 5 = [.str xn, u64 (x1 : Int), u64 (x2 : Int), u64 (xa : Int), u64 (xb : Int)] := rws_at rwL hx
    rw [row] at p2
    obtain ⟨S2, hS2⟩ : ∃ S : St, S = ⟨(σ3.mem.set σ3.next (.cells 5 [.str ⟨#[]⟩, .int .u64 0, .int .u64 0, .int .u64 0, .int .u64 0])).set σ3.next (.cells 5 [.str xn, u64 (x1 : Int), u64 (x2 : Int), u64 (xa : Int), u64 (xb : Int)]), σ3.next + 1⟩ := ⟨_, rfl⟩
    have gS2 : Grow σ3 S2 := ⟨by rw [hS2]; exact Nat.le_succ _, fun a ha => by rw [hS2]; simp [show ¬ a = σ3.next by omega]⟩
    have nS2 : S2.next = σ3.next + 1 := by rw [hS2]
    have mS2 : S2.mem.get σ3.next = some (.cells 5 [.str xn, u64 (x1 : Int), u64 (x2 : Int), u64 (xa : Int), u64 (xb : Int)]) := by rw [hS2]; simp
    by_cases h2i : i < 16
    · have h2i' : (i : Int) < 16 := by omega
      have hli : l3.length = i := hm3.2.1 (by omega)
      have wa : IntKind.i64.wrap (97 + (i : Int)) = 97 + (i : Int) := by rw [IntWalk.i64_in] <;> omega
      have wb : IntKind.u8.wrap (97 + (i : Int)) = 97 + (i : Int) := by rw [IntWalk.u8_in]; omega
      obtain ⟨S3, hS3⟩ : ∃ S : St, S = ⟨((σ3.mem.set σ3.next (.cells 5 [.str ⟨#[]⟩, .int .u64 0, .int .u64 0, .int .u64 0, .int .u64 0])).set σ3.next (.cells 5 [.str xn, u64 (x1 : Int), u64 (x2 : Int), u64 (xa : Int), u64 (xb : Int)])).set (σ3.next + 1) (.cells 1 [.int .u8 (97 + (i : Int))]), σ3.next + 1 + 1⟩ := ⟨_, rfl⟩
      have gS3 : Grow S2 S3 := ⟨by rw [hS2, hS3]; exact Nat.le_succ _, fun a ha => by rw [hS3, hS2]; simp [show ¬ a = σ3.next + 1 by rw [hS2] at ha; exact Nat.ne_of_lt ha]⟩
      have nS3 : S3.next = σ3.next + 2 := by rw [hS3]
      have mS3 := (gS3.2 _ (by omega)).trans mS2
      obtain ⟨nb, hnb⟩ : ∃ nb : UInt8, nb = UInt8.ofNat (97 + i) := ⟨_, rfl⟩
      have hnb2 : (nb.toNat : Int) = 97 + (i : Int) := by rw [hnb]; simp; omega
      have e3 := (RdB.ofGS (σ := S3) (v := .sl (σ3.next + 1) 0 1 1 true) (l := [nb]) (b := some (σ3.next + 1)) (.inr ⟨σ3.next + 1, true, rfl, rfl, by omega, by rw [hS3]; simp [rwsB, bytesV, hnb2]⟩)).str
      rw [hS3] at e3
      have e4 : Int.tmod (x2 : Int) 100 = (x2 : Int) % 100 := Int.tmod_eq_emod_of_nonneg (by omega)
      have wk : IntKind.u64.wrap (1 + (x2 : Int) % 100) = ((1 + x2 % 100 : Nat) : Int) := by rw [IntWalk.u64_in] <;> omega
      have ad : abinS .add ⟨#[112]⟩ ⟨#[nb]⟩ = some (.str ⟨#[112, nb]⟩) := by
        simp only [abinS]
        rw [if_neg (by show ¬ ((2 : Nat) : Int) > _; decide)]
        rfl
      obtain ⟨pp, hpp⟩ : ∃ pp : ByteArray × Ln, pp = (⟨#[112, nb]⟩, (1 + x2 % 100, 1 + x2 % 100, xa, xb)) := ⟨_, rfl⟩
      have hppA : rwL.a pp = [.str ⟨#[112, nb]⟩, u64 ((1 + x2 % 100 : Nat) : Int), u64 ((1 + x2 % 100 : Nat) : Int), u64 (xa : Int), u64 (xb : Int)] := by rw [hpp]; rfl
      have hg3 := gS2.trans gS3
      have g4 : GS rwL ⟨S3.mem.set S3.next (.cells 5 (rwL.a pp)), S3.next + 1⟩ v3 l3 b3 := (h3.grow hg3).keep (by simp) fun a ha _ => by simp [show ¬ a = S3.next by omega]
      obtain ⟨σ4, f1, f2, f3, f4⟩ := gs_app1 g4 (nb := S3.next) (by_ := 48) (t := true) (x := pp) (by decide) (by simp) (fun e => by have := h3.lt e; omega) (by omega) (by omega)
      rw [hppA] at f1
      push_cast at f1
      rw [hS3] at f1
      simp [lk_cons, hlt, ↓p1, ↓p2, storeL, h2i, h2i', fillL, repL, wa, wb, ↓e3, e4, wk, w1, ad, ↓f1]
      refine ⟨T.length - (i + 1), by omega, i + 1, _, l3 ++ [pp], some (S3.next + 1), rfl, by omega, by rw [hS3] at f2 ⊢; exact f2, by simp; omega, by simp; omega, ⟨fun y hy => ?_, fun _ => by simp; omega, ix_snoc hm3.2.2 (by rw [hli, hpp]; exact ⟨by rw [hnb], rfl, by show 1 + x2 % 100 ≠ 0; omega⟩)⟩, (t3.trans (BStp.ofG b3 hg3)).trans ⟨by rw [f3]; show _ ≤ S3.next + 1 + 1; omega, fun z hz => ?_, fun a ha hb => ?_⟩, by simp⟩
      · rcases List.mem_append.1 hy with hy | hy
        · exact hm3.1 y hy
        · rw [List.mem_singleton.1 hy, hpp]
          exact ⟨by show 2 ≤ 1000; omega, by show 1 + x2 % 100 < _; omega, by show 1 + x2 % 100 < _; omega, hxm.2.2.2.1, hxm.2.2.2.2⟩
      · cases hz; exact .inr (by omega)
      · rw [f4 a (by show a < S3.next + 1; omega) hb]
        simp [show ¬ a = S3.next by omega]
    · have h2i' : ¬ (i : Int) < 16 := by omega
      simp [lk_cons, hlt, ↓p1, ↓p2, storeL, h2i, h2i', w1]
      rw [← hS2]
      exact ⟨T.length - (i + 1), by omega, i + 1, v3, l3, b3, rfl, by omega, h3.grow gS2, by omega, hl316, ⟨hm3.1, fun h => by omega, hm3.2.2⟩, t3.trans (BStp.ofG b3 gS2), rfl⟩
  have : i = T.length := by omega
  subst this
  have m3 := (g3.2 σ.next (by omega)).trans m2
  have m3q := (g3.2 (σ.next + 1) (by omega)).trans m2q
  have z0 : ¬ σ.next = σ.next + 1 := by omega
  obtain ⟨k1, k2⟩ := h2.one
  obtain ⟨k3, k4⟩ := h3.one
  simp [lk_cons, m3, m3q, z0, k1, k2, k3, k4, q1, q2, storeL]
  have nb3 : ∀ x, b3 = some x → σ2.next ≤ x ∧ x < σ3.next := fun x hx => ⟨(t3.own x hx).resolve_left (by simp), h3.lt hx⟩
  obtain ⟨F, hF⟩ : ∃ F : St, F = ⟨((σ3.mem.set σ.next (.cells 5 [u64 (ep : Int), u64 (last2 : Int), lv', v2, nv])).set σ.next (.cells 5 [u64 (ep : Int), u64 (last2 : Int), lv', v2, v3])).set (σ.next + 1) (.cells 5 [u64 (ep : Int), u64 (last2 : Int), lv', v2, v3]), σ3.next⟩ := ⟨_, rfl⟩
  have nF : F.next = σ3.next := by rw [hF]
  have kF : ∀ a, a ≠ σ.next → a ≠ σ.next + 1 → F.mem.get a = σ3.mem.get a := fun a h1 h2 => by rw [hF]; simp [h1, h2]
  rw [← hF]
  have g23 := g2.trans g3
  refine hQ last2 t' l2s l3 lv' v2 v3 b2 b3 F ⟨⟨?_, ?_, ?_, fun x h1 h2 => ?_, fun x h => ?_, hmk, hm2.1, hl22, hl316, hm3.1, hl2⟩, hmk2, hlk, hm2.2.2, hm3.2.2⟩ ⟨by omega, fun a ha => (kF a (by omega) (by omega)).trans ((g23.2 a (by omega)).trans (gs a ha))⟩
  · rcases hO2 with h | ⟨o, h0, h1, h2, h3, h4⟩
    · exact .inl h
    · exact .inr ⟨o, h0, h1, by omega, by omega, (kF o (by omega) (by omega)).trans ((g23.2 o h3).trans h4)⟩
  · exact (h2.grow g3).keep (by omega) fun a ha hb => kF a (by have := (nb2 a hb).1; omega) (by have := (nb2 a hb).1; omega)
  · exact h3.keep (by omega) fun a ha hb => kF a (by have := (nb3 a hb).1; omega) (by have := (nb3 a hb).1; omega)
  · have := (nb2 x h1).2; have := (nb3 x h2).1; omega
  · rcases h with h | h
    · have := (nb2 x h).1; omega
    · have := (nb3 x h).1; omega
end Go.Proofs.YticefdfhcahlfaaDoor.AM

namespace Go.Proofs.YticefdfhcahlfaaDoor.AM
open Go.RowKit
set_option maxRecDepth 100000
set_option linter.unusedVariables false
set_option linter.unusedSimpArgs false
def Fwd {α : Type} (p : Prs α) (B : α → List UInt8) (P : α → Prop) : Prop := ∀ x r, P x → p (B x ++ r) = .ok (x, r)
theorem pNum8_f {a : Int} (h : In64 a) (r : List UInt8) : pNum 8 (beN 8 a.toNat ++ r) = .ok (a.toNat, r) ∧ ((a.toNat : Nat) : Int) = a := by
  obtain ⟨n, rfl, e, hn⟩ := nat_of h
  rw [e]
  exact ⟨pNum_beN (by rw [show (256 : Nat) ^ 8 = 18446744073709551616 by decide]; exact hn) r, rfl⟩
theorem pFlag_f (b : Bool) (r : List UInt8) : pFlag (beN 1 (if b then 1 else 0) ++ r) = .ok (b, r) := by
  rw [pFlag, pB_ok (pNum_beN (by split <;> decide) r)]
  cases b <;> simp
theorem pTx_f : Fwd pTx txB fun s => s.size < 4294967296 ∧ vld s.data.toList = true := fun s r h => by
  have e : txB s ++ r = beN 4 s.data.toList.length ++ (s.data.toList ++ r) := by simp [txB]
  have hl : s.data.toList.length < 256 ^ 4 := by simpa using h.1
  rw [e, pTx, pB_ok (pText_of (by simpa using h.1) h.2 r)]
  rfl
theorem pMany_f {α : Type} {p : Prs α} {B : α → List UInt8} {P : α → Prop} (hp : Fwd p B P) : ∀ (xs : List α) (r : List UInt8), (∀ x ∈ xs, P x) → pMany p xs.length ((xs.map B).flatten ++ r) = .ok (xs, r)
  | [], r, _ => rfl
  | x :: xs, r, h => by
    have ih := pMany_f hp xs r fun y hy => h y (by simp [hy])
    rw [List.length_cons, pMany, List.map_cons, List.flatten_cons, List.append_assoc, pB_ok (hp x _ (h x (by simp))), pB_ok ih]
    rfl
theorem pRg_f : Fwd pRg rgB fun x => In64 x.f0 ∧ In64 x.f1 := fun x r h => by
  obtain ⟨a1, a2⟩ := pNum8_f h.1 (beN 8 x.f1.toNat ++ r)
  obtain ⟨b1, b2⟩ := pNum8_f h.2 r
  rw [rgB, List.append_assoc, pRg, pB_ok a1, pB_ok b1, a2, b2]
  rfl
def HdF (x : Hd) : Prop := In64 x.f0 ∧ x.f1.length < 65536 ∧ ∀ z ∈ x.f1, In64 z.f0 ∧ In64 z.f1
theorem pHd_f : Fwd pHd hdB HdF := fun x r h => by
  obtain ⟨a1, a2⟩ := pNum8_f h.1 (beN 2 x.f1.length ++ ((x.f1.map rgB).flatten ++ r))
  have e : hdB x ++ r = beN 8 x.f0.toNat ++ (beN 2 x.f1.length ++ ((x.f1.map rgB).flatten ++ r)) := by
    simp only [hdB, rgsB]; rw [Nat.mod_eq_of_lt h.2.1]; simp
  rw [e, pHd, pB_ok a1, pB_ok (pNum_beN h.2.1 _), pB_ok (pMany_f pRg_f _ _ h.2.2), a2]
  rfl
def CuF (c : Cu) : Prop := (In64 c.ml ∧ In64 c.me) ∧ c.h.length < 65536 ∧ (∀ x ∈ c.h, HdF x) ∧ cuOk c.ml c.me c.h
theorem pCu_f : Fwd pCu (fun c => cuB c.ml c.me c.h) CuF := fun c r h => by
  obtain ⟨a1, a2⟩ := pNum8_f h.1.1 (beN 8 c.me.toNat ++ (beN 2 c.h.length ++ ((c.h.map hdB).flatten ++ r)))
  obtain ⟨b1, b2⟩ := pNum8_f h.1.2 (beN 2 c.h.length ++ ((c.h.map hdB).flatten ++ r))
  have e : cuB c.ml c.me c.h ++ r = beN 8 c.ml.toNat ++ (beN 8 c.me.toNat ++ (beN 2 c.h.length ++ ((c.h.map hdB).flatten ++ r))) := by
    simp only [cuB, hdsB]; rw [Nat.mod_eq_of_lt h.2.1]; simp
  have e0 : pCu0 (cuB c.ml c.me c.h ++ r) = .ok (c, r) := by
    rw [e, pCu0, pB_ok a1, pB_ok b1, pB_ok (pNum_beN h.2.1 _), pB_ok (pMany_f pHd_f _ _ h.2.2.1), a2, b2]
    rfl
  rw [pCu, pB_ok e0, if_pos ((cuOkB_iff _ _ _).2 h.2.2.2)]
def SbF (x : SbV) : Prop := (x.name.size < 4294967296 ∧ vld x.name.data.toList = true) ∧ x.kind < 256 ∧ CuF ⟨x.ml, x.me, x.h⟩
theorem pSb_f : Fwd pSb sbB SbF := fun x r h => by
  have e : sbB x ++ r = txB x.name ++ (beN 1 x.kind ++ (cuB x.ml x.me x.h ++ r)) := by simp [sbB]
  rw [e, pSb, pB_ok (pTx_f _ _ h.1), pB_ok (pNum_beN h.2.1 _), pB_ok (pCu_f ⟨x.ml, x.me, x.h⟩ r h.2.2)]
  rfl
theorem pLd_f : Fwd pLd ldB fun x => In64 x.f0 ∧ In64 x.f2 := fun x r h => by
  obtain ⟨a1, a2⟩ := pNum8_f h.1 (beN 1 (if x.f1 then 1 else 0) ++ (beN 8 x.f2.toNat ++ r))
  obtain ⟨b1, b2⟩ := pNum8_f h.2 r
  have e : ldB x ++ r = beN 8 x.f0.toNat ++ (beN 1 (if x.f1 then 1 else 0) ++ (beN 8 x.f2.toNat ++ r)) := by simp [ldB]
  rw [e, pLd, pB_ok a1, pB_ok (pFlag_f _ _), pB_ok b1, a2, b2]
  rfl
theorem pTp_f {ep last : Nat} {t : List Ld} {s : List SbV} {T : Tbl} (he : ep < 18446744073709551616 ∧ last < 18446744073709551616) (ht : ∀ x ∈ t, In64 x.f0 ∧ In64 x.f2) (hs : ∀ x ∈ s, SbF x) (hT : ∀ x ∈ T, NmOk x ∧ LnOk x) (hok : lnOkT T) (htp : tpOk (last : Int) t s) (hTl : T.length ≤ 16) : pTp (tpB ep last t s T) = .ok (⟨ep, last, t, s, T⟩, []) := by
  have h64 := htp.1.1
  have h2 := htp.2.2.1
  have e8 : (256 : Nat) ^ 8 = 18446744073709551616 := by decide
  have e : tpB ep last t s T = beN 8 ep ++ (beN 8 last ++ (beN 1 t.length ++ ((t.map ldB).flatten ++ (beN 1 s.length ++ ((s.map sbB).flatten ++ encT T))))) := by
    simp only [tpB, ldsB, sbsB]
    rw [Nat.mod_eq_of_lt (by omega), Nat.mod_eq_of_lt (by omega)]
    simp
  have hfg : fgt T = T := by
    rw [fgt_dn, dn_ok hok]
    conv => rhs; rw [← List.map_id T]
    refine List.map_congr_left fun x hx => ?_
    obtain ⟨i, hi⟩ := List.getElem?_of_mem hx
    have := (hok i (List.getElem?_eq_some_iff.1 hi).1 x hi).2.1
    obtain ⟨n, a, b, c⟩ := x
    simp only at this
    subst this
    rfl
  have ptab : pTab (encT T) = .ok (T, []) := by
    have := pTab_enc (ris_of hok).1 (ris_of hok).2 hT hTl
    rw [hfg] at this
    exact this
  rw [e, pTp, pB_ok (pNum_beN (by omega) _), pB_ok (pNum_beN (by omega) _), pB_ok (pNum_beN (by omega) _), pB_ok (pMany_f pLd_f _ _ ht), pT4, pB_ok (pNum_beN (by omega) _), pB_ok (pMany_f pSb_f _ _ hs), pT5, pB_ok ptab, if_pos htp]
end Go.Proofs.YticefdfhcahlfaaDoor.AM


namespace Go.Proofs.YticefdfhcahlfaaDoor.AM
open Go.RowKit
set_option maxRecDepth 100000
set_option linter.unusedVariables false
set_option linter.unusedSimpArgs false
def sLong (x : SbV) : Prop := x.name.size ≤ 200 ∧ x.h.length ≤ 40 ∧ ∀ y ∈ x.h, y.f1.length ≤ 40
def NotLong (t : List Ld) (s : List SbV) (T : Tbl) : Prop := t.length ≤ 100 ∧ s.length ≤ 10 ∧ T.length ≤ 40 ∧ (∀ x ∈ s, sLong x) ∧ ∀ x ∈ T, x.1.size ≤ 200
def L1J (p : Nat) (sv : AVal) (s : List SbV) (S : St) (mm : Nat) (rg : Regs) (σ' : St) : Prop := ∃ i : Nat, mm = s.length - i ∧ i ≤ s.length ∧ Grow S σ' ∧ (∀ x ∈ s.take i, sLong x) ∧ rg = [(1, .ptr p 0), (26, sv), (27, i64 s.length), (28, i64 i)]
def L2J (p i : Nat) (sv hv : AVal) (s : List SbV) (h : List Hd) (S : St) (mm : Nat) (rg : Regs) (σ' : St) : Prop := ∃ j : Nat, mm = h.length - j ∧ j ≤ h.length ∧ Grow S σ' ∧ (∀ x ∈ h.take j, x.f1.length ≤ 40) ∧ rg = [(1, .ptr p 0), (26, sv), (27, i64 s.length), (28, i64 i), (45, hv), (46, i64 h.length), (47, i64 j)]
def L3J (nv : AVal) (T : Tbl) (S : St) (mm : Nat) (rg : Regs) (σ' : St) : Prop := ∃ i : Nat, mm = T.length - i ∧ i ≤ T.length ∧ Grow S σ' ∧ (∀ x ∈ T.take i, x.1.size ≤ 200) ∧ rg = [(58, nv), (59, i64 T.length), (60, i64 i)]
theorem take_all {α : Type} {l : List α} {i : Nat} {x : α} {P : α → Prop} (hx : l[i]? = some x) (h : ∀ y ∈ l.take i, P y) (hp : P x) : ∀ y ∈ l.take (i + 1), P y := fun y hy => by
  rw [List.take_add_one, hx] at hy
  rcases List.mem_append.1 hy with hy | hy
  · exact h y hy
  · simp at hy; exact hy ▸ hp
set_option maxHeartbeats 4000000 in
theorem long_c {σ : St} {lv sv nv : AVal} {t : List Ld} {s : List SbV} {cs : List AVal} {T : Tbl} {ep last : Nat} (hl : Rd 3 σ lv t.length (ldc t)) (hs : Rd 5 σ sv s.length cs) (hI : SbI cs s) (hn : Rd 5 σ nv T.length (rws rwL T)) (Q : AVal → St → Prop)
    (hy : Q (.bool true) σ) (hno : NotLong t s T → Q (.bool false) σ) : ACall Tryd.prog 11 [.agg [u64 (ep : Int), u64 (last : Int), lv, sv, nv]] σ Q := by
  refine ACall.scrub ?_
  refine ACall.of_compF hmx (fun a w => Tryd.call11 a w) Tryd.func11 cf11 (n := 1) (by decide) rfl ?_
  obtain ⟨o1, o2⟩ := hl.one
  obtain ⟨o3, o4⟩ := hs.one
  obtain ⟨o5, o6⟩ := hn.one
  have l1 := hl.len
  have l2 := hs.len
  have l3 := hn.len
  simp only [ac11, rs11]
  obtain ⟨S, hS⟩ : ∃ S : St, S = ⟨σ.mem.set σ.next (.cells 5 [u64 (ep : Int), u64 (last : Int), lv, sv, nv]), σ.next + 1⟩ := ⟨_, rfl⟩
  have gS : Grow σ S := ⟨by rw [hS]; exact Nat.le_succ _, fun a ha => by rw [hS]; simp [show ¬ a = σ.next by omega]⟩
  have nS : S.next = σ.next + 1 := by rw [hS]
  have mS : S.mem.get σ.next = some (.cells 5 [u64 (ep : Int), u64 (last : Int), lv, sv, nv]) := by rw [hS]; simp
  have stop : ∀ {σ' : St}, Grow S σ' → (∀ a, a < σ.next → σ'.mem.get a = σ.mem.get a) ∧ Q (.bool true) σ := fun g => ⟨(gS.trans g).2, hy⟩
  by_cases c1 : 100 < t.length
  · have c1' : (100 : Int) < t.length := by omega
    simp [lk_cons, o1, o2, o3, o4, o5, o6, ↓l1, ↓l2, ↓l3, c1, c1']
    rw [← hS]
    exact stop (Grow.refl S)
  have c1' : ¬ (100 : Int) < t.length := by omega
  by_cases c2 : 10 < s.length
  · have c2' : (10 : Int) < s.length := by omega
    simp [lk_cons, o1, o2, o3, o4, o5, o6, ↓l1, ↓l2, ↓l3, c1, c1', c2, c2']
    rw [← hS]
    exact stop (Grow.refl S)
  have c2' : ¬ (10 : Int) < s.length := by omega
  by_cases c3 : 40 < T.length
  · have c3' : (40 : Int) < T.length := by omega
    simp [lk_cons, o1, o2, o3, o4, o5, o6, ↓l1, ↓l2, ↓l3, c1, c1', c2, c2', c3, c3']
    rw [← hS]
    exact stop (Grow.refl S)
  have c3' : ¬ (40 : Int) < T.length := by omega
  simp [lk_cons, o1, o2, o3, o4, o5, o6, ↓l1, ↓l2, ↓l3, c1, c1', c2, c2', c3, c3']
  rw [← hS]
  refine wp_loop (L1J σ.next sv s S) s.length ?_ ?_
  · exact ⟨0, rfl, Nat.zero_le _, Grow.refl S, by simp, rfl⟩
  rintro mm rg σ1 ⟨i, rfl, hi, g1, a1, rfl⟩
  have G1 := gS.trans g1
  have n1 := g1.1
  have m1 := (g1.2 σ.next (by omega)).trans mS
  by_cases hlt : i < s.length
  · obtain ⟨x, hx⟩ : ∃ x, s[i]? = some x := ⟨_, List.getElem?_eq_getElem hlt⟩
    have w1 : IntKind.i64.wrap ((i : Int) + 1) = ((i + 1 : Nat) : Int) := by rw [IntWalk.i64_in] <;> omega
    obtain ⟨p, p1, p2, _⟩ := hs.at hlt (ρ := σ1) G1.2
    obtain ⟨hv, e1, e2⟩ := hI.get hx
    rw [e2] at p2
    simp only [sbA] at p2
    obtain ⟨hv1, hv2⟩ := e1.one
    have hl2 := e1.len
    obtain ⟨S2, hS2⟩ : ∃ S : St, S = ⟨(σ1.mem.set σ1.next (.cells 5 [.str ⟨#[]⟩, .int .u8 0, .int .u64 0, .int .u64 0, .nilsl])).set σ1.next (.cells 5 [.str x.name, .int .u8 (x.kind : Int), u64 x.ml, u64 x.me, hv]), σ1.next + 1⟩ := ⟨_, rfl⟩
    have gS2 : Grow σ1 S2 := ⟨by rw [hS2]; exact Nat.le_succ _, fun a ha => by rw [hS2]; simp [show ¬ a = σ1.next by omega]⟩
    have nS2 : S2.next = σ1.next + 1 := by rw [hS2]
    by_cases d1 : 200 < x.name.size
    · have d1' : (200 : Int) < x.name.size := by omega
      simp [lk_cons, hlt, ↓p1, ↓p2, storeL, hv1, d1, d1']
      rw [← hS2]
      exact stop (g1.trans gS2)
    have d1' : ¬ (200 : Int) < x.name.size := by omega
    by_cases d2 : 40 < x.h.length
    · have d2' : (40 : Int) < x.h.length := by omega
      simp [lk_cons, hlt, ↓p1, ↓p2, storeL, hv1, d1, d1', ↓hl2, d2, d2']
      rw [← hS2]
      exact stop (g1.trans gS2)
    have d2' : ¬ (40 : Int) < x.h.length := by omega
    simp [lk_cons, hlt, ↓p1, ↓p2, storeL, hv1, d1, d1', ↓hl2, d2, d2']
    rw [← hS2]
    refine wp_loop (L2J σ.next i sv hv s x.h S2) x.h.length ?_ ?_
    · exact ⟨0, rfl, Nat.zero_le _, Grow.refl S2, by simp, rfl⟩
    rintro mm rg σ3 ⟨j, rfl, hj, g3, a3, rfl⟩
    have G3 := (g1.trans gS2).trans g3
    by_cases hlt2 : j < x.h.length
    · obtain ⟨z, hz⟩ : ∃ z, x.h[j]? = some z := ⟨_, List.getElem?_eq_getElem hlt2⟩
      have w2 : IntKind.i64.wrap ((j : Int) + 1) = ((j + 1 : Nat) : Int) := by rw [IntWalk.i64_in] <;> omega
      obtain ⟨p', r', hr', q1, q2, _, _⟩ := e1.at hz σ3
      have l4 := (hr'.m σ3).len
      have r1 := hr'.one.1
      obtain ⟨S4, hS4⟩ : ∃ S : St, S = ⟨(σ3.mem.set σ3.next (.cells 2 [.int .u64 0, .nilsl])).set σ3.next (.cells 2 [u64 z.f0, r']), σ3.next + 1⟩ := ⟨_, rfl⟩
      have gS4 : Grow σ3 S4 := ⟨by rw [hS4]; exact Nat.le_succ _, fun a ha => by rw [hS4]; simp [show ¬ a = σ3.next by omega]⟩
      by_cases d3 : 40 < z.f1.length
      · have d3' : (40 : Int) < z.f1.length := by omega
        simp [lk_cons, hlt2, ↓q1, ↓q2, storeL, r1, ↓l4, d3, d3']
        rw [← hS4]
        exact stop (G3.trans gS4)
      have d3' : ¬ (40 : Int) < z.f1.length := by omega
      simp [lk_cons, hlt2, ↓q1, ↓q2, storeL, r1, ↓l4, d3, d3', w2]
      rw [← hS4]
      exact ⟨x.h.length - (j + 1), by omega, j + 1, rfl, by omega, g3.trans gS4, take_all hz a3 (by omega), rfl⟩
    have : j = x.h.length := by omega
    rw [this, List.take_length] at a3
    subst this
    simp [lk_cons, w1]
    exact ⟨s.length - (i + 1), by omega, i + 1, rfl, by omega, G3, take_all hx a1 ⟨by omega, by omega, a3⟩, rfl⟩
  have : i = s.length := by omega
  subst this
  rw [List.take_length] at a1
  simp [lk_cons, m1, ↓l3]
  refine wp_loop (L3J nv T σ1) T.length ?_ ?_
  · exact ⟨0, rfl, Nat.zero_le _, Grow.refl σ1, by simp, rfl⟩
  rintro mm rg σ3 ⟨i, rfl, hi, g3, a3, rfl⟩
  have G3 := g1.trans g3
  by_cases hlt : i < T.length
  · obtain ⟨⟨xn, x1, x2, xa, xb⟩, hx⟩ : ∃ x, T[i]? = some x := ⟨_, List.getElem?_eq_getElem hlt⟩
    have w1 : IntKind.i64.wrap ((i : Int) + 1) = ((i + 1 : Nat) : Int) := by rw [IntWalk.i64_in] <;> omega
    obtain ⟨p, p1, p2, _⟩ := hn.at hlt (ρ := σ3) (gS.trans G3).2
    have row : ((rws rwL T).drop (i * 5)).take 5 = [.str xn, u64 (x1 : Int), u64 (x2 : Int), u64 (xa : Int), u64 (xb : Int)] := rws_at rwL hx
    rw [row] at p2
    obtain ⟨S4, hS4⟩ : ∃ S : St, S = ⟨(σ3.mem.set σ3.next (.cells 5 [.str ⟨#[]⟩, .int .u64 0, .int .u64 0, .int .u64 0, .int .u64 0])).set σ3.next (.cells 5 [.str xn, u64 (x1 : Int), u64 (x2 : Int), u64 (xa : Int), u64 (xb : Int)]), σ3.next + 1⟩ := ⟨_, rfl⟩
    have gS4 : Grow σ3 S4 := ⟨by rw [hS4]; exact Nat.le_succ _, fun a ha => by rw [hS4]; simp [show ¬ a = σ3.next by omega]⟩
    by_cases d3 : 200 < xn.size
    · have d3' : (200 : Int) < xn.size := by omega
      simp [lk_cons, hlt, ↓p1, ↓p2, storeL, d3, d3']
      rw [← hS4]
      exact stop (G3.trans gS4)
    have d3' : ¬ (200 : Int) < xn.size := by omega
    simp [lk_cons, hlt, ↓p1, ↓p2, storeL, d3, d3', w1]
    rw [← hS4]
    exact ⟨T.length - (i + 1), by omega, i + 1, rfl, by omega, g3.trans gS4, take_all hx a3 (by show xn.size ≤ 200; omega), rfl⟩
  have : i = T.length := by omega
  rw [this, List.take_length] at a3
  subst this
  simp [lk_cons]
  exact ⟨(gS.trans G3).2, hno ⟨by omega, by omega, by omega, a1, a3⟩⟩
end Go.Proofs.YticefdfhcahlfaaDoor.AM

namespace Go.Proofs.YticefdfhcahlfaaDoor.AM
open Go.RowKit
set_option maxRecDepth 100000
set_option linter.unusedVariables false
set_option linter.unusedSimpArgs false
structure TS (σ : St) (ep last : Nat) (t : List Ld) (s : List SbV) (T : Tbl) (lv sv nv : AVal) (cs : List AVal) : Prop where
  rl : Rd 3 σ lv t.length (ldc t)
  rs : Rd 5 σ sv s.length cs
  si : SbI cs s
  rn : Rd 5 σ nv T.length (rws rwL T)
  tl : t.length ≤ 100
  tb : ∀ x ∈ t, In64 x.f0 ∧ In64 x.f2
  sl : s.length ≤ 10
  sm : ∀ x ∈ s, Sm x
  nl : T.length ≤ 200
  nb : ∀ x ∈ T, LnOk x
  be : ep < 18446744073709551616 ∧ last < 18446744073709551616
theorem MT.ts {lo : Nat} {σ : St} {ep last : Nat} {t : List Ld} {s : List SbP} {T : Tbl} {lv sv nv : AVal} {bs bn : Option Nat} (h : MT lo σ last t s T lv sv nv bs bn) (he : ep < 18446744073709551616) : TS σ ep last t (s.map (·.1)) T lv sv nv (rws rwS s) := by
  have h1 := h.ok.1
  have h2 := h.s2
  have h3 := h.tl
  refine ⟨h.ml.rd, by simpa using h.ms.rd, sbI_rws fun p hp => (h.sm p hp).2, h.mn.rd, by omega, fun x hx => ?_, by simp; omega, fun x hx => ?_, by omega, h.ln, he, h.lb⟩
  · have := h.ok.2.2 x hx
    exact ⟨⟨by omega, by omega⟩, by omega, by omega⟩
  · obtain ⟨p, hp, rfl⟩ := List.mem_map.1 hx
    exact (h.sm p hp).1
end Go.Proofs.YticefdfhcahlfaaDoor.AM


namespace Go.Proofs.YticefdfhcahlfaaDoor.AM
open Go.RowKit
set_option maxRecDepth 100000
set_option linter.unusedVariables false
set_option linter.unusedSimpArgs false
theorem nm_up : ∀ i < 15, lessB ⟨#[112, UInt8.ofNat (97 + i)]⟩ ⟨#[112, UInt8.ofNat (97 + (i + 1))]⟩ = true := by decide
theorem nm_lo : ∀ i < 16, (UInt8.ofNat (97 + i)).toNat < 128 := by decide
theorem sb_up : lessB ⟨#[UInt8.ofNat (97 + 0)]⟩ ⟨#[UInt8.ofNat (97 + 1)]⟩ = true := by decide
theorem rg_can : ∀ {l : List S25} {b : Int}, rgOk l → (∀ x, l[0]? = some x → b < x.f0) → Can b l
  | [], _, _, _ => trivial
  | x :: l, b, h, hb => by
    refine ⟨hb x rfl, (h 0 (by simp) x rfl).1, rg_can (fun i hi y hy => ?_) fun y hy => ?_⟩
    · obtain ⟨e1, e2⟩ := h (i + 1) (by simpa using hi) y (by simpa using hy)
      refine ⟨e1, fun z h0 hz => e2 z (by omega) ?_⟩
      rw [show i + 1 - 1 = (i - 1) + 1 by omega]
      simpa using hz
    · have hl : 0 < l.length := (List.getElem?_eq_some_iff.1 hy).1
      exact (h 1 (by simp; omega) y (by simpa using hy)).2 x (by omega) rfl
theorem MX.right {lo : Nat} {σ : St} {last : Nat} {t : List Ld} {s : List SbP} {T : Tbl} {lv sv nv : AVal} {bs bn : Option Nat} (h : MX lo σ last t s T lv sv nv bs bn) : lnOkT T ∧ tpOk (last : Int) t (s.map (·.1)) ∧ (∀ x ∈ T, NmOk x ∧ LnOk x) ∧ (∀ x ∈ s.map (·.1), SbF x) ∧ ∀ x ∈ s.map (·.1), HW x.h := by
  have h2 := h.s2
  have h16 := h.tl
  have sget : ∀ {i : Nat} {x : SbV}, (s.map (·.1))[i]? = some x → ∃ p, s[i]? = some p ∧ x = p.1 := fun {i x} hx => by
    rw [List.getElem?_map] at hx
    cases hs : s[i]? with
    | none => rw [hs] at hx; simp at hx
    | some p => rw [hs] at hx; simp at hx; exact ⟨p, rfl, hx.symm⟩
  refine ⟨fun i hi x hx => ?_, ⟨mk2_ok h.tk, h.tlast, by simpa using h2, fun i hi x hx => ?_⟩, fun x hx => ?_, fun x hx => ?_, fun x hx => ?_⟩
  · obtain ⟨e1, e2, e3⟩ := h.nk i x hx
    refine ⟨by rw [e1]; show 1 ≤ 2 ∧ 2 ≤ 64; omega, e2, e3, fun y h0 hy => ?_, by omega⟩
    obtain ⟨f1, _, _⟩ := h.nk (i - 1) y hy
    have := nm_up (i - 1) (by omega)
    rw [show i - 1 + 1 = i by omega] at this
    rw [e1, f1]; exact this
  · obtain ⟨p, hp, rfl⟩ := sget hx
    obtain ⟨e1, e2, e3⟩ := h.sk i p hp
    refine ⟨by rw [e1]; show 1 ≤ 1 ∧ 1 ≤ 64; omega, fun y h0 hy => ?_, e2, e3⟩
    obtain ⟨q, hq, rfl⟩ := sget hy
    obtain ⟨f1, _, _⟩ := h.sk (i - 1) q hq
    have hi1 : i = 1 := by have : i < s.length := by simpa using hi
                           omega
    subst hi1
    rw [e1, f1]; exact sb_up
  · obtain ⟨i, hi⟩ := List.getElem?_of_mem hx
    have hil := (List.getElem?_eq_some_iff.1 hi).1
    obtain ⟨e1, _, _⟩ := h.nk i x hi
    refine ⟨⟨by rw [e1]; show 1 ≤ 2; omega, by rw [e1]; show 2 ≤ 64; omega, ?_⟩, h.ln x hx⟩
    rw [e1]
    refine vld_all fun y hy => ?_
    have hy : y = 112 ∨ y = UInt8.ofNat (97 + i) := by simpa using hy
    rcases hy with rfl | rfl
    · decide
    · exact nm_lo i (by omega)
  · obtain ⟨p, hp, rfl⟩ := List.mem_map.1 hx
    obtain ⟨i, hi⟩ := List.getElem?_of_mem hp
    have hil := (List.getElem?_eq_some_iff.1 hi).1
    obtain ⟨e1, e2, e3⟩ := h.sk i p hi
    obtain ⟨sm, _⟩ := h.sm p hp
    refine ⟨⟨by rw [e1]; show 1 < 4294967296; omega, ?_⟩, by omega, sm.num, by have := sm.few.1; show p.1.h.length < 65536; omega, fun y hy => ⟨sm.hs.led y hy, by have := sm.few.2 y hy; omega, sm.hs.rg y hy⟩, e3⟩
    rw [e1]
    refine vld_all fun y hy => ?_
    have hy : y = UInt8.ofNat (97 + i) := by simpa using hy
    subst hy
    exact nm_lo i (by omega)
  · obtain ⟨p, hp, rfl⟩ := List.mem_map.1 hx
    obtain ⟨i, hi⟩ := List.getElem?_of_mem hp
    obtain ⟨e1, e2, e3⟩ := h.sk i p hi
    obtain ⟨sm, _⟩ := h.sm p hp
    refine ⟨by have := sm.few.1; omega, fun y hy => ⟨⟨?_, fun n hn => ?_⟩, by have := sm.few.2 y hy; omega⟩⟩
    · obtain ⟨j, hj⟩ := List.getElem?_of_mem hy
      refine rg_can ((e3 j (List.getElem?_eq_some_iff.1 hj).1 y hj).2.1) fun z hz => ?_
      have := (sm.hs.rg y hy z (List.mem_of_getElem? hz)).1.1
      omega
    · obtain ⟨z, hz, h1, h2⟩ := hn
      have := (sm.hs.rg y hy z hz).2.2
      omega
theorem ts_few {σ : St} {ep last : Nat} {t : List Ld} {s : List SbV} {T : Tbl} {lv sv nv : AVal} {cs : List AVal} (h : TS σ ep last t s T lv sv nv cs) : TpR σ lv sv t s cs ∧ TFew t s ∧ TBd ep last t s T ∧ (sbsB s).length ≤ 400000 := by
  have h1 := h.tl
  have h2 := h.sl
  refine ⟨⟨h.rl, h.rs, h.si.c⟩, ⟨by omega, fun x hx => (h.tb x hx).2.1, by omega, fun x hx => ?_⟩, ⟨h.tb, fun x hx => ⟨(h.sm x hx).hs, (h.sm x hx).num, (h.sm x hx).kind⟩, h.nb, h.nl, h.be⟩, ?_⟩
  · have h3 := (h.sm x hx).few
    exact ⟨by omega, fun y hy => by have := h3.2 y hy; omega⟩
  · have h3 := sm_sum h.sm
    omega
end Go.Proofs.YticefdfhcahlfaaDoor.AM

namespace Go.Proofs.YticefdfhcahlfaaDoor.AM
open Go.RowKit
set_option maxRecDepth 100000
set_option linter.unusedVariables false
set_option linter.unusedSimpArgs false
def CutP {α : Type} (p : Prs α) : Prop := ∀ l x r, p l = .ok (x, r) → r.length ≤ l.length ∧ (∀ m s, l = m ++ s → (s.length ≤ r.length → ∃ m', p m = .ok (x, m') ∧ r = m' ++ s) ∧ (r.length < s.length → p m = .error 4)) ∧ ∀ s, p (l ++ s) = .ok (x, r ++ s)
theorem cut_pB {α β : Type} {p : Prs α} {f : α → Prs β} (hp : CutP p) (hf : ∀ x, CutP (f x)) : CutP (pB p f) := fun l x r h => by
  obtain ⟨y, l1, h1, h2⟩ := pB_inv h
  obtain ⟨a1, a2, a3⟩ := hp _ _ _ h1
  obtain ⟨b1, b2, b3⟩ := hf y _ _ _ h2
  refine ⟨by omega, fun m s e => ?_, fun s => by rw [pB_ok (a3 s)]; exact b3 s⟩
  obtain ⟨c1, c2⟩ := a2 m s e
  rcases Nat.lt_or_ge l1.length s.length with hlt | hge
  · exact ⟨fun hs => by omega, fun _ => pB_err (c2 hlt)⟩
  · obtain ⟨m1, e1, e2⟩ := c1 hge
    obtain ⟨d1, d2⟩ := b2 m1 s e2
    exact ⟨fun hs => by
      obtain ⟨m', f1, f2⟩ := d1 hs
      exact ⟨m', by rw [pB_ok e1]; exact f1, f2⟩, fun hs => by rw [pB_ok e1]; exact d2 hs⟩
theorem cut_pR {α : Type} (x : α) : CutP (pR x) := fun l y r h => by
  cases h
  exact ⟨Nat.le_refl _, fun m s e => ⟨fun _ => ⟨m, rfl, e⟩, fun hs => by
    have := congrArg List.length e
    rw [List.length_append] at this; omega⟩, fun s => rfl⟩
theorem cut_chk {α β : Type} (c : Bool) (g : α) (e : Nat) : CutP (fun l : List UInt8 => if c = true then (.ok (g, l) : Except Nat (α × List UInt8)) else .error e) := fun l y r h => by
  cases c with
  | false => simp at h
  | true => exact cut_pR g l y r h
theorem cut_num (k : Nat) : CutP (pNum k) := fun l x r h => by
  have hk : ¬ l.length < k := fun hk => by simp [pNum, hk] at h
  have hx : x = be (l.take k) ∧ r = l.drop k := by
    simp only [pNum, if_neg hk] at h
    cases h
    exact ⟨rfl, rfl⟩
  obtain ⟨rfl, rfl⟩ := hx
  refine ⟨by rw [List.length_drop]; omega, fun m s e => ?_, fun s => ?_⟩
  · subst e
    rw [List.length_append] at hk
    refine ⟨fun hs => ?_, fun hs => ?_⟩
    · rw [List.length_drop, List.length_append] at hs
      have hkm : k ≤ m.length := by omega
      exact ⟨m.drop k, by rw [pNum, if_neg (by omega), List.take_append_of_le_length hkm], by rw [List.drop_append_of_le_length hkm]⟩
    · rw [List.length_drop, List.length_append] at hs
      rw [pNum, if_pos (by omega)]
  · rw [pNum, if_neg (by rw [List.length_append]; omega), List.take_append_of_le_length (by omega), List.drop_append_of_le_length (by omega)]
theorem cut_take (n : Nat) : CutP (fun l : List UInt8 => if l.length < n then (.error 4 : Except Nat (List UInt8 × List UInt8)) else .ok (l.take n, l.drop n)) := fun l x r h => by
  have hk : ¬ l.length < n := fun hk => by simp [hk] at h
  have hx : x = l.take n ∧ r = l.drop n := by
    simp only [if_neg hk] at h
    cases h
    exact ⟨rfl, rfl⟩
  obtain ⟨rfl, rfl⟩ := hx
  refine ⟨by rw [List.length_drop]; omega, fun m s e => ?_, fun s => ?_⟩
  · subst e
    rw [List.length_append] at hk
    refine ⟨fun hs => ?_, fun hs => ?_⟩
    · rw [List.length_drop, List.length_append] at hs
      have hkm : n ≤ m.length := by omega
      exact ⟨m.drop n, by simp only []; rw [if_neg (by omega), List.take_append_of_le_length hkm], by rw [List.drop_append_of_le_length hkm]⟩
    · rw [List.length_drop, List.length_append] at hs
      simp only []
      rw [if_pos (by omega)]
  · simp only []
    rw [if_neg (by rw [List.length_append]; omega), List.take_append_of_le_length (by omega), List.drop_append_of_le_length (by omega)]
theorem pBytes_pB : pBytes = pB (pNum 4) fun n l => if l.length < n then .error 4 else .ok (l.take n, l.drop n) := by
  funext l
  simp only [pBytes, pB]
  cases pNum 4 l <;> rfl
theorem pText_pB : pText = pB pBytes fun b l => if vld b = true then .ok (b, l) else .error 6 := by
  funext l
  simp only [pText, pB]
  cases pBytes l <;> rfl
theorem pFlag_pB : pFlag = pB (pNum 1) fun n l => if decide (¬ 1 < n) = true then .ok (decide (n = 1), l) else .error 16 := by
  unfold pFlag
  congr 1
  funext n l
  by_cases h : 1 < n <;> simp [h]
theorem cut_bytes : CutP pBytes := by rw [pBytes_pB]; exact cut_pB (cut_num 4) cut_take
theorem cut_text : CutP pText := by rw [pText_pB]; exact cut_pB cut_bytes fun b => cut_chk (β := Unit) (vld b) b 6
theorem cut_flag : CutP pFlag := by rw [pFlag_pB]; exact cut_pB (cut_num 1) fun n => cut_chk (β := Unit) (decide (¬ 1 < n)) (decide (n = 1)) 16
theorem cut_tx : CutP pTx := cut_pB cut_text fun _ => cut_pR _
theorem cut_many {α : Type} {p : Prs α} (hp : CutP p) : ∀ n, CutP (pMany p n)
  | 0 => cut_pR []
  | n + 1 => cut_pB hp fun _ => cut_pB (cut_many hp n) fun _ => cut_pR _
theorem cut_rg : CutP pRg := cut_pB (cut_num 8) fun _ => cut_pB (cut_num 8) fun _ => cut_pR _
theorem cut_hd : CutP pHd := cut_pB (cut_num 8) fun _ => cut_pB (cut_num 2) fun n => cut_pB (cut_many cut_rg n) fun _ => cut_pR _
theorem cut_cu : CutP pCu := cut_pB (cut_pB (cut_num 8) fun _ => cut_pB (cut_num 8) fun _ => cut_pB (cut_num 2) fun n => cut_pB (cut_many cut_hd n) fun _ => cut_pR _) fun c => cut_chk (β := Unit) (cuOkB c.ml c.me c.h) c 23
theorem cut_sb : CutP pSb := cut_pB cut_tx fun _ => cut_pB (cut_num 1) fun _ => cut_pB cut_cu fun _ => cut_pR _
theorem cut_ld : CutP pLd := cut_pB (cut_num 8) fun _ => cut_pB cut_flag fun _ => cut_pB (cut_num 8) fun _ => cut_pR _
theorem pLine_pB : pLine = pB pText fun n => pB (pNum 8) fun d => pB (pNum 8) fun g => pB (pNum 8) fun e => pR ((⟨n.toArray⟩, (d, d, g, e)) : ByteArray × Ln) := by
  funext l
  simp only [pLine, pB]
  cases pText l with
  | error c => rfl
  | ok x =>
    obtain ⟨n, l1⟩ := x
    simp only
    cases pNum 8 l1 with
    | error c => rfl
    | ok x =>
      obtain ⟨d, l2⟩ := x
      simp only
      cases pNum 8 l2 with
      | error c => rfl
      | ok x =>
        obtain ⟨g, l3⟩ := x
        simp only
        cases pNum 8 l3 <;> rfl
theorem cut_line : CutP pLine := by rw [pLine_pB]; exact cut_pB cut_text fun _ => cut_pB (cut_num 8) fun _ => cut_pB (cut_num 8) fun _ => cut_pB (cut_num 8) fun _ => cut_pR _
theorem cut_if {α : Type} (c : Bool) (e : Nat) {p : Prs α} (hp : CutP p) : CutP (fun l => if c = true then .error e else p l) := by
  cases c with
  | true => intro l x r h; simp at h
  | false => simpa using hp
theorem pLines_pB (n : Nat) (T : Tbl) (last : ByteArray) : pLines (n + 1) T last = pB pLine fun x l => if lnBad T last x = true then .error 23 else pLines n (setB T x.1 x.2) x.1 l := by
  funext l
  simp only [pLines, pB]
  cases pLine l <;> rfl
theorem cut_lines : ∀ n T last, CutP (pLines n T last)
  | 0, T, last => cut_pR T
  | n + 1, T, last => by
    rw [pLines_pB]
    exact cut_pB cut_line fun x => cut_if (lnBad T last x) 23 (cut_lines n _ _)
theorem pTab_pB : pTab = pB (pNum 1) fun n => pLines n [] ⟨#[]⟩ := by
  funext l
  simp only [pTab, pB]
  cases pNum 1 l <;> rfl
theorem cut_tab : CutP pTab := by rw [pTab_pB]; exact cut_pB (cut_num 1) fun n => cut_lines n _ _
theorem cut_tp : CutP pTp := cut_pB (cut_num 8) fun ep => cut_pB (cut_num 8) fun last => cut_pB (cut_num 1) fun n => cut_pB (cut_many cut_ld n) fun t => cut_pB (cut_num 1) fun k => cut_pB (cut_many cut_sb k) fun s => cut_pB cut_tab fun T => by
  by_cases h : tpOk (last : Int) t s
  · simp only [if_pos h]; exact cut_pR _
  · simp only [if_neg h]; intro l x r h; simp at h
end Go.Proofs.YticefdfhcahlfaaDoor.AM

namespace Go.Proofs.YticefdfhcahlfaaDoor.AM
open Go.RowKit
set_option maxRecDepth 100000
set_option linter.unusedVariables false
set_option linter.unusedSimpArgs false
theorem cut_item : CutP pItem := cut_pB (cut_num 8) fun _ => cut_pB cut_bytes fun _ => cut_pR _
theorem cut_note : CutP pNote := cut_pB (cut_num 1) fun _ => cut_pB (cut_num 1) fun _ => cut_pB cut_flag fun _ => cut_pB (cut_num 1) fun _ => cut_pB (cut_many (cut_num 8) 7) fun _ => cut_pB cut_tx fun _ => cut_pB cut_tx fun _ => cut_pB cut_bytes fun _ => cut_pB (cut_num 2) fun n => cut_pB (cut_many cut_item n) fun _ => cut_pR _
theorem pTx_f2 {s : ByteArray} (h : s.size < 4294967296) (r : List UInt8) : pTx (txB s ++ r) = .ok (s, r) ∨ pTx (txB s ++ r) = .error 6 := by
  cases hv : vld s.data.toList with
  | true => exact .inl (pTx_f s r ⟨h, hv⟩)
  | false =>
    right
    have e : txB s ++ r = beN 4 s.data.toList.length ++ (s.data.toList ++ r) := by simp [txB]
    rw [e, pTx]
    refine pB_err ?_
    rw [pText, pBytes_of (by simpa using h)]
    simp [hv]
theorem pBytes_f {d : List UInt8} (h : d.length < 4294967296) (r : List UInt8) : pBytes (byB d ++ r) = .ok (d, r) := by
  rw [byB, List.append_assoc, pBytes_of h]
theorem pItem_f : Fwd pItem itB fun x => x.1 < 18446744073709551616 ∧ x.2.length < 4294967296 := fun x r h => by
  have e : itB x ++ r = beN 8 x.1 ++ (byB x.2 ++ r) := by simp [itB]
  rw [e, pItem, pB_ok (pNum_beN (by rw [show (256 : Nat) ^ 8 = 18446744073709551616 by decide]; exact h.1) _), pB_ok (pBytes_f h.2 _)]
  rfl
theorem pNote_f {x : NoteV} (ok : x.Ok) (hc : 0 ≤ x.code ∧ x.code ≤ 255) (hn : x.name.size ≤ 5000 ∧ x.key.size ≤ 5000 ∧ x.data.length ≤ 5000 ∧ x.items.length ≤ 60) (he : ∀ y ∈ x.items, y.1 < 18446744073709551616 ∧ y.2.length < 4294967296) (r : List UInt8) : pNote (noteB x ++ r) = .ok (x, r) ∨ pNote (noteB x ++ r) = .error 6 := by
  obtain ⟨h1, h2, h3, h4⟩ := hn
  have hcn : codeN x < 256 ∧ ((codeN x : Nat) : Int) = x.code := by
    have : IntKind.u8.wrap x.code = x.code := by rw [IntWalk.u8_in]; omega
    rw [codeN, this]; omega
  have e : noteB x ++ r = beN 1 x.kind ++ (beN 1 x.topic ++ (beN 1 (if x.yes then 1 else 0) ++ (beN 1 (codeN x) ++ ((x.nums.map (beN 8)).flatten ++ (txB x.name ++ (txB x.key ++ (byB x.data ++ (beN 2 x.items.length ++ ((x.items.map itB).flatten ++ r))))))))) := by
    simp only [noteB, noteH, noteM, numsB, itsB]
    rw [Nat.mod_eq_of_lt (by omega)]
    simp
  have hnum : pMany (pNum 8) 7 ((x.nums.map (beN 8)).flatten ++ (txB x.name ++ (txB x.key ++ (byB x.data ++ (beN 2 x.items.length ++ ((x.items.map itB).flatten ++ r)))))) = .ok (x.nums, txB x.name ++ (txB x.key ++ (byB x.data ++ (beN 2 x.items.length ++ ((x.items.map itB).flatten ++ r))))) := by
    have := pMany_f (p := pNum 8) (B := beN 8) (P := fun n => n < 256 ^ 8) (fun n r h => pNum_beN h r) x.nums (txB x.name ++ (txB x.key ++ (byB x.data ++ (beN 2 x.items.length ++ ((x.items.map itB).flatten ++ r))))) fun n hn => by rw [show (256 : Nat) ^ 8 = 18446744073709551616 by decide]; exact ok.lt n hn
    rw [ok.nums] at this
    exact this
  have k1 := ok.kind
  have k2 := ok.topic
  rw [e, pNote, pB_ok (pNum_beN (by simpa using k1) _), pB_ok (pNum_beN (by simpa using k2) _), pB_ok (pFlag_f _ _), pB_ok (pNum_beN (by simpa using hcn.1) _), pB_ok hnum]
  rcases pTx_f2 (s := x.name) (by omega) (txB x.key ++ (byB x.data ++ (beN 2 x.items.length ++ ((x.items.map itB).flatten ++ r)))) with hx | hx
  · rw [pB_ok hx]
    rcases pTx_f2 (s := x.key) (by omega) (byB x.data ++ (beN 2 x.items.length ++ ((x.items.map itB).flatten ++ r))) with hy | hy
    · left
      rw [pB_ok hy, pB_ok (pBytes_f (by omega) _), pB_ok (pNum_beN (by simp; omega) _), pB_ok (pMany_f pItem_f _ _ he), hcn.2]
      rfl
    · right; exact pB_err hy
  · right; exact pB_err hx
theorem note_cut {x : NoteV} {m s : List UInt8} (h : pNote (noteB x) = .ok (x, []) ∨ pNote (noteB x) = .error 6) (e : noteB x = m ++ s) (hs : s ≠ []) : ∀ y, pNote m ≠ .ok (y, []) := fun y hy => by
  have := (cut_note _ _ _ hy).2.2 s
  rw [← e] at this
  rcases h with h | h
  · rw [h] at this; cases this; exact hs rfl
  · rw [h] at this; cases this
theorem tp_cut {l m s : List UInt8} {x : Tp} (h : pTp l = .ok (x, [])) (e : l = m ++ s) (hs : s ≠ []) : pTp m = .error 4 := by
  have hl : 0 < s.length := List.length_pos_iff.2 hs
  exact ((cut_tp _ _ _ h).2.1 m s e).2 (by simpa using hl)
theorem tp_more {l s : List UInt8} {x : Tp} (h : pTp l = .ok (x, [])) : pTp (l ++ s) = .ok (x, s) := by simpa using (cut_tp _ _ _ h).2.2 s
end Go.Proofs.YticefdfhcahlfaaDoor.AM
