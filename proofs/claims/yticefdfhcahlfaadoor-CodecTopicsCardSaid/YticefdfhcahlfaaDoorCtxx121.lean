/- What the functions of this chapter give: their contracts over the machine. -/
import Derived.Test.YticefdfhcahlfaaDoorCtx121
import Derived.Test.YticefdfhcahlfaaDoorCt121
import Derived.Test.YticefdfhcahlfaaDoorAm3
/- The document's Topic, walked. -/
namespace Go.Proofs.YticefdfhcahlfaaDoor.AM
open Go.RowKit
set_option maxRecDepth 100000
set_option linter.unusedVariables false
set_option linter.unusedSimpArgs false

def RlJ (p : Nat) (cells : List AVal) (T : Tbl) (σ0 : St) (mm : Nat) (rg : Regs) (σ' : St) : Prop := ∃ i : Nat, mm = T.length - i ∧ i ≤ T.length ∧ Grow σ0 σ' ∧ (p < σ'.next ∧ σ'.mem.get p = some (.cells 5 cells)) ∧ (∀ j, j < i → lnCond T j) ∧ rg = [(1, .ptr p 0), (4, i64 i)]
def R1J (p : Nat) (t : List Ld) (l : List UInt8) (S : St) (mm : Nat) (rg : Regs) (σ' : St) : Prop := ∃ (i : Nat) (v : AVal) (b : Option Nat), mm = t.length - i ∧ i ≤ t.length ∧ GS rwB σ' v (l ++ ldsB (t.take i)) b ∧ BStp none b S σ' ∧ rg = [(1, .ptr p 0), (6, v), (7, i64 i)]
def R2J (p : Nat) (s : List SbV) (l : List UInt8) (S : St) (mm : Nat) (rg : Regs) (σ' : St) : Prop := ∃ (i : Nat) (v : AVal) (b : Option Nat), mm = s.length - i ∧ i ≤ s.length ∧ GS rwB σ' v (l ++ sbsB (s.take i)) b ∧ BStp none b S σ' ∧ rg = [(1, .ptr p 0), (6, v), (9, i64 i)]
theorem sbsB_take (s : List SbV) (i : Nat) : (sbsB (s.take i)).length ≤ (sbsB s).length := by
  conv => rhs; rw [← List.take_append_drop i s]
  simp only [sbsB, List.map_append, List.flatten_append, List.length_append]
  omega
theorem BStp.ofG (b : Option Nat) {σ σ' : St} (g : Grow σ σ') : BStp b b σ σ' := ⟨g.1, fun _ h => .inl h, fun a ha _ => g.2 a ha⟩
set_option maxHeartbeats 4000000 in
theorem rtopic_c {σ : St} {lv sv nv : AVal} {t : List Ld} {s : List SbV} {cs : List AVal} {T : Tbl} {ep last : Nat} (hr : TpR σ lv sv t s cs) (hI : SbI cs s) (hn : Rd 5 σ nv T.length (rws rwL T)) (hf : TFew t s) (hb : TBd ep last t s T) (hsb : (sbsB s).length ≤ 400000) (Q : AVal → St → Prop)
    (hQ : ∀ v c σ', EnRel ep last t s T σ' v c → Grow σ σ' → Q (.tup [v, i64 (c : Nat)]) σ') : ACall Tryd.prog 31 [.agg [u64 (ep : Int), u64 (last : Int), lv, sv, nv]] σ Q := by
  refine ACall.of_compF hmx (fun a w => Tryd.call31 a w) Tryd.func31 cf31 (n := 1) (by decide) rfl ?_
  obtain ⟨o1, o2⟩ := hr.rl.one
  obtain ⟨o3, o4⟩ := hr.rs.one
  obtain ⟨o5, o6⟩ := hn.one
  have l1 := hr.rl.len
  have l2 := hr.rs.len
  have l3 := hn.len
  have hTl := hb.bTl
  simp [ac31, rs31, lk_cons, o1, o2, o3, o4, o5, o6]
  obtain ⟨S, hS⟩ : ∃ S : St, S = ⟨σ.mem.set σ.next (.cells 5 [u64 (ep : Int), u64 (last : Int), lv, sv, nv]), σ.next + 1⟩ := ⟨_, rfl⟩
  have gS : Grow σ S := ⟨by rw [hS]; exact Nat.le_succ _, fun a ha => by rw [hS]; simp [show ¬ a = σ.next by omega]⟩
  have nS : S.next = σ.next + 1 := by rw [hS]
  have mS : S.mem.get σ.next = some (.cells 5 [u64 (ep : Int), u64 (last : Int), lv, sv, nv]) := by rw [hS]; simp
  rw [← hS]
  refine wp_loop (RlJ σ.next [u64 (ep : Int), u64 (last : Int), lv, sv, nv] T σ) T.length ?_ ?_
  · exact ⟨0, rfl, Nat.zero_le _, gS, ⟨by omega, mS⟩, by omega, by simp [lk_cons]⟩
  rintro mm rg σ1 ⟨i, rfl, hi, g1, ⟨hp1, m1⟩, hall, rfl⟩
  have n1 := g1.1
  by_cases hlt : i < T.length
  · obtain ⟨⟨xn, x1, x2, xa, xb⟩, hx⟩ : ∃ x, T[i]? = some x := ⟨_, List.getElem?_eq_getElem hlt⟩
    have w1 : IntKind.i64.wrap ((i : Int) + 1) = ((i + 1 : Nat) : Int) := by rw [IntWalk.i64_in] <;> omega
    obtain ⟨p, p1, p2, _⟩ := hn.at hlt (ρ := σ1) g1.2
    have row : ((rws rwL T).drop (i * 5)).take 5 = [.str xn, u64 (x1 : Int), u64 (x2 : Int), u64 (xa : Int), u64 (xb : Int)] := rws_at rwL hx
    rw [row] at p2
    obtain ⟨S1, hS1⟩ : ∃ S : St, S = ⟨(σ1.mem.set σ1.next (.cells 5 [.str ⟨#[]⟩, .int .u64 0, .int .u64 0, .int .u64 0, .int .u64 0])).set σ1.next (.cells 5 [.str xn, u64 (x1 : Int), u64 (x2 : Int), u64 (xa : Int), u64 (xb : Int)]), σ1.next + 1⟩ := ⟨_, rfl⟩
    have kS1 : ∀ a, a < σ1.next → S1.mem.get a = σ1.mem.get a := fun a ha => by rw [hS1]; simp [show ¬ a = σ1.next by omega]
    have nS1 : S1.next = σ1.next + 1 := by rw [hS1]
    have gS1 : Grow σ S1 := g1.trans ⟨by omega, kS1⟩
    have z1 : ¬ σ.next = σ1.next := by omega
    have bad : ¬ lnCond T i → Q (.tup [.nilsl, i64 (23 : Nat)]) S1 := fun hc => hQ _ 23 S1 (.inl ⟨rfl, rfl, fun e => hc (e.1 i hlt)⟩) gS1
    by_cases e0 : xn.size < 1
    · have e0' : (xn.size : Int) < 1 := by omega
      simp [lk_cons, m1, ↓l3, hlt, ↓p1, ↓p2, storeL, e0, e0']
      rw [← hS1]
      exact bad fun e => by have : 1 ≤ xn.size := (e _ hx).1.1; omega
    have e0' : ¬ (xn.size : Int) < 1 := by omega
    by_cases e1 : 64 < xn.size
    · have e1' : (64 : Int) < xn.size := by omega
      simp [lk_cons, m1, ↓l3, hlt, ↓p1, ↓p2, storeL, e0, e0', e1, e1']
      rw [← hS1]
      exact bad fun e => by have : xn.size ≤ 64 := (e _ hx).1.2; omega
    have e1' : ¬ (64 : Int) < xn.size := by omega
    by_cases e2 : x2 = 0
    · have e2' : (x2 : Int) = 0 := by omega
      simp [lk_cons, m1, ↓l3, hlt, ↓p1, ↓p2, storeL, e0, e0', e1, e1', iff_true_intro e2, iff_true_intro e2']
      rw [← hS1]
      exact bad fun e => (e _ hx).2.2.1 e2
    have e2' : ¬ (x2 : Int) = 0 := by omega
    by_cases e3 : x1 = x2
    case neg =>
      have e3' : ¬ (x1 : Int) = (x2 : Int) := by omega
      simp [lk_cons, m1, ↓l3, hlt, ↓p1, ↓p2, storeL, e0, e0', e1, e1', e2, e2', e3, e3']
      rw [← hS1]
      exact bad fun e => e3 (e _ hx).2.1
    subst e3
    have hprev : i = 0 ∨ 0 < i ∧ ∃ y P P0, T[i - 1]? = some y ∧ evalV S1 (.idxAddr 5 nv (.int .i64 ((i : Int) - 1))) = some (P, S1) ∧ evalV S1 (.fieldAddr 0 P) = some (P0, S1) ∧ evalV S1 (.ld1 P0) = some (.str y.1, S1) := by
      by_cases h0 : i = 0
      · exact .inl h0
      · obtain ⟨y, hy⟩ : ∃ y, T[i - 1]? = some y := ⟨_, List.getElem?_eq_getElem (by omega)⟩
        obtain ⟨P, q1, _, qf⟩ := hn.at (show i - 1 < T.length by omega) (ρ := S1) gS1.2
        obtain ⟨P0, r1, _, r2⟩ := qf 0 1 (by decide)
        refine .inr ⟨by omega, y, P, P0, hy, ?_, r1, r2 _ (by decide) (rwL_row hy).1⟩
        rw [← q1]; congr 2; simp only [i64]; congr 1; omega
    have ws : 0 < i → IntKind.i64.wrap ((i : Int) - 1) = (i : Int) - 1 := fun h => by rw [IntWalk.i64_in] <;> omega
    rw [hS1] at hprev
    have mk : (∀ y, 0 < i → T[i - 1]? = some y → lessB y.1 xn = true) → i < 16 → lnCond T i := fun hc h16 z hz => by
      rw [hx] at hz; cases hz
      exact ⟨⟨by show 1 ≤ xn.size; omega, by show xn.size ≤ 64; omega⟩, rfl, e2, hc, h16⟩
    have fin : lnCond T i → ∃ m', m' < T.length - i ∧ RlJ σ.next [u64 (ep : Int), u64 (last : Int), lv, sv, nv] T σ m' [(1, .ptr σ.next 0), (4, i64 ((i + 1 : Nat) : Int))] S1 := fun hc =>
      ⟨T.length - (i + 1), by omega, i + 1, rfl, by omega, gS1, ⟨by omega, (kS1 _ (by omega)).trans m1⟩, lnOk_step hall hc, rfl⟩
    have h16all : (∀ j, j < i → lnCond T j) → i ≤ 16 := fun h => by
      by_cases h0 : i = 0
      · omega
      · obtain ⟨y, hy⟩ : ∃ y, T[i - 1]? = some y := ⟨_, List.getElem?_eq_getElem (by omega)⟩
        have := (h (i - 1) (by omega) y hy).2.2.2.2
        omega
    have hle16 := h16all hall
    by_cases h16 : i = 16
    · have h16' : (i : Int) = 16 := by omega
      have nol : ¬ lnCond T i := fun e => by have := (e _ hx).2.2.2.2; omega
      rcases hprev with hi0 | ⟨hi1, y, P, P0, hy, q1, q2, q3⟩
      · omega
      have ws := ws hi1
      have hi1' : (0 : Int) < i := by omega
      cases hle : (lessB xn y.1 || decide (xn = y.1)) with
      | true =>
        simp [lk_cons, m1, z1, ↓l3, hlt, ↓p1, ↓p2, storeL, e0, e0', e1, e1', e2, e2', hi1, hi1', ws, ↓q1, ↓q2, ↓q3, strLeq, hle]
        rw [← hS1]
        exact bad nol
      | false =>
        simp [lk_cons, m1, z1, ↓l3, hlt, ↓p1, ↓p2, storeL, e0, e0', e1, e1', e2, e2', hi1, hi1', ws, ↓q1, ↓q2, ↓q3, strLeq, hle, iff_true_intro h16, iff_true_intro h16']
        rw [← hS1]
        exact bad nol
    have h16' : ¬ (i : Int) = 16 := by omega
    rcases hprev with hi0 | ⟨hi1, y, P, P0, hy, q1, q2, q3⟩
    · have hi1 : ¬ 0 < i := by omega
      simp [lk_cons, m1, z1, ↓l3, hlt, ↓p1, ↓p2, storeL, e0, e0', e1, e1', e2, e2', hi1, h16, h16', w1]
      rw [← hS1]
      exact fin (mk (fun y h0 => absurd h0 hi1) (by omega))
    · have ws := ws hi1
      have hi1' : (0 : Int) < i := by omega
      cases hle : lessB y.1 xn with
      | false =>
        have hle2 : (lessB xn y.1 || decide (xn = y.1)) = true := by
          cases h3 : lessB xn y.1 with
          | true => rfl
          | false => simp [lessB_tri h3 hle]
        simp [lk_cons, m1, z1, ↓l3, hlt, ↓p1, ↓p2, storeL, e0, e0', e1, e1', e2, e2', hi1, hi1', ws, ↓q1, ↓q2, ↓q3, strLeq, hle2]
        rw [← hS1]
        exact bad fun e => by have := (e _ hx).2.2.2.1 y hi1 hy; rw [hle] at this; cases this
      | true =>
        have hle2 : (lessB xn y.1 || decide (xn = y.1)) = false := by
          rw [lessB_asymm hle, Bool.false_or, decide_eq_false_iff_not]
          intro e
          rw [e, lessB_irrefl] at hle; cases hle
        simp [lk_cons, m1, z1, ↓l3, hlt, ↓p1, ↓p2, storeL, e0, e0', e1, e1', e2, e2', hi1, hi1', ws, ↓q1, ↓q2, ↓q3, strLeq, hle2, h16, h16', w1]
        rw [← hS1]
        exact fin (mk (fun z _ hz => by rw [hy] at hz; cases hz; exact hle) (by omega))
  have : i = T.length := by omega
  subst this
  have hok : lnOkT T := hall
  simp [lk_cons, m1, ↓l3]
  refine tpright_g ⟨hr.rl.frame g1.1 g1.2, hr.rs.frame g1.1 g1.2, hr.rc.frame g1.1 g1.2⟩ hf (ep : Int) (last : Int) o5 _ fun b hbk => ?_
  cases b with
  | false =>
    simp [lk_cons]
    exact hQ .nilsl 23 σ1 (.inl ⟨rfl, rfl, fun e => by have := hbk.2 e.2; cases this⟩) g1
  | true =>
    have htp := hbk.1 rfl
    have h64 := htp.1.1
    have h2 := htp.2.2.1
    simp [lk_cons, m1]
    have mA : ∀ {σ' : St} {b' : Option Nat}, BStp none b' σ1 σ' → σ'.mem.get σ.next = some (.cells 5 [u64 (ep : Int), u64 (last : Int), lv, sv, nv]) := fun q => (q.keep σ.next (by omega) (by simp)).trans m1
    have gA : ∀ {σ' : St} {b' : Option Nat}, BStp none b' σ1 σ' → Grow σ σ' := fun q => g1.trans q.grow0
    have wl : IntKind.u64.wrap (t.length : Int) = t.length := by rw [IntWalk.u64_in] <;> omega
    have wl2 : IntKind.u64.wrap (s.length : Int) = s.length := by rw [IntWalk.u64_in] <;> omega
    refine rput_c (GS.nil σ1) (n := ep) (size := 8) (by decide) (by simp) hb.be.1 _ fun v2 σ2 b2 h2 t2 => ?_
    simp [lk_cons, mA t2]
    refine rput_c h2 (n := last) (size := 8) (by decide) (by simp [beN_len]) hb.be.2 _ fun v3 σ3 b3 h3 t3 => ?_
    have t3 := t2.trans t3
    simp [lk_cons, mA t3, ↓l1, wl]
    refine rput_c h3 (n := t.length) (size := 1) (by decide) (by simp [beN_len]) (by omega) _ fun v4 σ4 b4 h4 t4 => ?_
    have t4 := t3.trans t4
    simp [lk_cons]
    obtain ⟨L0, hL0⟩ : ∃ L0, [] ++ beN 8 ep ++ beN 8 last ++ beN 1 t.length = L0 := ⟨_, rfl⟩
    have hL0l : L0.length = 17 := by rw [← hL0]; simp [beN_len]
    rw [hL0] at h4
    refine wp_loop (R1J σ.next t L0 σ1) t.length ?_ ?_
    · exact ⟨0, v4, b4, rfl, Nat.zero_le _, by simpa [ldsB] using h4, t4, by simp [lk_cons]⟩
    rintro mm rg σ5 ⟨i, v5, b5, rfl, hi, h5, s5, rfl⟩
    have hll := ldsB_len (t.take i)
    rw [List.length_take] at hll
    by_cases hlt : i < t.length
    · obtain ⟨x, hx⟩ : ∃ x, t[i]? = some x := ⟨_, List.getElem?_eq_getElem hlt⟩
      have hxm := List.mem_of_getElem? hx
      have w1 : IntKind.i64.wrap ((i : Int) + 1) = ((i + 1 : Nat) : Int) := by rw [IntWalk.i64_in] <;> omega
      have htk : t.take (i + 1) = t.take i ++ [x] := by rw [List.take_add_one, hx]; rfl
      obtain ⟨p, p1, p2, _⟩ := hr.rl.at hlt (ρ := σ5) (gA s5).2
      rw [(ldc_take hx).1] at p2
      obtain ⟨na, ea, ta, ba⟩ := nat_of (hb.bl x hxm).1
      obtain ⟨nc, ec, tc, bc⟩ := nat_of (hb.bl x hxm).2
      rw [ea, ec] at p2
      simp [lk_cons, mA s5, ↓l1, hlt, ↓p1, ↓p2, storeL]
      obtain ⟨S5, hS5⟩ : ∃ S5 : St, S5 = ⟨(σ5.mem.set σ5.next (.cells 3 [.int .u64 0, .bool false, .int .u64 0])).set σ5.next (.cells 3 [u64 (na : Int), .bool x.f1, u64 (nc : Int)]), σ5.next + 1⟩ := ⟨_, rfl⟩
      have gS5 : Grow σ5 S5 := ⟨by rw [hS5]; exact Nat.le_succ _, fun a ha => by rw [hS5]; simp [show ¬ a = σ5.next by omega]⟩
      have nS5 : S5.next = σ5.next + 1 := by rw [hS5]
      have mS5 : S5.mem.get σ5.next = some (.cells 3 [u64 (na : Int), .bool x.f1, u64 (nc : Int)]) := by rw [hS5]; simp
      have hb5 : ∀ x, b5 = some x → x < σ5.next := fun x hx => h5.lt hx
      have mm5 : ∀ {σ' : St} {b' : Option Nat}, BStp b5 b' S5 σ' → σ'.mem.get σ5.next = S5.mem.get σ5.next := fun q => q.keep σ5.next (by omega) (fun e => by have := hb5 _ e; omega)
      have s5S : BStp none b5 σ1 S5 := s5.trans (BStp.ofG b5 gS5)
      rw [← hS5]
      refine rput_c (h5.grow gS5) (n := na) (size := 8) (by decide) (by rw [List.length_append]; omega) ba _ fun v6 σ6 b6 h6 t6 => ?_
      simp [lk_cons, mm5 t6, mS5]
      refine refyes_c _ _ ?_
      simp [lk_cons, mm5 t6, mS5]
      refine rput_c h6 (n := if x.f1 then 1 else 0) (size := 1) (by decide) (by simp only [List.length_append, beN_len]; omega) (by split <;> decide) _ fun v7 σ7 b7 h7 t7 => ?_
      have t7 := t6.trans t7
      simp [lk_cons, mm5 t7, mS5]
      refine rput_c h7 (n := nc) (size := 8) (by decide) (by simp only [List.length_append, beN_len]; omega) bc _ fun v8 σ8 b8 h8 t8 => ?_
      have t8 := t7.trans t8
      simp [lk_cons, w1]
      refine ⟨t.length - (i + 1), by omega, i + 1, v8, b8, rfl, by omega, ?_, s5S.trans t8, rfl⟩
      rw [htk, ldsB_snoc, ldB, ta, tc]
      simpa [List.append_assoc] using h8
    have : i = t.length := by omega
    subst this
    rw [List.take_length] at h5 hll
    simp [lk_cons, mA s5, ↓l1, ↓l2, wl2]
    refine rput_c h5 (n := s.length) (size := 1) (by decide) (by rw [List.length_append]; omega) (by omega) _ fun v6 σ6 b6 h6 t6 => ?_
    have t6 := s5.trans t6
    simp [lk_cons]
    obtain ⟨L1, hL1⟩ : ∃ L1, L0 ++ ldsB t ++ beN 1 s.length = L1 := ⟨_, rfl⟩
    have hL1l : L1.length ≤ 2000 := by rw [← hL1]; simp only [List.length_append, beN_len]; omega
    rw [hL1] at h6
    refine wp_loop (R2J σ.next s L1 σ1) s.length ?_ ?_
    · exact ⟨0, v6, b6, rfl, Nat.zero_le _, by simpa [sbsB] using h6, t6, by simp [lk_cons]⟩
    rintro mm rg σ7 ⟨i, v7, b7, rfl, hi, h7, s7, rfl⟩
    have hsl := sbsB_take s i
    by_cases hlt : i < s.length
    · obtain ⟨x, hx⟩ : ∃ x, s[i]? = some x := ⟨_, List.getElem?_eq_getElem hlt⟩
      have hxm := List.mem_of_getElem? hx
      have hxc := htp.2.2.2 i hlt x hx
      have w1 : IntKind.i64.wrap ((i : Int) + 1) = ((i + 1 : Nat) : Int) := by rw [IntWalk.i64_in] <;> omega
      have htk : s.take (i + 1) = s.take i ++ [x] := by rw [List.take_add_one, hx]; rfl
      obtain ⟨p, p1, p2, _⟩ := hr.rs.at hlt (ρ := σ7) (gA s7).2
      obtain ⟨hv, c1, c2⟩ := hI.get hx
      rw [c2] at p2
      simp only [sbA] at p2
      have hv1 := c1.one
      have hbx := hb.bs x hxm
      have hxn := hxc.1.2
      have hsz : x.name.size ≤ 140737488355328 := by omega
      simp [lk_cons, mA s7, ↓l2, hlt, ↓p1, ↓p2, storeL, hv1]
      obtain ⟨S7, hS7⟩ : ∃ S7 : St, S7 = ⟨(σ7.mem.set σ7.next (.cells 5 [.str ⟨#[]⟩, .int .u8 0, .int .u64 0, .int .u64 0, .nilsl])).set σ7.next (.cells 5 [.str x.name, .int .u8 (x.kind : Int), u64 x.ml, u64 x.me, hv]), σ7.next + 1⟩ := ⟨_, rfl⟩
      have gS7 : Grow σ7 S7 := ⟨by rw [hS7]; exact Nat.le_succ _, fun a ha => by rw [hS7]; simp [show ¬ a = σ7.next by omega]⟩
      have nS7 : S7.next = σ7.next + 1 := by rw [hS7]
      have mS7 : S7.mem.get σ7.next = some (.cells 5 [.str x.name, .int .u8 (x.kind : Int), u64 x.ml, u64 x.me, hv]) := by rw [hS7]; simp
      have hb7 : ∀ x, b7 = some x → x < σ7.next := fun x hx => h7.lt hx
      obtain ⟨S8, hS8⟩ : ∃ S8 : St, S8 = ⟨(((σ7.mem.set σ7.next (.cells 5 [.str ⟨#[]⟩, .int .u8 0, .int .u64 0, .int .u64 0, .nilsl])).set σ7.next (.cells 5 [.str x.name, .int .u8 (x.kind : Int), u64 x.ml, u64 x.me, hv])).set (σ7.next + 1) (.cells 1 (x.name.data.toList.map fun b => .int .u8 (b.toNat : Int)))), σ7.next + 1 + 1⟩ := ⟨_, rfl⟩
      have gS8 : Grow S7 S8 := ⟨by rw [hS7, hS8]; exact Nat.le_succ _, fun a ha => by rw [hS8, hS7]; simp [show ¬ a = σ7.next + 1 by rw [hS7] at ha; exact Nat.ne_of_lt ha]⟩
      have nS8 : S8.next = σ7.next + 2 := by rw [hS8]
      have mm7 : ∀ {σ' : St} {b' : Option Nat}, BStp b7 b' S8 σ' → σ'.mem.get σ7.next = some (.cells 5 [.str x.name, .int .u8 (x.kind : Int), u64 x.ml, u64 x.me, hv]) := fun q => (q.keep σ7.next (by omega) (fun e => by have := hb7 _ e; omega)).trans ((gS8.2 _ (by omega)).trans mS7)
      have s8S : BStp none b7 σ1 S8 := s7.trans (BStp.ofG b7 (gS7.trans gS8))
      have hlb : x.name.data.toList.length = x.name.size := by simp
      have u8 : RdB S8 (.sl (σ7.next + 1) 0 x.name.size x.name.size false) x.name.data.toList (some (σ7.next + 1)) := RdB.ofGS (.inr ⟨σ7.next + 1, false, rfl, by rw [hlb], by rw [nS8]; omega, by rw [hS8]; simp [rwsB, bytesV]⟩)
      have mS8 := (gS8.2 _ (by omega)).trans mS7
      simp [hsz]
      rw [← hS8]
      simp [lk_cons, mS8, hv1]
      refine rputb_r (h7.grow (gS7.trans gS8)) u8 (fun z hz hb4 => by cases hz; have := hb7 _ hb4; omega) (by rw [List.length_append]; omega) (by omega) _ fun v8 σ8 b8 h8 t8 => ?_
      rw [hlb] at h8
      have wkd : IntKind.u64.wrap (x.kind : Int) = x.kind := by rw [IntWalk.u64_in] <;> omega
      simp [lk_cons, mm7 t8, wkd]
      refine rput_c h8 (n := x.kind) (size := 1) (by decide) (by simp only [List.length_append, beN_len]; omega) (by omega) _ fun v9 σ9 b9 h9 t9 => ?_
      have t9 := t8.trans t9
      simp [lk_cons, mm7 t9, hv1]
      refine cbytes_c h9 c1 hbx.1 hbx.2.1.1 hbx.2.1.2 (by simp only [List.length_append, beN_len]; omega) _ fun va σa ba ha ta => ?_
      have ta := t9.trans ta
      simp [lk_cons, w1]
      refine ⟨s.length - (i + 1), by omega, i + 1, va, ba, rfl, by omega, ?_, s8S.trans ta, rfl⟩
      rw [htk, sbsB_snoc, sbB, txB]
      simpa [List.append_assoc] using ha
    have : i = s.length := by omega
    subst this
    rw [List.take_length] at h7
    have o7 := h7.one
    simp [lk_cons, mA s7, ↓l2, fillL, o5, o6, storeL]
    obtain ⟨S9, hS9⟩ : ∃ S : St, S = ⟨σ7.mem.set σ7.next (.cells 1 [nv]), σ7.next + 1⟩ := ⟨_, rfl⟩
    have gS9 : Grow σ7 S9 := ⟨by rw [hS9]; exact Nat.le_succ _, fun a ha => by rw [hS9]; simp [show ¬ a = σ7.next by omega]⟩
    have nS9 : S9.next = σ7.next + 1 := by rw [hS9]
    have mS9 : S9.mem.get σ7.next = some (.cells 1 [nv]) := by rw [hS9]; simp
    rw [← hS9]
    have G9 := (gA s7).trans gS9
    refine rbytes_g (h7.grow gS9) (by rw [List.length_append]; omega) mS9 (by omega) (hn.frame G9.1 G9.2) hb.bTl hb.bT _ fun v8 ys σ8 b8 py ry h8 t8 => ?_
    have hys : ys = T := RisL.uniq ry (ris_of hok).1 ((py.map _).nodup_iff.2 (ris_of hok).2) py
    subst hys
    have hTB : L1 ++ sbsB s ++ encT ys = tpB ep last t s ys := by
      rw [← hL1, ← hL0, tpB, Nat.mod_eq_of_lt (by omega), Nat.mod_eq_of_lt (by omega)]
      simp [List.append_assoc]
    rw [hTB] at h8
    have G8 : Grow σ σ8 := (gA (s7.trans (BStp.ofG b7 gS9 |>.trans t8)))
    have hlen := h8.len
    have o8 := h8.one.1
    by_cases hc : 3840 < (tpB ep last t s ys).length
    · have hc' : (3840 : Int) < ((tpB ep last t s ys).length : Int) := by omega
      simp [lk_cons, ↓hlen, hc, hc']
      exact hQ .nilsl 3 σ8 (.inr ⟨⟨hok, htp⟩, .inl ⟨rfl, rfl, hc⟩⟩) G8
    · have hc' : ¬ (3840 : Int) < ((tpB ep last t s ys).length : Int) := by omega
      simp [lk_cons, ↓hlen, hc, hc']
      exact hQ v8 0 σ8 (.inr ⟨⟨hok, htp⟩, .inr ⟨rfl, ⟨b8, RdB.ofGS h8⟩, by omega⟩⟩) G8
end Go.Proofs.YticefdfhcahlfaaDoor.AM

/- told, walked. -/
namespace Go.Proofs.YticefdfhcahlfaaDoor.AM
open Go.RowKit
set_option maxRecDepth 100000
set_option linter.unusedVariables false
set_option linter.unusedSimpArgs false

theorem nilStr (ρ : St) : evalV ρ (.bytesStr .nilsl) = some (.str ⟨#[]⟩, ρ) := by simp [srcL, listM]
theorem EnRel.str {ep last : Nat} {t : List Ld} {s : List SbV} {T : Tbl} {σ : St} {v : AVal} {c : Nat} (h : EnRel ep last t s T σ v c) : v.one = true ∧ ∃ l : List UInt8, ∀ {ρ : St}, Grow σ ρ → evalV ρ (.bytesStr v) = some (.str ⟨l.toArray⟩, ρ) := by
  rcases h with ⟨_, rfl, _⟩ | ⟨_, ⟨_, rfl, _⟩ | ⟨_, ⟨b, hb⟩, _⟩⟩
  · exact ⟨rfl, [], fun g => nilStr _⟩
  · exact ⟨rfl, [], fun g => nilStr _⟩
  · exact ⟨hb.one.1, _, fun g => (hb.keep g.1 fun a ha _ => g.2 a ha).str⟩
theorem EnRel.same {ep last : Nat} {t : List Ld} {s : List SbV} {T : Tbl} {σ σ' : St} {v v' : AVal} {c c' : Nat} (h : EnRel ep last t s T σ v c) (h' : EnRel ep last t s T σ' v' c') : c = c' ∧ v.one = true ∧ v'.one = true ∧ ∃ l : List UInt8, (∀ {ρ : St}, Grow σ ρ → evalV ρ (.bytesStr v) = some (.str ⟨l.toArray⟩, ρ)) ∧ ∀ {ρ : St}, Grow σ' ρ → evalV ρ (.bytesStr v') = some (.str ⟨l.toArray⟩, ρ) := by
  rcases h with ⟨rfl, rfl, n⟩ | ⟨y, ⟨rfl, rfl, n⟩ | ⟨rfl, ⟨b, hb⟩, n⟩⟩ <;> rcases h' with ⟨rfl, rfl, m⟩ | ⟨z, ⟨rfl, rfl, m⟩ | ⟨rfl, ⟨b', hb'⟩, m⟩⟩
  · exact ⟨rfl, rfl, rfl, [], fun g => nilStr _, fun g => nilStr _⟩
  · exact absurd z n
  · exact absurd z n
  · exact absurd y m
  · exact ⟨rfl, rfl, rfl, [], fun g => nilStr _, fun g => nilStr _⟩
  · omega
  · exact absurd y m
  · omega
  · exact ⟨rfl, hb.one.1, hb'.one.1, _, fun g => (hb.keep g.1 fun a ha _ => g.2 a ha).str, fun g => (hb'.keep g.1 fun a ha _ => g.2 a ha).str⟩
set_option maxHeartbeats 4000000 in
theorem told_c {σ : St} {lv sv nv : AVal} {t : List Ld} {s : List SbV} {cs : List AVal} {T : Tbl} {ep last : Nat} (hr : TpR σ lv sv t s cs) (hI : SbI cs s) (hn : Rd 5 σ nv T.length (rws rwL T)) (hf : TFew t s) (hb : TBd ep last t s T) (hsb : (sbsB s).length ≤ 400000) (Q : AVal → St → Prop)
    (hQ : ∀ σ', Grow σ σ' → Q (.bool true) σ') : ACall Tryd.prog 13 [.agg [u64 (ep : Int), u64 (last : Int), lv, sv, nv]] σ Q := by
  refine ACall.of_compF hmx (fun a w => Tryd.call13 a w) Tryd.func13 cf13 (n := 1) (by decide) rfl ?_
  obtain ⟨o1, o2⟩ := hr.rl.one
  obtain ⟨o3, o4⟩ := hr.rs.one
  obtain ⟨o5, o6⟩ := hn.one
  simp [ac13, rs13, lk_cons, o1, o2, o3, o4, o5, o6]
  obtain ⟨S, hS⟩ : ∃ S : St, S = ⟨σ.mem.set σ.next (.cells 5 [u64 (ep : Int), u64 (last : Int), lv, sv, nv]), σ.next + 1⟩ := ⟨_, rfl⟩
  have gS : Grow σ S := ⟨by rw [hS]; exact Nat.le_succ _, fun a ha => by rw [hS]; simp [show ¬ a = σ.next by omega]⟩
  have nS : S.next = σ.next + 1 := by rw [hS]
  have mS : S.mem.get σ.next = some (.cells 5 [u64 (ep : Int), u64 (last : Int), lv, sv, nv]) := by rw [hS]; simp
  rw [← hS]
  refine encode_c ⟨hr.rl.frame gS.1 gS.2, hr.rs.frame gS.1 gS.2, hr.rc.frame gS.1 gS.2⟩ hI (hn.frame gS.1 gS.2) hf hb _ fun v c σ1 e1 g1 => ?_
  have m1 := (g1.2 σ.next (by omega)).trans mS
  have G1 := gS.trans g1
  have ve := e1.str.1
  simp [lk_cons, m1, ve, o1, o2, o3, o4, o5, o6]
  refine rtopic_c ⟨hr.rl.frame G1.1 G1.2, hr.rs.frame G1.1 G1.2, hr.rc.frame G1.1 G1.2⟩ hI (hn.frame G1.1 G1.2) hf hb hsb _ fun v' c' σ2 e2 g2 => ?_
  have m2 := (g2.2 σ.next (by have := g1.1; omega)).trans m1
  have G2 := G1.trans g2
  obtain ⟨rfl, _, ve', l, s1, s2⟩ := e1.same e2
  have s1 := s1 g2
  have s2 := s2 (Grow.refl σ2)
  simp [lk_cons, m2, ve, ve', o1, o2, o3, o4, o5, o6]
  refine tpcheck_g ⟨hr.rl.frame G2.1 G2.2, hr.rs.frame G2.1 G2.2, hr.rc.frame G2.1 G2.2⟩ hf (ep : Int) (last : Int) o5 _ fun b hbk => ?_
  simp [lk_cons, m2, ve, ve', o1, o2, o3, o4, o5, o6]
  refine tpright_g ⟨hr.rl.frame G2.1 G2.2, hr.rs.frame G2.1 G2.2, hr.rc.frame G2.1 G2.2⟩ hf (ep : Int) (last : Int) o5 _ fun b' hbk' => ?_
  have hbb : b = b' := by rw [Bool.eq_iff_iff, hbk, hbk']
  subst hbb
  have eqs : abinS .eql (⟨l.toArray⟩ : ByteArray) ⟨l.toArray⟩ = some (.bool true) := by rw [strEq]; simp
  simp [lk_cons, m2, ve, ve', ↓s1, ↓s2, eqs]
  exact hQ _ G2
end Go.Proofs.YticefdfhcahlfaaDoor.AM

/- Made: the ledgers in memory; what Right has made. -/
namespace Go.Proofs.YticefdfhcahlfaaDoor.AM
open Go.RowKit
set_option maxRecDepth 100000
set_option linter.unusedVariables false
set_option linter.unusedSimpArgs false

theorem made13_w {d : AVal} {l : List UInt8} (hb : BytesOf d l) (hl : l.length ≤ 9223372036854775806) (op : Bool) (σ : St) (Q : AVal → St → Prop) (hq : ∀ v t σ', LOut σ.next σ' v t → Mk t → Grow σ σ' → Q v σ') : ACall Tryd.prog 29 [d, .bool op] σ Q := by
  refine ACall.of_compF hmx (fun a w => Tryd.call29 a w) Tryd.func29 cf29 (n := 2) (by decide) rfl ?_
  have l1 := hb.len
  simp only [ac29, rs29]
  refine wp_cut (fun rg s => rg = [(0, d), (1, .bool op)] ∧ s = σ) (by simp [lk_cons]) ?_
  rintro _ s ⟨rfl, hs⟩
  rw [hs]
  clear hs s
  refine wp_cut (fun rg s => rg = [(0, d), (1, .bool op), (5, .nilsl)] ∧ s = σ) (by simp [lk_cons]) ?_
  rintro _ s ⟨rfl, hs⟩
  rw [hs]
  clear hs s
  refine wp_cut (fun rg s => rg = [(0, d), (1, .bool op), (5, .nilsl), (6, u64 0)] ∧ s = σ) (by simp [lk_cons]) ?_
  rintro _ s ⟨rfl, hs⟩
  rw [hs]
  clear hs s
  refine wp_cut (fun rg s => ∃ ov acc, Mk acc ∧ Grow σ s ∧ LOut σ.next s ov acc ∧ rg.lookup 1 = some (.bool op) ∧ rg.lookup 5 = some ov) ?_ ?_
  · simp [lk_cons, ↓l1]
    refine wp_loop (MdJ d op l σ) l.length ?_ ?_
    · exact ⟨0, .nilsl, [], 0, rfl, Nat.zero_le _, by omega, rfl, ⟨by simp, by simp [RisingP], by simp⟩, by simp, by omega, by omega, Grow.refl _, .inl ⟨rfl, rfl⟩, rfl⟩
    · rintro mm rg σ' ⟨i, ov, acc, id, rfl, hi, hi13, hal, hmk, hid, hid0, hid4, hg, ho, rfl⟩
      by_cases hlt : i < l.length
      · by_cases h12 : i = 13
        · obtain ⟨x, hx⟩ : ∃ x, l[i]? = some x := ⟨_, List.getElem?_eq_getElem hlt⟩
          obtain ⟨p, p1, p2⟩ := hb.at14 hx σ'
          have c12 : (12 : Int) < (i : Int) := by omega
          simp [lk_cons, hlt, ↓p1, ↓p2, c12]
          exact ⟨ov, acc, hmk, hg, ho, rfl⟩
        · obtain ⟨x, hx⟩ : ∃ x, l[i]? = some x := ⟨_, List.getElem?_eq_getElem hlt⟩
          obtain ⟨k, hk⟩ : ∃ k, i + 1 = k := ⟨_, rfl⟩
          have w1 : IntKind.i64.wrap ((i : Int) + 1) = (k : Int) := by rw [IntWalk.i64_in] <;> omega
          have c12 : ¬ (12 : Int) < (i : Int) := by omega
          obtain ⟨p, p1, p2⟩ := hb.at14 hx σ'
          have xb : x.toNat < 256 := x.toNat_lt
          simp [lk_cons, hlt, ↓p1, ↓p2, c12]
          have q1 : IntKind.u8.wrap ((x.toNat : Int) / 64) = (x.toNat : Int) / 64 := by rw [IntWalk.u8_in]; omega
          have q2 : IntKind.u64.wrap ((x.toNat : Int) / 64) = (x.toNat : Int) / 64 := by rw [IntWalk.u64_in]; omega
          have q3 : IntKind.u64.wrap (1 + (x.toNat : Int) / 64) = 1 + (x.toNat : Int) / 64 := by rw [IntWalk.u64_in]; omega
          have q4 : IntKind.u64.wrap (id + (1 + (x.toNat : Int) / 64)) = id + (1 + (x.toNat : Int) / 64) := by rw [IntWalk.u64_in]; omega
          have q5 : Int.tmod (x.toNat : Int) 6 = (x.toNat : Int) % 6 := Int.tmod_eq_emod_of_nonneg (by omega)
          have q6 : IntKind.u64.wrap ((x.toNat : Int) % 6) = (x.toNat : Int) % 6 := by rw [IntWalk.u64_in]; omega
          obtain ⟨w, ρ', e1, e2, e3, e4⟩ := lout_app (b := σ'.next) (ρ0 := σ') (ρ := ⟨σ'.mem.set σ'.next (.cells 3 [u64 (id + (1 + (x.toNat : Int) / 64)), .bool true, u64 ((x.toNat : Int) % 6)]), σ'.next + 1⟩) ho (fun a ha hb => by simp [show ¬ a = σ'.next by omega]) (by simp) (by omega) ⟨id + (1 + (x.toNat : Int) / 64), true, (x.toNat : Int) % 6⟩ (by simp) hg.1
          simp [lk_cons, hlt, ↓p1, ↓p2, c12, q1, q2, q3, q4, q5, q6, fillL, storeL, repL, ↓e1, w1]
          refine ⟨l.length - k, by omega, k, w, acc ++ [⟨id + (1 + (x.toNat : Int) / 64), true, (x.toNat : Int) % 6⟩], id + (1 + (x.toNat : Int) / 64), rfl, by omega, by omega, by simp; omega, ⟨by simp; omega, ?_, fun y hy => ?_⟩, fun y hy => ?_, ?_, ?_, ⟨by rw [e3]; have := hg.1; simp; omega, fun a ha => ?_⟩, e2, rfl⟩
          · unfold RisingP
            rw [List.pairwise_append]
            refine ⟨hmk.2.1, by simp, fun a ha b hb => ?_⟩
            rw [List.mem_singleton.1 hb]
            have := hid a ha
            show a.f0 < id + (1 + (x.toNat : Int) / 64)
            omega
          · rcases List.mem_append.1 hy with hy | hy
            · exact hmk.2.2 y hy
            · rw [List.mem_singleton.1 hy]
              show (0 ≤ id + (1 + (x.toNat : Int) / 64) ∧ id + (1 + (x.toNat : Int) / 64) ≤ 52) ∧ 0 ≤ (x.toNat : Int) % 6 ∧ (x.toNat : Int) % 6 ≤ 5
              omega
          · rcases List.mem_append.1 hy with hy | hy
            · have := hid y hy; omega
            · rw [List.mem_singleton.1 hy]; exact Int.le_refl _
          · omega
          · omega
          · rw [e4 a ha]
            have := hg.1
            simp [show ¬ a = σ'.next by omega]
            exact hg.2 a ha
      · have : i = l.length := by omega
        subst this
        simp [lk_cons]
        exact ⟨ov, acc, hmk, hg, ho, rfl⟩
  · rintro rg s ⟨ov, acc, hmk, hg, ho, r1, r5⟩
    have l2 := ho.len
    cases op with
    | false =>
      simp [lk_cons, r1, r5, ↓l2]
      exact hq ov acc s ho hmk hg
    | true =>
      rcases List.eq_nil_or_concat acc with rfl | ⟨m, x, rfl⟩
      · simp [lk_cons, r1, r5, ↓l2]
        exact hq ov [] s ho hmk hg
      · rw [List.concat_eq_append] at *
        obtain ⟨k1, k2, k3⟩ := hmk
        have hml : m.length ≤ 12 := by simp at k1; omega
        have l3 : ∀ ρ : St, evalV ρ (.len 1 ov) = some (i64 ((m.length : Int) + 1), ρ) := fun ρ => by rw [l2]; simp
        have c1 : (0 : Int) < (m.length : Int) + 1 := by omega
        have w1 : IntKind.i64.wrap (m.length : Int) = (m.length : Int) := by rw [IntWalk.i64_in] <;> omega
        rcases ho with ⟨_, h0⟩ | ⟨o, rfl, h0, h1, h2, h3⟩
        · simp at h0
        · have c2 : (m.length : Int) < (m.length : Int) + 1 := by omega
          have e1 : (ldc m ++ [u64 x.f0, .bool x.f1, u64 x.f2]).set (m.length * 3 + 1) (.bool false) = ldc m ++ [u64 x.f0, .bool false, u64 x.f2] := by
            rw [← ldc_len m, List.set_append_right _ _ (by omega)]; simp
          simp [lk_cons, r1, r5, c1, w1, h3, ldc_app, ldc, ldc_len, c2, storeL, e1]
          have e2 : ldc m ++ [u64 x.f0, .bool false, .int .u64 0] = ldc (m ++ [⟨x.f0, false, 0⟩]) := by rw [ldc_app]; rfl
          rw [e2]
          have ho2 : LOut σ.next ⟨(s.mem.set o (.cells 3 (ldc m ++ [u64 x.f0, .bool false, u64 x.f2]))).set o (.cells 3 (ldc (m ++ [⟨x.f0, false, 0⟩]))), s.next⟩ (.sl o 0 (m.length + 1) (m.length + 1) false) (m ++ [⟨x.f0, false, 0⟩]) := .inr ⟨o, by simp, by simp, h1, h2, by simp⟩
          refine hq _ _ _ ho2 ⟨by simp; omega, ?_, fun y hy => ?_⟩ ⟨hg.1, fun a ha => ?_⟩
          · unfold RisingP at k2 ⊢
            rw [List.pairwise_append] at k2 ⊢
            refine ⟨k2.1, by simp, fun a ha b hb => ?_⟩
            rw [List.mem_singleton.1 hb]
            exact k2.2.2 a ha x (by simp)
          · rcases List.mem_append.1 hy with hy | hy
            · exact k3 y (by simp [hy])
            · rw [List.mem_singleton.1 hy]
              have := k3 x (by simp)
              exact ⟨this.1, by show (0 : Int) ≤ 0; omega, by show (0 : Int) ≤ 5; omega⟩
          · simp [show ¬ a = o by omega]; exact hg.2 a ha

theorem LOut.rd {lo : Nat} {σ : St} {v : AVal} {l : List Ld} (h : LOut lo σ v l) : Rd 3 σ v l.length (ldc l) := by
  refine ⟨ldc_len l, ?_⟩
  rcases h with ⟨rfl, rfl⟩ | ⟨o, rfl, h1, h2, h3, h4⟩
  · exact .inl ⟨rfl, rfl⟩
  · exact .inr (.inr ⟨o, l.length, false, rfl, h3, h4⟩)
theorem LOut.keep {lo : Nat} {σ σ' : St} {v : AVal} {l : List Ld} (h : LOut lo σ v l) (g : Grow σ σ') : LOut lo σ' v l := by
  rcases h with h | ⟨o, h0, h1, h2, h3, h4⟩
  · exact .inl h
  · exact .inr ⟨o, h0, h1, h2, Nat.lt_of_lt_of_le h3 g.1, (g.2 o h3).trans h4⟩
/-- A subscription and what tells where it is. -/
abbrev SbP := SbV × {v : AVal // v.one = true}
def rwS : Rw SbP 5 := ⟨fun p => [.str p.1.name, .int .u8 (p.1.kind : Int), u64 p.1.ml, u64 p.1.me, p.2.1], fun _ => rfl, fun p => by simp [p.2.2]⟩
theorem GS.rd {α : Type} {k : Nat} {R : Rw α k} {σ : St} {v : AVal} {l : List α} {b : Option Nat} (h : GS R σ v l b) : Rd k σ v l.length (rws R l) := by
  refine ⟨rws_len R l, ?_⟩
  rcases h with ⟨rfl, rfl, _⟩ | ⟨o, t, _, rfl, h3, h4⟩
  · exact .inl ⟨rfl, rfl⟩
  · exact .inr (.inr ⟨o, l.length, t, rfl, h3, h4⟩)
theorem sbI_rws : ∀ {l : List SbP}, (∀ p ∈ l, HI p.2.1 p.1.h) → SbI (rws rwS l) (l.map (·.1))
  | [], _ => trivial
  | p :: l, h => by
    rw [rws_cons]
    exact ⟨⟨rfl, rfl, rfl, rfl, h p (by simp)⟩, sbI_rws fun q hq => h q (by simp [hq])⟩
/-- Small enough. -/
structure Sm (x : SbV) : Prop where
  name : x.name.size ≤ 200
  kind : x.kind < 256
  num : In64 x.ml ∧ In64 x.me
  hs : HSm x.h
  few : x.h.length ≤ 40 ∧ ∀ y ∈ x.h, y.f1.length ≤ 40
theorem hdsB_len4 {h : List Hd} (he : ∀ x ∈ h, x.f1.length ≤ 40) : (hdsB h).length ≤ 650 * h.length := by
  induction h with
  | nil => simp [hdsB]
  | cons x l ih =>
    have h1 := ih fun y hy => he y (by simp [hy])
    have h2 := he x (by simp)
    have h3 := rgsB_len x.f1
    simp only [hdsB, List.map_cons, List.flatten_cons, List.length_append, List.length_cons, hdB, beN_len] at h1 ⊢
    omega
theorem sm_sum : ∀ {s : List SbV}, (∀ x ∈ s, Sm x) → (sbsB s).length ≤ 30000 * s.length
  | [], _ => by simp [sbsB]
  | x :: s, h => by
    have h1 := sm_sum (s := s) fun y hy => h y (by simp [hy])
    have h2 := h x (by simp)
    have h3 := hdsB_len4 h2.few.2
    have h4 := h2.few.1
    have h5 := h2.name
    simp only [sbsB, List.map_cons, List.flatten_cons, List.length_append, List.length_cons, sbB, cuB, beN_len, txB_len] at h1 ⊢
    omega
theorem HSm.ofC {ml me : Int} {h : List Hd} (hC : COk ml me h) (h7 : h.length ≤ 7) (h14 : ∀ x ∈ h, x.f1.length ≤ 14) : HSm h ∧ (h.length ≤ 40 ∧ ∀ y ∈ h, y.f1.length ≤ 40) := by
  refine ⟨⟨by omega, fun x hx => by have := h14 x hx; omega, fun x hx => ?_, fun x hx z hz => ?_⟩, by omega, fun x hx => by have := h14 x hx; omega⟩
  · have h1 := (hok_mem hC.1 x hx).1
    have h2 := hC.2.1 x hx
    exact ⟨by omega, by omega⟩
  · have h1 := good_mem (hok_mem hC.1 x hx).2.1 z hz
    exact ⟨⟨by omega, by omega⟩, by omega, by omega⟩
end Go.Proofs.YticefdfhcahlfaaDoor.AM

/- Made, walked. -/
namespace Go.Proofs.YticefdfhcahlfaaDoor.AM
open Go.RowKit
set_option maxRecDepth 100000
set_option linter.unusedVariables false
set_option linter.unusedSimpArgs false

/-- A topic in memory, as the law has made it. -/
structure MT (lo : Nat) (σ : St) (last : Nat) (t : List Ld) (s : List SbP) (T : Tbl) (lv sv nv : AVal) (bs bn : Option Nat) : Prop where
  ml : LOut lo σ lv t
  ms : GS rwS σ sv s bs
  mn : GS rwL σ nv T bn
  nb : ∀ x, bs = some x → bn ≠ some x
  lost : ∀ x, bs = some x ∨ bn = some x → lo ≤ x
  ok : Mk t
  sm : ∀ p ∈ s, Sm p.1 ∧ HI p.2.1 p.1.h
  s2 : s.length ≤ 2
  tl : T.length ≤ 16
  ln : ∀ x ∈ T, LnOk x
  lb : last < 18446744073709551616

def MsJ (p q : Nat) (sv : AVal) (s : List SbV) (S : St) (mm : Nat) (rg : Regs) (σ' : St) : Prop := ∃ (i : Nat) (v : AVal) (l : List SbP) (b : Option Nat), mm = s.length - i ∧ i ≤ s.length ∧ GS rwS σ' v l b ∧ l.length ≤ i ∧ l.length ≤ 2 ∧ (∀ x ∈ l, Sm x.1 ∧ HI x.2.1 x.1.h) ∧ BStp none b S σ' ∧ rg = [(3, .ptr p 0), (6, .ptr q 0), (8, v), (36, sv), (37, i64 s.length), (38, i64 i)]
def MlJ (p q : Nat) (sv nv : AVal) (T : Tbl) (S : St) (mm : Nat) (rg : Regs) (σ' : St) : Prop := ∃ (i : Nat) (v : AVal) (l : Tbl) (b : Option Nat), mm = T.length - i ∧ i ≤ T.length ∧ GS rwL σ' v l b ∧ l.length ≤ i ∧ l.length ≤ 16 ∧ (∀ x ∈ l, LnOk x) ∧ BStp none b S σ' ∧ rg = [(3, .ptr p 0), (6, .ptr q 0), (8, sv), (11, v), (63, nv), (64, i64 T.length), (65, i64 i)]
set_option maxHeartbeats 4000000 in
theorem made_c {σ : St} {lv sv nv d : AVal} {l : List UInt8} {t : List Ld} {s : List SbV} {cs : List AVal} {T : Tbl} {ep last : Nat} (hlv : lv.one = true ∧ cellsOf lv = [lv]) (hs : Rd 5 σ sv s.length cs) (hI : SbI cs s) (hn : Rd 5 σ nv T.length (rws rwL T)) (hsl : s.length ≤ 1000) (hTl : T.length ≤ 1000) (hsb : ∀ x ∈ s, (In64 x.ml ∧ In64 x.me) ∧ x.kind < 256 ∧ HArg x.h) (hT : ∀ x ∈ T, LnOk x) (hlast : last < 18446744073709551616) (hd : BytesOf d l) (hl : l.length ≤ 9223372036854775806) (op : Bool) (Q : AVal → St → Prop)
    (hQ : ∀ last' t' s' T' lv' sv' nv' bs bn σ', MT σ.next σ' last' t' s' T' lv' sv' nv' bs bn → Grow σ σ' → Q (.agg [u64 (ep : Int), u64 (last' : Int), lv', sv', nv']) σ') : ACall Tryd.prog 12 [.agg [u64 (ep : Int), u64 (last : Int), lv, sv, nv], d, .bool op] σ Q := by
  refine ACall.of_compF hmx (fun a w => Tryd.call12 a w) Tryd.func12 cf12 (n := 3) (by decide) rfl ?_
  obtain ⟨o1, o2⟩ := hlv
  obtain ⟨o3, o4⟩ := hs.one
  obtain ⟨o5, o6⟩ := hn.one
  simp only [ac12, rs12]
  simp [lk_cons, o1, o2, o3, o4, o5, o6]
  obtain ⟨S, hS⟩ : ∃ S : St, S = ⟨(σ.mem.set σ.next (.cells 5 [u64 (ep : Int), u64 (last : Int), lv, sv, nv])).set (σ.next + 1) (.cells 5 [.int .u64 0, .int .u64 0, .nilsl, .nilsl, .nilsl]), σ.next + 1 + 1⟩ := ⟨_, rfl⟩
  have gS : Grow σ S := ⟨by rw [hS]; show σ.next ≤ σ.next + 1 + 1; omega, fun a ha => by rw [hS]; simp [show ¬ a = σ.next by omega, show ¬ a = σ.next + 1 by omega]⟩
  have nS : S.next = σ.next + 2 := by rw [hS]
  have mS : S.mem.get σ.next = some (.cells 5 [u64 (ep : Int), u64 (last : Int), lv, sv, nv]) := by rw [hS]; simp
  have mS2 : S.mem.get (σ.next + 1) = some (.cells 5 [.int .u64 0, .int .u64 0, .nilsl, .nilsl, .nilsl]) := by rw [hS]; simp
  try rw [← hS]
  refine made13_w hd hl op S _ fun lv' t' σ1 h1 hmk g1 => ?_
  have m1 := (g1.2 σ.next (by omega)).trans mS
  have m1q := (g1.2 (σ.next + 1) (by omega)).trans mS2
  have n1 := g1.1
  have ho1 : lv'.one = true ∧ cellsOf lv' = [lv'] := by
    rcases h1 with ⟨rfl, _⟩ | ⟨o, rfl, _⟩ <;> simp
  obtain ⟨q1, q2⟩ := ho1
  have hlen := h1.len
  simp [lk_cons, m1, storeL, q1, q2, ↓hlen]
  obtain ⟨S1, hS1⟩ : ∃ S1 : St, S1 = ⟨σ1.mem.set σ.next (.cells 5 [u64 (ep : Int), u64 (last : Int), lv', sv, nv]), σ1.next⟩ := ⟨_, rfl⟩
  have nS1 : S1.next = σ1.next := by rw [hS1]
  have mS1 : S1.mem.get σ.next = some (.cells 5 [u64 (ep : Int), u64 (last : Int), lv', sv, nv]) := by rw [hS1]; simp
  have kS1 : ∀ a, a ≠ σ.next → S1.mem.get a = σ1.mem.get a := fun a ha => by rw [hS1]; simp [ha]
  rw [← hS1]
  have hO1 : LOut (σ.next + 2) S1 lv' t' := by
    rcases h1 with h | ⟨o, h0, h1, h2, h3, h4⟩
    · exact .inl h
    · exact .inr ⟨o, h0, h1, by omega, by omega, (kS1 o (by omega)).trans h4⟩
  refine condK_mid (fun rg s => ∃ last2 : Nat, last2 < 18446744073709551616 ∧ s.next = S1.next ∧ s.mem.get σ.next = some (.cells 5 [u64 (ep : Int), u64 (last2 : Int), lv', sv, nv]) ∧ (∀ a, a ≠ σ.next → s.mem.get a = S1.mem.get a) ∧ rg.lookup 3 = some (.ptr σ.next 0) ∧ rg.lookup 6 = some (.ptr (σ.next + 1) 0)) ?_ ?_
  · by_cases h0 : 0 < t'.length
    · have w1 : IntKind.i64.wrap ((t'.length : Int) - 1) = ((t'.length - 1 : Nat) : Int) := by have := hmk.1; rw [IntWalk.i64_in] <;> omega
      obtain ⟨x, hx⟩ : ∃ x, t'[t'.length - 1]? = some x := ⟨_, List.getElem?_eq_getElem (by omega)⟩
      have hxm := (hmk.2.2 x (List.mem_of_getElem? hx)).1
      obtain ⟨P, p1, p2, pf⟩ := hO1.rd.at (show t'.length - 1 < t'.length by omega) (ρ := S1) (fun _ _ => rfl)
      obtain ⟨P0, f1, _, f2⟩ := pf 0 1 (by decide)
      have f2 := f2 _ (by decide) (ldc_take hx).2.1
      simp [lk_cons, h0, mS1, w1, ↓p1, ↓f1, ↓f2, storeL]
      by_cases hc : (last : Int) < x.f0
      · rw [if_pos hc]
        exact ⟨x.f0.toNat, by omega, by congr 1; omega, fun a h1 h2 => absurd h2 h1⟩
      · rw [if_neg hc]
        exact ⟨last, hlast, rfl, fun a h1 h2 => absurd h2 h1⟩
    · simp [lk_cons, h0]
      exact ⟨last, hlast, mS1⟩
  rintro rg W ⟨last2, hl2, sn, sm, sk, r3, r6⟩
  have hO2 : LOut (σ.next + 2) W lv' t' := by
    rcases hO1 with h | ⟨o, h0, h1, h2, h3, h4⟩
    · exact .inl h
    · exact .inr ⟨o, h0, h1, h2, by omega, (sk o (by omega)).trans h4⟩
  have gs : ∀ a, a < σ.next → W.mem.get a = σ.mem.get a := fun a ha => (sk a (by omega)).trans ((kS1 a (by omega)).trans ((g1.2 a (by omega)).trans (gS.2 a ha)))
  have smq : W.mem.get (σ.next + 1) = some (.cells 5 [.int .u64 0, .int .u64 0, .nilsl, .nilsl, .nilsl]) := (sk _ (by omega)).trans ((kS1 _ (by omega)).trans m1q)
  have nW : σ.next + 2 ≤ W.next := by omega
  have hss := hs.frame (σ' := W) (by omega) gs
  have hnn := hn.frame (σ' := W) (by omega) gs
  have l1 := hs.len
  have l2 := hn.len
  simp [lk_cons, r3, r6, sm, ↓l1]
  refine wp_loop (MsJ σ.next (σ.next + 1) sv s W) s.length ?_ ?_
  · exact ⟨0, .nilsl, [], none, rfl, Nat.zero_le _, GS.nil _, by simp, by simp, by simp, BStp.refl none W, rfl⟩
  rintro mm rg σ2 ⟨i, v2, l2s, b2, rfl, hi, h2, hl2i, hl22, hm2, t2, rfl⟩
  have g2 := t2.grow0
  have n2 := g2.1
  by_cases hlt : i < s.length
  · obtain ⟨x, hx⟩ : ∃ x, s[i]? = some x := ⟨_, List.getElem?_eq_getElem hlt⟩
    have hxb := hsb x (List.mem_of_getElem? hx)
    have w1 : IntKind.i64.wrap ((i : Int) + 1) = ((i + 1 : Nat) : Int) := by rw [IntWalk.i64_in] <;> omega
    obtain ⟨p, p1, p2, _⟩ := hss.at hlt (ρ := σ2) g2.2
    obtain ⟨hv, c1, c2⟩ := hI.get hx
    rw [c2] at p2
    simp only [sbA] at p2
    have hv1 := c1.one
    obtain ⟨S2, hS2⟩ : ∃ S : St, S = ⟨(σ2.mem.set σ2.next (.cells 5 [.str ⟨#[]⟩, .int .u8 0, .int .u64 0, .int .u64 0, .nilsl])).set σ2.next (.cells 5 [.str x.name, .int .u8 (x.kind : Int), u64 x.ml, u64 x.me, hv]), σ2.next + 1⟩ := ⟨_, rfl⟩
    have gS2 : Grow σ2 S2 := ⟨by rw [hS2]; exact Nat.le_succ _, fun a ha => by rw [hS2]; simp [show ¬ a = σ2.next by omega]⟩
    have nS2 : S2.next = σ2.next + 1 := by rw [hS2]
    have mS2 : S2.mem.get σ2.next = some (.cells 5 [.str x.name, .int .u8 (x.kind : Int), u64 x.ml, u64 x.me, hv]) := by rw [hS2]; simp
    by_cases h2i : i < 2
    · have h2i' : (i : Int) < 2 := by omega
      have wa : IntKind.i64.wrap (97 + (i : Int)) = 97 + (i : Int) := by rw [IntWalk.i64_in] <;> omega
      have wb : IntKind.u8.wrap (97 + (i : Int)) = 97 + (i : Int) := by rw [IntWalk.u8_in]; omega
      obtain ⟨S3, hS3⟩ : ∃ S : St, S = ⟨((σ2.mem.set σ2.next (.cells 5 [.str ⟨#[]⟩, .int .u8 0, .int .u64 0, .int .u64 0, .nilsl])).set σ2.next (.cells 5 [.str x.name, .int .u8 (x.kind : Int), u64 x.ml, u64 x.me, hv])).set (σ2.next + 1) (.cells 1 [.int .u8 (97 + (i : Int))]), σ2.next + 1 + 1⟩ := ⟨_, rfl⟩
      have gS3 : Grow S2 S3 := ⟨by rw [hS2, hS3]; exact Nat.le_succ _, fun a ha => by rw [hS3, hS2]; simp [show ¬ a = σ2.next + 1 by rw [hS2] at ha; exact Nat.ne_of_lt ha]⟩
      have nS3 : S3.next = σ2.next + 2 := by rw [hS3]
      have mS3 := (gS3.2 _ (by omega)).trans mS2
      obtain ⟨nb, hnb⟩ : ∃ nb : UInt8, nb = UInt8.ofNat (97 + i) := ⟨_, rfl⟩
      have hnb2 : (nb.toNat : Int) = 97 + (i : Int) := by rw [hnb]; simp; omega
      have e3 := (RdB.ofGS (σ := S3) (v := .sl (σ2.next + 1) 0 1 1 true) (l := [nb]) (b := some (σ2.next + 1)) (.inr ⟨σ2.next + 1, true, rfl, rfl, by omega, by rw [hS3]; simp [rwsB, bytesV, hnb2]⟩)).str
      have e3s := e3
      rw [hS3] at e3
      have e4 : Int.tmod (x.kind : Int) 4 = (x.kind : Int) % 4 := Int.tmod_eq_emod_of_nonneg (by omega)
      have wk : IntKind.u8.wrap (1 + (x.kind : Int) % 4) = ((1 + x.kind % 4 : Nat) : Int) := by rw [IntWalk.u8_in] <;> omega
      simp [lk_cons, hlt, ↓p1, ↓p2, storeL, hv1, h2i, h2i', fillL, repL, wa, wb, ↓e3, e4, wk]
      rw [← hS3]
      refine right14_c c1 hxb.2.2 x.ml x.me false ⟨⟨hxb.1.1.1, by have := hxb.1.1.2; omega⟩, hxb.1.2.1, by have := hxb.1.2.2; omega⟩ S3 _ fun ml' me' hv' H' hml hme hH hC h7 h14 => ?_
      have k1 := hH.one.1
      have k2 := hH.one.2
      obtain ⟨hsm, hfew⟩ := HSm.ofC hC h7 h14
      obtain ⟨pp, hpp⟩ : ∃ pp : SbP, pp = (⟨⟨[nb].toArray⟩, 1 + x.kind % 4, ml', me', H'⟩, ⟨hv', k1⟩) := ⟨_, rfl⟩
      have hppA : rwS.a pp = [.str ⟨[nb].toArray⟩, .int .u8 ((1 + x.kind % 4 : Nat) : Int), u64 ml', u64 me', hv'] := by rw [hpp]; rfl
      have hg3 := gS2.trans gS3
      have g4 : GS rwS ⟨S3.mem.set S3.next (.cells 5 (rwS.a pp)), S3.next + 1⟩ v2 l2s b2 := (h2.grow hg3).keep (by simp) fun a ha _ => by simp [show ¬ a = S3.next by omega]
      obtain ⟨σ4, f1, f2, f3, f4⟩ := gs_app1 g4 (nb := S3.next) (by_ := 64) (t := true) (x := pp) (by decide) (by simp) (fun e => by have := h2.lt e; omega) (by omega) (by omega)
      rw [hppA] at f1
      push_cast at f1
      simp [lk_cons, mS3, ↓e3s, e4, wk, k1, k2, storeL, fillL, repL, ↓f1, w1]
      refine ⟨s.length - (i + 1), by omega, i + 1, _, l2s ++ [pp], some (S3.next + 1), rfl, by omega, f2, by simp; omega, by simp; omega, fun y hy => ?_, (t2.trans (BStp.ofG b2 hg3)).trans ⟨by rw [f3]; show _ ≤ S3.next + 1 + 1; omega, fun z hz => ?_, fun a ha hb => ?_⟩, by simp⟩
      · rcases List.mem_append.1 hy with hy | hy
        · exact hm2 y hy
        · rw [List.mem_singleton.1 hy, hpp]
          exact ⟨⟨by show 1 ≤ 200; omega, by show 1 + x.kind % 4 < 256; omega, ⟨⟨hml.1, by show ml' < _; omega⟩, hme.1, by show me' < _; omega⟩, hsm, hfew⟩, hH⟩
      · cases hz; exact .inr (by omega)
      · rw [f4 a (by show a < S3.next + 1; omega) hb]
        simp [show ¬ a = S3.next by omega]
    · have h2i' : ¬ (i : Int) < 2 := by omega
      simp [lk_cons, hlt, ↓p1, ↓p2, storeL, hv1, h2i, h2i', w1]
      rw [← hS2]
      exact ⟨s.length - (i + 1), by omega, i + 1, v2, l2s, b2, rfl, by omega, h2.grow gS2, by omega, hl22, hm2, t2.trans (BStp.ofG b2 gS2), rfl⟩
  have : i = s.length := by omega
  subst this
  have m2 := (g2.2 σ.next (by omega)).trans sm
  have m2q := (g2.2 (σ.next + 1) (by omega)).trans smq
  simp [lk_cons, m2, ↓l2]
  have nb2 : ∀ x, b2 = some x → W.next ≤ x ∧ x < σ2.next := fun x hx => ⟨(t2.own x hx).resolve_left (by simp), h2.lt hx⟩
  have hn2 := hnn.frame (σ' := σ2) n2 g2.2
  refine wp_loop (MlJ σ.next (σ.next + 1) v2 nv T σ2) T.length ?_ ?_
  · exact ⟨0, .nilsl, [], none, rfl, Nat.zero_le _, GS.nil _, by simp, by simp, by simp, BStp.refl none σ2, rfl⟩
  rintro mm rg σ3 ⟨i, v3, l3, b3, rfl, hi, h3, hl3i, hl316, hm3, t3, rfl⟩
  have g3 := t3.grow0
  have n3 := g3.1
  by_cases hlt : i < T.length
  · obtain ⟨⟨xn, x1, x2, xa, xb⟩, hx⟩ : ∃ x, T[i]? = some x := ⟨_, List.getElem?_eq_getElem hlt⟩
    have hxm := hT _ (List.mem_of_getElem? hx)
    have w1 : IntKind.i64.wrap ((i : Int) + 1) = ((i + 1 : Nat) : Int) := by rw [IntWalk.i64_in] <;> omega
    obtain ⟨p, p1, p2, _⟩ := hn2.at hlt (ρ := σ3) g3.2
    have row : ((rws rwL T).drop (i * 5)).take 5 = [.str xn, u64 (x1 : Int), u64 (x2 : Int), u64 (xa : Int), u64 (xb : Int)] := rws_at rwL hx
    rw [row] at p2
    obtain ⟨S2, hS2⟩ : ∃ S : St, S = ⟨(σ3.mem.set σ3.next (.cells 5 [.str ⟨#[]⟩, .int .u64 0, .int .u64 0, .int .u64 0, .int .u64 0])).set σ3.next (.cells 5 [.str xn, u64 (x1 : Int), u64 (x2 : Int), u64 (xa : Int), u64 (xb : Int)]), σ3.next + 1⟩ := ⟨_, rfl⟩
    have gS2 : Grow σ3 S2 := ⟨by rw [hS2]; exact Nat.le_succ _, fun a ha => by rw [hS2]; simp [show ¬ a = σ3.next by omega]⟩
    have nS2 : S2.next = σ3.next + 1 := by rw [hS2]
    have mS2 : S2.mem.get σ3.next = some (.cells 5 [.str xn, u64 (x1 : Int), u64 (x2 : Int), u64 (xa : Int), u64 (xb : Int)]) := by rw [hS2]; simp
    by_cases h2i : i < 16
    · have h2i' : (i : Int) < 16 := by omega
      have wa : IntKind.i64.wrap (97 + (i : Int)) = 97 + (i : Int) := by rw [IntWalk.i64_in] <;> omega
      have wb : IntKind.u8.wrap (97 + (i : Int)) = 97 + (i : Int) := by rw [IntWalk.u8_in]; omega
      obtain ⟨S3, hS3⟩ : ∃ S : St, S = ⟨((σ3.mem.set σ3.next (.cells 5 [.str ⟨#[]⟩, .int .u64 0, .int .u64 0, .int .u64 0, .int .u64 0])).set σ3.next (.cells 5 [.str xn, u64 (x1 : Int), u64 (x2 : Int), u64 (xa : Int), u64 (xb : Int)])).set (σ3.next + 1) (.cells 1 [.int .u8 (97 + (i : Int))]), σ3.next + 1 + 1⟩ := ⟨_, rfl⟩
      have gS3 : Grow S2 S3 := ⟨by rw [hS2, hS3]; exact Nat.le_succ _, fun a ha => by rw [hS3, hS2]; simp [show ¬ a = σ3.next + 1 by rw [hS2] at ha; exact Nat.ne_of_lt ha]⟩
      have nS3 : S3.next = σ3.next + 2 := by rw [hS3]
      have mS3 := (gS3.2 _ (by omega)).trans mS2
      obtain ⟨nb, hnb⟩ : ∃ nb : UInt8, nb = UInt8.ofNat (97 + i) := ⟨_, rfl⟩
      have hnb2 : (nb.toNat : Int) = 97 + (i : Int) := by rw [hnb]; simp; omega
      have e3 := (RdB.ofGS (σ := S3) (v := .sl (σ3.next + 1) 0 1 1 true) (l := [nb]) (b := some (σ3.next + 1)) (.inr ⟨σ3.next + 1, true, rfl, rfl, by omega, by rw [hS3]; simp [rwsB, bytesV, hnb2]⟩)).str
      rw [hS3] at e3
      have e4 : Int.tmod (x2 : Int) 100 = (x2 : Int) % 100 := Int.tmod_eq_emod_of_nonneg (by omega)
      have wk : IntKind.u64.wrap (1 + (x2 : Int) % 100) = ((1 + x2 % 100 : Nat) : Int) := by rw [IntWalk.u64_in] <;> omega
      have ad : abinS .add ⟨#[112]⟩ ⟨#[nb]⟩ = some (.str ⟨#[112, nb]⟩) := by
        simp only [abinS]
        rw [if_neg (by show ¬ ((2 : Nat) : Int) > _; decide)]
        rfl
      obtain ⟨pp, hpp⟩ : ∃ pp : ByteArray × Ln, pp = (⟨#[112, nb]⟩, (1 + x2 % 100, 1 + x2 % 100, xa, xb)) := ⟨_, rfl⟩
      have hppA : rwL.a pp = [.str ⟨#[112, nb]⟩, u64 ((1 + x2 % 100 : Nat) : Int), u64 ((1 + x2 % 100 : Nat) : Int), u64 (xa : Int), u64 (xb : Int)] := by rw [hpp]; rfl
      have hg3 := gS2.trans gS3
      have g4 : GS rwL ⟨S3.mem.set S3.next (.cells 5 (rwL.a pp)), S3.next + 1⟩ v3 l3 b3 := (h3.grow hg3).keep (by simp) fun a ha _ => by simp [show ¬ a = S3.next by omega]
      obtain ⟨σ4, f1, f2, f3, f4⟩ := gs_app1 g4 (nb := S3.next) (by_ := 48) (t := true) (x := pp) (by decide) (by simp) (fun e => by have := h3.lt e; omega) (by omega) (by omega)
      rw [hppA] at f1
      push_cast at f1
      rw [hS3] at f1
      simp [lk_cons, hlt, ↓p1, ↓p2, storeL, h2i, h2i', fillL, repL, wa, wb, ↓e3, e4, wk, w1, ad, ↓f1]
      refine ⟨T.length - (i + 1), by omega, i + 1, _, l3 ++ [pp], some (S3.next + 1), rfl, by omega, by rw [hS3] at f2 ⊢; exact f2, by simp; omega, by simp; omega, fun y hy => ?_, (t3.trans (BStp.ofG b3 hg3)).trans ⟨by rw [f3]; show _ ≤ S3.next + 1 + 1; omega, fun z hz => ?_, fun a ha hb => ?_⟩, by simp⟩
      · rcases List.mem_append.1 hy with hy | hy
        · exact hm3 y hy
        · rw [List.mem_singleton.1 hy, hpp]
          exact ⟨by show 2 ≤ 1000; omega, by show 1 + x2 % 100 < _; omega, by show 1 + x2 % 100 < _; omega, hxm.2.2.2.1, hxm.2.2.2.2⟩
      · cases hz; exact .inr (by omega)
      · rw [f4 a (by show a < S3.next + 1; omega) hb]
        simp [show ¬ a = S3.next by omega]
    · have h2i' : ¬ (i : Int) < 16 := by omega
      simp [lk_cons, hlt, ↓p1, ↓p2, storeL, h2i, h2i', w1]
      rw [← hS2]
      exact ⟨T.length - (i + 1), by omega, i + 1, v3, l3, b3, rfl, by omega, h3.grow gS2, by omega, hl316, hm3, t3.trans (BStp.ofG b3 gS2), rfl⟩
  have : i = T.length := by omega
  subst this
  have m3 := (g3.2 σ.next (by omega)).trans m2
  have m3q := (g3.2 (σ.next + 1) (by omega)).trans m2q
  have z0 : ¬ σ.next = σ.next + 1 := by omega
  obtain ⟨k1, k2⟩ := h2.one
  obtain ⟨k3, k4⟩ := h3.one
  simp [lk_cons, m3, m3q, z0, k1, k2, k3, k4, q1, q2, storeL]
  have nb3 : ∀ x, b3 = some x → σ2.next ≤ x ∧ x < σ3.next := fun x hx => ⟨(t3.own x hx).resolve_left (by simp), h3.lt hx⟩
  obtain ⟨F, hF⟩ : ∃ F : St, F = ⟨((σ3.mem.set σ.next (.cells 5 [u64 (ep : Int), u64 (last2 : Int), lv', v2, nv])).set σ.next (.cells 5 [u64 (ep : Int), u64 (last2 : Int), lv', v2, v3])).set (σ.next + 1) (.cells 5 [u64 (ep : Int), u64 (last2 : Int), lv', v2, v3]), σ3.next⟩ := ⟨_, rfl⟩
  have nF : F.next = σ3.next := by rw [hF]
  have kF : ∀ a, a ≠ σ.next → a ≠ σ.next + 1 → F.mem.get a = σ3.mem.get a := fun a h1 h2 => by rw [hF]; simp [h1, h2]
  rw [← hF]
  have g23 := g2.trans g3
  refine hQ last2 t' l2s l3 lv' v2 v3 b2 b3 F ⟨?_, ?_, ?_, fun x h1 h2 => ?_, fun x h => ?_, hmk, hm2, hl22, hl316, hm3, hl2⟩ ⟨by omega, fun a ha => (kF a (by omega) (by omega)).trans ((g23.2 a (by omega)).trans (gs a ha))⟩
  · rcases hO2 with h | ⟨o, h0, h1, h2, h3, h4⟩
    · exact .inl h
    · exact .inr ⟨o, h0, h1, by omega, by omega, (kF o (by omega) (by omega)).trans ((g23.2 o h3).trans h4)⟩
  · exact (h2.grow g3).keep (by omega) fun a ha hb => kF a (by have := (nb2 a hb).1; omega) (by have := (nb2 a hb).1; omega)
  · exact h3.keep (by omega) fun a ha hb => kF a (by have := (nb3 a hb).1; omega) (by have := (nb3 a hb).1; omega)
  · have := (nb2 x h1).2; have := (nb3 x h2).1; omega
  · rcases h with h | h
    · have := (nb2 x h).1; omega
    · have := (nb3 x h).1; omega
end Go.Proofs.YticefdfhcahlfaaDoor.AM

/- long, walked. -/
namespace Go.Proofs.YticefdfhcahlfaaDoor.AM
open Go.RowKit
set_option maxRecDepth 100000
set_option linter.unusedVariables false
set_option linter.unusedSimpArgs false

/-- Not too long. -/
def sLong (x : SbV) : Prop := x.name.size ≤ 200 ∧ x.h.length ≤ 40 ∧ ∀ y ∈ x.h, y.f1.length ≤ 40
def NotLong (t : List Ld) (s : List SbV) (T : Tbl) : Prop := t.length ≤ 100 ∧ s.length ≤ 10 ∧ T.length ≤ 40 ∧ (∀ x ∈ s, sLong x) ∧ ∀ x ∈ T, x.1.size ≤ 200
def L1J (p : Nat) (sv : AVal) (s : List SbV) (S : St) (mm : Nat) (rg : Regs) (σ' : St) : Prop := ∃ i : Nat, mm = s.length - i ∧ i ≤ s.length ∧ Grow S σ' ∧ (∀ x ∈ s.take i, sLong x) ∧ rg = [(1, .ptr p 0), (26, sv), (27, i64 s.length), (28, i64 i)]
def L2J (p i : Nat) (sv hv : AVal) (s : List SbV) (h : List Hd) (S : St) (mm : Nat) (rg : Regs) (σ' : St) : Prop := ∃ j : Nat, mm = h.length - j ∧ j ≤ h.length ∧ Grow S σ' ∧ (∀ x ∈ h.take j, x.f1.length ≤ 40) ∧ rg = [(1, .ptr p 0), (26, sv), (27, i64 s.length), (28, i64 i), (45, hv), (46, i64 h.length), (47, i64 j)]
def L3J (nv : AVal) (T : Tbl) (S : St) (mm : Nat) (rg : Regs) (σ' : St) : Prop := ∃ i : Nat, mm = T.length - i ∧ i ≤ T.length ∧ Grow S σ' ∧ (∀ x ∈ T.take i, x.1.size ≤ 200) ∧ rg = [(58, nv), (59, i64 T.length), (60, i64 i)]
theorem take_all {α : Type} {l : List α} {i : Nat} {x : α} {P : α → Prop} (hx : l[i]? = some x) (h : ∀ y ∈ l.take i, P y) (hp : P x) : ∀ y ∈ l.take (i + 1), P y := fun y hy => by
  rw [List.take_add_one, hx] at hy
  rcases List.mem_append.1 hy with hy | hy
  · exact h y hy
  · simp at hy; exact hy ▸ hp
set_option maxHeartbeats 4000000 in
theorem long_c {σ : St} {lv sv nv : AVal} {t : List Ld} {s : List SbV} {cs : List AVal} {T : Tbl} {ep last : Nat} (hl : Rd 3 σ lv t.length (ldc t)) (hs : Rd 5 σ sv s.length cs) (hI : SbI cs s) (hn : Rd 5 σ nv T.length (rws rwL T)) (Q : AVal → St → Prop)
    (hy : Q (.bool true) σ) (hno : NotLong t s T → Q (.bool false) σ) : ACall Tryd.prog 11 [.agg [u64 (ep : Int), u64 (last : Int), lv, sv, nv]] σ Q := by
  refine ACall.scrub ?_
  refine ACall.of_compF hmx (fun a w => Tryd.call11 a w) Tryd.func11 cf11 (n := 1) (by decide) rfl ?_
  obtain ⟨o1, o2⟩ := hl.one
  obtain ⟨o3, o4⟩ := hs.one
  obtain ⟨o5, o6⟩ := hn.one
  have l1 := hl.len
  have l2 := hs.len
  have l3 := hn.len
  simp only [ac11, rs11]
  obtain ⟨S, hS⟩ : ∃ S : St, S = ⟨σ.mem.set σ.next (.cells 5 [u64 (ep : Int), u64 (last : Int), lv, sv, nv]), σ.next + 1⟩ := ⟨_, rfl⟩
  have gS : Grow σ S := ⟨by rw [hS]; exact Nat.le_succ _, fun a ha => by rw [hS]; simp [show ¬ a = σ.next by omega]⟩
  have nS : S.next = σ.next + 1 := by rw [hS]
  have mS : S.mem.get σ.next = some (.cells 5 [u64 (ep : Int), u64 (last : Int), lv, sv, nv]) := by rw [hS]; simp
  have stop : ∀ {σ' : St}, Grow S σ' → (∀ a, a < σ.next → σ'.mem.get a = σ.mem.get a) ∧ Q (.bool true) σ := fun g => ⟨(gS.trans g).2, hy⟩
  by_cases c1 : 100 < t.length
  · have c1' : (100 : Int) < t.length := by omega
    simp [lk_cons, o1, o2, o3, o4, o5, o6, ↓l1, ↓l2, ↓l3, c1, c1']
    rw [← hS]
    exact stop (Grow.refl S)
  have c1' : ¬ (100 : Int) < t.length := by omega
  by_cases c2 : 10 < s.length
  · have c2' : (10 : Int) < s.length := by omega
    simp [lk_cons, o1, o2, o3, o4, o5, o6, ↓l1, ↓l2, ↓l3, c1, c1', c2, c2']
    rw [← hS]
    exact stop (Grow.refl S)
  have c2' : ¬ (10 : Int) < s.length := by omega
  by_cases c3 : 40 < T.length
  · have c3' : (40 : Int) < T.length := by omega
    simp [lk_cons, o1, o2, o3, o4, o5, o6, ↓l1, ↓l2, ↓l3, c1, c1', c2, c2', c3, c3']
    rw [← hS]
    exact stop (Grow.refl S)
  have c3' : ¬ (40 : Int) < T.length := by omega
  simp [lk_cons, o1, o2, o3, o4, o5, o6, ↓l1, ↓l2, ↓l3, c1, c1', c2, c2', c3, c3']
  rw [← hS]
  refine wp_loop (L1J σ.next sv s S) s.length ?_ ?_
  · exact ⟨0, rfl, Nat.zero_le _, Grow.refl S, by simp, rfl⟩
  rintro mm rg σ1 ⟨i, rfl, hi, g1, a1, rfl⟩
  have G1 := gS.trans g1
  have n1 := g1.1
  have m1 := (g1.2 σ.next (by omega)).trans mS
  by_cases hlt : i < s.length
  · obtain ⟨x, hx⟩ : ∃ x, s[i]? = some x := ⟨_, List.getElem?_eq_getElem hlt⟩
    have w1 : IntKind.i64.wrap ((i : Int) + 1) = ((i + 1 : Nat) : Int) := by rw [IntWalk.i64_in] <;> omega
    obtain ⟨p, p1, p2, _⟩ := hs.at hlt (ρ := σ1) G1.2
    obtain ⟨hv, e1, e2⟩ := hI.get hx
    rw [e2] at p2
    simp only [sbA] at p2
    obtain ⟨hv1, hv2⟩ := e1.one
    have hl2 := e1.len
    obtain ⟨S2, hS2⟩ : ∃ S : St, S = ⟨(σ1.mem.set σ1.next (.cells 5 [.str ⟨#[]⟩, .int .u8 0, .int .u64 0, .int .u64 0, .nilsl])).set σ1.next (.cells 5 [.str x.name, .int .u8 (x.kind : Int), u64 x.ml, u64 x.me, hv]), σ1.next + 1⟩ := ⟨_, rfl⟩
    have gS2 : Grow σ1 S2 := ⟨by rw [hS2]; exact Nat.le_succ _, fun a ha => by rw [hS2]; simp [show ¬ a = σ1.next by omega]⟩
    have nS2 : S2.next = σ1.next + 1 := by rw [hS2]
    by_cases d1 : 200 < x.name.size
    · have d1' : (200 : Int) < x.name.size := by omega
      simp [lk_cons, hlt, ↓p1, ↓p2, storeL, hv1, d1, d1']
      rw [← hS2]
      exact stop (g1.trans gS2)
    have d1' : ¬ (200 : Int) < x.name.size := by omega
    by_cases d2 : 40 < x.h.length
    · have d2' : (40 : Int) < x.h.length := by omega
      simp [lk_cons, hlt, ↓p1, ↓p2, storeL, hv1, d1, d1', ↓hl2, d2, d2']
      rw [← hS2]
      exact stop (g1.trans gS2)
    have d2' : ¬ (40 : Int) < x.h.length := by omega
    simp [lk_cons, hlt, ↓p1, ↓p2, storeL, hv1, d1, d1', ↓hl2, d2, d2']
    rw [← hS2]
    refine wp_loop (L2J σ.next i sv hv s x.h S2) x.h.length ?_ ?_
    · exact ⟨0, rfl, Nat.zero_le _, Grow.refl S2, by simp, rfl⟩
    rintro mm rg σ3 ⟨j, rfl, hj, g3, a3, rfl⟩
    have G3 := (g1.trans gS2).trans g3
    by_cases hlt2 : j < x.h.length
    · obtain ⟨z, hz⟩ : ∃ z, x.h[j]? = some z := ⟨_, List.getElem?_eq_getElem hlt2⟩
      have w2 : IntKind.i64.wrap ((j : Int) + 1) = ((j + 1 : Nat) : Int) := by rw [IntWalk.i64_in] <;> omega
      obtain ⟨p', r', hr', q1, q2, _, _⟩ := e1.at hz σ3
      have l4 := (hr'.m σ3).len
      have r1 := hr'.one.1
      obtain ⟨S4, hS4⟩ : ∃ S : St, S = ⟨(σ3.mem.set σ3.next (.cells 2 [.int .u64 0, .nilsl])).set σ3.next (.cells 2 [u64 z.f0, r']), σ3.next + 1⟩ := ⟨_, rfl⟩
      have gS4 : Grow σ3 S4 := ⟨by rw [hS4]; exact Nat.le_succ _, fun a ha => by rw [hS4]; simp [show ¬ a = σ3.next by omega]⟩
      by_cases d3 : 40 < z.f1.length
      · have d3' : (40 : Int) < z.f1.length := by omega
        simp [lk_cons, hlt2, ↓q1, ↓q2, storeL, r1, ↓l4, d3, d3']
        rw [← hS4]
        exact stop (G3.trans gS4)
      have d3' : ¬ (40 : Int) < z.f1.length := by omega
      simp [lk_cons, hlt2, ↓q1, ↓q2, storeL, r1, ↓l4, d3, d3', w2]
      rw [← hS4]
      exact ⟨x.h.length - (j + 1), by omega, j + 1, rfl, by omega, g3.trans gS4, take_all hz a3 (by omega), rfl⟩
    have : j = x.h.length := by omega
    rw [this, List.take_length] at a3
    subst this
    simp [lk_cons, w1]
    exact ⟨s.length - (i + 1), by omega, i + 1, rfl, by omega, G3, take_all hx a1 ⟨by omega, by omega, a3⟩, rfl⟩
  have : i = s.length := by omega
  subst this
  rw [List.take_length] at a1
  simp [lk_cons, m1, ↓l3]
  refine wp_loop (L3J nv T σ1) T.length ?_ ?_
  · exact ⟨0, rfl, Nat.zero_le _, Grow.refl σ1, by simp, rfl⟩
  rintro mm rg σ3 ⟨i, rfl, hi, g3, a3, rfl⟩
  have G3 := g1.trans g3
  by_cases hlt : i < T.length
  · obtain ⟨⟨xn, x1, x2, xa, xb⟩, hx⟩ : ∃ x, T[i]? = some x := ⟨_, List.getElem?_eq_getElem hlt⟩
    have w1 : IntKind.i64.wrap ((i : Int) + 1) = ((i + 1 : Nat) : Int) := by rw [IntWalk.i64_in] <;> omega
    obtain ⟨p, p1, p2, _⟩ := hn.at hlt (ρ := σ3) (gS.trans G3).2
    have row : ((rws rwL T).drop (i * 5)).take 5 = [.str xn, u64 (x1 : Int), u64 (x2 : Int), u64 (xa : Int), u64 (xb : Int)] := rws_at rwL hx
    rw [row] at p2
    obtain ⟨S4, hS4⟩ : ∃ S : St, S = ⟨(σ3.mem.set σ3.next (.cells 5 [.str ⟨#[]⟩, .int .u64 0, .int .u64 0, .int .u64 0, .int .u64 0])).set σ3.next (.cells 5 [.str xn, u64 (x1 : Int), u64 (x2 : Int), u64 (xa : Int), u64 (xb : Int)]), σ3.next + 1⟩ := ⟨_, rfl⟩
    have gS4 : Grow σ3 S4 := ⟨by rw [hS4]; exact Nat.le_succ _, fun a ha => by rw [hS4]; simp [show ¬ a = σ3.next by omega]⟩
    by_cases d3 : 200 < xn.size
    · have d3' : (200 : Int) < xn.size := by omega
      simp [lk_cons, hlt, ↓p1, ↓p2, storeL, d3, d3']
      rw [← hS4]
      exact stop (G3.trans gS4)
    have d3' : ¬ (200 : Int) < xn.size := by omega
    simp [lk_cons, hlt, ↓p1, ↓p2, storeL, d3, d3', w1]
    rw [← hS4]
    exact ⟨T.length - (i + 1), by omega, i + 1, rfl, by omega, g3.trans gS4, take_all hx a3 (by show xn.size ≤ 200; omega), rfl⟩
  have : i = T.length := by omega
  rw [this, List.take_length] at a3
  subst this
  simp [lk_cons]
  exact ⟨(gS.trans G3).2, hno ⟨by omega, by omega, by omega, a1, a3⟩⟩
end Go.Proofs.YticefdfhcahlfaaDoor.AM

/- The law of topics. -/
namespace Go.Proofs.YticefdfhcahlfaaDoor.AM
open Go.RowKit
set_option maxRecDepth 100000
set_option linter.unusedVariables false
set_option linter.unusedSimpArgs false

structure TS (σ : St) (ep last : Nat) (t : List Ld) (s : List SbV) (T : Tbl) (lv sv nv : AVal) (cs : List AVal) : Prop where
  rl : Rd 3 σ lv t.length (ldc t)
  rs : Rd 5 σ sv s.length cs
  si : SbI cs s
  rn : Rd 5 σ nv T.length (rws rwL T)
  tl : t.length ≤ 100
  tb : ∀ x ∈ t, In64 x.f0 ∧ In64 x.f2
  sl : s.length ≤ 10
  sm : ∀ x ∈ s, Sm x
  nl : T.length ≤ 200
  nb : ∀ x ∈ T, LnOk x
  be : ep < 18446744073709551616 ∧ last < 18446744073709551616
theorem TS.grow {σ σ' : St} {ep last : Nat} {t : List Ld} {s : List SbV} {T : Tbl} {lv sv nv : AVal} {cs : List AVal} (h : TS σ ep last t s T lv sv nv cs) (g : Grow σ σ') : TS σ' ep last t s T lv sv nv cs :=
  ⟨h.rl.frame g.1 g.2, h.rs.frame g.1 g.2, h.si, h.rn.frame g.1 g.2, h.tl, h.tb, h.sl, h.sm, h.nl, h.nb, h.be⟩
theorem told_s {σ : St} {ep last : Nat} {t : List Ld} {s : List SbV} {T : Tbl} {lv sv nv : AVal} {cs : List AVal} (h : TS σ ep last t s T lv sv nv cs) (Q : AVal → St → Prop) (hQ : ∀ σ', Grow σ σ' → Q (.bool true) σ') : ACall Tryd.prog 13 [.agg [u64 (ep : Int), u64 (last : Int), lv, sv, nv]] σ Q := by
  have h1 := h.tl
  have h2 := h.sl
  refine told_c ⟨h.rl, h.rs, h.si.c⟩ h.si h.rn ⟨by omega, fun x hx => (h.tb x hx).2.1, by omega, fun x hx => ?_⟩ ⟨h.tb, fun x hx => ⟨(h.sm x hx).hs, (h.sm x hx).num, (h.sm x hx).kind⟩, h.nb, h.nl, h.be⟩ ?_ Q hQ
  · have h3 := (h.sm x hx).few
    exact ⟨by omega, fun y hy => by have := h3.2 y hy; omega⟩
  · have h3 := sm_sum h.sm
    omega
theorem MT.ts {lo : Nat} {σ : St} {ep last : Nat} {t : List Ld} {s : List SbP} {T : Tbl} {lv sv nv : AVal} {bs bn : Option Nat} (h : MT lo σ last t s T lv sv nv bs bn) (he : ep < 18446744073709551616) : TS σ ep last t (s.map (·.1)) T lv sv nv (rws rwS s) := by
  have h1 := h.ok.1
  have h2 := h.s2
  have h3 := h.tl
  refine ⟨h.ml.rd, by simpa using h.ms.rd, sbI_rws fun p hp => (h.sm p hp).2, h.mn.rd, by omega, fun x hx => ?_, by simp; omega, fun x hx => ?_, by omega, h.ln, he, h.lb⟩
  · have := h.ok.2.2 x hx
    exact ⟨⟨by omega, by omega⟩, by omega, by omega⟩
  · obtain ⟨p, hp, rfl⟩ := List.mem_map.1 hx
    exact (h.sm p hp).1
theorem two_of {α : Type} : ∀ {s : List α}, 1 < s.length → s.length ≤ 2 → ∃ p r, s = [p, r]
  | [p, r], _, _ => ⟨p, r, rfl⟩
  | [_], h, _ => by simp at h
  | _ :: _ :: _ :: _, _, h => by simp at h
theorem Rd.of {k n m : Nat} {σ : St} {v : AVal} {cs : List AVal} (h : Rd k σ v n cs) (e : n = m) : Rd k σ v m cs := e ▸ h
theorem GS.blk {α : Type} {k : Nat} {R : Rw α k} {σ : St} {v : AVal} {l : List α} {a : Nat} (h : GS R σ v l (some a)) : σ.mem.get a = some (.cells k (rws R l)) := by
  rcases h with ⟨_, _, h⟩ | ⟨o, t, h1, _, _, h4⟩
  · cases h
  · cases h1; exact h4
theorem LOut.put {lo : Nat} {σ σ' : St} {v : AVal} {l : List Ld} (h : LOut lo σ v l) (hn : σ.next ≤ σ'.next) (hm : ∀ a, a < σ.next → (∃ c, σ.mem.get a = some (.cells 3 c)) → σ'.mem.get a = σ.mem.get a) : LOut lo σ' v l := by
  rcases h with h | ⟨o, h0, h1, h2, h3, h4⟩
  · exact .inl h
  · exact .inr ⟨o, h0, h1, h2, Nat.lt_of_lt_of_le h3 hn, (hm o h3 ⟨_, h4⟩).trans h4⟩
/-- What told goes to. -/
def TD (q ep : Nat) (s' : St) : Prop := ∃ (last3 : Nat) (t3 : List Ld) (s3 : List SbV) (T3 : Tbl) (lv3 sv3 nv3 : AVal) (cs3 : List AVal), TS s' ep last3 t3 s3 T3 lv3 sv3 nv3 cs3 ∧ s'.mem.get q = some (.cells 5 [u64 (ep : Int), u64 (last3 : Int), lv3, sv3, nv3])
theorem MT.keep {lo : Nat} {σ σ' : St} {last : Nat} {t : List Ld} {s : List SbP} {T : Tbl} {lv sv nv : AVal} {bs bn : Option Nat} (h : MT lo σ last t s T lv sv nv bs bn) (g : Grow σ σ') : MT lo σ' last t s T lv sv nv bs bn :=
  ⟨h.ml.keep g, h.ms.grow g, h.mn.grow g, h.nb, h.lost, h.ok, h.sm, h.s2, h.tl, h.ln, h.lb⟩
set_option maxHeartbeats 1500000 in
theorem topics_c {lv sv nv d : AVal} {l : List UInt8} {t : List Ld} {s : List SbV} {cs : List AVal} {T : Tbl} {ep last : Nat} (hl : Rd 3 σ0 lv t.length (ldc t)) (hs : Rd 5 σ0 sv s.length cs) (hI : SbI cs s) (hn : Rd 5 σ0 nv T.length (rws rwL T)) (htb : ∀ x ∈ t, In64 x.f0 ∧ In64 x.f2) (hsb : ∀ x ∈ s, (In64 x.ml ∧ In64 x.me) ∧ x.kind < 256 ∧ HArg x.h ∧ ∀ y ∈ x.h, ∀ z ∈ y.f1, In64 z.f0 ∧ In64 z.f1) (hT : ∀ x ∈ T, x.2.1 < 18446744073709551616 ∧ x.2.2.1 < 18446744073709551616 ∧ x.2.2.2.1 < 18446744073709551616 ∧ x.2.2.2.2 < 18446744073709551616) (hbe : ep < 18446744073709551616 ∧ last < 18446744073709551616) (hd : BytesOf d l) (hdl : l.length ≤ 9223372036854775806) (op : Bool) (w n : Nat) (hw : w < 256) (hn64 : n < 18446744073709551616) :
    ACall Tryd.prog 3 [.agg [u64 (ep : Int), u64 (last : Int), lv, sv, nv], d, .bool op, .int .u8 (w : Int), u64 (n : Int)] σ0 fun v _ => v = .bool true := by
  refine ACall.of_compF hmx (fun a w => Tryd.call3 a w) Tryd.func3 cf3 (n := 5) (by decide) rfl ?_
  obtain ⟨o1, o2⟩ := hl.one
  obtain ⟨o3, o4⟩ := hs.one
  obtain ⟨o5, o6⟩ := hn.one
  simp only [ac3, rs3]
  simp [lk_cons, o1, o2, o3, o4, o5, o6]
  obtain ⟨S, hS⟩ : ∃ S : St, S = ⟨σ0.mem.set σ0.next (.cells 5 [u64 (ep : Int), u64 (last : Int), lv, sv, nv]), σ0.next + 1⟩ := ⟨_, rfl⟩
  have gS : Grow σ0 S := ⟨by rw [hS]; exact Nat.le_succ _, fun a ha => by rw [hS]; simp [show ¬ a = σ0.next by omega]⟩
  have nS : S.next = σ0.next + 1 := by rw [hS]
  have mS : S.mem.get σ0.next = some (.cells 5 [u64 (ep : Int), u64 (last : Int), lv, sv, nv]) := by rw [hS]; simp
  try rw [← hS]
  rw [show σ0.next = 0 from rfl] at nS mS
  refine awake _ fun σ1 g1 => ?_
  have G1 := gS.trans g1
  have m1 := (g1.2 0 (by omega)).trans mS
  have n1 := g1.1
  simp [lk_cons, m1]
  refine long_c (hl.frame G1.1 G1.2) (hs.frame G1.1 G1.2) hI (hn.frame G1.1 G1.2) _ ?_ fun hno => ?_
  · simp [lk_cons]
  obtain ⟨b1, b2, b3, b4, b5⟩ := hno
  have hT2 : ∀ x ∈ T, LnOk x := fun x hx => ⟨by have := b5 x hx; omega, hT x hx⟩
  have hsm : ∀ x ∈ s, Sm x := fun x hx => by
    obtain ⟨e1, e2, e3⟩ := b4 x hx
    obtain ⟨f1, f2, f3⟩ := hsb x hx
    refine ⟨e1, f2, f1, ⟨by omega, fun y hy => by have := e3 y hy; omega, fun y hy => ?_, fun y hy z hz => ?_⟩, e2, e3⟩
    · have := (f3.1.2 y hy).1; exact ⟨by omega, by omega⟩
    · exact f3.2 y hy z hz
  have ts : TS σ1 ep last t s T lv sv nv cs := ⟨hl.frame G1.1 G1.2, hs.frame G1.1 G1.2, hI, hn.frame G1.1 G1.2, b1, htb, b2, hsm, by omega, hT2, hbe⟩
  simp [lk_cons, m1, o1, o2, o3, o4, o5, o6]
  refine made_c (t := t) ⟨o1, o2⟩ ts.rs hI ts.rn (by omega) (by omega) (fun x hx => ⟨(hsb x hx).1, (hsb x hx).2.1, (hsb x hx).2.2.1⟩) hT2 hbe.2 hd hdl op _ fun last2 t2 s2 T2 lv2 sv2 nv2 bs bn σ2 mt g2 => ?_
  have m2 := (g2.2 0 (by omega)).trans m1
  have n2 := g2.1
  have hts := mt.ts hbe.1
  obtain ⟨k1, k2⟩ := hts.rl.one
  obtain ⟨k3, k4⟩ := hts.rs.one
  obtain ⟨k5, k6⟩ := hts.rn.one
  have z2 : ¬ 0 = σ2.next := by omega
  simp [lk_cons, m2, z2, o1, o2, o3, o4, o5, o6, k1, k2, k3, k4, k5, k6, storeL]
  obtain ⟨S3, hS3⟩ : ∃ S : St, S = ⟨(σ2.mem.set σ2.next (.cells 5 [.int .u64 0, .int .u64 0, .nilsl, .nilsl, .nilsl])).set σ2.next (.cells 5 [u64 (ep : Int), u64 (last2 : Int), lv2, sv2, nv2]), σ2.next + 1⟩ := ⟨_, rfl⟩
  have gS3 : Grow σ2 S3 := ⟨by rw [hS3]; exact Nat.le_succ _, fun a ha => by rw [hS3]; simp [show ¬ a = σ2.next by omega]⟩
  have nS3 : S3.next = σ2.next + 1 := by rw [hS3]
  have mS3 : S3.mem.get σ2.next = some (.cells 5 [u64 (ep : Int), u64 (last2 : Int), lv2, sv2, nv2]) := by rw [hS3]; simp
  rw [← hS3]
  refine told_s (ts.grow (g2.trans gS3)) _ fun σ4 g4 => ?_
  have m4 := (g4.2 σ2.next (by omega)).trans mS3
  simp [lk_cons, m4, k1, k2, k3, k4, k5, k6]
  refine told_s (hts.grow (gS3.trans g4)) _ fun σ5 g5 => ?_
  have m5 := (g5.2 σ2.next (by have := g4.1; omega)).trans m4
  have n5 : σ2.next < σ5.next := by have := g4.1; have := g5.1; omega
  have mt5 := mt.keep (gS3.trans (g4.trans g5))
  have e8 : Int.tmod (w : Int) 8 = ((w % 8 : Nat) : Int) := by rw [Int.tmod_eq_emod_of_nonneg (by omega)]; omega
  have w8 : IntKind.u8.wrap ((w % 8 : Nat) : Int) = ((w % 8 : Nat) : Int) := by rw [IntWalk.u8_in]; omega
  obtain ⟨k, hk⟩ : ∃ k, w % 8 = k := ⟨_, rfl⟩
  have hk8 : k < 8 := by omega
  rw [hk] at e8 w8
  clear hts ts
  simp [lk_cons, e8, w8]
  refine condK_mid (fun rg s' => TD σ2.next ep s' ∧ rg.lookup 11 = some (.ptr σ2.next 0)) ?_ ?_
  · have hts5 := mt5.ts hbe.1
    have hts2 := mt.ts hbe.1
    have gA : ∀ a, a < σ2.next → σ5.mem.get a = σ2.mem.get a := fun a ha => (gS3.trans (g4.trans g5)).2 a ha
    have lenL := mt5.ml.len
    have lenS := mt5.ms.len
    have lenN := mt5.mn.len
    have c8 : k = 0 ∨ k = 1 ∨ k = 2 ∨ k = 3 ∨ k = 4 ∨ k = 5 ∨ k = 6 ∨ k = 7 := by omega
    rcases c8 with rfl | rfl | rfl | rfl | rfl | rfl | rfl | rfl
    · have e20 : Int.tmod (n : Int) 20 = ((n % 20 : Nat) : Int) := by rw [Int.tmod_eq_emod_of_nonneg (by omega)]; omega
      simp [lk_cons, e20, m5, storeL]
      refine ⟨n % 20, t2, _, T2, lv2, sv2, nv2, _, { hts2.grow (σ' := ⟨σ5.mem.set σ2.next (.cells 5 [u64 (ep : Int), u64 ((n : Int) % 20), lv2, sv2, nv2]), σ5.next⟩) ⟨by show σ2.next ≤ σ5.next; omega, fun a ha => by simp [show ¬ a = σ2.next by omega]; exact gA a ha⟩ with be := ⟨hbe.1, by omega⟩ }, by simp⟩
    · by_cases h0 : 0 < t2.length
      · obtain ⟨x, r, rfl⟩ : ∃ x r, t2 = x :: r := by cases t2 <;> simp at h0 ⊢
        rcases id mt5.ml with ⟨_, h⟩ | ⟨o, rfl, h1, h2, h3, h4⟩
        · cases h
        have hx := hts5.tb x (by simp)
        simp only [ldc] at h4
        simp [lk_cons, m5, storeL, ↓lenL, h4]
        have n5' : ∀ a, bs = some a ∨ bn = some a → a ≠ o := fun a ha e => by
          rw [e] at ha
          rcases ha with ha | ha
          · have := (ha ▸ mt5.ms).blk; rw [h4] at this; cases this
          · have := (ha ▸ mt5.mn).blk; rw [h4] at this; cases this
        have w5 := (mt5.ms.keep (σ' := ⟨σ5.mem.set o (.cells 3 (u64 x.f0 :: .bool x.f1 :: u64 (n : Int) :: ldc r)), σ5.next⟩) (Nat.le_refl _) fun a ha hb => by simp [n5' a (.inl hb)]).rd
        have w6 := (mt5.mn.keep (σ' := ⟨σ5.mem.set o (.cells 3 (u64 x.f0 :: .bool x.f1 :: u64 (n : Int) :: ldc r)), σ5.next⟩) (Nat.le_refl _) fun a ha hb => by simp [n5' a (.inr hb)]).rd
        refine ⟨last2, ⟨x.f0, x.f1, n⟩ :: r, _, T2, .sl o 0 (x :: r).length (x :: r).length false, sv2, nv2, _, { hts5 with rl := ⟨by rw [ldc_len], .inr (.inr ⟨o, (x :: r).length, false, rfl, h3, by simp [ldc]⟩)⟩, rs := by simpa using w5, rn := w6, tl := by simpa using hts5.tl, tb := fun y hy => ?_ }, ?_⟩
        · rcases List.mem_cons.1 hy with rfl | hy
          · exact ⟨hx.1, by show 0 ≤ (n : Int) ∧ (n : Int) < 18446744073709551616; omega⟩
          · exact hts5.tb y (by simp [hy])
        · have : ¬ σ2.next = o := fun e => by rw [← e, m5] at h4; cases h4
          simp [this]; exact m5
      · simp [lk_cons, m5, storeL, ↓lenL, h0]
        exact ⟨last2, t2, _, T2, lv2, sv2, nv2, _, hts5, m5⟩
    · by_cases h0 : 0 < s2.length
      · obtain ⟨p, r, rfl⟩ : ∃ p r, s2 = p :: r := by cases s2 <;> simp at h0 ⊢
        have e6 : Int.tmod (n : Int) 6 = (n : Int) % 6 := Int.tmod_eq_emod_of_nonneg (by omega)
        have w6 : IntKind.u8.wrap ((n : Int) % 6) = (n : Int) % 6 := by rw [IntWalk.u8_in]; omega
        rcases id mt5.ms with ⟨_, h, _⟩ | ⟨o, tt, rfl, rfl, h3, h4⟩
        · cases h
        have hx := mt5.sm p (by simp)
        have hA : rws rwS (p :: r) = .str p.1.name :: .int .u8 (p.1.kind : Int) :: u64 p.1.ml :: u64 p.1.me :: p.2.1 :: rws rwS r := rfl
        rw [hA] at h4
        simp [lk_cons, m5, storeL, ↓lenS, h4, e6, w6]
        obtain ⟨F, hF⟩ : ∃ F : St, F = ⟨σ5.mem.set o (.cells 5 (.str p.1.name :: .int .u8 ((n : Int) % 6) :: u64 p.1.ml :: u64 p.1.me :: p.2.1 :: rws rwS r)), σ5.next⟩ := ⟨_, rfl⟩
        have nF : F.next = σ5.next := by rw [hF]
        have kF : ∀ a, a ≠ o → F.mem.get a = σ5.mem.get a := fun a ha => by rw [hF]; simp [ha]
        have mF : F.mem.get o = some (.cells 5 (.str p.1.name :: .int .u8 ((n : Int) % 6) :: u64 p.1.ml :: u64 p.1.me :: p.2.1 :: rws rwS r)) := by rw [hF]; simp
        rw [← hF]
        have oq : σ2.next ≠ o := fun e => by have := mt.ms.lt rfl; omega
        obtain ⟨pp, hpp⟩ : ∃ pp : SbP, pp = ({ p.1 with kind := n % 6 }, p.2) := ⟨_, rfl⟩
        have hB : rws rwS (pp :: r) = .str p.1.name :: .int .u8 ((n : Int) % 6) :: u64 p.1.ml :: u64 p.1.me :: p.2.1 :: rws rwS r := by
          rw [hpp, rws_cons]
          show [AVal.str p.1.name, .int .u8 ((n % 6 : Nat) : Int), u64 p.1.ml, u64 p.1.me, p.2.1] ++ rws rwS r = _
          simp
        have hm : ∀ x ∈ pp :: r, Sm x.1 ∧ HI x.2.1 x.1.h := fun x hx2 => by
          rcases List.mem_cons.1 hx2 with rfl | hx2
          · rw [hpp]; exact ⟨⟨hx.1.name, by show n % 6 < 256; omega, hx.1.num, hx.1.hs, hx.1.few⟩, hx.2⟩
          · exact mt5.sm x (by simp [hx2])
        refine ⟨last2, t2, (pp :: r).map (·.1), T2, lv2, .sl o 0 (p :: r).length (p :: r).length tt, nv2, rws rwS (pp :: r), { hts5 with rl := (mt5.ml.put (by omega) fun a ha hc => kF a fun e => ?_).rd, rs := ⟨by simp [rws_len], .inr (.inr ⟨o, (p :: r).length, tt, by simp, by omega, by rw [hB]; exact mF⟩)⟩, si := sbI_rws fun x hx2 => (hm x hx2).2, rn := (mt5.mn.keep (by omega) fun a ha hc => kF a fun e => mt5.nb a (by rw [e]) hc).rd, sl := by simpa using hts5.sl, sm := fun x hx2 => ?_ }, (kF _ oq).trans m5⟩
        · obtain ⟨c, hc⟩ := hc
          rw [e, h4] at hc; cases hc
        · obtain ⟨y, hy, rfl⟩ := List.mem_map.1 hx2
          exact (hm y hy).1
      · simp [lk_cons, m5, storeL, ↓lenS, h0]
        exact ⟨last2, t2, _, T2, lv2, sv2, nv2, _, hts5, m5⟩
    · by_cases h0 : 1 < s2.length
      · have h0' : (1 : Int) < s2.length := by omega
        obtain ⟨p, r, rfl⟩ := two_of h0 mt5.s2
        rcases id mt5.ms with ⟨_, h, _⟩ | ⟨o, tt, rfl, rfl, h3, h4⟩
        · cases h
        have hA : ∀ p r, rws rwS [p, r] = [.str p.1.name, .int .u8 (p.1.kind : Int), u64 p.1.ml, u64 p.1.me, p.2.1, .str r.1.name, .int .u8 (r.1.kind : Int), u64 r.1.ml, u64 r.1.me, r.2.1] := fun p r => rfl
        rw [hA] at h4
        have z5 : ¬ σ2.next = o := fun e => by have := mt.ms.lt rfl; omega
        have pv := p.2.2
        have rv := r.2.2
        simp [lk_cons, m5, z5, storeL, ↓lenS, h4, pv, rv]
        obtain ⟨F, hF⟩ : ∃ F : St, F = ⟨(σ5.mem.set o (.cells 5 [.str r.1.name, .int .u8 (r.1.kind : Int), u64 r.1.ml, u64 r.1.me, r.2.1, .str r.1.name, .int .u8 (r.1.kind : Int), u64 r.1.ml, u64 r.1.me, r.2.1])).set o (.cells 5 [.str r.1.name, .int .u8 (r.1.kind : Int), u64 r.1.ml, u64 r.1.me, r.2.1, .str p.1.name, .int .u8 (p.1.kind : Int), u64 p.1.ml, u64 p.1.me, p.2.1]), σ5.next⟩ := ⟨_, rfl⟩
        have nF : F.next = σ5.next := by rw [hF]
        have kF : ∀ a, a ≠ o → F.mem.get a = σ5.mem.get a := fun a ha => by rw [hF]; simp [ha]
        have mF : F.mem.get o = some (.cells 5 (rws rwS [r, p])) := by rw [hF, hA]; simp
        rw [← hF]
        have hm : ∀ x ∈ [r, p], Sm x.1 ∧ HI x.2.1 x.1.h := fun x hx => mt5.sm x (by simp at hx ⊢; exact hx.symm)
        refine ⟨last2, t2, [r, p].map (·.1), T2, lv2, .sl o 0 [p, r].length [p, r].length tt, nv2, rws rwS [r, p], { hts5 with rl := (mt5.ml.put (by omega) fun a ha hc => kF a fun e => ?_).rd, rs := ⟨rfl, .inr (.inr ⟨o, 2, tt, rfl, by omega, mF⟩)⟩, si := sbI_rws fun x hx2 => (hm x hx2).2, rn := (mt5.mn.keep (by omega) fun a ha hc => kF a fun e => mt5.nb a (by rw [e]) hc).rd, sl := by simp, sm := fun x hx2 => ?_ }, (kF _ z5).trans m5⟩
        · obtain ⟨c, hc⟩ := hc
          rw [e, h4] at hc; cases hc
        · obtain ⟨y, hy, rfl⟩ := List.mem_map.1 hx2
          exact (hm y hy).1
      · have h0' : ¬ (1 : Int) < s2.length := by omega
        simp [lk_cons, m5, storeL, ↓lenS, h0, h0']
        exact ⟨last2, t2, _, T2, lv2, sv2, nv2, _, hts5, m5⟩
    · by_cases h0 : 0 < T2.length
      · obtain ⟨p, r, rfl⟩ : ∃ p r, T2 = p :: r := by cases T2 <;> simp at h0 ⊢
        rcases id mt5.mn with ⟨_, h, _⟩ | ⟨o, tt, rfl, rfl, h3, h4⟩
        · cases h
        have hx := mt5.ln p (by simp)
        have hA : rws rwL (p :: r) = .str p.1 :: u64 (p.2.1 : Int) :: u64 (p.2.2.1 : Int) :: u64 (p.2.2.2.1 : Int) :: u64 (p.2.2.2.2 : Int) :: rws rwL r := rfl
        rw [hA] at h4
        simp [lk_cons, m5, storeL, ↓lenN, h4]
        obtain ⟨F, hF⟩ : ∃ F : St, F = ⟨σ5.mem.set o (.cells 5 (.str p.1 :: u64 (n : Int) :: u64 (p.2.2.1 : Int) :: u64 (p.2.2.2.1 : Int) :: u64 (p.2.2.2.2 : Int) :: rws rwL r)), σ5.next⟩ := ⟨_, rfl⟩
        have nF : F.next = σ5.next := by rw [hF]
        have kF : ∀ a, a ≠ o → F.mem.get a = σ5.mem.get a := fun a ha => by rw [hF]; simp [ha]
        have mF : F.mem.get o = some (.cells 5 (rws rwL ((p.1, (n, p.2.2)) :: r))) := by rw [hF]; simp; rfl
        rw [← hF]
        have oq : σ2.next ≠ o := fun e => by have := mt.mn.lt rfl; omega
        refine ⟨last2, t2, s2.map (·.1), (p.1, (n, p.2.2)) :: r, lv2, sv2, .sl o 0 (p :: r).length (p :: r).length tt, rws rwS s2, { hts5 with rl := (mt5.ml.put (by omega) fun a ha hc => kF a fun e => ?_).rd, rn := ⟨by rw [rws_len], .inr (.inr ⟨o, (p :: r).length, tt, by simp, by omega, mF⟩)⟩, rs := by simpa using (mt5.ms.keep (σ' := F) (by omega) fun a ha hc => kF a fun e => mt5.nb a hc (by rw [e])).rd, nl := by simpa using hts5.nl, nb := fun x hx2 => ?_ }, (kF _ oq).trans m5⟩
        · obtain ⟨c, hc⟩ := hc
          rw [e, h4] at hc; cases hc
        · rcases List.mem_cons.1 hx2 with rfl | hx2
          · exact ⟨hx.1, hn64, hx.2.2⟩
          · exact mt5.ln x (by simp [hx2])
      · simp [lk_cons, m5, storeL, ↓lenN, h0]
        exact ⟨last2, t2, _, T2, lv2, sv2, nv2, _, hts5, m5⟩
    · have := mt5.tl
      obtain ⟨v', σ6, b6, f1, f2, f3, f4, f5⟩ := gs_appN mt5.mn (by_ := 48) (by decide) (mt5.mn.src (k := 5)) (by omega) (by omega)
      obtain ⟨k7, k8⟩ := f2.one
      have m6 : σ6.mem.get σ2.next = some (.cells 5 [u64 (ep : Int), u64 (last2 : Int), lv2, sv2, nv2]) := (f5 σ2.next n5 fun e => by have := mt.mn.lt e; omega).trans m5
      simp [lk_cons, m5, storeL, ↓f1, m6, k7, k8]
      obtain ⟨F, hF⟩ : ∃ F : St, F = ⟨σ6.mem.set σ2.next (.cells 5 [u64 (ep : Int), u64 (last2 : Int), lv2, sv2, v']), σ6.next⟩ := ⟨_, rfl⟩
      have nF : F.next = σ6.next := by rw [hF]
      have kF : ∀ a, a ≠ σ2.next → F.mem.get a = σ6.mem.get a := fun a ha => by rw [hF]; simp [ha]
      have mF : F.mem.get σ2.next = some (.cells 5 [u64 (ep : Int), u64 (last2 : Int), lv2, sv2, v']) := by rw [hF]; simp
      rw [← hF]
      refine ⟨last2, t2, s2.map (·.1), T2 ++ T2, lv2, sv2, v', rws rwS s2, { hts5 with rl := (mt5.ml.put (by omega) fun a ha hc => (kF a fun e => ?_).trans (f5 a ha fun e => ?_)).rd, rn := (f2.keep (σ' := F) (by omega) fun a ha hc => kF a fun e => ?_).rd, rs := (mt5.ms.keep (σ' := F) (by omega) fun a ha hc => (kF a fun e => ?_).trans (f5 a ha (mt5.nb a hc))).rd.of (by simp), nl := by rw [List.length_append]; omega, nb := fun x hx => ?_ }, mF⟩
      · obtain ⟨c, hc⟩ := hc
        rw [e, m5] at hc; cases hc
      · obtain ⟨c, hc⟩ := hc
        have := (e ▸ mt5.mn).blk
        rw [this] at hc; cases hc
      · have := mt.ms.lt hc; omega
      · rcases f3 with f3 | f3
        · have := mt.mn.lt (f3 ▸ hc); omega
        · rw [f3] at hc; cases hc; omega
      · rcases List.mem_append.1 hx with hx | hx
        · exact mt5.ln x hx
        · exact mt5.ln x hx
    · obtain ⟨pp, hpp⟩ : ∃ pp : SbP, pp = (⟨⟨#[122, 122]⟩, 1, 0, 0, []⟩, ⟨.nilsl, rfl⟩) := ⟨_, rfl⟩
      have hppA : rwS.a pp = [.str ⟨#[122, 122]⟩, .int .u8 1, .int .u64 0, .int .u64 0, .nilsl] := by rw [hpp]; rfl
      have g6 : GS rwS ⟨σ5.mem.set σ5.next (.cells 5 (rwS.a pp)), σ5.next + 1⟩ sv2 s2 bs := mt5.ms.keep (by simp) fun a ha _ => by simp [show ¬ a = σ5.next by omega]
      have := mt5.s2
      obtain ⟨σ6, f1, f2, f3, f4⟩ := gs_app1 g6 (nb := σ5.next) (by_ := 64) (t := true) (x := pp) (by decide) (by simp) (fun e => by have := mt5.ms.lt e; omega) (by omega) (by omega)
      rw [hppA] at f1
      have m6 : σ6.mem.get σ2.next = some (.cells 5 [u64 (ep : Int), u64 (last2 : Int), lv2, sv2, nv2]) := by
        rw [f4 σ2.next (by show _ < σ5.next + 1; omega) fun e => by have := mt.ms.lt e; omega]
        simp [show ¬ σ2.next = σ5.next by omega]; exact m5
      simp [lk_cons, m5, storeL, fillL, repL, ↓f1, m6]
      obtain ⟨v', hv'⟩ : ∃ v', v' = AVal.sl (σ5.next + 1) 0 (s2.length + 1) (s2.length + 1) false := ⟨_, rfl⟩
      rw [← hv'] at f2
      rw [← hv']
      obtain ⟨F, hF⟩ : ∃ F : St, F = ⟨σ6.mem.set σ2.next (.cells 5 [u64 (ep : Int), u64 (last2 : Int), lv2, v', nv2]), σ6.next⟩ := ⟨_, rfl⟩
      have nF : F.next = σ6.next := by rw [hF]
      have n6 : σ5.next ≤ σ6.next := by rw [f3]; show σ5.next ≤ σ5.next + 1 + 1; omega
      have kF : ∀ a, a ≠ σ2.next → F.mem.get a = σ6.mem.get a := fun a ha => by rw [hF]; simp [ha]
      have f5 : ∀ a, a < σ5.next → bs ≠ some a → σ6.mem.get a = σ5.mem.get a := fun a ha hb => by
        rw [f4 a (by show a < σ5.next + 1; omega) hb]
        simp [show ¬ a = σ5.next by omega]
      have mF : F.mem.get σ2.next = some (.cells 5 [u64 (ep : Int), u64 (last2 : Int), lv2, v', nv2]) := by rw [hF]; simp
      have hm : ∀ x ∈ s2 ++ [pp], Sm x.1 ∧ HI x.2.1 x.1.h := fun x hx => by
        rcases List.mem_append.1 hx with hx | hx
        · exact mt5.sm x hx
        · rw [List.mem_singleton.1 hx, hpp]
          exact ⟨⟨by show 2 ≤ 200; omega, by show 1 < 256; omega, ⟨⟨by show (0 : Int) ≤ 0; omega, by show (0 : Int) < _; omega⟩, by show (0 : Int) ≤ 0; omega, by show (0 : Int) < _; omega⟩, ⟨by simp, by simp, by simp, by simp⟩, by simp, by simp⟩, .inl ⟨rfl, rfl⟩⟩
      rw [← hF]
      refine ⟨last2, t2, (s2 ++ [pp]).map (·.1), T2, lv2, v', nv2, rws rwS (s2 ++ [pp]), { hts5 with rl := (mt5.ml.put (by omega) fun a ha hc => (kF a fun e => ?_).trans (f5 a ha fun e => ?_)).rd, rs := (f2.keep (σ' := F) (by omega) fun a ha hc => kF a fun e => ?_).rd.of (by simp), si := sbI_rws fun x hx => (hm x hx).2, rn := (mt5.mn.keep (σ' := F) (by omega) fun a ha hc => (kF a fun e => ?_).trans (f5 a ha fun e => mt5.nb a e hc)).rd, sl := by simp; omega, sm := fun x hx => ?_ }, mF⟩
      · obtain ⟨c, hc⟩ := hc
        rw [e, m5] at hc; cases hc
      · obtain ⟨c, hc⟩ := hc
        have := (e ▸ mt5.ms).blk
        rw [this] at hc; cases hc
      · have hc : σ5.next + 1 = a := Option.some.inj hc; omega
      · have := mt.mn.lt hc; omega
      · obtain ⟨y, hy, rfl⟩ := List.mem_map.1 hx
        exact (hm y hy).1
    · simp [lk_cons, m5, storeL]
      exact ⟨last2, t2, _, T2, lv2, sv2, nv2, _, hts5, m5⟩
  · rintro rg s' ⟨⟨last3, t3, s3, T3, lv3, sv3, nv3, cs3, h3, m3⟩, r3⟩
    simp [lk_cons, m3, r3]
    refine told_s h3 _ fun σ9 g9 => ?_
    simp [lk_cons]
end Go.Proofs.YticefdfhcahlfaaDoor.AM

/- Topics as arguments. -/
namespace Go.Proofs.YticefdfhcahlfaaDoor.AM
open Go.RowKit
set_option maxRecDepth 100000
set_option linter.unusedVariables false
set_option linter.unusedSimpArgs false

def LdArg (x : List AVal) : Prop := (fun x => ∃ a b, x = a ++ b ∧ U64Arg a ∧ (fun x => ∃ a b, x = a ++ b ∧ (∃ q, a = [.bool q]) ∧ U64Arg b) b) x
def LdsArg (b : List AVal) : Prop := b = [.nilsl] ∨ ∃ xs : List (List AVal), b = [.isl xs.flatten xs.length false] ∧ (∀ x ∈ xs, x.length = 3 ∧ LdArg x) ∧ xs.length ≤ 9223372036854775807 ∧ xs.length * 24 ≤ 140737488351232
def RgsArg (b : List AVal) : Prop := b = [.nilsl] ∨ ∃ xs : List (List AVal), b = [.isl xs.flatten xs.length false] ∧ (∀ x ∈ xs, x.length = 2 ∧ PairArg x) ∧ xs.length ≤ 9223372036854775807 ∧ xs.length * 16 ≤ 140737488351232
def HdArg (x : List AVal) : Prop := (fun x => ∃ a b, x = a ++ b ∧ U64Arg a ∧ RgsArg b) x
def HdsArg (b : List AVal) : Prop := b = [.nilsl] ∨ ∃ xs : List (List AVal), b = [.isl xs.flatten xs.length false] ∧ (∀ x ∈ xs, x.length = 2 ∧ HdArg x) ∧ xs.length ≤ 9223372036854775807 ∧ xs.length * 32 ≤ 140737488351232
def CurArg (x : List AVal) : Prop := (fun x => ∃ a b, x = a ++ b ∧ PairArg a ∧ HdsArg b) x
def SbArg (x : List AVal) : Prop := (fun x => ∃ a b, x = a ++ b ∧ StrArg a ∧ (fun x => ∃ a b, x = a ++ b ∧ U8Arg a ∧ CurArg b) b) x
def SbsArg (b : List AVal) : Prop := b = [.nilsl] ∨ ∃ xs : List (List AVal), b = [.isl xs.flatten xs.length false] ∧ (∀ x ∈ xs, x.length = 5 ∧ SbArg x) ∧ xs.length ≤ 9223372036854775807 ∧ xs.length * 64 ≤ 140737488351232
def LnArg (x : List AVal) : Prop := (fun x => ∃ a b, x = a ++ b ∧ StrArg a ∧ (fun x => ∃ a b, x = a ++ b ∧ U64Arg a ∧ (fun x => ∃ a b, x = a ++ b ∧ U64Arg a ∧ PairArg b) b) b) x
def LnsArg (b : List AVal) : Prop := b = [.nilsl] ∨ ∃ xs : List (List AVal), b = [.isl xs.flatten xs.length false] ∧ (∀ x ∈ xs, x.length = 5 ∧ LnArg x) ∧ xs.length ≤ 9223372036854775807 ∧ xs.length * 48 ≤ 140737488351232
def TopicArg (us : List AVal) : Prop := (fun x => ∃ a b, x = a ++ b ∧ U64Arg a ∧ (fun x => ∃ a b, x = a ++ b ∧ U64Arg a ∧ (fun x => ∃ a b, x = a ++ b ∧ LdsArg a ∧ (fun x => ∃ a b, x = a ++ b ∧ SbsArg a ∧ LnsArg b) b) b) b) us
theorem ldCells : ∀ xs : List (List AVal), (∀ x ∈ xs, x.length = 3 ∧ LdArg x) → ∃ t : List Ld, xs.flatten = ldc t ∧ t.length = xs.length ∧ ∀ x ∈ t, In64 x.f0 ∧ In64 x.f2
  | [], _ => ⟨[], rfl, rfl, by simp⟩
  | x :: xs, h => by
    obtain ⟨t, h1, h2, h3⟩ := ldCells xs fun y hy => h y (by simp [hy])
    obtain ⟨_, _, _, rfl, ⟨a, rfl, ha⟩, _, _, rfl, ⟨q, rfl⟩, ⟨b, rfl, hb⟩⟩ := h x (by simp)
    obtain ⟨a, rfl, ha'⟩ := wf_u64 ha
    obtain ⟨b, rfl, hb'⟩ := wf_u64 hb
    refine ⟨⟨a, q, b⟩ :: t, by simp [h1, ldc], by simp [h2], fun y hy => ?_⟩
    rcases List.mem_cons.1 hy with rfl | hy
    · exact ⟨⟨by show (0 : Int) ≤ a; omega, by show (a : Int) < _; omega⟩, by show (0 : Int) ≤ b; omega, by show (b : Int) < _; omega⟩
    · exact h3 y hy
theorem rgsCells : ∀ xs : List (List AVal), (∀ x ∈ xs, x.length = 2 ∧ PairArg x) → ∃ t : List S25, xs.flatten = rc t ∧ t.length = xs.length ∧ ∀ x ∈ t, In64 x.f0 ∧ In64 x.f1
  | [], _ => ⟨[], rfl, rfl, by simp⟩
  | x :: xs, h => by
    obtain ⟨t, h1, h2, h3⟩ := rgsCells xs fun y hy => h y (by simp [hy])
    obtain ⟨_, _, _, rfl, ⟨a, rfl, ha⟩, ⟨b, rfl, hb⟩⟩ := h x (by simp)
    obtain ⟨a, rfl, ha'⟩ := wf_u64 ha
    obtain ⟨b, rfl, hb'⟩ := wf_u64 hb
    refine ⟨⟨a, b⟩ :: t, by simp [h1, rc], by simp [h2], fun y hy => ?_⟩
    rcases List.mem_cons.1 hy with rfl | hy
    · exact ⟨⟨by show (0 : Int) ≤ a; omega, by show (a : Int) < _; omega⟩, by show (0 : Int) ≤ b; omega, by show (b : Int) < _; omega⟩
    · exact h3 y hy
def HdOk (x : Hd) : Prop := (0 ≤ x.f0 ∧ x.f0 ≤ 18446744073709551615) ∧ (∀ z ∈ x.f1, In64 z.f0 ∧ In64 z.f1) ∧ x.f1.length ≤ 9223372036854775806
theorem hdsCells : ∀ xs : List (List AVal), (∀ x ∈ xs, x.length = 2 ∧ HdArg x) → ∃ h : List Hd, HC xs.flatten h ∧ h.length = xs.length ∧ ∀ x ∈ h, HdOk x
  | [], _ => ⟨[], trivial, rfl, by simp⟩
  | x :: xs, h => by
    obtain ⟨t, h1, h2, h3⟩ := hdsCells xs fun y hy => h y (by simp [hy])
    obtain ⟨_, a, b, rfl, ⟨n, rfl, hn⟩, hb⟩ := h x (by simp)
    obtain ⟨n, rfl, hn'⟩ := wf_u64 hn
    rcases hb with rfl | ⟨ys, rfl, hys, _, hyl⟩
    · exact ⟨⟨n, []⟩ :: t, ⟨rfl, .inl ⟨rfl, rfl⟩, h1⟩, by simp [h2], fun y hy => by
        rcases List.mem_cons.1 hy with rfl | hy
        · exact ⟨⟨by show (0 : Int) ≤ n; omega, by show (n : Int) ≤ _; omega⟩, fun z hz => absurd hz List.not_mem_nil, by simp⟩
        · exact h3 y hy⟩
    · obtain ⟨l, e1, e2, e3⟩ := rgsCells ys hys
      exact ⟨⟨n, l⟩ :: t, ⟨rfl, .inr ⟨false, by rw [e1, e2]⟩, h1⟩, by simp [h2], fun y hy => by
        rcases List.mem_cons.1 hy with rfl | hy
        · exact ⟨⟨by show (0 : Int) ≤ n; omega, by show (n : Int) ≤ _; omega⟩, e3, by show l.length ≤ _; omega⟩
        · exact h3 y hy⟩
theorem hdsArg {b : List AVal} (h : HdsArg b) : ∃ v h, b = [v] ∧ HI v h ∧ HArg h ∧ ∀ y ∈ h, ∀ z ∈ y.f1, In64 z.f0 ∧ In64 z.f1 := by
  rcases h with h | ⟨xs, h, hx, _, hl⟩
  · exact ⟨_, [], h, .inl ⟨rfl, rfl⟩, ⟨by simp, by simp⟩, by simp⟩
  · obtain ⟨t, h1, h2, h3⟩ := hdsCells xs hx
    exact ⟨_, t, h, .inr ⟨_, false, by rw [h2], h1⟩, ⟨by omega, fun x hx => ⟨(h3 x hx).1, fun z hz => by have := (h3 x hx).2.1 z hz; exact ⟨this.1.1, this.2.1, by have := this.2.2; omega⟩, (h3 x hx).2.2⟩⟩, fun y hy => (h3 y hy).2.1⟩
theorem sbsCells : ∀ xs : List (List AVal), (∀ x ∈ xs, x.length = 5 ∧ SbArg x) → ∃ s : List SbV, SbI xs.flatten s ∧ s.length = xs.length ∧ ∀ x ∈ s, (In64 x.ml ∧ In64 x.me) ∧ x.kind < 256 ∧ HArg x.h ∧ ∀ y ∈ x.h, ∀ z ∈ y.f1, In64 z.f0 ∧ In64 z.f1
  | [], _ => ⟨[], trivial, rfl, by simp⟩
  | x :: xs, h => by
    obtain ⟨t, h1, h2, h3⟩ := sbsCells xs fun y hy => h y (by simp [hy])
    obtain ⟨_, _, _, rfl, ⟨nm, rfl, _⟩, _, _, rfl, ⟨k, rfl, hk⟩, _, _, rfl, ⟨_, _, rfl, ⟨a, rfl, ha⟩, ⟨b, rfl, hb⟩⟩, hh⟩ := h x (by simp)
    obtain ⟨a, rfl, ha'⟩ := wf_u64 ha
    obtain ⟨b, rfl, hb'⟩ := wf_u64 hb
    obtain ⟨k, rfl, hk'⟩ := wf_u8 hk
    obtain ⟨v, hd, rfl, e1, e2, e3⟩ := hdsArg hh
    refine ⟨⟨nm, k, a, b, hd⟩ :: t, ⟨⟨rfl, rfl, rfl, rfl, e1⟩, h1⟩, by simp [h2], fun y hy => ?_⟩
    rcases List.mem_cons.1 hy with rfl | hy
    · exact ⟨⟨⟨by show (0 : Int) ≤ a; omega, by show (a : Int) < _; omega⟩, by show (0 : Int) ≤ b; omega, by show (b : Int) < _; omega⟩, hk', e2, e3⟩
    · exact h3 y hy
theorem lnCells : ∀ xs : List (List AVal), (∀ x ∈ xs, x.length = 5 ∧ LnArg x) → ∃ T : Tbl, xs.flatten = rws rwL T ∧ T.length = xs.length ∧ ∀ x ∈ T, x.2.1 < 18446744073709551616 ∧ x.2.2.1 < 18446744073709551616 ∧ x.2.2.2.1 < 18446744073709551616 ∧ x.2.2.2.2 < 18446744073709551616
  | [], _ => ⟨[], rfl, rfl, by simp⟩
  | x :: xs, h => by
    obtain ⟨t, h1, h2, h3⟩ := lnCells xs fun y hy => h y (by simp [hy])
    obtain ⟨_, _, _, rfl, ⟨nm, rfl, _⟩, _, _, rfl, ⟨a, rfl, ha⟩, _, _, rfl, ⟨b, rfl, hb⟩, ⟨_, _, rfl, ⟨c, rfl, hc⟩, ⟨d, rfl, hd⟩⟩⟩ := h x (by simp)
    obtain ⟨a, rfl, ha'⟩ := wf_u64 ha
    obtain ⟨b, rfl, hb'⟩ := wf_u64 hb
    obtain ⟨c, rfl, hc'⟩ := wf_u64 hc
    obtain ⟨d, rfl, hd'⟩ := wf_u64 hd
    refine ⟨(nm, (a, b, c, d)) :: t, by rw [rws_cons, ← h1]; rfl, by simp [h2], fun y hy => ?_⟩
    rcases List.mem_cons.1 hy with rfl | hy
    · exact ⟨ha', hb', hc', hd'⟩
    · exact h3 y hy
theorem topicArg {us : List AVal} (h : TopicArg us) : ∃ (ep last : Nat) (lv sv nv : AVal) (t : List Ld) (s : List SbV) (cs : List AVal) (T : Tbl), us = [u64 (ep : Int), u64 (last : Int), lv, sv, nv] ∧ Rd 3 σ0 lv t.length (ldc t) ∧ Rd 5 σ0 sv s.length cs ∧ SbI cs s ∧ Rd 5 σ0 nv T.length (rws rwL T) ∧ (∀ x ∈ t, In64 x.f0 ∧ In64 x.f2) ∧ (∀ x ∈ s, (In64 x.ml ∧ In64 x.me) ∧ x.kind < 256 ∧ HArg x.h ∧ ∀ y ∈ x.h, ∀ z ∈ y.f1, In64 z.f0 ∧ In64 z.f1) ∧ (∀ x ∈ T, x.2.1 < 18446744073709551616 ∧ x.2.2.1 < 18446744073709551616 ∧ x.2.2.2.1 < 18446744073709551616 ∧ x.2.2.2.2 < 18446744073709551616) ∧ ep < 18446744073709551616 ∧ last < 18446744073709551616 := by
  obtain ⟨_, _, rfl, ⟨ep, rfl, he⟩, _, _, rfl, ⟨last, rfl, hl⟩, _, _, rfl, h1, _, _, rfl, h2, h3⟩ := h
  obtain ⟨ep, rfl, he'⟩ := wf_u64 he
  obtain ⟨last, rfl, hl'⟩ := wf_u64 hl
  have p1 : ∀ {b : List AVal}, LdsArg b → ∃ v t, b = [v] ∧ Rd 3 σ0 v t.length (ldc t) ∧ ∀ x ∈ t, In64 x.f0 ∧ In64 x.f2 := fun h => by
    rcases h with h | ⟨xs, h, hx, _, _⟩
    · exact ⟨_, [], h, ⟨rfl, .inl ⟨rfl, rfl⟩⟩, by simp⟩
    · obtain ⟨t, e1, e2, e3⟩ := ldCells xs hx
      exact ⟨_, t, h, ⟨ldc_len t, .inr (.inl ⟨false, by rw [e1, e2]⟩)⟩, e3⟩
  have p2 : ∀ {b : List AVal}, SbsArg b → ∃ v s cs, b = [v] ∧ Rd 5 σ0 v s.length cs ∧ SbI cs s ∧ ∀ x ∈ s, (In64 x.ml ∧ In64 x.me) ∧ x.kind < 256 ∧ HArg x.h ∧ ∀ y ∈ x.h, ∀ z ∈ y.f1, In64 z.f0 ∧ In64 z.f1 := fun h => by
    rcases h with h | ⟨xs, h, hx, _, _⟩
    · exact ⟨_, [], [], h, ⟨rfl, .inl ⟨rfl, rfl⟩⟩, trivial, by simp⟩
    · obtain ⟨t, e1, e2, e3⟩ := sbsCells xs hx
      exact ⟨_, t, _, h, ⟨(e1.c (σ := σ0)).len, .inr (.inl ⟨false, by rw [e2]⟩)⟩, e1, e3⟩
  have p3 : ∀ {b : List AVal}, LnsArg b → ∃ v T, b = [v] ∧ Rd 5 σ0 v T.length (rws rwL T) ∧ ∀ x ∈ T, x.2.1 < 18446744073709551616 ∧ x.2.2.1 < 18446744073709551616 ∧ x.2.2.2.1 < 18446744073709551616 ∧ x.2.2.2.2 < 18446744073709551616 := fun h => by
    rcases h with h | ⟨xs, h, hx, _, _⟩
    · exact ⟨_, [], h, ⟨rfl, .inl ⟨rfl, rfl⟩⟩, by simp⟩
    · obtain ⟨t, e1, e2, e3⟩ := lnCells xs hx
      exact ⟨_, t, h, ⟨rws_len _ t, .inr (.inl ⟨false, by rw [e1, e2]⟩)⟩, e3⟩
  obtain ⟨lv, t, rfl, a1, a2⟩ := p1 h1
  obtain ⟨sv, s, cs, rfl, b1, b2, b3⟩ := p2 h2
  obtain ⟨nv, T, rfl, c1, c2⟩ := p3 h3
  exact ⟨ep, last, lv, sv, nv, t, s, cs, T, rfl, a1, b1, b2, c1, a2, b3, c2, he', hl'⟩
end Go.Proofs.YticefdfhcahlfaaDoor.AM

/- The tables, in a world that holds them. -/
namespace Go.Proofs.YticefdfhcahlfaaDoor.AM
open Go.RowKit
set_option linter.unusedVariables false
set_option maxRecDepth 100000
theorem gok_of {W : World} (h0 : ∀ r, r < 256 → W.cell? ⟨0, r, none⟩ = some (.int .u8 ((Go.Pinned.utf8FirstZ.getD r 0 : Nat) : Int))) (h1 : ∀ r, r < 32 → W.cell? ⟨1, r, none⟩ = some (.int .u8 ((utf8Acc.getD r 0 : Nat) : Int))) : GOk (immOf W) := by
  have gen : ∀ (g : Nat) (l : List Nat), (∀ r, r < l.length → W.cell? ⟨g, r, none⟩ = some (.int .u8 ((l.getD r 0 : Nat) : Int))) → CRel (fun _ => none) (immOf W) (l.map fun (n : Nat) => AVal.int .u8 (n : Int)) (fun j => icell (immOf W) ⟨g, j, none⟩) := fun g l h => by
    refine CRel.mk fun j v hv => ?_
    rw [List.getElem?_map, Option.map_eq_some_iff] at hv
    obtain ⟨n, hn, rfl⟩ := hv
    have hj := (List.getElem?_eq_some_iff.1 hn).1
    refine ⟨.int .u8 (n : Int), ?_, by simp [VRel]⟩
    rw [icell_immOf, h j hj, List.getD_eq_getElem?_getD, hn]; rfl
  have l0 : Go.Pinned.utf8FirstZ.length = 256 := by decide
  have l1 : utf8Acc.length = 32 := by decide
  have k0 := gen 0 Go.Pinned.utf8FirstZ fun r hr => h0 r (by omega)
  have k1 := gen 1 utf8Acc fun r hr => h1 r (by omega)
  intro g cs hg
  match g, hg with
  | 0, hg =>
    simp only [gloTab, gloRaw, Option.map_some, Option.some.injEq] at hg
    subst hg; exact k0
  | 1, hg =>
    simp only [gloTab, gloRaw, Option.map_some, Option.some.injEq] at hg
    subst hg; exact k1
  | g + 2, hg => simp [gloTab, gloRaw] at hg
end Go.Proofs.YticefdfhcahlfaaDoor.AM
