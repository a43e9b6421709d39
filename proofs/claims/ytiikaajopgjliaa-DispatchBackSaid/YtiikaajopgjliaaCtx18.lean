/- What the functions of this chapter give: their contracts over the machine. -/
import Derived.Test.YtiikaajopgjliaaCt18
/- DispatchBack's look. -/
namespace Go.Proofs.Ytiikaajopgjliaa.AM
set_option maxRecDepth 100000
set_option linter.unusedVariables false
set_option linter.unusedSimpArgs false

theorem his_len (c : Nat) : ∀ l : List OutR, (his l c).length + (notHis l c).length = l.length
  | [] => rfl
  | x :: l => by
    have := his_len c l
    by_cases h : x.c = c
    · simp [his, notHis, h] at *; omega
    · simp [his, notHis, h] at *; omega
theorem OSl.at0 {lo : Nat} {σ : St} {v : AVal} {l : List OutR} {x : OutR} {r : List OutR} (h : OSl lo σ v l) (hl : l = x :: r) : ∃ o, lo ≤ o ∧ o < σ.next ∧ (∀ ρ : St, evalV ρ (.idxAddr 4 v (i64 0)) = some (.ptr o 0, ρ)) ∧ σ.mem.get o = some (.cells 4 (u64 (x.l : Int) :: u64 (x.e : Int) :: u64 (x.c : Int) :: .str x.k :: oc r)) := by
  subst hl
  rcases h with ⟨_, h⟩ | ⟨o, rfl, h1, h2, h3, h4⟩
  · cases h
  · exact ⟨o, h2, h3, fun ρ => by simp, by rw [h4]; rfl⟩
theorem OSl.len {lo : Nat} {σ : St} {v : AVal} {l : List OutR} (h : OSl lo σ v l) (ρ : St) : evalV ρ (.len 1 v) = some (i64 l.length, ρ) := by
  rcases h with ⟨rfl, rfl⟩ | ⟨o, rfl, _⟩ <;> simp
def BkJ (w : Own) (hd cb : Nat) (vo : AVal) (ys : List OutR) (tv : Int) (σ0 : St) (mm : Nat) (rg : Regs) (σ' : St) : Prop := ∃ i : Nat, mm = ys.length - i ∧ i ≤ ys.length ∧ Grow σ0 σ' ∧ σ0.next + 1 + 1 ≤ σ'.next ∧ σ'.mem.get (σ0.next + 1) = some (.cells 2 [u64 (hd : Int), i64 tv]) ∧ rg = [(0, .ptr w.d 0), (4, .ptr cb 0), (10, .ptr (σ0.next + 1) 0), (11, i64 ((his (ys.take i) hd).length : Int)), (38, vo), (39, i64 ys.length), (40, i64 i)]
set_option maxHeartbeats 1000000 in
theorem look28_c {σ : St} {w : Own} {D : Dk} {K cb c : Nat} {a : Act} {c0 : Nat} {e0 : Int} (h : DR σ w D) (hi : Inv K D) (hm : σ.mem.get cb = some (.cells 1 [u64 (c : Int)])) (hcb : cb < σ.next) (hnh : ¬ w.has cb)
    (Q : AVal → St → Prop) (hQ : ∀ w' D' σ', DR σ' w' D' → Inv K D' → Stp w w' σ σ' → Q (.bool true) σ') : ACall Try.prog 28 [.ptr w.d 0, .agg (arow a), u64 (c0 : Int), i64 e0, .ptr cb 0] σ Q := by
  refine ACall.of_compF hmx (fun a w => Try.call28 a w) Try.func28 cf28 (n := 5) (by decide) rfl ?_
  have hll := hi.len
  have hol := hi.olen
  have z1 : ¬ cb = σ.next := by omega
  have z2 : ¬ cb = σ.next + 1 := by omega
  have z3 : ¬ σ.next = σ.next + 1 := by omega
  have g1 : ∀ A : Blk, Grow σ ⟨σ.mem.set σ.next A, σ.next + 1⟩ := fun A => ⟨by simp, fun x hx => by simp [show ¬ x = σ.next by omega]⟩
  have g2 : ∀ A B C : Blk, Grow σ ⟨((σ.mem.set σ.next A).set (σ.next + 1) B).set (σ.next + 1) C, σ.next + 1 + 1⟩ := fun A B C => ⟨by simp; omega, fun x hx => by simp [show ¬ x = σ.next by omega, show ¬ x = σ.next + 1 by omega]⟩
  obtain ⟨k8, hk8, hk9⟩ : ∃ k8 : Nat, (a.k : Int).tmod 8 = (k8 : Int) ∧ k8 = a.k % 8 := ⟨a.k % 8, rfl, rfl⟩
  by_cases hk1 : k8 = 1
  rotate_left
  · have hk1' : ¬ (k8 : Int) = 1 := by omega
    simp [ac28, rs28, lk_cons, hk8, hk1, hk1']
    exact hQ w D _ (h.frame (g1 _)) hi ((g1 _).stp w)
  have hk1' : (k8 : Int) = 1 := by omega
  simp [ac28, rs28, lk_cons, hk8, hk1, hk1']
  refine consumers_c (D := D) (h.frame (g1 _)) (by omega) _ fun v hv => ?_
  have l1 : ∀ ρ : St, evalV ρ (.len 1 v) = some (i64 D.L.length, ρ) := fun ρ => by rw [hv.len]; simp
  cases hL : D.L with
  | nil =>
    simp [lk_cons, ↓l1, hL]
    exact hQ w D _ (h.frame (g1 _)) hi ((g1 _).stp w)
  | cons hd t =>
  simp [lk_cons, ↓l1, hL, show ¬ (t.length : Int) + 1 = 0 by omega]
  refine consumers_c (D := D) (h.frame (g1 _)) (by omega) _ fun v2 hv2 => ?_
  have a0 : ∀ ρ : St, evalV ρ (.idxAddr 2 v2 (i64 0)) = some (.iptr [u64 (hd : Int), i64 (tk D.T hd)], ρ) := fun ρ => hv2.at (i := 0) (x := (hd, tk D.T hd)) (by rw [hL]; rfl) ρ
  by_cases hdc : hd = c
  · subst hdc
    simp [lk_cons, ↓a0, storeL, hm, z1, z2]
    exact hQ w D _ (h.frame (g2 _ _ _)) hi ((g2 _ _ _).stp w)
  have hdc' : ¬ (hd : Int) = c := by omega
  simp [lk_cons, ↓a0, storeL, hm, z1, z2, hdc, hdc']
  refine all_c (D := D) (h.frame (g2 _ _ _)) (by omega) _ fun vo ys y1 y2 y3 => ?_
  have l3 := y3.len
  have yl : ys.length = D.O.length := y1.length_eq
  simp [lk_cons, ↓l3]
  refine wp_loop (BkJ w hd cb vo ys (tk D.T hd) σ) ys.length ?_ ?_
  · exact ⟨0, rfl, Nat.zero_le _, g2 _ _ _, by simp, by simp, by simp [his]; rfl⟩
  · rintro mm rg σ' ⟨i, rfl, hi', hg, hn, hx10, rfl⟩
    by_cases hlt : i < ys.length
    · obtain ⟨x, hx⟩ : ∃ x, ys[i]? = some x := ⟨_, List.getElem?_eq_getElem hlt⟩
      have q1 := y3.at hx
      have w1 : IntKind.i64.wrap ((i : Int) + 1) = ((i + 1 : Nat) : Int) := by rw [IntWalk.i64_in] <;> omega
      have v1 : ¬ σ.next + 1 = σ'.next := by omega
      have htk : ys.take (i + 1) = ys.take i ++ [x] := by rw [List.take_add_one, hx]; rfl
      have gr : ∀ (A B : Blk), Grow σ ⟨(σ'.mem.set σ'.next A).set σ'.next B, σ'.next + 1⟩ := fun A B => Grow.trans hg ⟨by simp, fun z hz => by simp [show ¬ z = σ'.next by omega]⟩
      by_cases hxc : x.c = hd
      · have hh : his (ys.take (i + 1)) hd = his (ys.take i) hd ++ [x] := by rw [htk, his, List.filter_append]; simp [his, hxc]
        have hle : (his (ys.take i) hd).length ≤ ys.length := Nat.le_trans (List.length_filter_le _ _) (by simp; omega)
        have w2 : IntKind.i64.wrap (((his (ys.take i) hd).length : Int) + 1) = ((his (ys.take (i + 1)) hd).length : Int) := by
          rw [hh, List.length_append, IntWalk.i64_in] <;> (try simp) <;> (try omega)
        simp only [his] at w2
        simp [lk_cons, hlt, ↓q1, storeL, v1, hx10, hxc, w1, w2]
        exact ⟨ys.length - (i + 1), by omega, i + 1, rfl, by omega, gr _ _, by simp; omega, by simp [v1, hx10], rfl⟩
      · have hxc' : ¬ (x.c : Int) = hd := by omega
        have hh : his (ys.take (i + 1)) hd = his (ys.take i) hd := by rw [htk, his, List.filter_append]; simp [his, hxc]
        simp [lk_cons, hlt, ↓q1, storeL, v1, hx10, hxc, hxc', w1]
        exact ⟨ys.length - (i + 1), by omega, i + 1, rfl, by omega, gr _ _, by simp; omega, by simp [v1, hx10], by rw [hh]; rfl⟩
    · obtain rfl : i = ys.length := by omega
      rw [List.take_length]
      simp [lk_cons]
      refine all_c (D := D) (h.frame hg) (by omega) _ fun vo2 ys2 y4 y5 y6 => ?_
      have l4 := y6.len
      simp [lk_cons, ↓l4, hx10]
      refine leave18_c (h.frame hg) (by omega) (by omega) hi.ko hd _ (fun _ h0 _ => absurd (by rw [hL]; exact List.mem_cons_self) h0) fun vb ys3 O' σ3 _ b1 b2 b3 b4 b5 b6 => ?_
      have act : Did D ⟨1, hd, 0, 0, 0, ⟨#[]⟩, false⟩ { D with L := rmv D.L hd, T := delN D.T hd, O := O' } 0 16 := .inr (.inl ⟨rfl, rfl, rfl, .inr ⟨by show hd ∈ D.L; rw [hL]; exact List.mem_cons_self, O', b3, rfl⟩⟩)
      have inv1 := hi.did act
      have S1 : Stp w w σ σ3 := ((hg.stp w).trans b6)
      have lH : (his ys3 hd).length = (his ys hd).length := ((b1.trans y1.symm).filter _).length_eq
      have lN : O'.length + (his ys hd).length = ys2.length := by
        rw [b3.length_eq, (show ys2.length = D.O.length from y4.length_eq), ← his_len hd D.O, (show (his ys hd).length = (his D.O hd).length from (y1.filter _).length_eq)]; omega
      have ys2l : ys2.length = D.O.length := y4.length_eq
      have m3 : σ3.mem.get cb = some (.cells 1 [u64 (c : Int)]) := (S1.keep _ hcb hnh).trans hm
      have lb : ∀ ρ : St, evalV ρ (.len 1 vb) = some (i64 (his ys hd).length, ρ) := fun ρ => by rw [b4.len, lH]
      simp only [his] at lb lN
      simp [lk_cons, ↓lb]
      refine all_c (w := w) b5 (by show O'.length ≤ 10000; omega) _ fun vo3 ys4 y7 y8 y9 => ?_
      have l7 := y9.len
      have yl4 : ys4.length = O'.length := y7.length_eq
      have w3 : IntKind.i64.wrap ((ys2.length : Int) - ((ys.filter fun x => decide (x.c = hd)).length : Int)) = (ys4.length : Int) := by rw [IntWalk.i64_in] <;> omega
      have tru : ∀ w' D' σ', DR σ' w' D' → Inv K D' → Stp w w' σ σ' → Q (.bool true) σ' := hQ
      cases hH : his ys3 hd with
      | nil =>
        have h0 : (ys.filter fun x => decide (x.c = hd)).length = 0 := by show (his ys hd).length = 0; rw [← lH, hH]; rfl
        have w4 : IntKind.i64.wrap (ys2.length : Int) = (ys4.length : Int) := by rw [IntWalk.i64_in] <;> omega
        simp [lk_cons, ↓lb, ↓l7, w4, h0]
        exact tru w _ σ3 b5 inv1 S1
      | cons x0 r0 =>
        have h0 : ¬ (ys.filter fun x => decide (x.c = hd)).length = 0 := by show ¬ (his ys hd).length = 0; rw [← lH, hH]; simp
        obtain ⟨o, o1, o2, o3, o4⟩ := b4.at0 hH
        have hx0 : x0 ∈ D.O := b1.mem_iff.1 (List.mem_filter.1 (show x0 ∈ his ys3 hd by rw [hH]; exact List.mem_cons_self)).1
        have hx0c : x0.c = hd := by
          have := (List.mem_filter.1 (show x0 ∈ his ys3 hd by rw [hH]; exact List.mem_cons_self)).2
          simpa using this
        have hks := hi.ksz x0 hx0
        simp [lk_cons, ↓lb, ↓l7, w3, h0, m3]
        refine join18_c b5 (Nat.le_trans inv1.len (by decide)) c _ (fun hj => ?_) fun w4 σ4 hj d1 d2 => ?_
        · simp only at hj
          simp [lk_cons, hj]
          exact tru w _ σ3 b5 inv1 S1
        have inv2 := inv1.did (a := ⟨0, c, 0, 0, 0, ⟨#[]⟩, false⟩) (c := 0) (e := 16) (.inl ⟨rfl, rfl, rfl, .inr ⟨hj, rfl⟩⟩)
        have S2 := S1.trans d2
        have m4 : σ4.mem.get cb = some (.cells 1 [u64 (c : Int)]) := (S2.keep _ hcb hnh).trans hm
        simp [lk_cons, m4, ← d2.d]
        refine flow18_c d1 (Nat.le_trans inv2.len (by decide)) inv2.per c 1 (by omega) _ (fun _ => ?_) (fun _ _ => ?_) fun σ5 hcL _ hfl d3 d4 => ?_
        · simp [lk_cons]
          exact tru _ _ _ d1 inv2 S2
        · simp [lk_cons]
          exact tru _ _ _ d1 inv2 S2
        have inv3 := inv2.did (a := ⟨2, c, 1, 0, 0, ⟨#[]⟩, false⟩) (c := 0) (e := 16) (.inr (.inr (.inl ⟨.inl rfl, rfl, rfl, .inr ⟨hcL, Int.le_refl 1, hfl, rfl⟩⟩)))
        have S3 := S2.trans d4
        have hno : ¬ w.has o := fun hh => by have := h.lt' hh; have := hg.1; omega
        have n5 : σ5.mem.get o = some (.cells 4 (u64 (x0.l : Int) :: u64 (x0.e : Int) :: u64 (x0.c : Int) :: .str x0.k :: oc r0)) := (d4.keep o (Nat.lt_of_lt_of_le o2 d2.next) (d2.has o2 hno)).trans ((d2.keep o o2 hno).trans o4)
        have hn10 : ¬ w.has (σ.next + 1) := fun hh => by have := h.lt' hh; omega
        have St : Stp w w4 σ' σ5 := (b6.trans d2).trans d4
        have t5 : σ5.mem.get (σ.next + 1) = some (.cells 2 [u64 (hd : Int), i64 (tk D.T hd)]) := (St.keep _ (by omega) hn10).trans hx10
        have k2 : 2 ≤ (oc r0).length + 1 + 1 + 1 + 1 := by omega
        simp [lk_cons, ↓o3, n5, k2]
        refine offer18_c d3 (Nat.le_trans inv3.len (by decide)) (Nat.le_trans inv3.olen (by decide)) inv3.per x0.l x0.e x0.k (by omega) _ (fun σ6 hx _ => ?_) (fun σ6 h256 _ _ => ?_) (fun σ6 ls ix c' f0 f1 f2 f3 _ f5 f6 f7 => ?_) fun σ6 ls _ _ _ _ f1 => ?_
        · obtain ⟨x, hx, e1, e2⟩ := hx
          have hx' := b3.mem_iff.1 (show x ∈ O' from hx)
          simp only [notHis, List.mem_filter, decide_eq_true_eq] at hx'
          have := nodup_inj hi.ko hx'.1 hx0 (by simp [okey, e1, e2])
          subst this
          exact absurd hx0c hx'.2
        · have h256' : 256 ≤ O'.length := h256
          exfalso
          have : 0 < (ys.filter fun x => decide (x.c = hd)).length := Nat.pos_of_ne_zero h0
          omega
        · have inv4 := inv3.did (a := ⟨4, 0, 0, x0.l, x0.e, x0.k, false⟩) (c := c') (e := 0) (.inr (.inr (.inr (.inr ⟨.inl rfl, .inr ⟨rfl, hks, f0, f1, f5, ⟨ls, ix, f2, f3⟩, rfl⟩⟩))))
          obtain ⟨p0, hp0, hpc⟩ := tk_mem (c := c') (show tk _ c' ≠ 0 from fun e => by rw [e] at f5; omega)
          have hc' : c' ∈ rmv D.L hd ++ [c] := by rw [← hpc]; exact inv3.tin p0 hp0
          have hne : ¬ c' = hd := fun e => by
            subst e
            rcases List.mem_append.1 hc' with hc' | hc'
            · exact (rmv_mem.1 hc').2 rfl
            · exact hdc (List.mem_singleton.1 hc')
          have hne' : ¬ (c' : Int) = hd := by omega
          have t6 : σ6.mem.get (σ.next + 1) = some (.cells 2 [u64 (hd : Int), i64 (tk D.T hd)]) := ((St.trans f7).keep _ (by omega) hn10).trans hx10
          simp [lk_cons, t6, hne, hne']
          exact tru _ _ _ f6 inv4 (S3.trans f7)
        · simp [lk_cons]
          exact tru _ _ _ (d3.frame f1) inv3 (S3.trans (f1.stp _))

theorem back_c (kind : Nat) (hk : kind < 256) (c : Nat) {v : AVal} {l : List Act} (hv : AI v l) (hok : ∀ a ∈ l, a.ok) (hlen : l.length ≤ 9223372036854775807) : ACall Try.prog 9 [.int .u8 (kind : Int), v, u64 (c : Int)] σ0 fun v _ => v = .bool true := by
  refine ACall.of_compF hmx (fun a w => Try.call9 a w) Try.func9 cf9 (n := 3) (by decide) rfl ?_
  simp [ac9, rs9, lk_cons]
  refine awake _ _ ?_
  by_cases h0 : c = 0
  · subst h0
    simp [lk_cons]
  have h0' : ¬ (c : Int) = 0 := by omega
  by_cases h20 : c < 20
  · have h20' : (c : Int) < 20 := by omega
    simp [lk_cons, h0, h0', h20, h20']
  have h20' : ¬ (c : Int) < 20 := by omega
  obtain ⟨m, hm, hm4⟩ : ∃ m : Nat, (kind : Int).tmod 4 = (m : Int) ∧ m < 4 := ⟨kind % 4, rfl, by omega⟩
  have w1 : IntKind.u8.wrap (1 + (m : Int)) = ((1 + m : Nat) : Int) := by simp (disch := omega) only [IntWalk.u8_in]; omega
  simp [lk_cons, h0, h0', h20, h20', hm, w1]
  have key : ∀ Q, (∀ σ', Q (.bool true) σ') → ACall Try.prog 21 [.int .u8 ((1 + m : Nat) : Int), v, .fn 28 [] [.ptr σ0.next 0]] ⟨σ0.mem.set σ0.next (.cells 1 [u64 (c : Int)]), σ0.next + 1⟩ Q := fun Q hQ => by
    refine play_c (1 + m) (by omega) 28 [.ptr σ0.next 0] hv hok hlen _ (fun w D σ => σ.mem.get σ0.next = some (.cells 1 [u64 (c : Int)]) ∧ σ0.next < σ.next ∧ ¬ w.has σ0.next) (fun w σ' d1 d2 d3 => ⟨(d2.2 _ (by simp)).trans (by simp), Nat.lt_of_lt_of_le (by simp) d2.1, fun hh => by have := d3 _ hh; simp at this⟩) ?_ Q hQ
    intro s0 s1 w0 w D0 D a c1 e Q ⟨j1, j2, j3⟩ dr0 i0 aok hd dr1 i1 st hq
    have n1 := (st.keep _ j2 j3).trans j1
    have n2 : σ0.next < s1.next := Nat.lt_of_lt_of_le j2 st.next
    have n3 := st.has j2 j3
    exact look28_c dr1 i1 n1 n2 n3 Q fun w' D' σ' m1 m2 m3 => hq w' D' σ' ⟨(m3.keep _ n2 n3).trans n1, Nat.lt_of_lt_of_le n2 m3.next, m3.has n2 n3⟩ m1 m2 m3.d
  refine key _ fun σ' => ?_
  simp [lk_cons]
end Go.Proofs.Ytiikaajopgjliaa.AM
