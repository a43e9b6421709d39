/- What the functions of this chapter give: their contracts over the machine. -/
import Derived.Test.YticefdfhcahlfaaDoorCt121
import Derived.Test.YticefdfhcahlfaaDoorAm3
/- Entries: Lay, and the document's Entry. -/
namespace Go.Proofs.YticefdfhcahlfaaDoor.AM
open Go.RowKit
set_option maxRecDepth 100000
set_option linter.unusedVariables false
set_option linter.unusedSimpArgs false

theorem rputb_r {σ : St} {v : AVal} {l : List UInt8} {b : Option Nat} (h : GS rwB σ v l b) {u : AVal} {m : List UInt8} {c : Option Nat} (hu : RdB σ u m c) (hbc : ∀ x, c = some x → b ≠ some x) (hl : l.length ≤ 1000000) (hm : m.length ≤ 1000000) (Q : AVal → St → Prop)
    (hQ : ∀ v' σ' b', GS rwB σ' v' (l ++ (beN 4 m.length ++ m)) b' → BStp b b' σ σ' → Q v' σ') : ACall Tryd.prog 44 [v, u] σ Q := by
  refine ACall.of_compF hmx (fun a w => Tryd.call44 a w) Tryd.func44 cf44 (n := 2) (by decide) rfl ?_
  have w1 : IntKind.u64.wrap (m.length : Int) = m.length := by rw [IntWalk.u64_in] <;> omega
  have hlen := hu.len
  simp [ac44, rs44, lk_cons, ↓hlen, w1]
  refine rput_c h (size := 4) (by decide) (by omega) (by omega) _ fun v1 σ1 b1 h1 h2 => ?_
  have hu1 : RdB σ1 u m c := hu.keep h2.next fun a ha hc => h2.keep a ha (hbc a hc)
  obtain ⟨v', σ2, b', e1, e2, e3, e4, e5⟩ := gs_appN h1 (by_ := 1) (by decide) hu1.src (by simp [beN_len]; omega) (by simp [beN_len]; omega)
  simp [lk_cons, ↓e1]
  rw [List.append_assoc] at e2
  refine hQ v' σ2 b' e2 (h2.trans ⟨e4, fun x hx => ?_, e5⟩)
  rcases e3 with e3 | e3
  · exact .inl (e3 ▸ hx)
  · rw [e3] at hx; cases hx; exact .inr (Nat.le_refl _)

def txB (s : ByteArray) : List UInt8 := beN 4 s.size ++ s.data.toList
def byB (m : List UInt8) : List UInt8 := beN 4 m.length ++ m
def entB (n k : ByteArray) (s : Nat) (d : List UInt8) : List UInt8 := ((([] ++ txB n) ++ beN 8 s) ++ txB k) ++ byB d
theorem txB_len (s : ByteArray) : (txB s).length = 4 + s.size := by simp [txB, beN_len]
theorem byB_len (s : List UInt8) : (byB s).length = 4 + s.length := by simp [byB, beN_len]
theorem entB_len (n k : ByteArray) (s : Nat) (d : List UInt8) : (entB n k s d).length = 20 + n.size + k.size + d.length := by
  simp only [entB, List.length_append, txB_len, byB_len, beN_len, List.length_nil]; omega

theorem lay_c {σ : St} {n k : ByteArray} {s : Nat} {dv : AVal} {d : List UInt8} (hd : BytesOf dv d) (hn : n.size ≤ 1000) (hk : k.size ≤ 1000) (hdl : d.length ≤ 1000) (Q : AVal → St → Prop)
    (hQ : ∀ v σ' b', GS rwB σ' v (entB n k s d) b' → (∀ x, b' = some x → σ.next ≤ x) → Grow σ σ' → (entB n k s d).length ≤ 256 → Q (.tup [v, i64 0]) σ') (hL : ∀ σ', Grow σ σ' → 256 < (entB n k s d).length → Q (.tup [.nilsl, i64 3]) σ') : ACall Tryd.prog 21 [.agg [.str n, u64 (s : Int), .str k, dv]] σ Q := by
  refine ACall.of_compF hmx (fun a w => Tryd.call21 a w) Tryd.func21 cf21 (n := 1) (by decide) rfl ?_
  have hd1 := (RdB.ofI hd σ).one
  have e1 : ¬ σ.next = σ.next + 1 := by omega
  simp [ac21, rs21, lk_cons, fillL, storeL, hd1]
  obtain ⟨S, hS⟩ : ∃ S : St, S = ⟨(σ.mem.set σ.next (.cells 4 [.str n, u64 (s : Int), .str k, dv])).set (σ.next + 1) (.cells 1 [.nilsl]), σ.next + 1 + 1⟩ := ⟨_, rfl⟩
  have nS : S.next = σ.next + 2 := by rw [hS]
  have gS : Grow σ S := ⟨by omega, fun a ha => by rw [hS]; simp [show ¬ a = σ.next by omega, show ¬ a = σ.next + 1 by omega]⟩
  have mS : S.mem.get σ.next = some (.cells 4 [.str n, u64 (s : Int), .str k, dv]) := by rw [hS]; simp [e1]
  have h0 : WB S (σ.next + 1) [] none := ⟨.nilsl, by rw [hS]; simp, GS.nil _, by simp, by omega⟩
  have mm : ∀ {σ' : St} {b : Option Nat}, WStp (σ.next + 1) none b S σ' → σ'.mem.get σ.next = some (.cells 4 [.str n, u64 (s : Int), .str k, dv]) := fun t => (t.keep σ.next (by omega) (by omega) (by simp)).trans mS
  rw [← hS]
  refine wtext_c h0 (by simp) (by omega) _ fun σ1 b1 h1 t1 => ?_
  simp [lk_cons, mm t1]
  refine wu64_c h1 (by simp [beN_len]; omega) _ fun σ2 b2 h2 t2 => ?_
  have t2 := t1.trans t2
  simp [lk_cons, mm t2]
  refine wtext_c h2 (by simp [beN_len]; omega) (by omega) _ fun σ3 b3 h3 t3 => ?_
  have t3 := t2.trans t3
  simp [lk_cons, mm t3]
  refine wbytes_c h3 (SrcB.ofI hd) (by simp [beN_len]; omega) (by omega) _ fun σ4 b4 h4 t4 => ?_
  have t4 := t3.trans t4
  change WB σ4 (σ.next + 1) (entB n k s d) b4 at h4
  have hl := entB_len n k s d
  revert h4 hQ hL hl
  generalize entB n k s d = el
  intro hQ hL h4 hl
  simp [lk_cons]
  refine wdone_c h4 (by omega) _ fun σ5 v5 b5 h5 h6 h7 => ?_
  have hlen := h5.len
  have gr : Grow σ σ5 := ⟨by have := t4.next; have := h7.1; omega, fun a ha => (h7.2 a (by have := t4.next; omega)).trans ((t4.keep a (by omega) (by omega) (by simp)).trans (gS.2 a ha))⟩
  by_cases hc : el.length ≤ 256
  · have hc' : (el.length : Int) ≤ 256 := by omega
    simp [lk_cons, ↓hlen, hc, hc']
    exact hQ v5 σ5 b5 h5 (fun x hx => by have := h6 x hx; have := t4.next; omega) gr hc
  · have hc' : ¬ (el.length : Int) ≤ 256 := by omega
    simp [lk_cons, ↓hlen, hc, hc']
    exact hL σ5 gr (by omega)
theorem entry_c {σ : St} {n k : ByteArray} {s : Nat} {dv : AVal} {d : List UInt8} (hs : s < 18446744073709551616) (hd : BytesOf dv d) (hn : n.size ≤ 1000) (hk : k.size ≤ 1000) (hdl : d.length ≤ 1000) (Q : AVal → St → Prop)
    (hQ : ∀ v σ' b', GS rwB σ' v (entB n k s d) b' → (∀ x, b' = some x → σ.next ≤ x) → Grow σ σ' → (entB n k s d).length ≤ 256 → Q (.tup [v, i64 0]) σ') (hL : ∀ σ', Grow σ σ' → 256 < (entB n k s d).length → Q (.tup [.nilsl, i64 3]) σ') : ACall Tryd.prog 22 [.agg [.str n, u64 (s : Int), .str k, dv]] σ Q := by
  refine ACall.of_compF hmx (fun a w => Tryd.call22 a w) Tryd.func22 cf22 (n := 1) (by decide) rfl ?_
  have hd1 := (RdB.ofI hd σ).one
  have e1 : ¬ σ.next = σ.next + 1 := by omega
  have hn' : n.size ≤ 140737488355328 := by omega
  simp [ac22, rs22, lk_cons, fillL, storeL, hd1, hn']
  obtain ⟨S, hS⟩ : ∃ S : St, S = ⟨(σ.mem.set σ.next (.cells 4 [.str n, u64 (s : Int), .str k, dv])).set (σ.next + 1) (.cells 1 (n.data.toList.map fun b => .int .u8 (b.toNat : Int))), σ.next + 1 + 1⟩ := ⟨_, rfl⟩
  have nS : S.next = σ.next + 2 := by rw [hS]
  have gS : Grow σ S := ⟨by omega, fun a ha => by rw [hS]; simp [show ¬ a = σ.next by omega, show ¬ a = σ.next + 1 by omega]⟩
  have mS : S.mem.get σ.next = some (.cells 4 [.str n, u64 (s : Int), .str k, dv]) := by rw [hS]; simp [e1]
  have hg : GS rwB S (.sl (σ.next + 1) 0 n.size n.size false) n.data.toList (some (σ.next + 1)) := .inr ⟨σ.next + 1, false, rfl, by simp, by omega, by rw [hS]; simp [rwsB, bytesV]⟩
  have hk' : k.size ≤ 140737488355328 := by omega
  rw [← hS]
  refine rputb_r (GS.nil S) (RdB.ofGS hg) (by simp) (by simp) (by simp; omega) _ fun v1 σ1 b1 g1 t1 => ?_
  have m1 := (t1.keep σ.next (by omega) (by simp)).trans mS
  simp [lk_cons, m1]
  refine rput_c g1 (size := 8) (by decide) (by simp [beN_len]; omega) hs _ fun v2 σ2 b2 g2 t2 => ?_
  have t2 := t1.trans t2
  have m2 := (t2.keep σ.next (by omega) (by simp)).trans mS
  have n2 := t2.next
  have e2 : ¬ σ.next = σ2.next := by omega
  simp [lk_cons, m2, hk', e2]
  have hb2 : ∀ x, b2 = some x → S.next ≤ x ∧ x < σ2.next := fun x hx => ⟨by rcases t2.own x hx with e | e; (· cases e); exact e, g2.lt hx⟩
  obtain ⟨S2, hS2⟩ : ∃ S2 : St, S2 = ⟨σ2.mem.set σ2.next (.cells 1 (k.data.toList.map fun b => .int .u8 (b.toNat : Int))), σ2.next + 1⟩ := ⟨_, rfl⟩
  have nS2 : S2.next = σ2.next + 1 := by rw [hS2]
  have kS2 : ∀ a, a < σ2.next → S2.mem.get a = σ2.mem.get a := fun a ha => by rw [hS2]; simp [show ¬ a = σ2.next by omega]
  have hgk : GS rwB S2 (.sl σ2.next 0 k.size k.size false) k.data.toList (some σ2.next) := .inr ⟨σ2.next, false, rfl, by simp, by omega, by rw [hS2]; simp [rwsB, bytesV]⟩
  have g2' : GS rwB S2 v2 (([] ++ txB n) ++ beN 8 s) b2 := g2.keep (by omega) fun a ha _ => kS2 a ha
  have mS2 : S2.mem.get σ.next = some (.cells 4 [.str n, u64 (s : Int), .str k, dv]) := (kS2 _ (by omega)).trans m2
  rw [← hS2]
  refine rputb_r g2' (RdB.ofGS hgk) (fun x hx hx2 => by cases hx; have := hb2 _ hx2; omega) (by simp [txB, beN_len]; omega) (by simp; omega) _ fun v3 σ3 b3 g3 t3 => ?_
  have n3 := t3.next
  have m3 := (t3.keep σ.next (by omega) (fun hx => by have := hb2 _ hx; omega)).trans mS2
  have hb3 : ∀ x, b3 = some x → S.next ≤ x := fun x hx => by
    rcases t3.own x hx with e | e
    · exact (hb2 x e).1
    · omega
  simp [lk_cons, m3]
  refine rputb_r g3 (RdB.ofI hd σ3) (by simp) (by simp [txB, beN_len]; omega) (by omega) _ fun v4 σ4 b4 g4 t4 => ?_
  have n4 := t4.next
  change GS rwB σ4 v4 (entB n k s d) b4 at g4
  have hl := entB_len n k s d
  revert g4 hQ hL hl
  generalize entB n k s d = el
  intro hQ hL g4 hl
  have hlen := g4.len
  have gr : Grow σ σ4 := ⟨by omega, fun a ha => by
    rw [t4.keep a (by omega) (fun hx => by have := hb3 _ hx; omega), t3.keep a (by omega) (fun hx => by have := hb2 _ hx; omega), kS2 a (by omega), t2.keep a (by omega) (by simp)]
    exact gS.2 a ha⟩
  by_cases hc : 256 < el.length
  · have hc' : (256 : Int) < el.length := by omega
    simp [lk_cons, ↓hlen, hc, hc']
    exact hL σ4 gr hc
  · have hc' : ¬ (256 : Int) < el.length := by omega
    simp [lk_cons, ↓hlen, hc, hc']
    exact hQ v4 σ4 b4 g4 (fun x hx => by
      rcases t4.own x hx with e | e
      · have := hb3 x e; omega
      · omega) gr (by omega)
end Go.Proofs.YticefdfhcahlfaaDoor.AM

/- Numbers one behind the other. -/
namespace Go.Proofs.YticefdfhcahlfaaDoor.AM
open Go.RowKit
set_option maxRecDepth 100000
set_option linter.unusedVariables false
set_option linter.unusedSimpArgs false

def numsB (xs : List Nat) : List UInt8 := (xs.map fun n => beN 8 n).flatten
theorem numsB_snoc (xs : List Nat) (n : Nat) : numsB (xs ++ [n]) = numsB xs ++ beN 8 n := by simp [numsB]
theorem numsB_len (xs : List Nat) : (numsB xs).length = 8 * xs.length := by
  induction xs with
  | nil => rfl
  | cons x xs ih => simp only [numsB, List.map_cons, List.flatten_cons, List.length_append, beN_len, List.length_cons] at ih ⊢; omega
def PsJ (w o : Nat) (t : Bool) (xs : List Nat) (l : List UInt8) (b : Option Nat) (σ0 : St) (mm : Nat) (rg : Regs) (σ' : St) : Prop := ∃ (i : Nat) (b' : Option Nat), mm = xs.length - i ∧ i ≤ xs.length ∧ WB σ' w (l ++ numsB (xs.take i)) b' ∧ WStp w b b' σ0 σ' ∧ rg = [(0, .ptr w 0), (6, .sl o 0 xs.length xs.length t), (7, i64 (xs.length : Nat)), (8, i64 i)]
theorem puts_c {σ : St} {w o : Nat} {t : Bool} {xs : List Nat} {l : List UInt8} {b : Option Nat} (h : WB σ w l b) (ho : o < σ.next) (hm : σ.mem.get o = some (.cells 1 (xs.map fun (n : Nat) => u64 (n : Int)))) (how : o ≠ w) (hob : b ≠ some o) (hl : l.length ≤ 100000) (hx : xs.length ≤ 1000) (Q : AVal → St → Prop)
    (hQ : ∀ σ' b', WB σ' w (l ++ numsB xs) b' → WStp w b b' σ σ' → Q (.tup []) σ') : ACall Tryd.prog 60 [.ptr w 0, .sl o 0 xs.length xs.length t] σ Q := by
  refine ACall.of_compF hmx (fun a w => Tryd.call60 a w) Tryd.func60 cf60 (n := 2) (by decide) rfl ?_
  simp [ac60, rs60, lk_cons]
  refine wp_loop (PsJ w o t xs l b σ) xs.length ?_ ?_
  · exact ⟨0, b, rfl, Nat.zero_le _, by simpa [numsB] using h, WStp.refl _ _ _, by simp [lk_cons]⟩
  · rintro mm rg σ1 ⟨i, b', rfl, hi, h1, s1, rfl⟩
    by_cases hc : i < xs.length
    · obtain ⟨x, hx1⟩ : ∃ x, xs[i]? = some x := ⟨_, List.getElem?_eq_getElem hc⟩
      have m1 := (s1.keep o ho how hob).trans hm
      have w1 : IntKind.i64.wrap ((i : Int) + 1) = ((i + 1 : Nat) : Int) := by rw [IntWalk.i64_in] <;> omega
      have htk : xs.take (i + 1) = xs.take i ++ [x] := by rw [List.take_add_one, hx1]; rfl
      have hnl := numsB_len (xs.take i)
      rw [List.length_take] at hnl
      simp [lk_cons, hc, m1, hx1]
      refine wu64_c h1 (by rw [List.length_append]; omega) _ fun σ2 b2 h2 s2 => ?_
      simp [lk_cons, w1]
      refine ⟨xs.length - (i + 1), by omega, i + 1, b2, rfl, by omega, ?_, s1.trans s2, rfl⟩
      rw [(List.getElem?_eq_some_iff.1 hx1).2] at h2
      rw [htk, numsB_snoc, ← List.append_assoc]
      exact h2
    · have : i = xs.length := by omega
      subst this
      rw [List.take_length] at h1
      simp [lk_cons]
      exact hQ σ1 b' h1 s1

end Go.Proofs.YticefdfhcahlfaaDoor.AM

/- Awake's own: a topic of zeros as bytes. -/
namespace Go.Proofs.YticefdfhcahlfaaDoor.AM
open Go.RowKit
set_option maxRecDepth 100000
set_option linter.unusedVariables false
set_option linter.unusedSimpArgs false

theorem wwrite0_c {σ : St} {t mp w : Nat} {l : List UInt8} {b : Option Nat} (h : TRep σ t mp []) (hw : WB σ w l b) (hl : l.length ≤ 100000) (Q : AVal → St → Prop)
    (hQ : ∀ σ' b', WB σ' w (l ++ beN 1 0) b' → WStp w b b' σ σ' → Q (.tup []) σ') : ACall Tryd.prog 62 [.ptr t 0, .ptr w 0] σ Q := by
  refine ACall.of_compF hmx (fun a w => Tryd.call62 a w) Tryd.func62 cf62 (n := 2) (by decide) rfl ?_
  simp [ac62, rs62, lk_cons]
  refine all_c h (by simp) _ fun v1 ys σ1 b1 p1 p2 p3 p4 p5 => ?_
  have hys : ys = [] := p1.eq_nil
  subst hys
  have hlen1 := p3.len
  simp [lk_cons, ↓hlen1]
  refine wp_loop (fun mm rg σ' => mm = 0 ∧ σ' = σ1 ∧ rg = [(1, .ptr w 0), (4, .nilsl), (10, v1), (11, i64 0), (12, i64 0)]) 0 ?_ ?_
  · exact ⟨rfl, rfl, by simp [lk_cons]⟩
  · rintro mm rg σ2 ⟨rfl, rfl, rfl⟩
    simp [lk_cons]
    refine wu8_c (n := 0) (hw.keep p5.1 fun a ha _ => p5.2 a ha) (by decide) (by omega) _ fun σ3 b3 q1 q2 => ?_
    simp [lk_cons]
    refine wp_loop (fun mm rg σ' => mm = 0 ∧ σ' = σ3 ∧ rg = [(1, .ptr w 0), (29, .nilsl), (30, i64 0), (31, i64 0)]) 0 ?_ ?_
    · exact ⟨rfl, rfl, by simp [lk_cons]⟩
    · rintro mm rg σ4 ⟨rfl, rfl, rfl⟩
      simp [lk_cons]
      exact hQ _ b3 q1 ⟨Nat.le_trans p5.1 q2.next, fun x hx => by
        rcases q2.own x hx with e | e
        · exact .inl e
        · exact .inr (Nat.le_trans p5.1 e), fun a ha hne hb => (q2.keep a (Nat.lt_of_lt_of_le ha p5.1) hne hb).trans (p5.2 a ha)⟩
end Go.Proofs.YticefdfhcahlfaaDoor.AM

/- Awake's own: Encode of a topic of zeros. -/
namespace Go.Proofs.YticefdfhcahlfaaDoor.AM
open Go.RowKit
set_option maxRecDepth 100000
set_option linter.unusedVariables false
set_option linter.unusedSimpArgs false

def tabU : TabL := [(32, ac32, rs32, 1), (75, ac75, rs75, 1), (76, ac76, rs76, 1), (97, ac97, rs97, 1), (98, ac98, rs98, 2), (107, ac107, rs107, 1), (108, ac108, rs108, 2), (112, ac112, rs112, 1)]
theorem tabUOk : TabOk Tryd.prog (look tabU) := by
  unfold tabU
  refine tab_cons ?_ (fun a w => Tryd.call32 a w) Tryd.func32 cf32 (by decide)
  refine tab_cons ?_ (fun a w => Tryd.call75 a w) Tryd.func75 cf75 (by decide)
  refine tab_cons ?_ (fun a w => Tryd.call76 a w) Tryd.func76 cf76 (by decide)
  refine tab_cons ?_ (fun a w => Tryd.call97 a w) Tryd.func97 cf97 (by decide)
  refine tab_cons ?_ (fun a w => Tryd.call98 a w) Tryd.func98 cf98 (by decide)
  refine tab_cons ?_ (fun a w => Tryd.call107 a w) Tryd.func107 cf107 (by decide)
  refine tab_cons ?_ (fun a w => Tryd.call108 a w) Tryd.func108 cf108 (by decide)
  refine tab_cons ?_ (fun a w => Tryd.call112 a w) Tryd.func112 cf112 (by decide)
  exact tab_nil hmx
def topicZ : AVal := .agg [.int .u64 0, .int .u64 0, .nilsl, .nilsl, .nilsl]
def runTrue (x : Option (AVal × St)) : Bool := match x with
  | some (.bool true, _) => true
  | _ => false
theorem check_run : runTrue (callT (look tabU) 300 20 32 [topicZ] σ0) = true := by kernel_rfl
theorem check0_c {σ : St} (Q : AVal → St → Prop) (hq : Q (.bool true) σ) : ACall Tryd.prog 32 [topicZ] σ Q := by
  refine ACall.frame ?_ rfl
  have h := check_run
  unfold runTrue at h
  split at h
  · rename_i σ hs; exact ACall.of_run tabUOk 300 20 hs ⟨rfl, hq⟩
  · cases h
theorem table0_c {σ : St} (Q : AVal → St → Prop) (hQ : ∀ t mp σ', TRep σ' t mp [] → (σ.next ≤ t ∧ σ.next ≤ mp) → Grow σ σ' → Q (.tup [.ptr t 0, .bool true]) σ') : ACall Tryd.prog 59 [.nilsl] σ Q := by
  refine ACall.of_compF hmx (fun a w => Tryd.call59 a w) Tryd.func59 cf59 (n := 1) (by decide) rfl ?_
  simp [ac59, rs59, lk_cons]
  refine tnew_c _ _ fun t mp σ1 hr hn1 hk1 hge => ?_
  simp [lk_cons]
  refine wp_loop (fun mm rg σ' => mm = 0 ∧ σ' = σ1 ∧ rg = [(0, .nilsl), (4, .ptr t 0), (8, .nilsl), (9, i64 0), (10, i64 0)]) 0 ?_ ?_
  · exact ⟨rfl, rfl, by simp [lk_cons]⟩
  · rintro mm rg σ2 ⟨rfl, rfl, rfl⟩
    simp [lk_cons]
    exact hQ t mp _ hr hge ⟨hn1, hk1⟩
set_option maxHeartbeats 2000000 in
theorem enc0_c {σ : St} (Q : AVal → St → Prop) (hQ : ∀ v b σ', GS rwB σ' v (List.replicate 19 0) b → Grow σ σ' → Q (.tup [v, i64 0]) σ') : ACall Tryd.prog 26 [topicZ] σ Q := by
  refine ACall.of_compF hmx (fun a w => Tryd.call26 a w) Tryd.func26 cf26 (n := 1) (by decide) rfl ?_
  simp [ac26, rs26, lk_cons, topicZ, fillL, storeL]
  obtain ⟨S, hS⟩ : ∃ S : St, S = ⟨σ.mem.set σ.next (.cells 5 [u64 0, u64 0, .nilsl, .nilsl, .nilsl]), σ.next + 1⟩ := ⟨_, rfl⟩
  have nS : S.next = σ.next + 1 := by rw [hS]
  have mS : S.mem.get σ.next = some (.cells 5 [u64 0, u64 0, .nilsl, .nilsl, .nilsl]) := by rw [hS]; simp
  have gS : Grow σ S := ⟨by omega, fun a ha => by rw [hS]; simp [show ¬ a = σ.next by omega]⟩
  rw [← hS]
  refine table0_c _ fun t mp σ1 tr tge g1 => ?_
  have m1 := (g1.2 σ.next (by omega)).trans mS
  have n1 := g1.1
  have tlt := tr.lt
  simp [lk_cons, m1]
  refine check0_c _ ?_
  have e1 : ¬ σ.next = σ1.next := by omega
  simp [lk_cons, m1, e1, fillL, storeL, repL]
  obtain ⟨S2, hS2⟩ : ∃ S2 : St, S2 = ⟨(σ1.mem.set σ1.next (.cells 1 [.nilsl])).set (σ1.next + 1) (.cells 1 [u64 0, u64 0]), σ1.next + 1 + 1⟩ := ⟨_, rfl⟩
  have nS2 : S2.next = σ1.next + 2 := by rw [hS2]
  have kS2 : ∀ a, a < σ1.next → S2.mem.get a = σ1.mem.get a := fun a ha => by rw [hS2]; simp [show ¬ a = σ1.next by omega, show ¬ a = σ1.next + 1 by omega]
  have h0 : WB S2 σ1.next [] none := ⟨.nilsl, by rw [hS2]; simp, GS.nil _, by simp, by omega⟩
  have mz : S2.mem.get (σ1.next + 1) = some (.cells 1 ([0, 0].map fun (n : Nat) => u64 (n : Int))) := by rw [hS2]; simp
  have mS2 := (kS2 σ.next (by omega)).trans m1
  have tS2 : TRep S2 t mp [] := tr.frame (fun x hx => kS2 x (by rcases hx with rfl | rfl <;> omega)) (by omega)
  rw [← hS2]
  generalize σ1.next = w at e1 nS2 kS2 h0 mz n1 tlt ⊢
  refine puts_c (xs := [0, 0]) h0 (by omega) mz (by omega) (by simp) (by simp) (by simp) _ fun σ3 b3 h3 s3 => ?_
  have m3 := (s3.keep σ.next (by omega) (by omega) (by simp)).trans mS2
  simp [lk_cons, m3]
  refine wu8_c (n := 0) h3 (by decide) (by simp [numsB_len]) _ fun σ4 b4 h4 s4 => ?_
  have s4 := s3.trans s4
  have m4 := (s4.keep σ.next (by omega) (by omega) (by simp)).trans mS2
  simp [lk_cons, m4]
  refine wp_loop (fun mm rg σ' => mm = 0 ∧ σ' = σ4 ∧ rg = [(1, .ptr σ.next 0), (4, .ptr t 0), (6, .ptr w 0), (41, .nilsl), (42, i64 0), (43, i64 0)]) 0 ?_ ?_
  · exact ⟨rfl, rfl, by simp [lk_cons]⟩
  rintro mm rg σ5 ⟨rfl, rfl, rfl⟩
  simp [lk_cons, m4]
  refine wu8_c (n := 0) h4 (by decide) (by simp [numsB_len, beN_len]) _ fun σ6 b6 h6 s6 => ?_
  have s6 := s4.trans s6
  have m6 := (s6.keep σ.next (by omega) (by omega) (by simp)).trans mS2
  simp [lk_cons, m6]
  refine wp_loop (fun mm rg σ' => mm = 0 ∧ σ' = σ6 ∧ rg = [(4, .ptr t 0), (6, .ptr w 0), (68, .nilsl), (69, i64 0), (70, i64 0)]) 0 ?_ ?_
  · exact ⟨rfl, rfl, by simp [lk_cons]⟩
  rintro mm rg σ7 ⟨rfl, rfl, rfl⟩
  simp [lk_cons]
  have t6 : TRep σ7 t mp [] := tS2.frame (fun x hx => s6.keep x (by rcases hx with rfl | rfl <;> omega) (by rcases hx with rfl | rfl <;> omega) (by simp)) s6.next
  refine wwrite0_c t6 h6 (by simp [numsB_len, beN_len]) _ fun σ8 b8 h8 s8 => ?_
  have s8 := s6.trans s8
  simp [lk_cons]
  refine wdone_c h8 (by simp [numsB_len, beN_len]) _ fun σ9 v9 b9 h9 f9 g9 => ?_
  have hlen := h9.len
  have hl : ((((([] ++ numsB [0, 0]) ++ beN 1 0) ++ beN 1 0) ++ beN 1 0) : List UInt8) = List.replicate 19 0 := by decide
  rw [hl] at h9
  have hlen := h9.len
  simp [lk_cons, ↓hlen]
  exact hQ v9 b9 σ9 h9 ⟨by have := s8.next; have := g9.1; omega, fun a ha => by
    have := s8.next
    rw [g9.2 a (by omega), s8.keep a (by omega) (by omega) (by simp), kS2 a (by omega), g1.2 a (by omega)]
    exact gS.2 a ha⟩
end Go.Proofs.YticefdfhcahlfaaDoor.AM

/- pack.Read, by what takes the bytes and may write as it goes. -/
namespace Go.Proofs.YticefdfhcahlfaaDoor.AM
open Go.RowKit
set_option maxRecDepth 100000
set_option linter.unusedVariables false
set_option linter.unusedSimpArgs false

structure RStpC (r cell : Nat) (σ σ' : St) : Prop where
  next : σ.next ≤ σ'.next
  keep : ∀ a, a < σ.next → a ≠ r → a ≠ cell → σ'.mem.get a = σ.mem.get a
theorem read_h {X : Type} {σ : St} {bv : AVal} {l : List UInt8} {c : Option Nat} (hb : RdB σ bv l c) {g cell : Nat} (hcell : cell < σ.next) {res : Except Nat (X × List UInt8)} {Post : X → St → St → Prop} (Q : AVal → St → Prop)
    (hcall : ∀ (T : AVal → St → Prop) (r : Nat) (σ1 : St) (K : AVal → St → Prop), RR σ1 r l c → σ.next ≤ r → Grow σ σ1 → (∀ e σ', res = .error e → RStpC r cell σ1 σ' → T (thrownV (e : Int)) σ') →
      (∀ x l' σ', res = .ok (x, l') → RR σ' r l' c → Post x σ1 σ' → σ1.next ≤ σ'.next → (∀ a, a < σ1.next → a ≠ r → a ≠ cell → σ'.mem.get a = σ1.mem.get a) → K (.tup []) σ') → ACall (Env.th Tryd.prog T) g [.ptr r 0, .ptr cell 0] σ1 K)
    (hE : ∀ e σ', res = .error e → σ.next ≤ σ'.next → (∀ a, a < σ.next → a ≠ cell → σ'.mem.get a = σ.mem.get a) → Q (.int .i64 (e : Int)) σ')
    (hK : ∀ x l' σ1 σ' σ2, res = .ok (x, l') → Post x σ1 σ' → Grow σ σ1 → σ.next < σ1.next → (∀ a, a ≠ σ.next → σ2.mem.get a = σ'.mem.get a) → σ2.next = σ'.next → σ1.next ≤ σ'.next → (∀ a, a < σ.next → a ≠ cell → σ'.mem.get a = σ.mem.get a) → Q (.int .i64 (if l' = [] then 0 else 5)) σ2) : ACall Tryd.prog 45 [bv, .fn g [] [.ptr cell 0]] σ Q := by
  refine read_c Q ?_
  have hone := hb.one
  have e1 : ¬ σ.next = σ.next + 1 := by omega
  simp [cOf, ac45, lk_cons, fillL, storeL, hone]
  refine hcall _ (σ.next + 1) _ _ ⟨bv, by simp [storeL], hb.keep (by simp; omega) fun a ha _ => by simp [show ¬ a = σ.next by omega, show ¬ a = σ.next + 1 by omega], fun e => by have := hb.lt e; omega, by simp⟩ (by omega) ⟨by simp; omega, fun a ha => by simp [show ¬ a = σ.next by omega, show ¬ a = σ.next + 1 by omega]⟩ (fun e σ' he hs => ?_) (fun x l' σ' hx hr hp hn hk => ?_)
  · have hm := hs.keep σ.next (by simp; omega) (by omega) (by omega)
    simp [e1] at hm
    refine ⟨(e : Int), rfl, ⟨0, hm⟩, hE e _ he (by have := hs.next; simp at this ⊢; omega) (fun a ha hac => ?_)⟩
    have := hs.keep a (by simp; omega) (by omega) hac
    simp [show ¬ a = σ.next by omega, show ¬ a = σ.next + 1 by omega] at this ⊢
    exact this
  · obtain ⟨v', h1, h2, h3, h4⟩ := hr
    have hlen := h2.len
    have hm := hk σ.next (by simp; omega) (by omega) (by omega)
    simp [e1] at hm
    have hn' : σ.next + 1 + 1 ≤ σ'.next := by simpa using hn
    have hg : Grow σ ⟨(σ.mem.set σ.next (.cells 1 [.int .i64 0])).set (σ.next + 1) (.cells 1 [bv]), σ.next + 1 + 1⟩ := ⟨by simp; omega, fun a ha => by simp [show ¬ a = σ.next by omega, show ¬ a = σ.next + 1 by omega]⟩
    have hq := fun (b : Blk) => hK x l' _ σ' ⟨σ'.mem.set σ.next b, σ'.next⟩ hx hp (by simpa [storeL] using hg) (by simp; omega) (fun a ha => by simp [ha]) rfl hn (fun a ha hac => by
      have := hk a (by simp; omega) (by omega) hac
      simp [show ¬ a = σ.next by omega, show ¬ a = σ.next + 1 by omega] at this
      exact this)
    cases l' with
    | nil =>
      simp [lk_cons, h1, ↓hlen, hm, storeL, rs45]
      simpa using hq _
    | cons y l' =>
      have hp : (0 : Int) < ((y :: l').length : Int) := by simp only [List.length_cons]; omega
      obtain ⟨N, hN⟩ : ∃ N, (y :: l').length = N := ⟨_, rfl⟩
      simp only [hN] at hlen hp
      have hp' : 0 < N := by omega
      simp [lk_cons, h1, ↓hlen, hm, storeL, rs45, hp, hp']
      simpa using hq _
end Go.Proofs.YticefdfhcahlfaaDoor.AM

/- Awake's own: Hear of one byte. -/
namespace Go.Proofs.YticefdfhcahlfaaDoor.AM
open Go.RowKit
set_option maxRecDepth 100000
set_option linter.unusedVariables false
set_option linter.unusedSimpArgs false

def noteCs : List AVal := [.int .u8 0, .int .u8 0, .bool false, .int .i64 0, .int .u64 0, .int .u64 0, .int .u64 0, .int .u64 0, .int .u64 0, .int .u64 0, .int .u64 0, .str ⟨#[]⟩, .str ⟨#[]⟩, .nilsl, .nilsl]
def HrJ (r tc o : Nat) (c : Option Nat) (σ0 : St) (mm : Nat) (rg : Regs) (σ' : St) : Prop := ∃ (i : Nat) (l : List UInt8), mm = 1 - i ∧ i ≤ 1 ∧ l = ([1] : List UInt8).drop i ∧ RR σ' r l c ∧ RStpC r tc σ0 σ' ∧ (∃ z1 z2 zs, σ'.mem.get tc = some (.cells 15 (z1 :: z2 :: zs)) ∧ (z1 :: z2 :: zs).length = 15) ∧ (o < σ'.next ∧ σ'.mem.get o = some (.cells 1 [.ptr tc 0, .ptr tc 1])) ∧ rg = [(0, .ptr r 0), (1, .ptr tc 0), (3, .fn 47 [.ptr r 0] []), (14, .sl o 0 2 2 true), (15, i64 2), (16, i64 i)]
theorem hear1c_c {T : AVal → St → Prop} {σ : St} {r tc : Nat} {c : Option Nat} {K : AVal → St → Prop} (h : RR σ r [1] c) (htc : σ.mem.get tc = some (.cells 15 noteCs)) (htl : tc < σ.next) (hrt : tc ≠ r) (hct : c ≠ some tc)
    (hT : ∀ σ', RStpC r tc σ σ' → T (thrownV ((4 : Nat) : Int)) σ') : ACall (Env.th Tryd.prog T) 46 [.ptr r 0, .ptr tc 0] σ K := by
  refine ACall.of_compF hmx (fun a w => Tryd.call46 a w) Tryd.func46 cf46 (n := 2) (by decide) rfl ?_
  obtain ⟨v, q1, q2, q3, q4⟩ := id h
  simp [ac46, rs46, lk_cons, fillL, storeL, repL]
  refine wp_loop (HrJ r tc σ.next c σ) 1 ?_ ?_
  · refine ⟨0, [1], rfl, by omega, rfl, h.keep (by simp) fun a ha _ => by simp [show ¬ a = σ.next by omega], ⟨by simp, fun a ha _ _ => by simp [show ¬ a = σ.next by omega]⟩, ⟨_, _, _, by simp [show ¬ tc = σ.next by omega]; exact htc, rfl⟩, ⟨by simp, by simp⟩, by simp [lk_cons]⟩
  · rintro mm rg σ1 ⟨i, l, rfl, hi, rfl, h1, s1, ⟨z1, z2, zs, hz, hzl⟩, ⟨hol, ho⟩, rfl⟩
    have w1 : IntKind.i64.wrap ((i : Int) + 1) = ((i + 1 : Nat) : Int) := by rw [IntWalk.i64_in] <;> omega
    have hzl' : zs.length = 13 := by simpa using hzl
    rcases (by omega : i = 0 ∨ i = 1) with rfl | rfl
    · simp [lk_cons, ho]
      refine ru8_c (l := [1]) h1 (by decide) (fun e he => by cases he) fun x l' σ2 p1 p2 p3 => ?_
      have hx : l' = [] := by
        have := (pNum_len p1).1
        simp at this; exact this
      subst hx
      have tl1 : tc < σ1.next := Nat.lt_of_lt_of_le htl s1.next
      have hz2 := (p3.keep tc tl1 hrt).trans hz
      have ho2 := (p3.keep σ.next hol (by omega)).trans ho
      have n3 := p3.next
      have n1 := s1.next
      have hto : ¬ tc = σ.next := by omega
      simp [lk_cons, hz2, storeL, w1]
      refine ⟨1, [], rfl, by omega, rfl, p2.keep (Nat.le_refl _) fun a ha hac => ?_, ⟨by show σ.next ≤ σ2.next; omega, fun a ha har hat => ?_⟩, ⟨.int .u8 (x : Int), z2, zs, by simp, by simpa using hzl'⟩, ⟨by show σ.next < σ2.next; omega, ?_⟩, by simp [show IntKind.i64.wrap 1 = 1 from rfl]⟩
      · have : a ≠ tc := by
          rcases hac with rfl | hac
          · exact Ne.symm hrt
          · exact fun e => hct (by rw [hac, e])
        simp [this]
      · simp [hat]
        exact (p3.keep a (by omega) har).trans (s1.keep a ha har hat)
      · simp [show ¬ σ.next = tc by omega]
        exact ho2
    · simp [lk_cons, ho]
      refine ru8_c (l := []) h1 (by decide) (fun e he => ?_) fun x l' σ2 p1 p2 p3 => by cases p1
      have : e = 4 := by cases he; rfl
      subst this
      exact hT σ1 s1
theorem hear1_c {σ : St} {xv : AVal} {c : Option Nat} (hb : RdB σ xv [1] c) (Q : AVal → St → Prop) (hQ : ∀ σ', Grow σ σ' → Q (.tup [.agg noteCs, i64 4]) σ') : ACall Tryd.prog 17 [xv] σ Q := by
  refine ACall.of_compF hmx (fun a w => Tryd.call17 a w) Tryd.func17 cf17 (n := 1) (by decide) rfl ?_
  simp [ac17, rs17, lk_cons]
  obtain ⟨S, hS⟩ : ∃ S : St, S = ⟨(σ.mem.set σ.next (.cells 15 noteCs)).set (σ.next + 1) (.cells 15 noteCs), σ.next + 1 + 1⟩ := ⟨_, rfl⟩
  have nS : S.next = σ.next + 2 := by rw [hS]
  have kS : ∀ a, a < σ.next → S.mem.get a = σ.mem.get a := fun a ha => by rw [hS]; simp [show ¬ a = σ.next by omega, show ¬ a = σ.next + 1 by omega]
  have m2 : S.mem.get σ.next = some (.cells 15 noteCs) := by rw [hS]; simp
  have m4 : S.mem.get (σ.next + 1) = some (.cells 15 noteCs) := by rw [hS]; simp
  have hS' := hS
  unfold noteCs at hS
  rw [← hS]
  refine read_h (X := Unit) (res := .error 4) (Post := fun _ _ _ => True) (hb.keep (by omega) fun a ha _ => kS a ha) (cell := σ.next + 1) (by omega) _ (fun T r σa K k1 k2 k3 k4 k5 => ?_) (fun e σb he hn hk => ?_) (fun x l' σa σb σc hx => by cases hx)
  · have htc := (k3.2 (σ.next + 1) (by omega)).trans m4
    exact hear1c_c k1 htc (by have := k3.1; omega) (by omega) (fun ec => by have := hb.lt ec; omega) fun σ' hs => k4 4 σ' rfl hs
  · cases he
    have hm := (hk σ.next (by omega) (by omega)).trans m2
    unfold noteCs at hm
    simp [lk_cons, hm, storeL, fillL]
    exact hQ _ ⟨by show σ.next ≤ σb.next; omega, fun a ha => by
      simp [show ¬ a = σ.next by omega]
      exact (hk a (by omega) (by omega)).trans (kS a ha)⟩
end Go.Proofs.YticefdfhcahlfaaDoor.AM

/- Entries: Pick, and the document's ReadEntry. -/
namespace Go.Proofs.YticefdfhcahlfaaDoor.AM
open Go.RowKit
set_option maxRecDepth 100000
set_option linter.unusedVariables false
set_option linter.unusedSimpArgs false

structure EntV where
  n : ByteArray
  s : Nat
  k : ByteArray
  d : List UInt8
def pEnt (l : List UInt8) : Except Nat (EntV × List UInt8) := match pText l with
  | .error c => .error c
  | .ok (n, l1) => match pNum 8 l1 with
    | .error c => .error c
    | .ok (s, l2) => match pText l2 with
      | .error c => .error c
      | .ok (k, l3) => match pBytes l3 with
        | .error c => .error c
        | .ok (d, l4) => .ok (⟨⟨n.toArray⟩, s, ⟨k.toArray⟩, d⟩, l4)
def entA (x : EntV) (dv : AVal) : List AVal := [.str x.n, u64 (x.s : Int), .str x.k, dv]

theorem pNum_err {k : Nat} {l : List UInt8} {e : Nat} (h : pNum k l = .error e) : e ≠ 0 := by
  unfold pNum at h
  split at h
  · cases h; decide
  · cases h
theorem pBytes_err {l : List UInt8} {e : Nat} (h : pBytes l = .error e) : e ≠ 0 := by
  unfold pBytes at h
  split at h
  · rename_i h1; cases h; exact pNum_err h1
  · split at h
    · cases h; decide
    · cases h
theorem pText_err {l : List UInt8} {e : Nat} (h : pText l = .error e) : e ≠ 0 := by
  unfold pText at h
  split at h
  · rename_i h1; cases h; exact pBytes_err h1
  · split at h
    · cases h
    · cases h; decide
theorem pEnt_err {l : List UInt8} {e : Nat} (h : pEnt l = .error e) : e ≠ 0 := by
  unfold pEnt at h
  split at h
  · rename_i h1; cases h; exact pText_err h1
  · split at h
    · rename_i h1; cases h; exact pNum_err h1
    · split at h
      · rename_i h1; cases h; exact pText_err h1
      · split at h
        · rename_i h1; cases h; exact pBytes_err h1
        · cases h

theorem pick1_c {T : AVal → St → Prop} {σ : St} {r tc : Nat} {l : List UInt8} {c : Option Nat} {K : AVal → St → Prop} (h : RR σ r l c) (hl : l.length ≤ 1000000) {w1 w2 w3 w4 : AVal} (htc : σ.mem.get tc = some (.cells 4 [w1, w2, w3, w4])) (htl : tc < σ.next) (hrt : tc ≠ r) (hct : c ≠ some tc)
    (hT : ∀ e σ', pEnt l = .error e → RStp r σ σ' → T (thrownV (e : Int)) σ')
    (hK : ∀ x l' σ', pEnt l = .ok (x, l') → RR σ' r l' c → (∃ dv b', GS rwB σ' dv x.d b' ∧ (∀ y, b' = some y → σ.next ≤ y) ∧ σ'.mem.get tc = some (.cells 4 (entA x dv))) → σ.next ≤ σ'.next → (∀ a, a < σ.next → a ≠ r → a ≠ tc → σ'.mem.get a = σ.mem.get a) → K (.tup []) σ') : ACall (Env.th Tryd.prog T) 58 [.ptr r 0, .ptr tc 0] σ K := by
  refine ACall.of_compF hmx (fun a w => Tryd.call58 a w) Tryd.func58 cf58 (n := 2) (by decide) rfl ?_
  simp [ac58, rs58, lk_cons]
  refine rtext_c h (by omega) (fun e σ' he hs => hT e σ' (by rw [pEnt, he]) hs) fun n l1 σ1 h1 h2 h3 => ?_
  have q1 := (pText_len h1).1
  simp [lk_cons]
  refine ru64_c h2 (by omega) (fun e he => hT e σ1 (by rw [pEnt, h1]; simp only [he]) h3) fun s l2 σ2 k1 k2 k3 => ?_
  have q2 := (pNum_len k1).1
  have k3 := h3.trans k3
  simp [lk_cons]
  refine rtext_c k2 (by omega) (fun e σ' he hs => hT e σ' (by rw [pEnt, h1]; simp only [k1, he]) (k3.trans hs)) fun k l3 σ3 m1 m2 m3 => ?_
  have q3 := (pText_len m1).1
  have m3 := k3.trans m3
  simp [lk_cons]
  refine rbytes_b m2 (by omega) (fun e σ' he hs => hT e σ' (by rw [pEnt, h1]; simp only [k1, m1, he]) (m3.trans hs)) fun d l4 dv b' σ4 n1 n2 n3 n4 n5 => ?_
  have n6 := m3.trans n5
  have hm := (n6.keep tc htl hrt).trans htc
  have hone := (RdB.ofGS n3).one
  have hb : b' ≠ some tc := fun e => by have := n4 _ e; have := m3.next; omega
  simp [lk_cons, fillL, storeL, hone, hm]
  have kp : ∀ a, a ≠ tc → (σ4.mem.set tc (.cells 4 [.str ⟨n.toArray⟩, u64 (s : Int), .str ⟨k.toArray⟩, dv])).get a = σ4.mem.get a := fun a ha => by simp [ha]
  refine hK ⟨⟨n.toArray⟩, s, ⟨k.toArray⟩, d⟩ l4 _ (by rw [pEnt, h1]; simp only [k1, m1, n1]) (n2.keep (Nat.le_refl _) fun a ha hac => kp a ?_) ⟨dv, b', n3.keep (Nat.le_refl _) fun a ha hab => kp a (fun e => hb (by rw [hab, e])), fun y hy => by have := n4 y hy; have := m3.next; omega, by simp [entA]⟩ n6.next (fun a ha har hat => (kp a hat).trans (n6.keep a ha har))
  rcases hac with rfl | hac
  · exact Ne.symm hrt
  · exact fun e => hct (by rw [hac, e])

theorem pick_c {σ : St} {bv : AVal} {l : List UInt8} {c : Option Nat} (hb : RdB σ bv l c) (hl : l.length ≤ 1000000) (Q : AVal → St → Prop)
    (hE : ∀ e σ', pEnt l = .error e → Grow σ σ' → Q (.tup [.agg [.str ⟨#[]⟩, u64 0, .str ⟨#[]⟩, .nilsl], i64 (e : Nat)]) σ') (hR : ∀ x l' σ', pEnt l = .ok (x, l') → l' ≠ [] → Grow σ σ' → Q (.tup [.agg [.str ⟨#[]⟩, u64 0, .str ⟨#[]⟩, .nilsl], i64 5]) σ')
    (hO : ∀ x dv b' σ', pEnt l = .ok (x, []) → GS rwB σ' dv x.d b' → (∀ y, b' = some y → σ.next ≤ y) → Grow σ σ' → Q (.tup [.agg (entA x dv), i64 0]) σ') : ACall Tryd.prog 23 [bv] σ Q := by
  refine ACall.of_compF hmx (fun a w => Tryd.call23 a w) Tryd.func23 cf23 (n := 1) (by decide) rfl ?_
  simp [ac23, rs23, lk_cons]
  obtain ⟨S, hS⟩ : ∃ S : St, S = ⟨(σ.mem.set σ.next (.cells 4 [.str ⟨#[]⟩, u64 0, .str ⟨#[]⟩, .nilsl])).set (σ.next + 1) (.cells 4 [.str ⟨#[]⟩, u64 0, .str ⟨#[]⟩, .nilsl]), σ.next + 1 + 1⟩ := ⟨_, rfl⟩
  have nS : S.next = σ.next + 2 := by rw [hS]
  have kS : ∀ a, a < σ.next → S.mem.get a = σ.mem.get a := fun a ha => by rw [hS]; simp [show ¬ a = σ.next by omega, show ¬ a = σ.next + 1 by omega]
  have m2 : S.mem.get σ.next = some (.cells 4 [.str ⟨#[]⟩, u64 0, .str ⟨#[]⟩, .nilsl]) := by rw [hS]; simp
  have m4 : S.mem.get (σ.next + 1) = some (.cells 4 [.str ⟨#[]⟩, u64 0, .str ⟨#[]⟩, .nilsl]) := by rw [hS]; simp
  rw [← hS]
  refine read_g (X := EntV) (res := pEnt l) (Post := fun x σ1 σ' => ∃ dv b', GS rwB σ' dv x.d b' ∧ (∀ y, b' = some y → σ1.next ≤ y) ∧ σ'.mem.get (σ.next + 1) = some (.cells 4 (entA x dv))) (hb.keep (by omega) fun a ha _ => kS a ha) (cell := σ.next + 1) (by omega) _ (fun T r σa K k1 k2 k3 k4 k5 => ?_) (fun e σb he hgb => ?_) (fun x l' σa σb σc hx hpost hga hna hmem hnx hnab hkeep => ?_)
  · have htc := (k3.2 (σ.next + 1) (by omega)).trans m4
    exact pick1_c k1 hl htc (by have := k3.1; omega) (by omega) (fun ec => by have := hb.lt ec; omega) k4 fun S l' σ' h1 h2 h3 h4 h5 => k5 S l' σ' h1 h2 h3 h4 h5
  · have he0 := pEnt_err he
    have he0' : ¬ (e : Int) = 0 := by omega
    have hm := (hgb.2 σ.next (by omega)).trans m2
    have gq : ∀ b, Grow σ ⟨σb.mem.set σ.next b, σb.next⟩ := fun b => ⟨by have := hgb.1; show σ.next ≤ σb.next; omega, fun a ha => by
      simp [show ¬ a = σ.next by omega]
      exact (hgb.2 a (by omega)).trans (kS a ha)⟩
    simp [lk_cons, he0, he0', hm, storeL, fillL]
    exact hE e _ he (gq _)
  · obtain ⟨dv, b', z3, z4, z5⟩ := hpost
    have hm : σc.mem.get (σ.next + 1) = some (.cells 4 (entA x dv)) := (hmem (σ.next + 1) (by omega)).trans z5
    have hm2 : σc.mem.get σ.next = some (.cells 4 [.str ⟨#[]⟩, u64 0, .str ⟨#[]⟩, .nilsl]) := (hmem σ.next (by omega)).trans ((hkeep σ.next (by omega) (by omega)).trans m2)
    have gk : ∀ a, a < σ.next → σc.mem.get a = σ.mem.get a := fun a ha => by
      rw [hmem a (by omega), hkeep a (by omega) (by omega), kS a ha]
    have gq : ∀ b, Grow σ ⟨σc.mem.set σ.next b, σc.next⟩ := fun b => ⟨by have := hga.1; show σ.next ≤ σc.next; omega, fun a ha => by
      simp [show ¬ a = σ.next by omega]
      exact gk a ha⟩
    have hone := (RdB.ofGS z3).one
    cases l' with
    | nil =>
      simp [lk_cons, hm, hm2, storeL, entA, hone]
      refine hO x dv b' _ hx (z3.keep (by show _ ≤ σc.next; omega) fun a ha hab => ?_) (fun y hy => by have := z4 y hy; omega) (gq _)
      have : a ≠ σ.next := fun e => by have := z4 a hab; omega
      simp [this]
      exact hmem a (by have := z4 a hab; omega)
    | cons y l' =>
      simp [lk_cons, hm, hm2, storeL, fillL]
      exact hR x (y :: l') _ hx (by simp) (gq _)
end Go.Proofs.YticefdfhcahlfaaDoor.AM

/- Entries: the document's ReadEntry, SameEntries. -/
namespace Go.Proofs.YticefdfhcahlfaaDoor.AM
open Go.RowKit
set_option maxRecDepth 100000
set_option linter.unusedVariables false
set_option linter.unusedSimpArgs false

theorem sBytes_st (l : List UInt8) : (∃ b r, pBytes l = .ok (b, r) ∧ sBytes (.ok l) = (b, .ok r)) ∨ ∃ e b, pBytes l = .error e ∧ sBytes (.ok l) = (b, .error e) := by
  cases hp : pNum 4 l with
  | error e => exact .inr ⟨e, [], by rw [pBytes, hp], by simp [sBytes, sNum, hp]⟩
  | ok x =>
    obtain ⟨n, r⟩ := x
    by_cases hl : r.length < n
    · exact .inr ⟨4, [], by rw [pBytes, hp]; simp [hl], by simp [sBytes, sNum, hp, hl]⟩
    · exact .inl ⟨r.take n, r.drop n, by rw [pBytes, hp]; simp [hl], by simp [sBytes, sNum, hp, hl]⟩
theorem sText_st (l : List UInt8) : (∃ b r, pText l = .ok (b, r) ∧ sText (.ok l) = (b, .ok r)) ∨ ∃ e b, pText l = .error e ∧ sText (.ok l) = (b, .error e) := by
  rcases sBytes_st l with ⟨b, r, h1, h2⟩ | ⟨e, b, h1, h2⟩
  · cases hv : vld b with
    | true => exact .inl ⟨b, r, by rw [pText, h1]; simp [hv], by rw [sText, h2]; simp [hv]⟩
    | false => exact .inr ⟨6, b, by rw [pText, h1]; simp [hv], by rw [sText, h2]; simp [hv]⟩
  · exact .inr ⟨e, b, by rw [pText, h1], by rw [sText, h2]⟩
theorem sNum_st (k : Nat) (l : List UInt8) : (∃ x r, pNum k l = .ok (x, r) ∧ sNum k (.ok l) = (x, .ok r)) ∨ ∃ e, pNum k l = .error e ∧ sNum k (.ok l) = (0, .error e) := by
  cases hp : pNum k l with
  | error e => exact .inr ⟨e, rfl, by simp [sNum, hp]⟩
  | ok x => exact .inl ⟨x.1, x.2, rfl, by simp [sNum, hp]⟩
theorem sErr (e : Nat) (k : Nat) : (∃ b, sText (.error e) = (b, .error e)) ∧ (∃ b, sBytes (.error e) = (b, .error e)) ∧ ∃ x, sNum k (.error e) = (x, .error e) :=
  ⟨⟨_, rfl⟩, ⟨_, rfl⟩, ⟨_, rfl⟩⟩
theorem ent_st (l : List UInt8) : ∃ (b k d : List UInt8) (s : Nat) (s1 s2 s3 s4 : RSt), sText (.ok l) = (b, s1) ∧ sNum 8 s1 = (s, s2) ∧ sText s2 = (k, s3) ∧ sBytes s3 = (d, s4) ∧
    ((∃ l', pEnt l = .ok (⟨⟨b.toArray⟩, s, ⟨k.toArray⟩, d⟩, l') ∧ s4 = .ok l') ∨ ∃ c, pEnt l = .error c ∧ s4 = .error c) := by
  rcases sText_st l with ⟨b, r, h1, h2⟩ | ⟨c, b, h1, h2⟩
  · rcases sNum_st 8 r with ⟨s, r1, k1, k2⟩ | ⟨c, k1, k2⟩
    · rcases sText_st r1 with ⟨k, r2, m1, m2⟩ | ⟨c, k, m1, m2⟩
      · rcases sBytes_st r2 with ⟨d, r3, n1, n2⟩ | ⟨c, d, n1, n2⟩
        · exact ⟨b, k, d, s, _, _, _, _, h2, k2, m2, n2, .inl ⟨r3, by rw [pEnt, h1]; simp only [k1, m1, n1], rfl⟩⟩
        · exact ⟨b, k, d, s, _, _, _, _, h2, k2, m2, n2, .inr ⟨c, by rw [pEnt, h1]; simp only [k1, m1, n1], rfl⟩⟩
      · exact ⟨b, k, [], s, _, _, _, _, h2, k2, m2, rfl, .inr ⟨c, by rw [pEnt, h1]; simp only [k1, m1], rfl⟩⟩
    · exact ⟨b, [], [], 0, _, _, _, _, h2, k2, rfl, rfl, .inr ⟨c, by rw [pEnt, h1]; simp only [k1], rfl⟩⟩
  · exact ⟨b, [], [], 0, _, _, _, _, h2, rfl, rfl, rfl, .inr ⟨c, by rw [pEnt, h1], rfl⟩⟩

theorem rent_c {σ : St} {bv : AVal} {l : List UInt8} {c : Option Nat} (hb : RdB σ bv l c) (hl : l.length ≤ 1000000) (Q : AVal → St → Prop)
    (hE : ∀ e σ', pEnt l = .error e → Grow σ σ' → Q (.tup [.agg [.str ⟨#[]⟩, u64 0, .str ⟨#[]⟩, .nilsl], i64 (e : Nat)]) σ') (hR : ∀ x l' σ', pEnt l = .ok (x, l') → l' ≠ [] → Grow σ σ' → Q (.tup [.agg [.str ⟨#[]⟩, u64 0, .str ⟨#[]⟩, .nilsl], i64 5]) σ')
    (hO : ∀ x dv c' σ', pEnt l = .ok (x, []) → RdB σ' dv x.d c' → (c' = c ∨ c' = none) → Grow σ σ' → Q (.tup [.agg (entA x dv), i64 0]) σ') : ACall Tryd.prog 24 [bv] σ Q := by
  refine ACall.of_compF hmx (fun a w => Tryd.call24 a w) Tryd.func24 cf24 (n := 1) (by decide) rfl ?_
  obtain ⟨o1, o2⟩ := hb.one
  have hcl : ∀ x, c = some x → x < σ.next := fun x hx => hb.lt hx
  simp [ac24, rs24, lk_cons, fillL, storeL, o1, o2]
  obtain ⟨S, hS⟩ : ∃ S : St, S = ⟨(σ.mem.set σ.next (.cells 4 [.str ⟨#[]⟩, u64 0, .str ⟨#[]⟩, .nilsl])).set (σ.next + 1) (.cells 2 [bv, i64 0]), σ.next + 1 + 1⟩ := ⟨_, rfl⟩
  have nS : S.next = σ.next + 2 := by rw [hS]
  have kS : ∀ a, a < σ.next → S.mem.get a = σ.mem.get a := fun a ha => by rw [hS]; simp [show ¬ a = σ.next by omega, show ¬ a = σ.next + 1 by omega]
  have m2 : S.mem.get σ.next = some (.cells 4 [.str ⟨#[]⟩, u64 0, .str ⟨#[]⟩, .nilsl]) := by rw [hS]; simp
  have sr : SR S (σ.next + 1) (.ok l) c := ⟨by omega, fun e => by have := hcl _ e; omega, fun x hx => by have := hcl x hx; omega, bv, by rw [hS]; simp, hb.keep (by omega) fun a ha _ => kS a ha, hl⟩
  rw [← hS]
  obtain ⟨b, k, d, s, s1, s2, s3, s4, t1, t2, t3, t4, hent⟩ := ent_st l
  refine stext_c sr _ fun σ1 p1 p2 p3 => ?_
  rw [t1] at p1
  simp only [t1]
  obtain ⟨nm, hnm⟩ : ∃ nm : ByteArray, (⟨b.toArray⟩ : ByteArray) = nm := ⟨_, rfl⟩
  rw [hnm] at hent ⊢
  have e1 : ¬ σ1.next = σ.next + 1 := by omega
  have e1' : ¬ σ.next + 1 = σ1.next := by omega
  have e0 : ¬ σ.next = σ1.next := by omega
  have sk : ∀ (A B : Blk), SR ⟨(σ1.mem.set σ1.next A).set σ1.next B, σ1.next + 1⟩ (σ.next + 1) s1 c := fun A B => p1.keep (by simp) fun a ha _ => by simp [show ¬ a = σ1.next by omega]
  simp [lk_cons, fillL, storeL]
  refine snum_c (sk _ _) (k := 8) (by decide) _ fun σ2 q1 q2 q3 => ?_
  rw [t2] at q1
  simp only [t2]
  have n2 := q3 σ1.next e1
  simp at n2 q2
  have cne : ∀ a, a = σ.next + 1 ∨ c = some a → a ≠ σ1.next := fun a h => by
    rcases h with rfl | h
    · exact e1'
    · have := hcl a h; omega
  simp [lk_cons, n2, storeL]
  refine stext_c (st := s2) (c := c) (q1.keep (by simp) fun a ha hac => by simp [cne a hac]) _ fun σ3 u1 u2 u3 => ?_
  rw [t3] at u1
  simp only [t3]
  obtain ⟨km, hkm⟩ : ∃ km : ByteArray, (⟨k.toArray⟩ : ByteArray) = km := ⟨_, rfl⟩
  rw [hkm] at hent ⊢
  have n3 := u3 σ1.next e1
  simp at n3 u2
  simp [lk_cons, n3, storeL]
  refine sbytes_c (st := s3) (c := c) (u1.keep (by simp) fun a ha hac => by simp [cne a hac]) _ fun σ4 dv c' x1 x2 x3 x4 x5 => ?_
  rw [t4] at x1 x2
  have n4 := x5 σ1.next e1
  simp at n4 x4
  obtain ⟨o3, o4⟩ := x2.one
  simp [lk_cons, n4, storeL, o3, o4]
  obtain ⟨S4, hS4⟩ : ∃ S4 : St, S4 = ⟨σ4.mem.set σ1.next (.cells 4 [.str nm, u64 (s : Int), .str km, dv]), σ4.next⟩ := ⟨_, rfl⟩
  have e4 : σ4.next = σ.next + 3 := by omega
  have n1 : σ1.next = σ.next + 2 := by omega
  have nS4 : S4.next = σ.next + 3 := by rw [hS4]; exact e4
  have mB : S4.mem.get σ1.next = some (.cells 4 [.str nm, u64 (s : Int), .str km, dv]) := by rw [hS4]; simp
  have kS4 : ∀ a, a ≠ σ.next + 1 → a ≠ σ1.next → S4.mem.get a = S.mem.get a := fun a h1 h2 => by
    rw [hS4]
    simp only [Mem.get_set, if_neg h2]
    rw [x5 a h1]
    simp only [Mem.get_set, if_neg h2]
    rw [u3 a h1]
    simp only [Mem.get_set, if_neg h2]
    rw [q3 a h1]
    simp only [Mem.get_set, if_neg h2]
    exact p3 a h1
  have srF : SR S4 (σ.next + 1) s4 c := x1.keep (by rw [hS4]; exact Nat.le_refl _) fun a ha hac => by rw [hS4]; simp [cne a hac]
  have rdF : RdB S4 dv d c' := x2.keep (by rw [hS4]; exact Nat.le_refl _) fun a ha hac => by
    rw [hS4]
    have : a ≠ σ1.next := by
      rcases x3 with rfl | rfl
      · exact cne a (.inr hac)
      · cases hac
    simp [this]
  rw [← hS4]
  refine send_c srF _ fun σ5 y1 y2 => ?_
  have mB5 := (y2 σ1.next e1).trans mB
  have m25 := (y2 σ.next (by omega)).trans ((kS4 σ.next (by omega) e0).trans m2)
  have gq : ∀ b, Grow σ ⟨σ5.mem.set σ.next b, σ5.next⟩ := fun b => ⟨by show σ.next ≤ σ5.next; omega, fun a ha => by
    simp [show ¬ a = σ.next by omega]
    exact (y2 a (by omega)).trans ((kS4 a (by omega) (by omega)).trans (kS a ha))⟩
  rcases hent with ⟨l', hp, rfl⟩ | ⟨e, hp, rfl⟩
  · by_cases hl' : l' = []
    · subst hl'
      simp [lk_cons, sEnd, mB5, m25, fillL, storeL, o3]
      refine hO ⟨nm, s, km, d⟩ dv c' _ hp (rdF.keep (by show S4.next ≤ σ5.next; omega) fun a ha hac => ?_) x3 (gq _)
      have h1 : a < σ.next := by
        rcases x3 with rfl | rfl
        · exact hcl a hac
        · cases hac
      simp [show ¬ a = σ.next by omega]
      exact y2 a (by omega)
    · simp [lk_cons, sEnd, hl', mB5, m25, fillL, storeL]
      exact hR _ l' _ hp hl' (gq _)
  · have he := pEnt_err hp
    have he' : ¬ (e : Int) = 0 := by omega
    simp [lk_cons, sEnd, he, he', mB5, m25, fillL, storeL]
    exact hE e _ hp (gq _)
theorem sameent_c {σ : St} {x : EntV} {v u : AVal} {c c' : Option Nat} (h : RdB σ v x.d c) (k : RdB σ u x.d c') (Q : AVal → St → Prop) (hQ : ∀ σ', Grow σ σ' → Q (.bool true) σ') : ACall Tryd.prog 25 [.agg (entA x v), .agg (entA x u)] σ Q := by
  refine ACall.of_compF hmx (fun a w => Tryd.call25 a w) Tryd.func25 cf25 (n := 2) (by decide) rfl ?_
  obtain ⟨o1, o2⟩ := h.one
  obtain ⟨o3, o4⟩ := k.one
  have strE : ∀ a b : ByteArray, abinS .eql a b = some (.bool (decide (a = b))) := strEq
  have e1 : ¬ σ.next = σ.next + 1 := by omega
  have hs := (h.keep (σ' := ⟨(σ.mem.set σ.next (.cells 4 (entA x v))).set (σ.next + 1) (.cells 4 (entA x u)), σ.next + 1 + 1⟩) (by simp; omega) fun a ha _ => by simp [show ¬ a = σ.next by omega, show ¬ a = σ.next + 1 by omega]).str
  have ks := (k.keep (σ' := ⟨(σ.mem.set σ.next (.cells 4 (entA x v))).set (σ.next + 1) (.cells 4 (entA x u)), σ.next + 1 + 1⟩) (by simp; omega) fun a ha _ => by simp [show ¬ a = σ.next by omega, show ¬ a = σ.next + 1 by omega]).str
  simp only [entA] at hs ks ⊢
  simp [ac25, rs25, lk_cons, fillL, storeL, o1, o2, o3, o4, strE, e1, ↓hs, ↓ks]
  exact hQ _ ⟨by simp; omega, fun a ha => by simp [show ¬ a = σ.next by omega, show ¬ a = σ.next + 1 by omega]⟩
end Go.Proofs.YticefdfhcahlfaaDoor.AM

/- Awake. -/
namespace Go.Proofs.YticefdfhcahlfaaDoor.AM
open Go.RowKit
set_option maxRecDepth 100000
set_option linter.unusedVariables false
set_option linter.unusedSimpArgs false
theorem rep_bytes (k : Nat) : repL k [.int .u8 0] = bytesV (List.replicate k 0) := by
  simp only [repL, bytesV, List.map_replicate]
  rw [show ((0 : UInt8).toNat : Int) = 0 from rfl]
  induction k with
  | zero => rfl
  | succ k ih => rw [List.replicate_succ, List.flatten_cons, ih, List.replicate_succ]; rfl
theorem mk_str (m : Mem) (a N k : Nat) (h : a < N) (z : List UInt8) (hz : List.replicate k 0 = z) : evalV ⟨m.set a (.cells 1 (repL k [.int .u8 0])), N⟩ (.bytesStr (.sl a 0 k k true)) = some (.str ⟨z.toArray⟩, ⟨m.set a (.cells 1 (repL k [.int .u8 0])), N⟩) := by
  have hl : z.length = k := by rw [← hz]; simp
  refine (RdB.ofGS (b := some a) (.inr ⟨a, true, rfl, by rw [hl], h, ?_⟩)).str
  rw [rwsB, rep_bytes, hz]; simp
theorem awake {σ : St} (Q : AVal → St → Prop) (hQ : ∀ σ', Grow σ σ' → Q (.bool true) σ') : ACall Tryd.prog 10 [] σ Q := by
  refine ACall.of_compF hmx (fun a w => Tryd.call10 a w) Tryd.func10 cf10 (n := 0) (by decide) rfl ?_
  simp [ac10, rs10, lk_cons, fillL]
  refine enc0_c _ fun v b σ1 h1 g1 => ?_
  simp [lk_cons, fillL]
  refine tell0_c _ ?_
  generalize h74 : List.replicate 74 (0 : UInt8) = z74
  generalize h19 : List.replicate 19 (0 : UInt8) = z19 at h1
  have l74 : z74.length = 74 := by rw [← h74]; rfl
  simp [lk_cons, fillL, storeL, repL]
  obtain ⟨S, hS⟩ : ∃ S : St, S = ⟨σ1.mem.set σ1.next (.cells 1 [.int .u8 1]), σ1.next + 1⟩ := ⟨_, rfl⟩
  have nS : S.next = σ1.next + 1 := by rw [hS]
  have gS : Grow σ1 S := ⟨by omega, fun a ha => by rw [hS]; simp [show ¬ a = σ1.next by omega]⟩
  have hb : RdB S (.sl σ1.next 0 1 1 true) [1] (some σ1.next) := RdB.ofGS (.inr ⟨σ1.next, true, rfl, rfl, by omega, by rw [hS]; simp [rwsB, bytesV]⟩)
  rw [← hS]
  refine hear1_c hb _ fun σ2 g2 => ?_
  have g02 := g1.trans (gS.trans g2)
  have h2 := h1.keep (gS.trans g2).1 fun a ha _ => (gS.trans g2).2 a ha
  have hv : ∀ A B : Blk, evalV ⟨(σ2.mem.set σ2.next A).set σ2.next B, σ2.next + 1⟩ (.bytesStr v) = some (.str ⟨z19.toArray⟩, ⟨(σ2.mem.set σ2.next A).set σ2.next B, σ2.next + 1⟩) := fun A B => (RdB.ofGS (h2.keep (σ' := ⟨(σ2.mem.set σ2.next A).set σ2.next B, σ2.next + 1⟩) (by simp) fun a ha _ => by simp [show ¬ a = σ2.next by omega])).str
  have m19 : ∀ m : Mem, _ := fun m => mk_str m (σ2.next + 1) (σ2.next + 1 + 1) 19 (by omega) z19 h19
  have m74 : ∀ m : Mem, _ := fun m => mk_str m (σ2.next + 1 + 1) (σ2.next + 1 + 1 + 1) 74 (by omega) z74 h74
  have b74 : ∀ ρ : St, evalV ρ (.bytesStr (.isl (bytesV z74) 74 false)) = some (.str ⟨z74.toArray⟩, ρ) := fun ρ => (RdB.ofI (.inr ⟨false, by rw [l74]⟩) ρ).str
  simp [lk_cons, noteCs, fillL, storeL, ↓hv, ↓m19, ↓m74, ↓b74, strEq]
  exact hQ _ (g02.trans ⟨by simp; omega, fun a ha => by simp [show ¬ a = σ2.next by omega, show ¬ a = σ2.next + 1 by omega, show ¬ a = σ2.next + 1 + 1 by omega]⟩)
end Go.Proofs.YticefdfhcahlfaaDoor.AM

/- CodecEntries. -/
namespace Go.Proofs.YticefdfhcahlfaaDoor.AM
open Go.RowKit
set_option maxRecDepth 100000
set_option linter.unusedVariables false
set_option linter.unusedSimpArgs false

def EnL (S : St) (sb : Nat) (mm : Nat) (rg : Regs) (σ' : St) : Prop := ∃ i, mm = 2 - i ∧ i ≤ 2 ∧ Grow S σ' ∧ rg = [(60, .sl sb 0 2 2 true), (61, i64 2), (62, i64 i)]
/-- What Pick gives, in one. -/
def PkRel (σ σ' : St) (l : List UInt8) (gv : AVal) (code : Nat) : Prop := (pEnt l = .error code ∧ gv = .agg [.str ⟨#[]⟩, u64 0, .str ⟨#[]⟩, .nilsl]) ∨ (∃ x l', pEnt l = .ok (x, l') ∧ l' ≠ [] ∧ gv = .agg [.str ⟨#[]⟩, u64 0, .str ⟨#[]⟩, .nilsl] ∧ code = 5) ∨ ∃ x dv b', pEnt l = .ok (x, []) ∧ RdB σ' dv x.d b' ∧ gv = .agg (entA x dv) ∧ code = 0
theorem pick_k {σ : St} {bv : AVal} {l : List UInt8} {c : Option Nat} (hb : RdB σ bv l c) (hl : l.length ≤ 1000000) (Q : AVal → St → Prop) (hQ : ∀ gv code σ', PkRel σ σ' l gv code → Grow σ σ' → Q (.tup [gv, i64 (code : Nat)]) σ') : ACall Tryd.prog 23 [bv] σ Q :=
  pick_c hb hl Q (fun e σ' h g => hQ _ e σ' (.inl ⟨h, rfl⟩) g) (fun x l' σ' h hn g => hQ _ 5 σ' (.inr (.inl ⟨x, l', h, hn, rfl, rfl⟩)) g) fun x dv b' σ' h1 h2 _ g => hQ _ 0 σ' (.inr (.inr ⟨x, dv, b', h1, RdB.ofGS h2, rfl, rfl⟩)) g
theorem rent_k {σ : St} {bv : AVal} {l : List UInt8} {c : Option Nat} (hb : RdB σ bv l c) (hl : l.length ≤ 1000000) (Q : AVal → St → Prop) (hQ : ∀ gv code σ', PkRel σ σ' l gv code → Grow σ σ' → Q (.tup [gv, i64 (code : Nat)]) σ') : ACall Tryd.prog 24 [bv] σ Q :=
  rent_c hb hl Q (fun e σ' h g => hQ _ e σ' (.inl ⟨h, rfl⟩) g) (fun x l' σ' h hn g => hQ _ 5 σ' (.inr (.inl ⟨x, l', h, hn, rfl, rfl⟩)) g) fun x dv b' σ' h1 h2 _ g => hQ _ 0 σ' (.inr (.inr ⟨x, dv, b', h1, h2, rfl, rfl⟩)) g
/-- The two answers agree. -/
theorem pk_same {σ σ1 σ2 : St} {l : List UInt8} {gv gw : AVal} {c d : Nat} (h : PkRel σ σ1 l gv c) (k : PkRel σ1 σ2 l gw d) (hg : Grow σ1 σ2) : c = d ∧ ∃ x v u b b', gv = .agg (entA x v) ∧ gw = .agg (entA x u) ∧ RdB σ2 v x.d b ∧ RdB σ2 u x.d b' := by
  have z : ∀ σ, RdB σ .nilsl [] none := fun σ => RdB.ofI (.inl ⟨rfl, rfl⟩) σ
  rcases h with ⟨h1, rfl⟩ | ⟨x, l', h1, h2, rfl, rfl⟩ | ⟨x, dv, b', h1, h2, rfl, rfl⟩ <;> rcases k with ⟨k1, rfl⟩ | ⟨y, m', k1, k2, rfl, rfl⟩ | ⟨y, ev, b2, k1, k2, rfl, rfl⟩ <;> rw [h1] at k1 <;> cases k1
  · exact ⟨rfl, ⟨⟨#[]⟩, 0, ⟨#[]⟩, []⟩, .nilsl, .nilsl, none, none, rfl, rfl, z _, z _⟩
  · exact ⟨rfl, ⟨⟨#[]⟩, 0, ⟨#[]⟩, []⟩, .nilsl, .nilsl, none, none, rfl, rfl, z _, z _⟩
  · exact absurd rfl h2
  · exact absurd rfl k2
  · exact ⟨rfl, x, dv, ev, b', b2, rfl, rfl, h2.keep hg.1 fun a ha _ => hg.2 a ha, k2⟩
theorem PkRel.agg {σ σ1 : St} {l : List UInt8} {gv : AVal} {c : Nat} (h : PkRel σ σ1 l gv c) : ∃ x v b, gv = .agg (entA x v) ∧ RdB σ1 v x.d b := by
  rcases h with ⟨h1, rfl⟩ | ⟨x, l', h1, h2, rfl, rfl⟩ | ⟨x, dv, b', h1, h2, rfl, rfl⟩
  · exact ⟨⟨⟨#[]⟩, 0, ⟨#[]⟩, []⟩, .nilsl, none, rfl, RdB.ofI (.inl ⟨rfl, rfl⟩) _⟩
  · exact ⟨⟨⟨#[]⟩, 0, ⟨#[]⟩, []⟩, .nilsl, none, rfl, RdB.ofI (.inl ⟨rfl, rfl⟩) _⟩
  · exact ⟨x, dv, b', rfl, h2⟩
theorem PkRel.grow {σ σ1 σ2 : St} {l : List UInt8} {gv : AVal} {c : Nat} (h : PkRel σ σ1 l gv c) (hg : Grow σ1 σ2) : PkRel σ σ2 l gv c := by
  rcases h with h | h | ⟨x, dv, b', h1, h2, rfl, rfl⟩
  · exact .inl h
  · exact .inr (.inl h)
  · exact .inr (.inr ⟨x, dv, b', h1, h2.keep hg.1 fun a ha _ => hg.2 a ha, rfl, rfl⟩)

/-- What Lay gives, in one. -/
def LyRel (σ' : St) (el : List UInt8) (v : AVal) (c : Nat) : Prop := (∃ b, RdB σ' v el b ∧ el.length ≤ 256 ∧ c = 0) ∨ (v = .nilsl ∧ 256 < el.length ∧ c = 3)
theorem ly_same {σ1 σ2 : St} {el : List UInt8} {v w : AVal} {c d : Nat} (h : LyRel σ1 el v c) (k : LyRel σ2 el w d) (hg : Grow σ1 σ2) : c = d ∧ ∃ l b b', RdB σ2 v l b ∧ RdB σ2 w l b' ∧ l.length ≤ 1000000 := by
  rcases h with ⟨b, h1, h2, rfl⟩ | ⟨rfl, h2, rfl⟩ <;> rcases k with ⟨b', k1, k2, rfl⟩ | ⟨rfl, k2, rfl⟩
  · exact ⟨rfl, el, b, b', h1.keep hg.1 fun a ha _ => hg.2 a ha, k1, by omega⟩
  · omega
  · omega
  · exact ⟨rfl, [], none, none, RdB.ofI (.inl ⟨rfl, rfl⟩) _, RdB.ofI (.inl ⟨rfl, rfl⟩) _, by simp⟩
theorem lay_k {σ : St} {n k : ByteArray} {s : Nat} {dv : AVal} {d : List UInt8} (hd : BytesOf dv d) (hn : n.size ≤ 1000) (hk : k.size ≤ 1000) (hdl : d.length ≤ 1000) (Q : AVal → St → Prop)
    (hQ : ∀ v c σ', LyRel σ' (entB n k s d) v c → Grow σ σ' → Q (.tup [v, i64 (c : Nat)]) σ') : ACall Tryd.prog 21 [.agg [.str n, u64 (s : Int), .str k, dv]] σ Q :=
  lay_c hd hn hk hdl Q (fun v σ' b' h _ g l => hQ v 0 σ' (.inl ⟨b', RdB.ofGS h, l, rfl⟩) g) fun σ' g l => hQ .nilsl 3 σ' (.inr ⟨rfl, l, rfl⟩) g
theorem entry_k {σ : St} {n k : ByteArray} {s : Nat} {dv : AVal} {d : List UInt8} (hs : s < 18446744073709551616) (hd : BytesOf dv d) (hn : n.size ≤ 1000) (hk : k.size ≤ 1000) (hdl : d.length ≤ 1000) (Q : AVal → St → Prop)
    (hQ : ∀ v c σ', LyRel σ' (entB n k s d) v c → Grow σ σ' → Q (.tup [v, i64 (c : Nat)]) σ') : ACall Tryd.prog 22 [.agg [.str n, u64 (s : Int), .str k, dv]] σ Q :=
  entry_c hs hd hn hk hdl Q (fun v σ' b' h _ g l => hQ v 0 σ' (.inl ⟨b', RdB.ofGS h, l, rfl⟩) g) fun σ' g l => hQ .nilsl 3 σ' (.inr ⟨rfl, l, rfl⟩) g
theorem strNeq (a b : ByteArray) : abinS .neq a b = some (.bool (!decide (a = b))) := by
  have h := strEq a b
  simp only [abinS, Option.some.injEq, AVal.bool.injEq] at h ⊢
  rw [h]

set_option maxHeartbeats 4000000 in
theorem entries_c {n k : ByteArray} {s : Nat} {dv bv : AVal} {d bl : List UInt8} (hs : s < 18446744073709551616) (hd : BytesOf dv d) (hb : BytesOf bv bl) (hn : n.size ≤ 140737488355328) (hk : k.size ≤ 140737488355328) (hdl : d.length ≤ 140737488355328) (hbl : bl.length ≤ 140737488355328) : ACall Tryd.prog 6 [.agg [.str n, u64 (s : Int), .str k, dv], bv] σ0 fun v _ => v = .bool true := by
  refine ACall.of_compF hmx (fun a w => Tryd.call6 a w) Tryd.func6 cf6 (n := 2) (by decide) rfl ?_
  obtain ⟨o1, o2⟩ := (RdB.ofI hd σ0).one
  have hdlen := (RdB.ofI hd σ0).len
  have hblen := (RdB.ofI hb σ0).len
  simp [ac6, rs6, lk_cons, fillL, storeL, o1, o2]
  obtain ⟨S, hS⟩ : ∃ S : St, S = ⟨σ0.mem.set 0 (.cells 4 [.str n, u64 (s : Int), .str k, dv]), 1⟩ := ⟨_, rfl⟩
  have nS : S.next = 1 := by rw [hS]
  have mS : S.mem.get 0 = some (.cells 4 [.str n, u64 (s : Int), .str k, dv]) := by rw [hS]; simp
  rw [← hS]
  refine awake _ fun σ1 g1 => ?_
  have m1 := (g1.2 0 (by omega)).trans mS
  have n1 := g1.1
  have hE := entB_len n k s d
  by_cases hc : 1000 < n.size ∨ 1000 < k.size ∨ 1000 < d.length ∨ 1000 < bl.length
  · by_cases d1 : 1000 < n.size
    · have d1' : (1000 : Int) < n.size := by omega
      simp [lk_cons, m1, d1, d1']
    have d1' : ¬ (1000 : Int) < n.size := by omega
    by_cases d2 : 1000 < k.size
    · have d2' : (1000 : Int) < k.size := by omega
      simp [lk_cons, m1, d1, d1', d2, d2']
    have d2' : ¬ (1000 : Int) < k.size := by omega
    by_cases d3 : 1000 < d.length
    · have d3' : (1000 : Int) < d.length := by omega
      simp [lk_cons, m1, d1, d1', d2, d2', d3, d3', ↓hdlen]
    have d3' : ¬ (1000 : Int) < d.length := by omega
    have d4 : 1000 < bl.length := by omega
    have d4' : (1000 : Int) < bl.length := by omega
    simp [lk_cons, m1, d1, d1', d2, d2', d3, d3', d4, d4', ↓hdlen, ↓hblen]
  obtain ⟨c1, c2, c3, c4⟩ : n.size ≤ 1000 ∧ k.size ≤ 1000 ∧ d.length ≤ 1000 ∧ bl.length ≤ 1000 := by omega
  have d1 : ¬ 1000 < n.size := by omega
  have d1' : ¬ (1000 : Int) < n.size := by omega
  have d2 : ¬ 1000 < k.size := by omega
  have d2' : ¬ (1000 : Int) < k.size := by omega
  have d3 : ¬ 1000 < d.length := by omega
  have d3' : ¬ (1000 : Int) < d.length := by omega
  have d4 : ¬ 1000 < bl.length := by omega
  have d4' : ¬ (1000 : Int) < bl.length := by omega
  simp [lk_cons, m1, d1, d1', d2, d2', d3, d3', d4, d4', ↓hdlen, ↓hblen]
  refine lay_k hd c1 c2 c3 _ fun v c σ2 lr2 gr2 => ?_
  have m2 := (gr2.2 0 (by omega)).trans m1
  have n2 := gr2.1
  simp [lk_cons, m2]
  refine entry_k hs hd c1 c2 c3 _ fun w c' σ3 lr3 gr3 => ?_
  obtain ⟨rfl, cl, b1, b2, hv, hw, hcl⟩ := ly_same lr2 lr3 gr3
  have hv' := hv.str
  have hw' := hw.str
  obtain ⟨o5, o6⟩ := hv.one
  obtain ⟨o7, o8⟩ := (RdB.ofI hb σ3).one
  have n3 := gr3.1
  simp [lk_cons, ↓hv', ↓hw', strNeq, fillL, repL, storeL, o5, o6, o7, o8]
  obtain ⟨S4, hS4⟩ : ∃ S4 : St, S4 = ⟨σ3.mem.set σ3.next (.cells 1 [bv, v]), σ3.next + 1⟩ := ⟨_, rfl⟩
  have mS4 : S4.mem.get σ3.next = some (.cells 1 [bv, v]) := by rw [hS4]; simp
  have nS4 : S4.next = σ3.next + 1 := by rw [hS4]
  have rv : RdB S4 v cl b1 := hv.keep (by omega) fun a ha hb => by rw [hS4]; simp [show ¬ a = σ3.next by omega]
  have hclt : ∀ x, b1 = some x → x < σ3.next := fun x hx => hv.lt hx
  rw [← hS4]
  obtain ⟨cs, hcs⟩ : ∃ cs : List AVal, cs = [bv, v] := ⟨_, rfl⟩
  refine wp_loop (EnL S4 σ3.next) 2 ?_ ?_
  · exact ⟨0, rfl, by omega, Grow.refl _, by simp [lk_cons]⟩
  · rintro mm rg σ5 ⟨i, rfl, hi2, gr, rfl⟩
    have m5 := (gr.2 σ3.next (by omega)).trans mS4
    by_cases hi' : i < 2
    · have hi'' : (i : Int) < 2 := by omega
      obtain ⟨xv, xl, xc, hx1, hx2, hx3⟩ : ∃ (xv : AVal) (xl : List UInt8) (xc : Option Nat), ([bv, v] : List AVal)[i]? = some xv ∧ RdB σ5 xv xl xc ∧ xl.length ≤ 1000000 := by
        rcases (by omega : i = 0 ∨ i = 1) with rfl | rfl
        · exact ⟨bv, bl, none, rfl, RdB.ofI hb σ5, by omega⟩
        · exact ⟨v, cl, b1, rfl, rv.keep gr.1 fun a ha hab => gr.2 a ha, hcl⟩
      have w1 : IntKind.i64.wrap ((i : Int) + 1) = ((i + 1 : Nat) : Int) := by rw [IntWalk.i64_in] <;> omega
      have m5' : σ5.mem.get σ3.next = some (.cells 1 cs) := by rw [hcs]; exact m5
      rw [← hcs] at hx1
      simp [lk_cons, hi', hi'', m5', hx1]
      refine pick_k hx2 hx3 _ fun gv code σ6 pk6 g6 => ?_
      obtain ⟨x1, v1, y1, rfl, r1⟩ := id pk6.agg
      obtain ⟨p1, p2⟩ := r1.one
      have n6 := g6.1
      have e1 : entA x1 v1 = [.str x1.n, u64 (x1.s : Int), .str x1.k, v1] := rfl
      simp [lk_cons, fillL, storeL, e1, p1, p2]
      obtain ⟨S6, hS6⟩ : ∃ S6 : St, S6 = ⟨(σ6.mem.set σ6.next (.cells 4 [.str ⟨#[]⟩, u64 0, .str ⟨#[]⟩, .nilsl])).set σ6.next (.cells 4 [.str x1.n, u64 (x1.s : Int), .str x1.k, v1]), σ6.next + 1⟩ := ⟨_, rfl⟩
      have gS6 : Grow σ6 S6 := ⟨by rw [hS6]; exact Nat.le_succ _, fun a ha => by rw [hS6]; simp [show ¬ a = σ6.next by omega]⟩
      have mS6 : S6.mem.get σ6.next = some (.cells 4 [.str x1.n, u64 (x1.s : Int), .str x1.k, v1]) := by rw [hS6]; simp
      have nS6 : S6.next = σ6.next + 1 := by rw [hS6]
      rw [← hS6]
      have g56 := g6.trans gS6
      refine rent_k (hx2.keep g56.1 fun a ha _ => g56.2 a ha) hx3 _ fun gw code2 σ7 pk7 g7 => ?_
      obtain ⟨x2, v2, y2, rfl, r2⟩ := id pk7.agg
      obtain ⟨p3, p4⟩ := r2.one
      have n7 := g7.1
      have e2 : entA x2 v2 = [.str x2.n, u64 (x2.s : Int), .str x2.k, v2] := rfl
      obtain ⟨hcc, x, v3, u3, b3, b4, he1, he2, hr1, hr2⟩ := pk_same pk6 pk7 (gS6.trans g7)
      subst hcc
      have he1 := AVal.agg.inj he1
      have he2 := AVal.agg.inj he2
      have hne : ¬ σ6.next = σ7.next := by omega
      have m7 := (g7.2 σ6.next (by omega)).trans mS6
      simp [lk_cons, fillL, storeL, e2, p3, p4, hne, m7]
      obtain ⟨S7, hS7⟩ : ∃ S7 : St, S7 = ⟨(σ7.mem.set σ7.next (.cells 4 [.str ⟨#[]⟩, u64 0, .str ⟨#[]⟩, .nilsl])).set σ7.next (.cells 4 [.str x2.n, u64 (x2.s : Int), .str x2.k, v2]), σ7.next + 1⟩ := ⟨_, rfl⟩
      have gS7 : Grow σ7 S7 := ⟨by rw [hS7]; exact Nat.le_succ _, fun a ha => by rw [hS7]; simp [show ¬ a = σ7.next by omega]⟩
      have mS7 : S7.mem.get σ7.next = some (.cells 4 [.str x2.n, u64 (x2.s : Int), .str x2.k, v2]) := by rw [hS7]; simp
      have hG : Grow S4 S7 := gr.trans (g56.trans (g7.trans gS7))
      rw [← hS7]
      rw [← e1, ← e2, he1, he2]
      refine sameent_c (hr1.keep gS7.1 fun a ha _ => gS7.2 a ha) (hr2.keep gS7.1 fun a ha _ => gS7.2 a ha) _ fun σ8 g8 => ?_
      simp [lk_cons, w1]
      exact ⟨2 - (i + 1), by omega, i + 1, rfl, by omega, hG.trans g8, rfl⟩
    · have : i = 2 := by omega
      subst this
      simp [lk_cons]
end Go.Proofs.YticefdfhcahlfaaDoor.AM

/- The tables, in a world that holds them. -/
namespace Go.Proofs.YticefdfhcahlfaaDoor.AM
open Go.RowKit
set_option linter.unusedVariables false
set_option maxRecDepth 100000
theorem gok_of {W : World} (h0 : ∀ r, r < 256 → W.cell? ⟨0, r, none⟩ = some (.int .u8 ((Go.Pinned.utf8FirstZ.getD r 0 : Nat) : Int))) (h1 : ∀ r, r < 32 → W.cell? ⟨1, r, none⟩ = some (.int .u8 ((utf8Acc.getD r 0 : Nat) : Int))) : GOk (immOf W) := by
  have gen : ∀ (g : Nat) (l : List Nat), (∀ r, r < l.length → W.cell? ⟨g, r, none⟩ = some (.int .u8 ((l.getD r 0 : Nat) : Int))) → CRel (fun _ => none) (immOf W) (l.map fun (n : Nat) => AVal.int .u8 (n : Int)) (fun j => icell (immOf W) ⟨g, j, none⟩) := fun g l h => by
    refine CRel.mk fun j v hv => ?_
    rw [List.getElem?_map, Option.map_eq_some_iff] at hv
    obtain ⟨n, hn, rfl⟩ := hv
    have hj := (List.getElem?_eq_some_iff.1 hn).1
    refine ⟨.int .u8 (n : Int), ?_, by simp [VRel]⟩
    rw [icell_immOf, h j hj, List.getD_eq_getElem?_getD, hn]; rfl
  have l0 : Go.Pinned.utf8FirstZ.length = 256 := by decide
  have l1 : utf8Acc.length = 32 := by decide
  have k0 := gen 0 Go.Pinned.utf8FirstZ fun r hr => h0 r (by omega)
  have k1 := gen 1 utf8Acc fun r hr => h1 r (by omega)
  intro g cs hg
  match g, hg with
  | 0, hg =>
    simp only [gloTab, gloRaw, Option.map_some, Option.some.injEq] at hg
    subst hg; exact k0
  | 1, hg =>
    simp only [gloTab, gloRaw, Option.map_some, Option.some.injEq] at hg
    subst hg; exact k1
  | g + 2, hg => simp [gloTab, gloRaw] at hg
end Go.Proofs.YticefdfhcahlfaaDoor.AM
