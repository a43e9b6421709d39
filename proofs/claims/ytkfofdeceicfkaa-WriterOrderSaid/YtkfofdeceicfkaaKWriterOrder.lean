/- Entries are confirmed in order, each once, with its bytes, just when its first Ack places and all ahead are there. -/
import Derived.Test.YtkfofdeceicfkaaCt11
import Derived.Test.YtkfofdeceicfkaaOkWriterOrder
namespace Go.Proofs.Ytkfofdeceicfkaa.AM
open Go.RowKit
set_option maxRecDepth 100000
set_option linter.unusedVariables false
set_option linter.unusedSimpArgs false

theorem condK_mid {P : Program} {a b : ACode} {Q : Post} {r : Regs} {σ : St} {o : Option AVal} (M : Regs → St → Prop) (h : condK P a b (fun e r σ => e = .normal ∧ M r σ) r σ o) (hq : ∀ r σ, M r σ → Q .normal r σ) : condK P a b Q r σ o := by
  cases o with
  | none => exact h.elim
  | some v =>
    cases v <;> first | exact h.elim | skip
    rename_i t
    cases t
    · exact wp_mono' h (fun e r σ ⟨he, hm⟩ => he ▸ hq r σ hm)
    · exact wp_mono' h (fun e r σ ⟨he, hm⟩ => he ▸ hq r σ hm)

def hasP (h N P i : Nat) : List AVal := (List.range N).map fun j => if j < i then .sl (h + 1 + j) 0 P P true else .nilsl
theorem hasP_zero (h N P : Nat) : hasP h N P 0 = List.replicate N .nilsl := by
  refine List.ext_getElem? fun j => ?_
  simp only [hasP, List.getElem?_map, List.getElem?_replicate]
  by_cases hj : j < N <;> simp [hj]
theorem hasP_end (h N P : Nat) : hasP h N P N = hasL h N P := by
  refine List.ext_getElem? fun j => ?_
  simp only [hasP, hasL, List.getElem?_map]
  by_cases hj : j < N <;> simp [hj]
theorem hasP_len (h N P i : Nat) : (hasP h N P i).length = N := by simp [hasP]
theorem hasP_set (h N P i : Nat) (hi : i < N) : (hasP h N P i).set i (.sl (h + 1 + i) 0 P P true) = hasP h N P (i + 1) := by
  refine List.ext_getElem? fun j => ?_
  rw [List.getElem?_set]
  simp only [hasP, List.getElem?_map, List.length_map, List.length_range]
  by_cases hij : i = j
  · subst hij; simp [hi]
  · by_cases hj : j < N
    · by_cases hj2 : j < i
      · simp [hij, hj, hj2, show j < i + 1 by omega]
      · simp [hij, hj, hj2, show ¬ j < i + 1 by omega]
    · simp [hij, hj]

theorem OI.frame {σ σ' : St} {w P W A nx N h : Nat} {ls : List (List UInt8)} {hs : List (List Bool)} (ho : OI σ w P W A nx N h ls hs) (hh : 0 < h) (hm : ∀ a, a < h → σ'.mem.get a = σ.mem.get a) (hn : σ.next ≤ σ'.next) : OI σ' w P W A nx N h ls hs := by
  obtain ⟨fp, wv, ents, h1, h2, h3, h4, h5⟩ := ho
  exact ⟨fp, wv, ents, h1.frame (fun a ha => hm a (h2 a ha).2) hn, h2, by omega, by rw [hm 0 hh]; exact h4, h5⟩
theorem OI.q {σ : St} {w P W A nx N h : Nat} {ls : List (List UInt8)} {hs : List (List Bool)} (ho : OI σ w P W A nx N h ls hs) : σ.mem.get 0 = some (.cells 3 [i64 P, i64 W, i64 A]) := by
  obtain ⟨fp, wv, ents, h1, h2, h3, h4, h5⟩ := ho; exact h4
theorem OI.lt {σ : St} {w P W A nx N h : Nat} {ls : List (List UInt8)} {hs : List (List Bool)} (ho : OI σ w P W A nx N h ls hs) : h + N < σ.next ∧ nx ≤ N := by
  obtain ⟨fp, wv, ents, h1, h2, h3, h4, h5, _⟩ := ho; exact ⟨h3, by omega⟩
theorem Has.frame {m m' : Mem} {h N P : Nat} {hs : List (List Bool)} (hh : Has m h N P hs) (hm : ∀ a, h ≤ a → a ≤ h + N → m'.get a = m.get a) : Has m' h N P hs := by
  refine ⟨by rw [hm h (Nat.le_refl _) (by omega)]; exact hh.1, hh.2.1, fun i bs hi => ?_⟩
  have hi2 : i < N := by rw [← hh.2.1]; exact (List.getElem?_eq_some_iff.1 hi).1
  have := hh.2.2 i bs hi
  exact ⟨by rw [hm _ (by omega) (by omega)]; exact this.1, this.2⟩
theorem Has.set {m m' : Mem} {h N P : Nat} {hs : List (List Bool)} (hh : Has m h N P hs) {e p : Nat} {b : Bool} {bs : List Bool} (he : hs[e]? = some bs) (hm : ∀ a, a ≠ h + 1 + e → m'.get a = m.get a) (hm2 : m'.get (h + 1 + e) = some (.cells 1 (bv (bs.set p b)))) : Has m' h N P (hs.modify e (·.set p b)) := by
  refine ⟨by rw [hm h (by omega)]; exact hh.1, by rw [List.length_modify]; exact hh.2.1, fun i x hi => ?_⟩
  rw [List.getElem?_modify] at hi
  by_cases hij : e = i
  · subst hij
    rw [he] at hi
    simp at hi
    subst hi
    exact ⟨hm2, by rw [List.length_set]; exact (hh.2.2 e bs he).2⟩
  · simp [hij] at hi
    have := hh.2.2 i x hi
    exact ⟨by rw [hm _ (by omega)]; exact this.1, this.2⟩

theorem items_take : ∀ {its : List WEnt} {i : Nat} {x : WEnt}, its[i]? = some x → ((itemsC its).drop (i * 2)).take 2 = [u64 x.n, x.d]
  | [], j, e, h => by simp at h
  | x :: es, 0, e, h => by simp at h; subst h; simp [itemsC]
  | x :: es, j + 1, e, h => by
    have := items_take (its := es) (i := j) (x := e) (by simpa using h)
    have e1 : (j + 1) * 2 = j * 2 + 1 + 1 := by omega
    simpa [itemsC, e1] using this

theorem hear1_eq (P W nx : Nat) {hs : List (List Bool)} {e p : Nat} {bs : List Bool} (he : hs[e]? = some bs) (hne : nx ≤ e) (hp : p < bs.length) : hear1 P W hs nx e p = hs.modify e (·.set p (bs.getD p false || decide (p ∈ setP P W e))) := by
  by_cases hps : p ∈ setP P W e
  · rw [hear1, if_pos ⟨hne, hps⟩]; simp [hps]
  · rw [hear1, if_neg (fun h => hps h.2)]
    refine List.ext_getElem? fun i => ?_
    rw [List.getElem?_modify]
    by_cases hij : e = i
    · subst hij
      rw [he]
      simp only [hps, decide_false, Bool.or_false, if_true, Option.map_eq_map, Option.map_some]
      congr 1
      rw [List.getD_eq_getElem?_getD, List.getElem?_eq_getElem hp]
      simp
    · cases hs[i]? <;> simp [hij]

def Ord1 (w P W A N : Nat) (dv ov : AVal) (ls : List (List UInt8)) (m : Nat) (r : Regs) (σ' : St) : Prop := ∃ (i : Nat) (ents : List WEnt), m = N - i ∧ i ≤ N ∧ ents.length = i ∧ (∀ e ∈ ents, Fresh P e) ∧ DatOf ls 0 ents ∧ MI σ' w 0 P W A 0 ents false ∧
  r = [(1, dv), (2, ov), (7, .ptr 0 0), (8, .ptr w 0), (39, dv), (40, i64 N), (41, i64 i)]
def Ord2 (w P N h : Nat) (dv ov : AVal) (σ0 : St) (m : Nat) (r : Regs) (σ' : St) : Prop := ∃ i : Nat, m = N - i ∧ i ≤ N ∧ σ'.next = h + 1 + i ∧ (∀ a, a < h → σ'.mem.get a = σ0.mem.get a) ∧ σ'.mem.get h = some (.cells 1 (hasP h N P i)) ∧ (∀ j, j < i → σ'.mem.get (h + 1 + j) = some (.cells 1 (bv (List.replicate P false)))) ∧
  r = [(1, dv), (2, ov), (7, .ptr 0 0), (8, .ptr w 0), (12, .sl h 0 N N true), (56, i64 N), (57, i64 i)]
def Ord3 (w P W A N h M : Nat) (dv ov : AVal) (ls : List (List UInt8)) (m : Nat) (r : Regs) (σ' : St) : Prop := ∃ (i nx : Nat) (hs : List (List Bool)), m = M - i ∧ i ≤ M ∧ OI σ' w P W A nx N h ls hs ∧ Has σ'.mem h N P hs ∧
  r = [(1, dv), (7, .ptr 0 0), (8, .ptr w 0), (12, .sl h 0 N N true), (14, i64 nx), (67, ov), (68, i64 M), (69, i64 i)]
def Ord4 (w P W A N h M oi nx k : Nat) (dv ov v : AVal) (ls : List (List UInt8)) (hs : List (List Bool)) (m : Nat) (r : Regs) (σ' : St) : Prop := ∃ i : Nat, m = k - i ∧ i ≤ k ∧ OI σ' w P W A (nx + k) N h ls hs ∧ Has σ'.mem h N P hs ∧
  r = [(1, dv), (7, .ptr 0 0), (8, .ptr w 0), (12, .sl h 0 N N true), (14, i64 (nx + i : Nat)), (67, ov), (68, i64 M), (69, i64 oi), (117, v), (118, i64 k), (119, i64 i)]

theorem All2.get {α β : Type} {R : α → β → Prop} : ∀ {xs : List α} {ys : List β} {i : Nat} {x : α}, All2 R xs ys → xs[i]? = some x → ∃ y, ys[i]? = some y ∧ R x y
  | [], _, _, _, _, h => by simp at h
  | x :: xs, y :: ys, 0, a, h, hx => by simp at hx; subst hx; exact ⟨y, rfl, h.1⟩
  | x :: xs, y :: ys, i + 1, a, h, hx => by
    obtain ⟨b, hb, hr⟩ := All2.get (i := i) h.2 (by simpa using hx)
    exact ⟨b, by simpa using hb, hr⟩
  | _ :: _, [], _, _, h, _ => h.elim

theorem order_c (n : Nat) (hn : n < 65536) (dv ov : AVal) (ds : List AVal) (ls : List (List UInt8)) (os : List Nat) (N M : Nat) (hN : ds.length = N) (hM : os.length = M) (hdv : ds = [] ∧ dv = .nilsl ∨ dv = .isl ds N false) (hal : All2 (fun d l => BytesOf d l ∧ l.length ≤ 140737488351232) ds ls)
    (hov : os = [] ∧ ov = .nilsl ∨ ov = .isl (os.map fun (o : Nat) => .int .u16 (o : Int)) M false) (hos : ∀ o ∈ os, o < 65536) (hdl : N ≤ 9223372036854775807) (hol : M ≤ 9223372036854775807) : ACall Try.prog 3 [.int .u16 n, dv, ov] σ0 fun v _ => v = .bool true := by
  refine ACall.of_compF hmx (fun a w => Try.call3 a w) Try.func3 cf3 (n := 3) (by decide) rfl ?_
  have hdl1 : ∀ ρ, evalV ρ (.len 1 dv) = some (i64 N, ρ) := by
    intro ρ
    rcases hdv with ⟨h1, rfl⟩ | rfl
    · simp [h1, ← hN]
    · simp
  have hol1 : ∀ ρ, evalV ρ (.len 1 ov) = some (i64 M, ρ) := by
    intro ρ
    rcases hov with ⟨h1, rfl⟩ | rfl
    · simp [h1, ← hM]
    · simp
  have hlsN : ls.length = N := by rw [← hal.len]; exact hN
  simp [ac3, rs3, lk_cons]
  refine awake _ _ ?_
  simp [lk_cons, ↓hdl1]
  by_cases hd30 : 30 < N
  · have hd30' : (30 : Int) < N := by omega
    simp [lk_cons, hd30, hd30']
  have hd30' : ¬ (30 : Int) < N := by omega
  simp [lk_cons, ↓hol1, hd30, hd30']
  by_cases ho400 : 400 < M
  · have ho400' : (400 : Int) < M := by omega
    simp [lk_cons, ho400, ho400']
  have ho400' : ¬ (400 : Int) < M := by omega
  simp [lk_cons, ho400, ho400']
  refine quorum_c n hn _ _ ?_
  have hq := q_ok n
  generalize qP n = P at *
  generalize qW n = W at *
  generalize qA n = A at *
  simp [lk_cons, fillL, storeL]
  refine new_m hq (q := 0) (by simp) (by simp) _ fun w σ1 h0 => ?_
  simp [lk_cons, ↓hdl1]
  refine wp_loop (Ord1 w P W A N dv ov ls) N ?_ ?_
  · exact ⟨0, [], rfl, by omega, rfl, fun e he => by simp at he, fun j e he => by simp at he, h0, rfl⟩
  · rintro m r σ2 ⟨i, ents, rfl, hi, hel, hfr, hda, hmi, rfl⟩
    by_cases hlt : i < N
    · obtain ⟨d, hd⟩ : ∃ d, ds[i]? = some d := ⟨_, List.getElem?_eq_getElem (by omega)⟩
      obtain ⟨l, hl, hb, hb2⟩ := hal.get hd
      obtain ⟨k1, hk1⟩ : ∃ k, i + 1 = k := ⟨_, rfl⟩
      have hw : IntKind.i64.wrap ((i : Int) + 1) = (k1 : Int) := by rw [IntWalk.i64_in] <;> omega
      rcases hdv with ⟨h1, rfl⟩ | rfl
      · subst h1; simp at hd
      · have hbl := hb.len
        simp [lk_cons, hlt, hd, ↓hbl]
        by_cases h256 : 256 < l.length
        · have h256' : (256 : Int) < l.length := by omega
          simp [lk_cons, h256, h256']
        · have h256' : ¬ (256 : Int) < l.length := by omega
          simp [lk_cons, h256, h256']
          obtain ⟨dc, hdo, hdc⟩ := hb.data (by omega) σ2
          refine add_m hmi (by omega) (by omega) hdo (fun t => (hdc t).dv (by omega)) _ ?_ ?_ ?_ ?_
          · intro hc; cases hc
          · intro _ hc; omega
          · intro _ _ hc; omega
          · intro σ3 s t _ _ _ hm3
            simp [lk_cons, hw]
            refine ⟨N - k1, by omega, k1, _, rfl, by omega, by simp [hel, hk1], ?_, ?_, hm3, rfl⟩
            · intro e he
              rcases List.mem_append.1 he with he | he
              · exact hfr e he
              · simp at he; subst he; rfl
            · intro j e he
              by_cases hj : j < ents.length
              · rw [List.getElem?_append_left hj] at he; exact hda j e he
              · rw [List.getElem?_append_right (by omega)] at he
                have hj0 : j - ents.length = 0 := by
                  rcases Nat.eq_zero_or_pos (j - ents.length) with h0 | h0
                  · exact h0
                  · rw [List.getElem?_eq_none (by simp; omega)] at he; cases he
                rw [hj0] at he
                simp at he; subst he
                exact ⟨l, by rw [← hl]; congr 1; omega, hdc t⟩
    · have : i = N := by omega
      subst this
      have d1 : (i : Int) * 24 ≤ 140737488355328 := by omega
      have d2 : (i : Int) ≤ 9223372036854775807 := by omega
      have hrep : repL i [AVal.nilsl] = List.replicate i .nilsl := by
        induction i with
        | zero => rfl
        | succ i ih => simp [repL, ih, List.replicate_succ]
      simp [lk_cons, ↓hdl1, d1, d2, hdl, hrep]
      obtain ⟨fp, wv, hr, hf, hq0, hlt0, hdv0⟩ := hmi
      obtain ⟨h, hh⟩ : ∃ h, σ2.next = h := ⟨_, rfl⟩
      rw [hh] at hlt0
      have hfh : ∀ a, fp a → a < h := fun a ha => by have := hr.lt a ha; omega
      rw [hh]
      refine wp_loop (Ord2 w P i h dv ov σ2) i ?_ ?_
      · exact ⟨0, rfl, by omega, by simp, fun a ha => by simp [show ¬ a = h by omega], by simp [hasP_zero], fun j hj => by omega, rfl⟩
      · rintro m r σ3 ⟨j, rfl, hj, x1, x2, x3, x4, rfl⟩
        by_cases hlt2 : j < i
        · obtain ⟨k1, hk1⟩ : ∃ k, j + 1 = k := ⟨_, rfl⟩
          have hw : IntKind.i64.wrap ((j : Int) + 1) = (k1 : Int) := by rw [IntWalk.i64_in] <;> omega
          have z0 : σ3.mem.get 0 = _ := (x2 0 (by omega)).trans hq0
          have hrep2 : repL P [AVal.bool false] = bv (List.replicate P false) := by
            rw [bv_rep]
            clear z0 x3 x4 hq0
            generalize P = p
            induction p with
            | zero => rfl
            | succ p ih => simp only [repL, List.replicate_succ, List.flatten_cons] at ih ⊢; rw [ih]; rfl
          have d3 : (P : Int) ≤ 140737488355328 ∧ (P : Int) ≤ 9223372036854775807 := by omega
          have f1 : ¬ σ3.next = h := by omega
          have f2 : ¬ h = σ3.next := by omega
          have hset := hasP_set h i P j hlt2
          have hl := hasP_len h i P j
          have f3 : σ3.next = h + 1 + j := x1
          simp [lk_cons, hlt2, z0, hrep2, d3.1, d3.2, x3, f2, storeL, hl, hw, show j + 1 ≤ i by omega]
          rw [f3]
          refine ⟨i - k1, by omega, k1, rfl, by omega, by simp; omega, fun a ha => ?_, ?_, fun x hx => ?_, rfl⟩
          · simp [show ¬ a = h by omega, show ¬ a = h + 1 + j by omega]; exact x2 a ha
          · simp [hset, hk1]
          · by_cases hxj : x = j
            · subst hxj; simp [show ¬ h + 1 + x = h by omega]
            · have := x4 x (by omega)
              simp [show ¬ h + 1 + x = h by omega, show ¬ h + 1 + x = h + 1 + j by omega, hxj]; exact this
        · have : j = i := by omega
          subst this
          simp [lk_cons, ↓hol1]
          have hho : OI σ3 w P W A 0 j h ls (List.replicate j (List.replicate P false)) := by
            refine ⟨fp, wv, ents, hr.frame (fun a ha => x2 a (hfh a ha)) (by omega), fun a ha => ⟨hf a ha, hfh a ha⟩, by omega, (x2 0 (by omega)).trans hq0, by omega, ?_, hda, fun e es he => ?_⟩
            · refine List.ext_getElem? fun x => ?_
              rw [List.drop_zero, List.getElem?_map, List.getElem?_replicate]
              by_cases hx : x < j
              · obtain ⟨e, he⟩ : ∃ e, ents[x]? = some e := ⟨_, List.getElem?_eq_getElem (by omega)⟩
                have := hfr e (List.mem_of_getElem? he)
                rw [he, if_pos hx]; simp [this]; exact this
              · rw [List.getElem?_eq_none (by omega), if_neg hx]; rfl
            · have hfe := hfr e (by simp [he])
              have := fresh_cnt hfe (setP P W e.n)
              simp [enoughE, this]; omega
          have hhh : Has σ3.mem h j P (List.replicate j (List.replicate P false)) := by
            refine ⟨by rw [x3, hasP_end], by simp, fun x bs hx => ?_⟩
            rw [List.getElem?_replicate] at hx
            split at hx
            · rename_i hxj
              cases hx
              exact ⟨x4 x hxj, by simp⟩
            · cases hx
          have hh0 : 0 < h := by omega
          clear x1 x2 x3 x4 hr hf hq0 hdv0 hfh hfr hda hel
          refine wp_loop (Ord3 w P W A j h M dv ov ls) M ?_ ?_
          · exact ⟨0, 0, _, rfl, by omega, hho, hhh, rfl⟩
          · clear hho hhh
            rintro m r σ4 ⟨oi, nx, hs, rfl, hoi, hho, hhh, rfl⟩
            by_cases hlt3 : oi < M
            · obtain ⟨o, ho⟩ : ∃ o, os[oi]? = some o := ⟨_, List.getElem?_eq_getElem (by omega)⟩
              have ho2 := hos o (List.mem_of_getElem? ho)
              rcases hov with ⟨h1, rfl⟩ | rfl
              · subst h1; simp at ho
              · have hol2 : (os.map fun (o : Nat) => AVal.int .u16 (o : Int))[oi]? = some (.int .u16 o) := by rw [List.getElem?_map, ho]; rfl
                obtain ⟨ol, hol3⟩ : ∃ ol, (os.map fun (o : Nat) => AVal.int .u16 (o : Int)) = ol := ⟨_, rfl⟩
                rw [hol3] at hol2 hol1
                rw [hol3]
                by_cases hj0 : j = 0
                · subst hj0
                  simp [lk_cons, hlt3, hol2, ↓hdl1]
                  obtain ⟨fp, wv, ents, h1, h2, h3, h4, h5, h6⟩ := hho
                  refine sure_c h1 _ ?_
                  have w1 : IntKind.u64.wrap (nx : Int) = nx := by rw [IntWalk.u64_in]; omega
                  simp [lk_cons, w1]
                  refine count_c h1 (by omega) _ ?_
                  have w2 : IntKind.u64.wrap 0 = 0 := by rw [IntWalk.u64_in]; omega
                  simp [lk_cons, ↓hdl1, h5, w2]
                · have t1 : (o : Int).tmod 7 = ((o % 7 : Nat) : Int) := (Int.ofNat_tmod o 7).symm
                  have t2 : (o : Int).tdiv 7 = ((o / 7 : Nat) : Int) := (Int.ofNat_tdiv o 7).symm
                  have t3 : ((o % 7 : Nat) : Int).tmod (P : Int) = ((o % 7 % P : Nat) : Int) := (Int.ofNat_tmod _ _).symm
                  have t4 : ((o / 7 : Nat) : Int).tmod (j : Int) = ((o / 7 % j : Nat) : Int) := (Int.ofNat_tmod _ _).symm
                  have m1 : o % 7 < 7 := Nat.mod_lt _ (by omega)
                  have m2 : o / 7 < 65536 := by omega
                  have hpP : o % 7 % P < P := Nat.mod_lt _ (by omega)
                  have heN : o / 7 % j < j := Nat.mod_lt _ (by omega)
                  generalize o % 7 % P = p at *
                  generalize o / 7 % j = e at *
                  generalize o % 7 = y1 at *
                  generalize o / 7 = y2 at *
                  have w1 : IntKind.i64.wrap (y1 : Int) = y1 := by rw [IntWalk.i64_in]; omega
                  have w2 : IntKind.i64.wrap (y2 : Int) = y2 := by rw [IntWalk.i64_in]; omega
                  have w3 : IntKind.u16.wrap (y2 : Int) = y2 := by rw [IntWalk.u16_in]; omega
                  have w4 : IntKind.u64.wrap (e : Int) = e := by rw [IntWalk.u64_in]; omega
                  have hq0 := hho.q
                  have hP0 : ¬ P = 0 := by omega
                  simp [lk_cons, hlt3, hol2, ↓hdl1, hj0, t1, t2, t3, t4, w1, w2, w3, w4, hq0, hP0]
                  refine ACall.mono (ack_mid hq (by omega) hho hhh p e heN) fun v σ5 hmid => ?_
                  simp [lk_cons]
                  obtain ⟨k, its, hho2, hhh2, hkl, hv, hits⟩ := hmid
                  refine condK_mid (fun r σ => (r.lookup 1 = some dv ∧ r.lookup 7 = some (.ptr 0 0) ∧ r.lookup 8 = some (.ptr w 0) ∧ r.lookup 12 = some (.sl h 0 j j true) ∧ r.lookup 14 = some (i64 nx) ∧ r.lookup 19 = some v ∧ r.lookup 67 = some (.isl ol M false) ∧ r.lookup 68 = some (i64 M) ∧ r.lookup 69 = some (i64 oi)) ∧
                    OI σ w P W A (nx + k) j h ls (hear1 P W hs nx e p) ∧ Has σ.mem h j P (hear1 P W hs nx e p)) ?_ ?_
                  · by_cases hne : nx ≤ e
                    · obtain ⟨bs, hbs⟩ : ∃ bs, hs[e]? = some bs := ⟨_, List.getElem?_eq_getElem (by rw [hhh2.2.1]; exact heN)⟩
                      have g1 := hhh2.1
                      have g2 := hasL_get (h := h) (P := P) heN
                      obtain ⟨g3, g4⟩ := hhh2.2.2 e bs hbs
                      have g5 := bv_get bs p (by omega)
                      have g6 := hear1_eq P W nx hbs hne (by omega : p < bs.length)
                      have hq5 := hho2.q
                      have hne' : (nx : Int) ≤ e := by omega
                      have hpl : p + 1 ≤ bs.length := by omega
                      have hlt5 := hho2.lt
                      have fin : ∀ b, b = (bs.getD p false || decide (p ∈ setP P W e)) → OI ⟨σ5.mem.set (h + 1 + e) (.cells 1 (bv (bs.set p b))), σ5.next⟩ w P W A (nx + k) j h ls (hear1 P W hs nx e p) ∧ Has (σ5.mem.set (h + 1 + e) (.cells 1 (bv (bs.set p b)))) h j P (hear1 P W hs nx e p) := by
                        intro b hb
                        refine ⟨hho2.frame hh0 (fun a ha => by simp [show ¬ a = h + 1 + e by omega]) (Nat.le_refl _), ?_⟩
                        rw [g6, ← hb]
                        exact hhh2.set hbs (fun a ha => by simp [ha]) (by simp)
                      cases hbp : bs.getD p false with
                      | true =>
                        rw [hbp] at g5 fin
                        simp [lk_cons, hne, hne', heN, hpP, g1, g2, g3, g5, hpl, storeL, bv_set]
                        exact fin true rfl
                      | false =>
                        rw [hbp] at g5 fin
                        simp [lk_cons, hne, hne', heN, hpP, g1, g2, g3, g5, hq5, w4]
                        refine rset P W A e hq (by omega) _ _ ?_
                        simp [lk_cons, heN, hpP, g1, g2, g3, g5]
                        have hc := in_c (setP P W e) false p (by rw [setP_len]; omega)
                        rw [setP_len] at hc
                        refine hc _ _ ?_
                        have hmem : decide (∃ y ∈ setP P W e, (y : Int) = (p : Int)) = decide (p ∈ setP P W e) := by
                          simp only [decide_eq_decide]
                          exact ⟨fun ⟨y, hy, e⟩ => by have : y = p := by omega
                                                      subst this; exact hy, fun h => ⟨p, h, rfl⟩⟩
                        rw [hmem]
                        obtain ⟨b, hb⟩ : ∃ b, decide (p ∈ setP P W e) = b := ⟨_, rfl⟩
                        rw [hb] at fin
                        rw [hb]
                        simp [lk_cons, heN, hpP, g1, g2, g3, g5, hpl, storeL, bv_set]
                        exact fin b (by simp)
                    · have hne' : ¬ (nx : Int) ≤ e := by omega
                      have g6 : hear1 P W hs nx e p = hs := by rw [hear1, if_neg (fun h => hne h.1)]
                      simp [lk_cons, hne, hne']
                      rw [g6] at hho2 ⊢
                      exact ⟨hho2, hhh2⟩
                  · rintro r σ6 ⟨⟨r1, r7, r8, r12, r14, r19, r67, r68, r69⟩, hho3, hhh3⟩
                    obtain ⟨hs1, hhs1⟩ : ∃ x, hear1 P W hs nx e p = x := ⟨_, rfl⟩
                    rw [hhs1] at hho3 hhh3 hits
                    clear hho2 hhh2 hho hhh
                    have hvl : ∀ ρ, evalV ρ (.len 1 v) = some (i64 k, ρ) := by
                      intro ρ
                      rcases hv with ⟨h1, rfl⟩ | ⟨t, rfl⟩
                      · simp [h1]
                      · simp
                    simp [lk_cons, r1, r7, r8, r12, r14, r19, r67, r68, r69, ↓hvl]
                    refine wp_loop (Ord4 w P W A j h M oi nx k dv (.isl ol M false) v ls hs1) k ?_ ?_
                    · exact ⟨0, rfl, by omega, hho3, hhh3, rfl⟩
                    · clear hho3 hhh3
                      rintro m r σ7 ⟨i, rfl, hi, hho3, hhh3, rfl⟩
                      have hlt7 := hho3.lt
                      have hq7 := hho3.q
                      by_cases hik : i < k
                      · obtain ⟨x, hx⟩ : ∃ x, its[i]? = some x := ⟨_, List.getElem?_eq_getElem (by omega)⟩
                        obtain ⟨b1, b2, b3, l, b4, b5⟩ := hits i x hx
                        obtain ⟨z, hz⟩ : ∃ z, nx + i = z := ⟨_, rfl⟩
                        rw [hz] at b1 b2 b4
                        rw [hz]
                        have hzj : z < j := by omega
                        obtain ⟨d, hd⟩ : ∃ d, ds[z]? = some d := ⟨_, List.getElem?_eq_getElem (by omega)⟩
                        obtain ⟨l', b6, b7, _⟩ := hal.get hd
                        have : l' = l := by rw [b4] at b6; cases b6; rfl
                        subst this
                        have g1 := hhh3.1
                        have g2 := hasL_get (h := h) (P := P) hzj
                        obtain ⟨g3, g4⟩ := hhh3.2.2 z x.bs b2
                        have ld := items_take hx
                        rw [b1] at ld
                        rcases hv with ⟨h1, rfl⟩ | ⟨t, rfl⟩
                        · omega
                        rcases hdv with ⟨h1, rfl⟩ | rfl
                        · subst h1; simp at hd
                        have s1 := b5.str
                        have s2 := b7.str
                        have o1 := b5.one
                        have sn : abinS .neq ⟨l'.toArray⟩ ⟨l'.toArray⟩ = some (.bool false) := by simp [abinS]
                        obtain ⟨k1, hk1⟩ : ∃ k, i + 1 = k := ⟨_, rfl⟩
                        obtain ⟨z1, hz1⟩ : ∃ k, z + 1 = k := ⟨_, rfl⟩
                        have u1 : IntKind.i64.wrap ((i : Int) + 1) = (k1 : Int) := by rw [IntWalk.i64_in] <;> omega
                        have u2 : IntKind.i64.wrap ((z : Int) + 1) = (z1 : Int) := by rw [IntWalk.i64_in] <;> omega
                        have u3 : IntKind.u64.wrap (z : Int) = (z : Int) := by rw [IntWalk.u64_in]; omega
                        have e1 : ¬ h = σ7.next := by omega
                        have e2 : ¬ h + 1 + z = σ7.next := by omega
                        have e3 : ¬ 0 = σ7.next := by omega
                        simp [lk_cons, hik, ld, o1.1, o1.2, storeL, u3, ↓s1, ↓s2, sn, hzj, hd, e1, e2, e3, hq7, g1, g2, Ne.symm e3]
                        refine renough P W A z (h + 1 + z) x.bs hq (by omega) (by omega) _ ?_ ?_ _ ?_
                        · simp [e2, g3]
                        · simp; omega
                        have hen : A ≤ cnt x.bs (setP P W z) := by simpa [enoughE, b1] using b3
                        simp [lk_cons, hen, u1, u2]
                        refine ⟨k - k1, by omega, k1, rfl, by omega, hho3.frame hh0 (fun a ha => by simp [show ¬ a = σ7.next by omega]) (by simp), hhh3.frame (fun a ha hb => by simp [show ¬ a = σ7.next by omega]), ?_⟩
                        rw [← hz1, ← hk1, ← hz]; rfl
                      · have : i = k := by omega
                        subst this
                        obtain ⟨z, hz⟩ : ∃ z, nx + i = z := ⟨_, rfl⟩
                        rw [hz] at hho3 hlt7
                        rw [hz]
                        obtain ⟨k1, hk1⟩ : ∃ k, oi + 1 = k := ⟨_, rfl⟩
                        have u1 : IntKind.i64.wrap ((oi : Int) + 1) = (k1 : Int) := by rw [IntWalk.i64_in] <;> omega
                        have u3 : IntKind.u64.wrap (z : Int) = (z : Int) := by rw [IntWalk.u64_in]; omega
                        by_cases hzj : z < j
                        · obtain ⟨fp, wv, ents, h1, h2, h3, h4, h5, h6, h7, h8⟩ := hho3
                          cases ents with
                          | nil => simp at h5; omega
                          | cons e0 es =>
                            have b3 := h8 e0 es rfl
                            have b1 := h1.num 0 e0 rfl
                            have b2 : hs1[z]? = some e0.bs := by
                              have := congrArg (fun l => l[0]?) h6
                              simpa using this.symm
                            have g1 := hhh3.1
                            have g2 := hasL_get (h := h) (P := P) hzj
                            obtain ⟨g3, g4⟩ := hhh3.2.2 z e0.bs b2
                            simp [lk_cons, ↓hdl1, hzj, hq7, u3, g1, g2]
                            refine renough P W A z (h + 1 + z) e0.bs hq (by omega) (by omega) _ g3 (by omega) _ ?_
                            have hen : ¬ A ≤ cnt e0.bs (setP P W z) := by
                              simp only [enoughE, b1, Nat.add_zero, decide_eq_false_iff_not] at b3
                              exact b3
                            simp [lk_cons, hen, u1]
                            exact ⟨M - k1, by omega, k1, z, hs1, rfl, by omega, ⟨fp, wv, e0 :: es, h1, h2, h3, h4, h5, h6, h7, h8⟩, hhh3, rfl⟩
                        · simp [lk_cons, ↓hdl1, hzj, u1]
                          exact ⟨M - k1, by omega, k1, z, hs1, rfl, by omega, hho3, hhh3, rfl⟩
            · have : oi = M := by omega
              subst this
              simp [lk_cons]
              obtain ⟨fp, wv, ents, h1, h2, h3, h4, h5, h6⟩ := hho
              refine sure_c h1 _ ?_
              have w1 : IntKind.u64.wrap (nx : Int) = nx := by rw [IntWalk.u64_in]; omega
              have w2 : IntKind.u64.wrap (j : Int) = j := by rw [IntWalk.u64_in]; omega
              simp [lk_cons, w1]
              refine count_c h1 (by omega) _ ?_
              simp [lk_cons, ↓hdl1, w2, h5]

theorem list_arg {R : AVal → List UInt8 → Prop} {ok : List AVal → Prop} (hok : ∀ d, ok [d] → ∃ l, R d l) : ∀ xs : List (List AVal), (∀ x ∈ xs, x.length = 1 ∧ ok x) → ∃ (ds : List AVal) (ls : List (List UInt8)), xs.flatten = ds ∧ ds.length = xs.length ∧ All2 R ds ls
  | [], _ => ⟨[], [], rfl, rfl, trivial⟩
  | x :: xs, h => by
    obtain ⟨ds, ls, h1, h2, h3⟩ := list_arg hok xs (fun y hy => h y (by simp [hy]))
    obtain ⟨hx, hox⟩ := h x (by simp)
    obtain ⟨d, rfl⟩ := List.length_eq_one_iff.1 hx
    obtain ⟨l, hl⟩ := hok d hox
    exact ⟨d :: ds, l :: ls, by simp [h1], by simp [h2], hl, h3⟩
theorem nats_arg {ok : List AVal → Prop} (hok : ∀ x, ok x → ∃ n, x = [.int .u16 n] ∧ (Lit.int .u16 n).wf = true) : ∀ xs : List (List AVal), (∀ x ∈ xs, x.length = 1 ∧ ok x) → ∃ os : List Nat, xs.flatten = (os.map fun (o : Nat) => AVal.int .u16 (o : Int)) ∧ os.length = xs.length ∧ ∀ o ∈ os, o < 65536
  | [], _ => ⟨[], rfl, rfl, fun o ho => by simp at ho⟩
  | x :: xs, h => by
    obtain ⟨os, h1, h2, h3⟩ := nats_arg hok xs (fun y hy => h y (by simp [hy]))
    obtain ⟨n, rfl, hw⟩ := hok x (h x (by simp)).2
    obtain ⟨k, rfl, hk⟩ := wf_u16 hw
    refine ⟨k :: os, by simp [h1], by simp [h2], fun o ho => ?_⟩
    rcases List.mem_cons.1 ho with rfl | ho
    · exact hk
    · exact h3 o ho

open OkWriterOrder in
theorem lawWriterOrder (a0 : AVal) (o0 : ok22 [a0]) (a1 : AVal) (o1 : ok23 [a1]) (a2 : AVal) (o2 : ok24 [a2]) : ACall Try.prog 3 [a0, a1, a2] σ0 fun v _ => v = .bool true := by
  obtain ⟨n, h0, w0⟩ := o0
  cases h0
  obtain ⟨n, rfl, hn⟩ := wf_u16 w0
  have h1 : ∃ (ds : List AVal) (ls : List (List UInt8)), (ds = [] ∧ a1 = .nilsl ∨ a1 = .isl ds ds.length false) ∧ All2 (fun d l => BytesOf d l ∧ l.length ≤ 140737488351232) ds ls ∧ ds.length ≤ 9223372036854775807 := by
    rcases o1 with h | ⟨xs, h, hx, hl, _⟩
    · cases h; exact ⟨[], [], .inl ⟨rfl, rfl⟩, trivial, by simp⟩
    · cases h
      obtain ⟨ds, ls, e1, e2, e3⟩ := list_arg (R := fun d l => BytesOf d l ∧ l.length ≤ 140737488351232) (fun d hd => bytes_arg (fun x hx => hx) hd) xs hx
      exact ⟨ds, ls, .inr (by rw [e1, e2]), e3, by omega⟩
  have h2 : ∃ os : List Nat, (os = [] ∧ a2 = .nilsl ∨ a2 = .isl (os.map fun (o : Nat) => .int .u16 (o : Int)) os.length false) ∧ (∀ o ∈ os, o < 65536) ∧ os.length ≤ 9223372036854775807 := by
    rcases o2 with h | ⟨xs, h, hx, hl, _⟩
    · cases h; exact ⟨[], .inl ⟨rfl, rfl⟩, fun o ho => by simp at ho, by simp⟩
    · cases h
      obtain ⟨os, e1, e2, e3⟩ := nats_arg (fun x hx => hx) xs hx
      exact ⟨os, .inr (by rw [e1, e2]), e3, by omega⟩
  obtain ⟨ds, ls, g1, g2, g3⟩ := h1
  obtain ⟨os, g4, g5, g6⟩ := h2
  exact order_c n hn a1 a2 ds ls os _ _ rfl rfl g1 g2 g4 g5 g3 g6
end Go.Proofs.Ytkfofdeceicfkaa.AM
