/- The more places are heard the more entries there are, never fewer, never others; all were heard. -/
import Derived.Test.YtopagbaokokjdaaCt12
import Derived.Test.YtopagbaokokjdaaOkMenderMore
namespace Go.Proofs.Ytopagbaokokjdaa.AM
open Go.RowKit
set_option maxRecDepth 100000
set_option linter.unusedVariables false
set_option linter.unusedSimpArgs false

def StrOf (d : AVal) (l : List UInt8) : Prop := d = .str ⟨l.toArray⟩
/-- The law's own map of what was heard. -/
def HMap (σ : St) (mp : Nat) (F : Nat → Option (List UInt8)) : Prop := ∃ clock ents its, σ.mem.get mp = some (.map clock ents) ∧ All2 (EItemR StrOf) ents its ∧ ∀ k, lkp its k = F k

theorem HMap.set {σ σ' : St} {mp : Nat} {F : Nat → Option (List UInt8)} {k : Nat} {l : List UInt8} (h : HMap σ mp F) (hs : ∀ clock ents, σ.mem.get mp = some (.map clock ents) → (findA (u64 (k : Int)) ents = some none → σ'.mem.get mp = some (.map (clock + 1) (ents ++ [(clock, u64 (k : Int), .str ⟨l.toArray⟩)]))) ∧
    ∀ i d, findA (u64 (k : Int)) ents = some (some (i, d)) → σ'.mem.get mp = some (.map clock (ents.modify i fun e => (e.1, u64 (k : Int), .str ⟨l.toArray⟩)))) : HMap σ' mp fun q => if q = k then some l else F q := by
  obtain ⟨clock, ents, its, h1, h2, h3⟩ := h
  obtain ⟨g1, g2⟩ := hs clock ents h1
  rcases findA_gen (k := k) h2 with ⟨f1, f2⟩ | ⟨i, d, l', f1, f2, f3, f4, f5⟩
  · refine ⟨_, _, its ++ [(k, l)], g1 f1, All2.snoc ⟨rfl, rfl⟩ h2, fun q => ?_⟩
    have := lookup_snoc (v := l) f2 q
    simp only [lkp] at h3 ⊢
    rw [this, h3]
  · refine ⟨_, _, its.modify i (fun _ => (k, l)), g2 i d f1, f4 l _ rfl, fun q => ?_⟩
    have := f5 l q
    simp only [lkp] at h3 ⊢
    rw [this, h3]

def MoreI (m hb mp mh P W A i : Nat) (was : AVal) (σ' : St) : Prop := ∃ (heard : List Bool) (its : List (Nat × List UInt8)) (wx : List (Nat × List UInt8)), MRep σ' m hb mp P W A heard 0 its ∧ HMap σ' mh (lkp its) ∧ σ'.mem.get 0 = some (.cells 3 [i64 P, i64 W, i64 A]) ∧ 0 < σ'.next ∧ mh < σ'.next ∧
  its.length ≤ 30 * i ∧ (∀ k l, lkp its k = some l → l.length = 2) ∧ ItemsOf was wx ∧ (wx = [] ∨ covP P W A heard = true ∧ ∃ n, Pre (lkp its) n ∧ wx = pre (lkp its) n)

def More1 (m hb mp mh P W A : Nat) (v : AVal) (len : Nat) (mm : Nat) (r : Regs) (σ' : St) : Prop := ∃ (i : Nat) (was : AVal), mm = len - i ∧ i ≤ len ∧ i ≤ 31 ∧ MoreI m hb mp mh P W A i was σ' ∧
  r = [(5, .ptr 0 0), (6, .ptr m 0), (8, .map mh), (9, was), (30, v), (31, i64 len), (32, i64 i)]

def More2 (m mh : Nat) (was v L : AVal) (len i : Nat) (F : Nat → Option (List UInt8)) (xs : List (Nat × List UInt8)) (σ0 : St) (mm : Nat) (r : Regs) (σ' : St) : Prop := ∃ j : Nat, mm = xs.length - j ∧ j ≤ xs.length ∧ HMap σ' mh (insF F (xs.take j)) ∧ σ0.next ≤ σ'.next ∧ (∀ a, a < σ0.next → a ≠ mh → σ'.mem.get a = σ0.mem.get a) ∧
  r = [(5, .ptr 0 0), (6, .ptr m 0), (8, .map mh), (9, was), (30, v), (31, i64 len), (32, i64 i), (58, L), (59, i64 xs.length), (60, i64 j)]

def More4 (m mh : Nat) (v L : AVal) (len i : Nat) (xs : List (Nat × List UInt8)) (σ0 : St) (mm : Nat) (r : Regs) (σ' : St) : Prop := ∃ j : Nat, mm = xs.length - j ∧ j ≤ xs.length ∧ Grow σ0 σ' ∧
  r = [(5, .ptr 0 0), (6, .ptr m 0), (8, .map mh), (14, L), (30, v), (31, i64 len), (32, i64 i), (97, L), (98, i64 xs.length), (99, i64 j)]

def HearMid (m hb mp P W A : Nat) (heard : List Bool) (its ys : List (Nat × List UInt8)) (pl : Nat) (σ3 : St) (v : AVal) (σ4 : St) : Prop :=
  ∃ c : Int, v = i64 c ∧ (c = 21 ∧ Grow σ3 σ4 ∨ c = 0 ∧ ∃ its', confP (lkp its) [] ys = false ∧ (∀ q, lkp its' q = insF (lkp its) ys q) ∧ its'.length ≤ its.length + ys.length ∧ MRep σ4 m hb mp P W A (heard.set pl true) 0 its' ∧ Keep3 m hb mp σ3 σ4)

/-- Behind a word: what is kept. -/
def MoreM (m hb mp mh P W A i : Nat) (heard : List Bool) (its : List (Nat × List UInt8)) (was v : AVal) (len : Nat) (r : Regs) (σ' : St) : Prop :=
  (r.lookup 5 = some (.ptr 0 0) ∧ r.lookup 6 = some (.ptr m 0) ∧ r.lookup 8 = some (.map mh) ∧ r.lookup 9 = some was ∧ r.lookup 30 = some v ∧ r.lookup 31 = some (i64 len) ∧ r.lookup 32 = some (i64 i)) ∧
  ∃ (heard' : List Bool) (its' : List (Nat × List UInt8)), MRep σ' m hb mp P W A heard' 0 its' ∧ HMap σ' mh (lkp its') ∧ σ'.mem.get 0 = some (.cells 3 [i64 P, i64 W, i64 A]) ∧ 0 < σ'.next ∧ mh < σ'.next ∧ its'.length ≤ 30 * (i + 1) ∧ (∀ k l, lkp its' k = some l → l.length = 2) ∧
    (∀ p, heard.getD p false = true → heard'.getD p false = true) ∧ (∀ j l, lkp its j = some l → lkp its' j = some l)

theorem slice_items {v : AVal} {xs : List (Nat × List UInt8)} (h : ItemsOf v xs) (k : Nat) (hk : k ≤ xs.length) : ∃ v', (∀ ρ, evalV ρ (.slice 2 v none (some (i64 (k : Int))) none) = some (v', ρ)) ∧ ItemsOf v' (xs.take k) := by
  rcases h with ⟨rfl, rfl⟩ | ⟨cs, kk, t, rfl, rfl, hc⟩
  · have : k = 0 := by simpa using hk
    subst this
    exact ⟨.nilsl, fun ρ => by simp [evalV, asliceSl, bnd], .inl ⟨rfl, rfl⟩⟩
  · refine ⟨.isl (cs.take (k * 2)) k (t && k == xs.length), fun ρ => by simp [evalV, asliceSl, bnd, hk], .inr ⟨_, _, _, rfl, by rw [List.length_take]; omega, hc.take k⟩⟩

def ResMid (P W A : Nat) (heard : List Bool) (its : List (Nat × List UInt8)) (σ5 : St) (v : AVal) (σ' : St) : Prop :=
  σ' = σ5 ∧ ∃ (c : Int) (lv : AVal) (nx : List (Nat × List UInt8)), v = .tup [lv, i64 c] ∧ ItemsOf lv nx ∧ (c = 23 ∧ covP P W A heard = false ∧ nx = [] ∨ c = 0 ∧ covP P W A heard = true ∧ ∃ n, n ≤ its.length ∧ Pre (lkp its) n ∧ nx = pre (lkp its) n)

theorem more_c (n : Nat) (hn : n < 65536) (v : AVal) (ws : List Wd) (hv : WordsOf v ws) (hwl : ws.length ≤ 9223372036854775807) (hml : (0 : Nat) ≠ 1) : ACall Try.prog 6 [.int .u16 n, v] σ0 fun v _ => v = .bool true := by
  refine ACall.of_compF hmx (fun a w => Try.call6 a w) Try.func6 cf6 (n := 2) (by decide) rfl ?_
  have l1 := hv.len
  simp [ac6, rs6, lk_cons]
  refine awake _ _ ?_
  simp [lk_cons]
  refine quorum_c n hn _ _ ?_
  have hq := q_ok n
  generalize qP n = P at *
  generalize qW n = W at *
  generalize qA n = A at *
  simp [lk_cons, fillL, storeL]
  refine mnew_c P W A hq _ _ fun m hb mp σ1 hr hn1 hk1 hge => ?_
  simp at hge hn1
  have h0 : σ1.mem.get 0 = some (.cells 3 [i64 P, i64 W, i64 A]) := by rw [hk1 0 (by simp)]; simp
  simp [lk_cons, ↓l1]
  have hml := hr.lt
  refine wp_loop (More1 m hb mp σ1.next P W A v ws.length) ws.length ?_ ?_
  · refine ⟨0, .nilsl, rfl, by omega, by omega, ⟨List.replicate P false, [], [], hr.frame (fun a ha => ?_) (by simp), ⟨0, [], [], by simp, trivial, fun _ => rfl⟩, ?_, by simp, by simp, by simp, fun k l h => (by cases h), .inl ⟨rfl, rfl⟩, .inl rfl⟩, rfl⟩
    · have := hr.lt
      simp [show ¬ a = σ1.next by omega]
    · simp [show ¬ 0 = σ1.next by omega, h0]
  · rintro mm r σ2 ⟨i, was, rfl, hi, hi31, ⟨heard, its, wx, hr, hh, hq0, hnx, hmh, hil, hl2, hwas, hwx⟩, rfl⟩
    have hmlt := hr.lt
    by_cases hlt : i < ws.length
    · obtain ⟨w, hw⟩ : ∃ w, ws[i]? = some w := ⟨_, List.getElem?_eq_getElem hlt⟩
      rcases hv with ⟨rfl, rfl⟩ | ⟨cs, kk, t, rfl, hkk, hwc⟩
      · simp at hw
      obtain ⟨L, hL, hok, e1⟩ := hwc.get hw
      have hlt' : i < kk := by omega
      have L1 := hL.one
      have Ll := hL.len
      have z1 : ¬ 0 = σ2.next := by omega
      by_cases h30 : 30 < i
      · simp [lk_cons, ← hkk, hlt', e1, L1.1, L1.2, storeL, h30, show (30 : Int) < i by omega]
      simp [lk_cons, ← hkk, hlt', e1, L1.1, L1.2, storeL, h30, show ¬ (30 : Int) < i by omega, ↓Ll]
      by_cases hx30 : 30 < w.xs.length
      · simp [lk_cons, hx30, show (30 : Int) < w.xs.length by omega]
      simp [lk_cons, hx30, show ¬ (30 : Int) < w.xs.length by omega, storeL, L1.1, L1.2, z1, hq0]
      have hxl : (w.xs.map fewI).length ≤ 30 := by simp; omega
      refine few_c P W A hq w.place w.sure false hL (by omega) hok.bs hok.ns hok.sure _ _ (fun h => by cases h) fun _ L' hL' => ?_
      have L2 := hL'.one
      obtain ⟨pl, hpl⟩ : ∃ pl, plN w.place P = pl := ⟨_, rfl⟩
      have hplP : pl < P := hpl ▸ Nat.mod_lt _ (by omega)
      rw [hpl]
      obtain ⟨ys, hys⟩ : ∃ ys, w.xs.map fewI = ys := ⟨_, rfl⟩
      have hy2 : ∀ y ∈ ys, y.2.length = 2 := by
        rw [← hys]
        intro y hy
        obtain ⟨x, _, rfl⟩ := List.mem_map.1 hy
        rfl
      rw [hys] at hL' hxl
      simp [lk_cons, storeL, L2.1, L2.2]
      have hgr : ∀ (C : List AVal) (a : Nat), a < σ2.next → (σ2.mem.set σ2.next (.cells 4 C)).get a = σ2.mem.get a := fun C a ha => by simp [show ¬ a = σ2.next by omega]
      obtain ⟨σ3, hσ3⟩ : ∃ σ3 : St, σ3 = ⟨((((σ2.mem.set σ2.next (.cells 4 [i64 0, u64 0, .nilsl, .bool false])).set σ2.next (.cells 4 [i64 w.place, u64 (w.sure : Int), L, .bool w.raw])).set σ2.next (.cells 4 [i64 w.place, u64 (w.sure : Int), L, .bool false])).set σ2.next (.cells 4 [i64 (pl : Int), u64 ((w.sure : Int) % 4), L', .bool false])).set σ2.next (.cells 4 [i64 (pl : Int), u64 0, L', .bool false]), σ2.next + 1⟩ := ⟨_, rfl⟩
      have s1 : ∀ a, a < σ2.next → σ3.mem.get a = σ2.mem.get a := fun a ha => by rw [hσ3]; simp [show ¬ a = σ2.next by omega]
      have s2 : σ3.mem.get σ2.next = some (.cells 4 [i64 (pl : Int), u64 0, L', .bool false]) := by rw [hσ3]; simp
      have s3 : σ3.next = σ2.next + 1 := by rw [hσ3]
      have hr3 : MRep σ3 m hb mp P W A heard 0 its := hr.frame (fun a ha => s1 a (by omega)) (by omega)
      refine ACall.mono (Q := HearMid m hb mp P W A heard its ys pl σ3) ?_ ?_
      · have hh := hear_c (s := 0) hr3 (by omega) pl hL' (by omega) (fun y hy => by rw [hy2 y hy]; omega) (Q := HearMid m hb mp P W A heard its ys pl σ3)
          (fun hbad => by omega) (fun _ _ _ _ σ4 hg => ⟨21, rfl, .inl ⟨rfl, hg⟩⟩) (fun p σ4 its' hp _ _ hc hi2 hlen hr4 hk => ⟨0, rfl, .inr ⟨rfl, its', hc, hi2, hlen, (Int.ofNat.inj hp.symm ▸ hr4), hk⟩⟩)
        rw [hσ3] at hh
        rw [hσ3]
        exact hh
      · rintro _ σ4 ⟨c, rfl, hc⟩
        simp [lk_cons]
        refine condK_mid (MoreM m hb mp σ1.next P W A i heard its was (.isl cs kk t) kk) ?_ ?_
        · rcases hc with ⟨rfl, hg⟩ | ⟨rfl, its', hc, hi2, hlen, hr4, hk4⟩
          · simp
            refine ⟨⟨rfl, rfl, rfl, rfl, rfl, rfl, rfl⟩, heard, its, hr3.frame (fun a ha => hg.2 a (by omega)) hg.1, ?_, ?_, by have := hg.1; omega, by have := hg.1; omega, by omega, hl2, fun _ h => h, fun _ _ h => h⟩
            · obtain ⟨clock, ents, its2, g1, g2⟩ := hh
              exact ⟨clock, ents, its2, by rw [hg.2 _ (by omega), s1 _ hmh]; exact g1, g2⟩
            · rw [hg.2 0 (by omega), s1 0 hnx]; exact hq0
          · have hLl := hL'.len
            have e5 : σ4.mem.get σ2.next = some (.cells 4 [i64 (pl : Int), u64 0, L', .bool false]) := by
              rw [hk4.2 _ (by omega) (by omega) (by omega) (by omega)]; exact s2
            simp [lk_cons, e5, ↓hLl]
            have h4 := hk4.1
            refine wp_loop (More2 m σ1.next was (.isl cs kk t) L' kk i (lkp its) ys σ4) ys.length ?_ ?_
            · refine ⟨0, rfl, by omega, ?_, Nat.le_refl _, fun _ _ _ => rfl, rfl⟩
              obtain ⟨clock, ents, its2, g1, g2⟩ := hh
              exact ⟨clock, ents, its2, by rw [hk4.2 _ (by omega) (by omega) (by omega) (by omega), s1 _ hmh]; exact g1, g2⟩
            · rintro mm r σ5 ⟨j, rfl, hj, hmap, hn5, hk5, rfl⟩
              by_cases hjl : j < ys.length
              · obtain ⟨x, hx⟩ : ∃ x, ys[j]? = some x := ⟨_, List.getElem?_eq_getElem hjl⟩
                obtain ⟨k, hk⟩ : ∃ k, j + 1 = k := ⟨_, rfl⟩
                have hwj : IntKind.i64.wrap ((j : Int) + 1) = (k : Int) := by rw [IntWalk.i64_in] <;> omega
                have htk : ys.take k = ys.take j ++ [x] := by rw [← hk, List.take_add_one, hx]; rfl
                rcases hL' with ⟨rfl, rfl⟩ | ⟨ds, ky, ty, rfl, hky, hic⟩
                · simp at hx
                obtain ⟨d, hd, e6⟩ := hic.get hx
                have d1 := hd.one
                have ds1 := hd.str
                have hjl' : j < ky := by omega
                have e7 : ¬ σ1.next = σ5.next := by omega
                obtain ⟨clock, ents, its2, g1, g2, g3⟩ := hmap
                rcases findA_gen (k := x.1) g2 with ⟨f1, f2⟩ | ⟨ix, d0, l0, f1, f2, f3, f4, f5⟩
                · simp [lk_cons, ← hky, hjl', e6, d1.1, d1.2, storeL, ↓ds1, e7, g1, keyIs, shapeOk, kShape, f1, hwj]
                  refine ⟨ky - k, by omega, k, by omega, by omega, ⟨clock + 1, ents ++ [(clock, u64 (x.1 : Int), .str ⟨x.2.toArray⟩)], its2 ++ [x], by simp, All2.snoc (a := (clock, u64 (x.1 : Int), .str ⟨x.2.toArray⟩)) (b := x) ⟨rfl, rfl⟩ g2, fun q => ?_⟩, Nat.le_succ_of_le hn5, fun a ha hne => ?_, by simp [hky]⟩
                  · rw [htk, insF_snoc]
                    have := lookup_snoc (v := x.2) f2 q
                    simp only [lkp] at g3 ⊢
                    rw [show its2 ++ [x] = its2 ++ [(x.1, x.2)] from rfl, this, g3]
                  · simp [hne, show ¬ a = σ5.next by omega]; exact hk5 a ha hne
                · simp [lk_cons, ← hky, hjl', e6, d1.1, d1.2, storeL, ↓ds1, e7, g1, keyIs, shapeOk, kShape, f1, hwj]
                  refine ⟨ky - k, by omega, k, by omega, by omega, ⟨clock, ents.modify ix fun e => (e.1, u64 (x.1 : Int), .str ⟨x.2.toArray⟩), its2.modify ix (fun _ => (x.1, x.2)), by simp, f4 x.2 _ rfl, fun q => ?_⟩, Nat.le_succ_of_le hn5, fun a ha hne => ?_, by simp [hky]⟩
                  · rw [htk, insF_snoc]
                    have := f5 x.2 q
                    simp only [lkp] at g3 ⊢
                    rw [this, g3]
                  · simp [hne, show ¬ a = σ5.next by omega]; exact hk5 a ha hne
              · have : j = ys.length := by omega
                subst this
                rw [List.take_length] at hmap
                simp [lk_cons]
                refine ⟨⟨rfl, rfl, rfl, rfl, rfl, rfl, rfl⟩, heard.set pl true, its', hr4.frame (fun a ha => hk5 a (by have := hr4.lt; omega) (by omega)) hn5, ?_, ?_, by omega, by omega, by omega, fun k l hl => ?_, fun p h => set_mono heard pl p h, fun j l hl => ?_⟩
                · obtain ⟨clock, ents, its2, g1, g2, g3⟩ := hmap
                  exact ⟨clock, ents, its2, g1, g2, fun q => by rw [g3 q, hi2 q]⟩
                · rw [hk5 0 (by omega) (by omega), hk4.2 0 (by omega) (by omega) (by omega) (by omega), s1 0 hnx]; exact hq0
                · rw [hi2 k] at hl
                  rcases (insF_get k).2 l hl with h1 | h1
                  · exact hl2 k l h1
                  · exact hy2 (k, l) h1
                · rw [hi2 j]; exact insF_old hc hl
        · rintro r σ5 ⟨⟨r5, r6, r8, r9, r30, r31, r32⟩, heard', its', hr5, hh5, hq5, hnx5, hmh5, hil5, hl25, hm1, hm2⟩
          simp [lk_cons, r5, r6, r8, r9, r30, r31, r32]
          have hbl5 : ∀ k l, lkp its' k = some l → l.length ≤ 140737488355328 := fun k l hl => by rw [hl25 k l hl]; omega
          refine ACall.mono (Q := ResMid P W A heard' its' σ5) (result_c hr5 hq (by omega) hbl5 (Q := ResMid P W A heard' its' σ5) (fun hcv => ⟨rfl, 23, .nilsl, [], rfl, .inl ⟨rfl, rfl⟩, .inl ⟨rfl, hcv, rfl⟩⟩)
            (fun hcv n v hn1 hn2 hn3 hiv => ⟨fun h => by omega, fun _ => ⟨rfl, 0, v, _, rfl, hiv, .inr ⟨rfl, hcv, n, hn3, ⟨hn2, hn1⟩, rfl⟩⟩⟩)) ?_
          rintro _ _ ⟨rfl, c, lv, nx, rfl, hlv, hcase⟩
          obtain ⟨b, hb⟩ : ∃ b, covP P W A heard' = b := ⟨_, rfl⟩
          have hcb : decide (c = 0) = b := by
            rcases hcase with ⟨rfl, h2, _⟩ | ⟨rfl, h2, _⟩
            · rw [← hb, h2]; rfl
            · rw [← hb, h2]; rfl
          have hlvl := hlv.len
          have hwl := hwas.len
          have hwn : wx.length ≤ nx.length ∧ nx.take wx.length = wx := by
            rcases hwx with rfl | ⟨c1, n1, c2, rfl⟩
            · simp
            · rcases hcase with ⟨_, h2, _⟩ | ⟨_, h2, n2, _, h3, rfl⟩
              · rw [covP_mono hm1 c1] at h2; cases h2
              · have := pre_take c2 h3 hm2
                rw [pre_len, pre_len]; exact this
          obtain ⟨v', sl1, sl2⟩ := slice_items hlv wx.length hwn.1
          rw [hwn.2] at sl2
          simp [lk_cons, hcb, r5, r6, r8, r9, r30, r31, r32]
          refine ready_c hr5 hq _ ?_
          rw [hb]
          simp [lk_cons, ↓hlvl, ↓hwl, show ¬ nx.length < wx.length by omega, optM, ↓sl1]
          have hnl : nx.length ≤ its'.length := by
            rcases hcase with ⟨_, _, rfl⟩ | ⟨_, _, n2, h3, _, rfl⟩
            · simp
            · rw [pre_len]; exact h3
          refine same_c sl2 hwas (by omega) _ _ ?_
          simp [lk_cons, ↓hlvl]
          have hin : ∀ x ∈ nx, lkp its' x.1 = some x.2 := by
            intro x hx
            rcases hcase with ⟨_, _, rfl⟩ | ⟨_, _, n2, _, h3, rfl⟩
            · simp at hx
            · obtain ⟨j, hj, rfl⟩ := List.mem_map.1 hx
              cases hf : lkp its' j with
              | none => exact absurd hf (h3.2 j (List.mem_range.1 hj))
              | some l => simp [hf]
          have hwx' : nx = [] ∨ covP P W A heard' = true ∧ ∃ n, Pre (lkp its') n ∧ nx = pre (lkp its') n := by
            rcases hcase with ⟨_, _, h⟩ | ⟨_, h2, n2, _, h3, h4⟩
            · exact .inl h
            · exact .inr ⟨h2, n2, h3, h4⟩
          clear hcase
          rename_i σ5
          refine wp_loop (More4 m σ1.next (.isl cs kk t) lv kk i nx σ5) nx.length ?_ ?_
          · exact ⟨0, rfl, by omega, ⟨Nat.le_refl _, fun _ _ => rfl⟩, rfl⟩
          · rintro mm r σ6 ⟨j, rfl, hj, hg6, rfl⟩
            by_cases hjl : j < nx.length
            · obtain ⟨x, hx⟩ : ∃ x, nx[j]? = some x := ⟨_, List.getElem?_eq_getElem hjl⟩
              obtain ⟨k, hk⟩ : ∃ k, j + 1 = k := ⟨_, rfl⟩
              have hwj : IntKind.i64.wrap ((j : Int) + 1) = (k : Int) := by rw [IntWalk.i64_in] <;> omega
              have hix := hin x (List.mem_of_getElem? hx)
              rcases hlv with ⟨rfl, rfl⟩ | ⟨ds, ky, ty, rfl, hky, hic⟩
              · simp at hx
              obtain ⟨d, hd, e6⟩ := hic.get hx
              have d1 := hd.one
              have ds1 := hd.str
              have hjl' : j < ky := by omega
              obtain ⟨clock, ents, its2, g1, g2, g3⟩ := hh5
              have e7 : ¬ σ1.next = σ6.next := by have := hg6.1; omega
              have g1' : σ6.mem.get σ1.next = _ := (hg6.2 _ hmh5).trans g1
              rcases findA_gen (k := x.1) g2 with ⟨f1, f2⟩ | ⟨ix, d0, l0, f1, f2, f3, f4, f5⟩
              · have := g3 x.1
                simp only [lkp] at this hix
                rw [f2, hix] at this; cases this
              · have := g3 x.1
                simp only [lkp] at this hix
                rw [f2, hix] at this; cases this
                have f3' : d0 = .str ⟨x.2.toArray⟩ := f3
                subst f3'
                simp [lk_cons, ← hky, hjl', e6, d1.1, d1.2, storeL, ↓ds1, e7, g1', keyIs, shapeOk, kShape, f1, hwj, str_ne]
                refine ⟨ky - k, by omega, k, by omega, by omega, ⟨by have := hg6.1; simp; omega, fun a ha => ?_⟩, by simp [hky]⟩
                have := hg6.1
                simp [show ¬ a = σ6.next by omega]; exact hg6.2 a ha
            · obtain ⟨k, hk⟩ : ∃ k, i + 1 = k := ⟨_, rfl⟩
              have hwi : IntKind.i64.wrap ((i : Int) + 1) = (k : Int) := by rw [IntWalk.i64_in] <;> omega
              simp [lk_cons, hjl, hwi]
              have hg1 := hg6.1
              refine ⟨kk - k, by omega, k, lv, by omega, by omega, by omega, ⟨heard', its', nx, hr5.frame (fun a ha => hg6.2 a (by have := hr5.lt; omega)) hg1, ?_, ?_, by omega, by omega, by omega, hl25, hlv, hwx'⟩, by simp [hkk]⟩
              · obtain ⟨clock, ents, its2, g1, g2, g3⟩ := hh5
                exact ⟨clock, ents, its2, (hg6.2 _ hmh5).trans g1, g2, g3⟩
              · rw [hg6.2 0 hnx5]; exact hq5
    · simp [lk_cons, hlt]

open OkMenderMore in
theorem lawMenderMore (a0 : AVal) (o0 : ok24 [a0]) (a1 : AVal) (o1 : ok25 [a1]) : ACall Try.prog 6 [a0, a1] σ0 fun v _ => v = .bool true := by
  obtain ⟨n, h0, w0⟩ := o0
  cases h0
  obtain ⟨n, rfl, hn⟩ := wf_u16 w0
  obtain ⟨ws, h1, h2⟩ := wordsArg (v := a1) o1
  exact more_c n hn a1 ws h1 h2 (by decide)
end Go.Proofs.Ytopagbaokokjdaa.AM
