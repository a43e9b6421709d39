/- What the functions of this chapter give: their contracts over the machine. -/
import Derived.Test.YticefdfhcahlfaaDoorCtxxx121
import Derived.Test.YticefdfhcahlfaaDoorCtx121
import Derived.Test.YticefdfhcahlfaaDoorAm3
namespace Go.Proofs.YticefdfhcahlfaaDoor.AM
open Go.RowKit
set_option maxRecDepth 100000
set_option linter.unusedVariables false
set_option linter.unusedSimpArgs false
def CtJ (x : NoteV) (iv bv cv : AVal) (op : Bool) (S : St) (mm : Nat) (rg : Regs) (σ' : St) : Prop := ∃ i, mm = x.items.length - i ∧ i ≤ x.items.length ∧ Grow S σ' ∧ (∀ y ∈ x.items.take i, y.2.length ≤ 100) ∧ rg = [(1, bv), (2, .bool op), (4, cv), (5, .ptr 0 0), (8, .ptr 1 0), (54, iv), (55, i64 x.items.length), (56, i64 i)]
set_option maxHeartbeats 4000000 in
theorem cut_c {lv sv nv d : AVal} {l : List UInt8} {t : List Ld} {s : List SbV} {cs : List AVal} {T : Tbl} {ep last : Nat} (hl : Rd 3 σ0 lv t.length (ldc t)) (hs : Rd 5 σ0 sv s.length cs) (hI : SbI cs s) (hn : Rd 5 σ0 nv T.length (rws rwL T)) (htb : ∀ x ∈ t, In64 x.f0 ∧ In64 x.f2) (hsb : ∀ x ∈ s, (In64 x.ml ∧ In64 x.me) ∧ x.kind < 256 ∧ HArg x.h ∧ ∀ y ∈ x.h, ∀ z ∈ y.f1, In64 z.f0 ∧ In64 z.f1) (hT : ∀ x ∈ T, x.2.1 < 18446744073709551616 ∧ x.2.2.1 < 18446744073709551616 ∧ x.2.2.2.1 < 18446744073709551616 ∧ x.2.2.2.2 < 18446744073709551616) (hbe : ep < 18446744073709551616 ∧ last < 18446744073709551616) (hd : BytesOf d l) (hdl : l.length ≤ 9223372036854775806) (op : Bool)
    {x : NoteV} {dv iv : AVal} (ok : x.Ok) (he : ∀ y ∈ x.items, y.1 < 18446744073709551616) (hxd : BytesOf dv x.data) (hxi : ItemsOf iv x.items) (cut : Int) (hcut : -9223372036854775808 ≤ cut ∧ cut ≤ 9223372036854775807) :
    ACall Tryd.prog 9 [.agg [u64 (ep : Int), u64 (last : Int), lv, sv, nv], d, .bool op, .agg (noteC x dv iv), i64 cut] σ0 fun v _ => v = .bool true := by
  refine ACall.of_compF hmx (fun a w => Tryd.call9 a w) Tryd.func9 cf9 (n := 5) (by decide) rfl ?_
  obtain ⟨o1, o2⟩ := hl.one
  obtain ⟨o3, o4⟩ := hs.one
  obtain ⟨o5, o6⟩ := hn.one
  obtain ⟨p1, p2⟩ := hxd.one
  obtain ⟨p3, p4⟩ := hxi.one
  have hdlen := (RdB.ofI hxd σ0).len
  have hilen := hxi.len
  obtain ⟨n1, n2, n3, n4, n5, n6, n7, hnums⟩ := nums7 ok.nums
  have hC : noteC x dv iv = [.int .u8 (x.kind : Int), .int .u8 (x.topic : Int), .bool x.yes, .int .i64 x.code, u64 (n1 : Int), u64 (n2 : Int), u64 (n3 : Int), u64 (n4 : Int), u64 (n5 : Int), u64 (n6 : Int), u64 (n7 : Int), .str x.name, .str x.key, dv, iv] := by rw [noteC, hnums]; rfl
  rw [hC]
  simp only [ac9, rs9]
  simp [lk_cons, o1, o2, o3, o4, o5, o6, p1, p2, p3, p4]
  obtain ⟨S, hS⟩ : ∃ S : St, S = ⟨(σ0.mem.set 0 (.cells 5 [u64 (ep : Int), u64 (last : Int), lv, sv, nv])).set 1 (.cells 15 (noteC x dv iv)), 2⟩ := ⟨_, rfl⟩
  have nS : S.next = 2 := by rw [hS]
  have gS : Grow σ0 S := ⟨by rw [nS]; exact Nat.zero_le _, fun a ha => absurd ha (Nat.not_lt_zero _)⟩
  have mS0 : S.mem.get 0 = some (.cells 5 [u64 (ep : Int), u64 (last : Int), lv, sv, nv]) := by rw [hS]; simp
  have mS1 : S.mem.get 1 = some (.cells 15 [.int .u8 (x.kind : Int), .int .u8 (x.topic : Int), .bool x.yes, .int .i64 x.code, u64 (n1 : Int), u64 (n2 : Int), u64 (n3 : Int), u64 (n4 : Int), u64 (n5 : Int), u64 (n6 : Int), u64 (n7 : Int), .str x.name, .str x.key, dv, iv]) := by rw [hS, ← hC]; simp
  rw [hC] at hS
  rw [show (({ l := [] } : Mem).set 0 (.cells 5 [u64 (ep : Int), u64 (last : Int), lv, sv, nv])) = (σ0.mem.set 0 (.cells 5 [u64 (ep : Int), u64 (last : Int), lv, sv, nv])) from rfl, ← hS]
  refine awake _ fun σ1 g1 => ?_
  have G1 := gS.trans g1
  have m0 := (g1.2 0 (by omega)).trans mS0
  have m1 := (g1.2 1 (by omega)).trans mS1
  have n1' := g1.1
  simp [lk_cons, m0]
  refine long_c (hl.frame G1.1 G1.2) (hs.frame G1.1 G1.2) hI (hn.frame G1.1 G1.2) _ ?_ fun hno => ?_
  · simp [lk_cons]
  obtain ⟨b1, b2, b3, b4, b5⟩ := hno
  have hT2 : ∀ x ∈ T, LnOk x := fun x hx => ⟨by have := b5 x hx; omega, hT x hx⟩
  by_cases d1 : 100 < x.name.size
  · have d1' : (100 : Int) < x.name.size := by omega
    simp [lk_cons, m1, d1, d1']
  have d1' : ¬ (100 : Int) < x.name.size := by omega
  by_cases d2 : 100 < x.key.size
  · have d2' : (100 : Int) < x.key.size := by omega
    simp [lk_cons, m1, d1, d1', d2, d2']
  have d2' : ¬ (100 : Int) < x.key.size := by omega
  by_cases d3 : 100 < x.data.length
  · have d3' : (100 : Int) < x.data.length := by omega
    simp [lk_cons, m1, d1, d1', d2, d2', ↓hdlen, d3, d3']
  have d3' : ¬ (100 : Int) < x.data.length := by omega
  by_cases d4 : 10 < x.items.length
  · have d4' : (10 : Int) < x.items.length := by omega
    simp [lk_cons, m1, d1, d1', d2, d2', ↓hdlen, d3, d3', ↓hilen, d4, d4']
  have d4' : ¬ (10 : Int) < x.items.length := by omega
  simp [lk_cons, m1, d1, d1', d2, d2', ↓hdlen, d3, d3', ↓hilen, d4, d4']
  refine wp_loop (CtJ x iv d (i64 cut) op σ1) x.items.length ?_ ?_
  · exact ⟨0, rfl, Nat.zero_le _, Grow.refl _, by simp, by simp [lk_cons]⟩
  rintro mm rg σ2 ⟨i, rfl, hi2, g2, hall, rfl⟩
  by_cases hlt : i < x.items.length
  · obtain ⟨y, hy⟩ : ∃ y, x.items[i]? = some y := ⟨_, List.getElem?_eq_getElem hlt⟩
    obtain ⟨d', hyd, p, i1, i2⟩ := hxi.at hy
    obtain ⟨r1, r2⟩ := (RdB.ofI hyd σ2).one
    have hylen := (RdB.ofI hyd σ2).len
    have w1 : IntKind.i64.wrap ((i : Int) + 1) = ((i + 1 : Nat) : Int) := by rw [IntWalk.i64_in] <;> omega
    have htk : x.items.take (i + 1) = x.items.take i ++ [y] := by rw [List.take_add_one, hy]; rfl
    by_cases hc : 100 < y.2.length
    · have hc' : (100 : Int) < y.2.length := by omega
      simp [lk_cons, hlt, ↓i1, ↓i2, fillL, storeL, r1, r2, ↓hylen, hc, hc']
    · have hc' : ¬ (100 : Int) < y.2.length := by omega
      simp [lk_cons, hlt, ↓i1, ↓i2, fillL, storeL, r1, r2, ↓hylen, hc, hc', w1]
      refine ⟨x.items.length - (i + 1), by omega, i + 1, rfl, by omega, g2.trans ⟨by simp, fun a ha => by simp [show ¬ a = σ2.next by omega]⟩, fun z hz => ?_, rfl⟩
      rw [htk] at hz
      rcases List.mem_append.1 hz with hz | hz
      · exact hall z hz
      · simp at hz; subst hz; omega
  have : i = x.items.length := by omega
  rw [this, List.take_length] at hall
  subst this
  have M0 := (g2.2 0 (by omega)).trans m0
  have M1 := (g2.2 1 (by omega)).trans m1
  have N2 := g2.1
  obtain ⟨c, hc1, hc2⟩ := and255 x.code
  obtain ⟨X, hX⟩ : ∃ X : NoteV, X = { x with code := c } := ⟨_, rfl⟩
  have okX : X.Ok := by rw [hX]; exact ⟨ok.kind, ok.topic, ok.nums, ok.lt⟩
  have hCX : noteC X dv iv = [.int .u8 (x.kind : Int), .int .u8 (x.topic : Int), .bool x.yes, .int .i64 c, u64 (n1 : Int), u64 (n2 : Int), u64 (n3 : Int), u64 (n4 : Int), u64 (n5 : Int), u64 (n6 : Int), u64 (n7 : Int), .str x.name, .str x.key, dv, iv] := by rw [hX, noteC]; simp only []; rw [hnums]; rfl
  simp [lk_cons, M0, M1, hc1, storeL]
  obtain ⟨S3, hS3⟩ : ∃ S : St, S = ⟨σ2.mem.set 1 (.cells 15 (noteC X dv iv)), σ2.next⟩ := ⟨_, rfl⟩
  have nS3 : S3.next = σ2.next := by rw [hS3]
  have mS30 : S3.mem.get 0 = some (.cells 5 [u64 (ep : Int), u64 (last : Int), lv, sv, nv]) := by rw [hS3]; simp; exact M0
  have mS31 : S3.mem.get 1 = some (.cells 15 (noteC X dv iv)) := by rw [hS3]; simp
  rw [hCX] at hS3
  rw [← hS3]
  have gz : ∀ a, a < σ0.next → S3.mem.get a = σ0.mem.get a := fun a ha => absurd ha (Nat.not_lt_zero _)
  refine made_x (t := t) ⟨o1, o2⟩ (hs.frame (Nat.zero_le _) gz) hI (hn.frame (Nat.zero_le _) gz) (by omega) (by omega) (fun x hx => ⟨(hsb x hx).1, (hsb x hx).2.1, (hsb x hx).2.2.1⟩) hT2 hbe.2 hd hdl op _ fun last2 t2 s2 T2 lv2 sv2 nv2 bs bn σ4 mt g4 => ?_
  obtain ⟨rT, rtp, rN, rS, rH⟩ := mt.right
  have hts := mt.toMT.ts hbe.1
  obtain ⟨k1, k2⟩ := hts.rl.one
  obtain ⟨k3, k4⟩ := hts.rs.one
  obtain ⟨k5, k6⟩ := hts.rn.one
  obtain ⟨f1, f2, f3, f4⟩ := ts_few hts
  simp [lk_cons]
  refine encode_c f1 hts.si hts.rn f2 f3 f4 _ fun v e σ5 e5 g5 => ?_
  have hv1 := e5.str.1
  have m51 := ((g4.trans g5).2 1 (by omega)).trans mS31
  have nlX : (noteC X dv iv).length = 15 := by rw [hCX]; rfl
  have tX : (noteC X dv iv).take 15 = noteC X dv iv := List.take_of_length_le (by omega)
  simp [lk_cons, hv1, m51, nlX, tX]
  have cX : 0 ≤ X.code ∧ X.code ≤ 255 := by rw [hX]; exact hc2
  have sX : X.Sm := by rw [hX]; exact ⟨by show x.name.size ≤ 800; omega, by show x.key.size ≤ 800; omega, by show x.data.length ≤ 1000; omega, by show x.items.length ≤ 10; omega, hall⟩
  have fX : X.Few := ⟨by have := sX.name; omega, by have := sX.key; omega, by have := sX.data; omega, by have := sX.items; omega, fun y hy => by have := sX.each y hy; omega⟩
  have eX : ∀ y ∈ X.items, y.1 < 18446744073709551616 := by rw [hX]; exact he
  have hXl := noteB_lenS okX sX
  refine tell_c okX fX (by rw [hX]; exact hxd) (by rw [hX]; exact hxi) _ (fun σ' _ h => absurd h (by omega)) (fun σ' _ _ h => absurd h (by omega)) fun v7 b7 σ6 h7 hb7 g6 _ _ => ?_
  have hv7 := h7.one
  rcases e5 with ⟨rfl, rfl, hno⟩ | ⟨_, ⟨rfl, rfl, hlt⟩ | ⟨rfl, ⟨b5', hb5⟩, hle⟩⟩
  · exact absurd ⟨rT, rtp⟩ hno
  · simp [lk_cons, hv7]
  have hpt := pTp_f (ep := ep) ⟨hbe.1, hts.be.2⟩ hts.tb rS rN rT rtp mt.tl
  have hB6 : GS rwB σ6 v (tpB ep last2 t2 (s2.map (·.1)) T2) b5' := hb5.grow g6
  have hnt := pNote_f okX cX ⟨by have := sX.name; omega, by have := sX.key; omega, by have := sX.data; omega, by have := sX.items; omega⟩ fun y hy => ⟨eX y hy, by have := sX.each y hy; omega⟩
  obtain ⟨B, hB⟩ : ∃ B, tpB ep last2 t2 (s2.map (·.1)) T2 = B := ⟨_, rfl⟩
  obtain ⟨N, hN⟩ : ∃ N, noteB X = N := ⟨_, rfl⟩
  rw [hB] at hpt hB6 hle
  rw [hN] at h7 hXl
  have hBl : 0 < B.length := by rw [← hB]; simp only [tpB, List.length_append, beN_len]; omega
  have hNl : 0 < N.length := by rw [← hN]; simp only [noteB, noteH, List.length_append, beN_len]; omega
  obtain ⟨u, hu2, hu⟩ : ∃ w : Nat, IntKind.u64.wrap cut = (w : Int) ∧ w < 18446744073709551616 := by
    refine ⟨(IntKind.u64.wrap cut).toNat, ?_, ?_⟩ <;> (simp only [IntKind.wrap, IntKind.bits, IntKind.signed]; simp; omega)
  have lenB := hB6.len
  have lenN := h7.len
  have wB : IntKind.u64.wrap (B.length : Int) = B.length := by rw [IntWalk.u64_in] <;> omega
  have wN : IntKind.u64.wrap (N.length : Int) = N.length := by rw [IntWalk.u64_in] <;> omega
  obtain ⟨kB, hkB⟩ : ∃ k : Nat, Int.tmod (u : Int) (B.length : Int) = (k : Int) ∧ k < B.length := ⟨u % B.length, (Int.ofNat_tmod u B.length).symm, Nat.mod_lt _ hBl⟩
  obtain ⟨kN, hkN⟩ : ∃ k : Nat, Int.tmod (u : Int) (N.length : Int) = (k : Int) ∧ k < N.length := ⟨u % N.length, (Int.ofNat_tmod u N.length).symm, Nat.mod_lt _ hNl⟩
  have iB : IntKind.i64.wrap (kB : Int) = kB := by rw [IntWalk.i64_in] <;> omega
  have iN : IntKind.i64.wrap (kN : Int) = kN := by rw [IntWalk.i64_in] <;> omega
  have zB : ¬ (B.length : Int) = 0 := by omega
  have zN : ¬ (N.length : Int) = 0 := by omega
  have zB' : B ≠ [] := fun e => by rw [e] at hBl; simp at hBl
  have zN' : N ≠ [] := fun e => by rw [e] at hNl; simp at hNl
  obtain ⟨vB, sB, rB⟩ := (RdB.ofGS hB6).pre (Nat.le_of_lt hkB.2) .i64 (z := (kB : Int)) rfl
  have sB := sB σ6 fun _ _ => rfl
  simp [lk_cons, optM, hv1, hv7, ↓lenB, hu2, wB, zB, zB', hkB.1, iB, ↓sB]
  have pB4 : pTp (B.take kB) = .error 4 := tp_cut (s := B.drop kB) hpt (List.take_append_drop kB B).symm fun e => by
    have := congrArg List.length e
    rw [List.length_drop] at this
    simp at this; omega
  refine decode_c rB (by rw [List.length_take]; omega) _ fun gv code hdec => ?_
  obtain ⟨rfl, rfl⟩ : code = 4 ∧ gv = .agg tpZ := by
    rcases hdec with ⟨e, h⟩ | ⟨x, l', e, _⟩ | ⟨x, lw, sw, nw, ds, ys, e, _⟩
    · rw [pB4] at e; cases e; exact ⟨rfl, h⟩
    · rw [pB4] at e; cases e
    · rw [pB4] at e; cases e
  obtain ⟨vN, sN, rN'⟩ := (RdB.ofGS h7).pre (Nat.le_of_lt hkN.2) .i64 (z := (kN : Int)) rfl
  obtain ⟨S7, hS7⟩ : ∃ S : St, S = ⟨(σ6.mem.set σ6.next (.cells 5 [.int .u64 0, .int .u64 0, .nilsl, .nilsl, .nilsl])).set σ6.next (.cells 5 [.int .u64 0, .int .u64 0, .nilsl, .nilsl, .nilsl]), σ6.next + 1⟩ := ⟨_, rfl⟩
  have gS7 : Grow σ6 S7 := ⟨by rw [hS7]; exact Nat.le_succ _, fun a ha => by rw [hS7]; simp [show ¬ a = σ6.next by omega]⟩
  have sN := sN S7 fun a ha => gS7.2 a (h7.lt ha)
  rw [hS7] at sN
  simp [lk_cons, optM, tpZ, storeL, hv1, hv7, ↓lenN, hu2, wN, zN, zN', hkN.1, iN, ↓sN]
  rw [← hS7]
  have nN : ∀ y, pNote (N.take kN) ≠ .ok (y, []) := note_cut (x := X) (s := N.drop kN) (by rw [hN]; simpa [hN] using hnt []) (by rw [hN]; exact (List.take_append_drop kN N).symm) fun e => by
    have := congrArg List.length e
    rw [List.length_drop] at this
    simp at this; omega
  refine hear_c (rN'.keep gS7.1 fun a ha _ => gS7.2 a ha) (by rw [List.length_take]; omega) _ fun gv2 code2 σ8 hdec2 g8 => ?_
  obtain ⟨hc0, rfl⟩ : code2 ≠ 0 ∧ gv2 = .agg noteCs := by
    rcases hdec2 with ⟨e, h⟩ | ⟨y, l', e, _, h, h2⟩ | ⟨y, dw, iw, bw, e, _⟩
    · exact ⟨pNote_err e, h⟩
    · exact ⟨by omega, h⟩
    · exact absurd e (nN y)
  have hc0' : ¬ (code2 : Int) = 0 := by omega
  obtain ⟨SA, hSA⟩ : ∃ S : St, S = ⟨((σ8.mem.set σ8.next (.cells 15 noteCs)).set σ8.next (.cells 15 noteCs)).set (σ8.next + 1) (.cells 1 [.int .u8 0]), σ8.next + 1 + 1⟩ := ⟨_, rfl⟩
  have gSA : Grow σ8 SA := ⟨by rw [hSA]; show σ8.next ≤ σ8.next + 1 + 1; omega, fun a ha => by rw [hSA]; simp [show ¬ a = σ8.next by omega, show ¬ a = σ8.next + 1 by omega]⟩
  have nSA : SA.next = σ8.next + 2 := by rw [hSA]
  have mSA : SA.mem.get (σ8.next + 1) = some (.cells 1 (rwB.a 0)) := by rw [hSA]; simp; rfl
  have gto : Grow σ6 σ8 := gS7.trans g8
  have b5n : ∀ a, b5' = some a → a < σ5.next := fun a ha => hb5.lt ha
  have b7n : ∀ a, b7 = some a → σ5.next ≤ a ∧ a < σ6.next := fun a ha => ⟨hb7 a ha, h7.lt ha⟩
  have n56 := g6.1
  have n68 := gto.1
  have hBA : GS rwB SA v B b5' := hB6.grow (gto.trans gSA)
  obtain ⟨σB, f1, f2, f3, f4⟩ := gs_app1 hBA (nb := σ8.next + 1) (by_ := 1) (t := true) (x := (0 : UInt8)) (by decide) mSA (fun e => by have := b5n _ e; omega) (by omega) (by omega)
  obtain ⟨w5, hw5⟩ : ∃ w, w = AVal.sl SA.next 0 (B.length + 1) (B.length + 1) false := ⟨_, rfl⟩
  rw [← hw5] at f1 f2
  rw [hSA] at f1
  simp only [noteCs] at f1
  simp [lk_cons, noteCs, storeL, hv1, hv7, fillL, repL, ↓f1]
  refine decode_c (RdB.ofGS f2) (by simp; omega) _ fun gv3 code3 hdec3 => ?_
  have pBm := tp_more (s := [0]) hpt
  obtain ⟨rfl, rfl⟩ : code3 = 5 ∧ gv3 = .agg tpZ := by
    rcases hdec3 with ⟨e, h⟩ | ⟨x, l', e, _, h, h2⟩ | ⟨x, lw, sw, nw, ds, ys, e, _⟩
    · rw [pBm] at e; cases e
    · exact ⟨h2, h⟩
    · rw [pBm] at e; cases e
  have nB : σB.next = σ8.next + 3 := by rw [f3, nSA]
  have h7B : GS rwB σB v7 N b7 := (h7.grow (gto.trans gSA)).keep (by omega) fun a ha hab => f4 a ha fun e => by have := b5n a e; have := b7n a hab; omega
  obtain ⟨SC, hSC⟩ : ∃ S : St, S = ⟨((σB.mem.set σB.next (.cells 5 tpZ)).set σB.next (.cells 5 tpZ)).set (σB.next + 1) (.cells 1 [.int .u8 0]), σB.next + 1 + 1⟩ := ⟨_, rfl⟩
  have gSC : Grow σB SC := ⟨by rw [hSC]; show σB.next ≤ σB.next + 1 + 1; omega, fun a ha => by rw [hSC]; simp [show ¬ a = σB.next by omega, show ¬ a = σB.next + 1 by omega]⟩
  have nSC : SC.next = σB.next + 2 := by rw [hSC]
  have mSC : SC.mem.get (σB.next + 1) = some (.cells 1 (rwB.a 0)) := by rw [hSC]; simp; rfl
  obtain ⟨σC, e1, e2, e3, e4⟩ := gs_app1 (h7B.grow gSC) (nb := σB.next + 1) (by_ := 1) (t := true) (x := (0 : UInt8)) (by decide) mSC (fun e => by have := b7n _ e; omega) (by omega) (by omega)
  obtain ⟨w6, hw6⟩ : ∃ w, w = AVal.sl SC.next 0 (N.length + 1) (N.length + 1) false := ⟨_, rfl⟩
  rw [← hw6] at e1 e2
  rw [hSC] at e1
  simp only [tpZ] at e1
  simp [lk_cons, tpZ, storeL, hv7, fillL, repL, ↓e1]
  refine hear_c (RdB.ofGS e2) (by simp; omega) _ fun gv4 code4 σD hdec4 g9 => ?_
  obtain ⟨h56, rfl⟩ : (code4 = 5 ∨ code4 = 6) ∧ gv4 = .agg noteCs := by
    have hnt := hnt [0]
    rw [hN] at hnt
    rcases hdec4 with ⟨e, h⟩ | ⟨y, l', e, _, h, h2⟩ | ⟨y, dw, iw, bw, e, _⟩
    · rcases hnt with k | k
      · rw [k] at e; cases e
      · rw [k] at e; cases e; exact ⟨.inr rfl, h⟩
    · exact ⟨.inl h2, h⟩
    · rcases hnt with k | k
      · rw [k] at e; cases e
      · rw [k] at e; cases e
  rcases h56 with rfl | rfl
  · simp [lk_cons, noteCs, storeL, hc0, hc0']
  · simp [lk_cons, noteCs, storeL, hc0, hc0']
end Go.Proofs.YticefdfhcahlfaaDoor.AM

namespace Go.Proofs.YticefdfhcahlfaaDoor.AM
open Go.RowKit
set_option maxRecDepth 100000
set_option linter.unusedVariables false
set_option linter.unusedSimpArgs false
def LdArg (x : List AVal) : Prop := (fun x => ∃ a b, x = a ++ b ∧ U64Arg a ∧ (fun x => ∃ a b, x = a ++ b ∧ (∃ q, a = [.bool q]) ∧ U64Arg b) b) x
def LdsArg (b : List AVal) : Prop := b = [.nilsl] ∨ ∃ xs : List (List AVal), b = [.isl xs.flatten xs.length false] ∧ (∀ x ∈ xs, x.length = 3 ∧ LdArg x) ∧ xs.length ≤ 9223372036854775807 ∧ xs.length * 24 ≤ 140737488351232
def RgsArg (b : List AVal) : Prop := b = [.nilsl] ∨ ∃ xs : List (List AVal), b = [.isl xs.flatten xs.length false] ∧ (∀ x ∈ xs, x.length = 2 ∧ PairArg x) ∧ xs.length ≤ 9223372036854775807 ∧ xs.length * 16 ≤ 140737488351232
def HdArg (x : List AVal) : Prop := (fun x => ∃ a b, x = a ++ b ∧ U64Arg a ∧ RgsArg b) x
def HdsArg (b : List AVal) : Prop := b = [.nilsl] ∨ ∃ xs : List (List AVal), b = [.isl xs.flatten xs.length false] ∧ (∀ x ∈ xs, x.length = 2 ∧ HdArg x) ∧ xs.length ≤ 9223372036854775807 ∧ xs.length * 32 ≤ 140737488351232
def CurArg (x : List AVal) : Prop := (fun x => ∃ a b, x = a ++ b ∧ PairArg a ∧ HdsArg b) x
def SbArg (x : List AVal) : Prop := (fun x => ∃ a b, x = a ++ b ∧ StrArg a ∧ (fun x => ∃ a b, x = a ++ b ∧ U8Arg a ∧ CurArg b) b) x
def SbsArg (b : List AVal) : Prop := b = [.nilsl] ∨ ∃ xs : List (List AVal), b = [.isl xs.flatten xs.length false] ∧ (∀ x ∈ xs, x.length = 5 ∧ SbArg x) ∧ xs.length ≤ 9223372036854775807 ∧ xs.length * 64 ≤ 140737488351232
def LnArg (x : List AVal) : Prop := (fun x => ∃ a b, x = a ++ b ∧ StrArg a ∧ (fun x => ∃ a b, x = a ++ b ∧ U64Arg a ∧ (fun x => ∃ a b, x = a ++ b ∧ U64Arg a ∧ PairArg b) b) b) x
def LnsArg (b : List AVal) : Prop := b = [.nilsl] ∨ ∃ xs : List (List AVal), b = [.isl xs.flatten xs.length false] ∧ (∀ x ∈ xs, x.length = 5 ∧ LnArg x) ∧ xs.length ≤ 9223372036854775807 ∧ xs.length * 48 ≤ 140737488351232
def TopicArg (us : List AVal) : Prop := (fun x => ∃ a b, x = a ++ b ∧ U64Arg a ∧ (fun x => ∃ a b, x = a ++ b ∧ U64Arg a ∧ (fun x => ∃ a b, x = a ++ b ∧ LdsArg a ∧ (fun x => ∃ a b, x = a ++ b ∧ SbsArg a ∧ LnsArg b) b) b) b) us
theorem ldCells : ∀ xs : List (List AVal), (∀ x ∈ xs, x.length = 3 ∧ LdArg x) → ∃ t : List Ld, xs.flatten = ldc t ∧ t.length = xs.length ∧ ∀ x ∈ t, In64 x.f0 ∧ In64 x.f2
  | [], _ => ⟨[], rfl, rfl, by simp⟩
  | x :: xs, h => by
    obtain ⟨t, h1, h2, h3⟩ := ldCells xs fun y hy => h y (by simp [hy])
    obtain ⟨_, _, _, rfl, ⟨a, rfl, ha⟩, _, _, rfl, ⟨q, rfl⟩, ⟨b, rfl, hb⟩⟩ := h x (by simp)
    obtain ⟨a, rfl, ha'⟩ := wf_u64 ha
    obtain ⟨b, rfl, hb'⟩ := wf_u64 hb
    refine ⟨⟨a, q, b⟩ :: t, by simp [h1, ldc], by simp [h2], fun y hy => ?_⟩
    rcases List.mem_cons.1 hy with rfl | hy
    · exact ⟨⟨by show (0 : Int) ≤ a; omega, by show (a : Int) < _; omega⟩, by show (0 : Int) ≤ b; omega, by show (b : Int) < _; omega⟩
    · exact h3 y hy
theorem rgsCells : ∀ xs : List (List AVal), (∀ x ∈ xs, x.length = 2 ∧ PairArg x) → ∃ t : List S25, xs.flatten = rc t ∧ t.length = xs.length ∧ ∀ x ∈ t, In64 x.f0 ∧ In64 x.f1
  | [], _ => ⟨[], rfl, rfl, by simp⟩
  | x :: xs, h => by
    obtain ⟨t, h1, h2, h3⟩ := rgsCells xs fun y hy => h y (by simp [hy])
    obtain ⟨_, _, _, rfl, ⟨a, rfl, ha⟩, ⟨b, rfl, hb⟩⟩ := h x (by simp)
    obtain ⟨a, rfl, ha'⟩ := wf_u64 ha
    obtain ⟨b, rfl, hb'⟩ := wf_u64 hb
    refine ⟨⟨a, b⟩ :: t, by simp [h1, rc], by simp [h2], fun y hy => ?_⟩
    rcases List.mem_cons.1 hy with rfl | hy
    · exact ⟨⟨by show (0 : Int) ≤ a; omega, by show (a : Int) < _; omega⟩, by show (0 : Int) ≤ b; omega, by show (b : Int) < _; omega⟩
    · exact h3 y hy
def HdOk (x : Hd) : Prop := (0 ≤ x.f0 ∧ x.f0 ≤ 18446744073709551615) ∧ (∀ z ∈ x.f1, In64 z.f0 ∧ In64 z.f1) ∧ x.f1.length ≤ 9223372036854775806
theorem hdsCells : ∀ xs : List (List AVal), (∀ x ∈ xs, x.length = 2 ∧ HdArg x) → ∃ h : List Hd, HC xs.flatten h ∧ h.length = xs.length ∧ ∀ x ∈ h, HdOk x
  | [], _ => ⟨[], trivial, rfl, by simp⟩
  | x :: xs, h => by
    obtain ⟨t, h1, h2, h3⟩ := hdsCells xs fun y hy => h y (by simp [hy])
    obtain ⟨_, a, b, rfl, ⟨n, rfl, hn⟩, hb⟩ := h x (by simp)
    obtain ⟨n, rfl, hn'⟩ := wf_u64 hn
    rcases hb with rfl | ⟨ys, rfl, hys, _, hyl⟩
    · exact ⟨⟨n, []⟩ :: t, ⟨rfl, .inl ⟨rfl, rfl⟩, h1⟩, by simp [h2], fun y hy => by
        rcases List.mem_cons.1 hy with rfl | hy
        · exact ⟨⟨by show (0 : Int) ≤ n; omega, by show (n : Int) ≤ _; omega⟩, fun z hz => absurd hz List.not_mem_nil, by simp⟩
        · exact h3 y hy⟩
    · obtain ⟨l, e1, e2, e3⟩ := rgsCells ys hys
      exact ⟨⟨n, l⟩ :: t, ⟨rfl, .inr ⟨false, by rw [e1, e2]⟩, h1⟩, by simp [h2], fun y hy => by
        rcases List.mem_cons.1 hy with rfl | hy
        · exact ⟨⟨by show (0 : Int) ≤ n; omega, by show (n : Int) ≤ _; omega⟩, e3, by show l.length ≤ _; omega⟩
        · exact h3 y hy⟩
theorem hdsArg {b : List AVal} (h : HdsArg b) : ∃ v h, b = [v] ∧ HI v h ∧ HArg h ∧ ∀ y ∈ h, ∀ z ∈ y.f1, In64 z.f0 ∧ In64 z.f1 := by
  rcases h with h | ⟨xs, h, hx, _, hl⟩
  · exact ⟨_, [], h, .inl ⟨rfl, rfl⟩, ⟨by simp, by simp⟩, by simp⟩
  · obtain ⟨t, h1, h2, h3⟩ := hdsCells xs hx
    exact ⟨_, t, h, .inr ⟨_, false, by rw [h2], h1⟩, ⟨by omega, fun x hx => ⟨(h3 x hx).1, fun z hz => by have := (h3 x hx).2.1 z hz; exact ⟨this.1.1, this.2.1, by have := this.2.2; omega⟩, (h3 x hx).2.2⟩⟩, fun y hy => (h3 y hy).2.1⟩
theorem sbsCells : ∀ xs : List (List AVal), (∀ x ∈ xs, x.length = 5 ∧ SbArg x) → ∃ s : List SbV, SbI xs.flatten s ∧ s.length = xs.length ∧ ∀ x ∈ s, (In64 x.ml ∧ In64 x.me) ∧ x.kind < 256 ∧ HArg x.h ∧ ∀ y ∈ x.h, ∀ z ∈ y.f1, In64 z.f0 ∧ In64 z.f1
  | [], _ => ⟨[], trivial, rfl, by simp⟩
  | x :: xs, h => by
    obtain ⟨t, h1, h2, h3⟩ := sbsCells xs fun y hy => h y (by simp [hy])
    obtain ⟨_, _, _, rfl, ⟨nm, rfl, _⟩, _, _, rfl, ⟨k, rfl, hk⟩, _, _, rfl, ⟨_, _, rfl, ⟨a, rfl, ha⟩, ⟨b, rfl, hb⟩⟩, hh⟩ := h x (by simp)
    obtain ⟨a, rfl, ha'⟩ := wf_u64 ha
    obtain ⟨b, rfl, hb'⟩ := wf_u64 hb
    obtain ⟨k, rfl, hk'⟩ := wf_u8 hk
    obtain ⟨v, hd, rfl, e1, e2, e3⟩ := hdsArg hh
    refine ⟨⟨nm, k, a, b, hd⟩ :: t, ⟨⟨rfl, rfl, rfl, rfl, e1⟩, h1⟩, by simp [h2], fun y hy => ?_⟩
    rcases List.mem_cons.1 hy with rfl | hy
    · exact ⟨⟨⟨by show (0 : Int) ≤ a; omega, by show (a : Int) < _; omega⟩, by show (0 : Int) ≤ b; omega, by show (b : Int) < _; omega⟩, hk', e2, e3⟩
    · exact h3 y hy
theorem lnCells : ∀ xs : List (List AVal), (∀ x ∈ xs, x.length = 5 ∧ LnArg x) → ∃ T : Tbl, xs.flatten = rws rwL T ∧ T.length = xs.length ∧ ∀ x ∈ T, x.2.1 < 18446744073709551616 ∧ x.2.2.1 < 18446744073709551616 ∧ x.2.2.2.1 < 18446744073709551616 ∧ x.2.2.2.2 < 18446744073709551616
  | [], _ => ⟨[], rfl, rfl, by simp⟩
  | x :: xs, h => by
    obtain ⟨t, h1, h2, h3⟩ := lnCells xs fun y hy => h y (by simp [hy])
    obtain ⟨_, _, _, rfl, ⟨nm, rfl, _⟩, _, _, rfl, ⟨a, rfl, ha⟩, _, _, rfl, ⟨b, rfl, hb⟩, ⟨_, _, rfl, ⟨c, rfl, hc⟩, ⟨d, rfl, hd⟩⟩⟩ := h x (by simp)
    obtain ⟨a, rfl, ha'⟩ := wf_u64 ha
    obtain ⟨b, rfl, hb'⟩ := wf_u64 hb
    obtain ⟨c, rfl, hc'⟩ := wf_u64 hc
    obtain ⟨d, rfl, hd'⟩ := wf_u64 hd
    refine ⟨(nm, (a, b, c, d)) :: t, by rw [rws_cons, ← h1]; rfl, by simp [h2], fun y hy => ?_⟩
    rcases List.mem_cons.1 hy with rfl | hy
    · exact ⟨ha', hb', hc', hd'⟩
    · exact h3 y hy
theorem topicArg {us : List AVal} (h : TopicArg us) : ∃ (ep last : Nat) (lv sv nv : AVal) (t : List Ld) (s : List SbV) (cs : List AVal) (T : Tbl), us = [u64 (ep : Int), u64 (last : Int), lv, sv, nv] ∧ Rd 3 σ0 lv t.length (ldc t) ∧ Rd 5 σ0 sv s.length cs ∧ SbI cs s ∧ Rd 5 σ0 nv T.length (rws rwL T) ∧ (∀ x ∈ t, In64 x.f0 ∧ In64 x.f2) ∧ (∀ x ∈ s, (In64 x.ml ∧ In64 x.me) ∧ x.kind < 256 ∧ HArg x.h ∧ ∀ y ∈ x.h, ∀ z ∈ y.f1, In64 z.f0 ∧ In64 z.f1) ∧ (∀ x ∈ T, x.2.1 < 18446744073709551616 ∧ x.2.2.1 < 18446744073709551616 ∧ x.2.2.2.1 < 18446744073709551616 ∧ x.2.2.2.2 < 18446744073709551616) ∧ ep < 18446744073709551616 ∧ last < 18446744073709551616 := by
  obtain ⟨_, _, rfl, ⟨ep, rfl, he⟩, _, _, rfl, ⟨last, rfl, hl⟩, _, _, rfl, h1, _, _, rfl, h2, h3⟩ := h
  obtain ⟨ep, rfl, he'⟩ := wf_u64 he
  obtain ⟨last, rfl, hl'⟩ := wf_u64 hl
  have p1 : ∀ {b : List AVal}, LdsArg b → ∃ v t, b = [v] ∧ Rd 3 σ0 v t.length (ldc t) ∧ ∀ x ∈ t, In64 x.f0 ∧ In64 x.f2 := fun h => by
    rcases h with h | ⟨xs, h, hx, _, _⟩
    · exact ⟨_, [], h, ⟨rfl, .inl ⟨rfl, rfl⟩⟩, by simp⟩
    · obtain ⟨t, e1, e2, e3⟩ := ldCells xs hx
      exact ⟨_, t, h, ⟨ldc_len t, .inr (.inl ⟨false, by rw [e1, e2]⟩)⟩, e3⟩
  have p2 : ∀ {b : List AVal}, SbsArg b → ∃ v s cs, b = [v] ∧ Rd 5 σ0 v s.length cs ∧ SbI cs s ∧ ∀ x ∈ s, (In64 x.ml ∧ In64 x.me) ∧ x.kind < 256 ∧ HArg x.h ∧ ∀ y ∈ x.h, ∀ z ∈ y.f1, In64 z.f0 ∧ In64 z.f1 := fun h => by
    rcases h with h | ⟨xs, h, hx, _, _⟩
    · exact ⟨_, [], [], h, ⟨rfl, .inl ⟨rfl, rfl⟩⟩, trivial, by simp⟩
    · obtain ⟨t, e1, e2, e3⟩ := sbsCells xs hx
      exact ⟨_, t, _, h, ⟨(e1.c (σ := σ0)).len, .inr (.inl ⟨false, by rw [e2]⟩)⟩, e1, e3⟩
  have p3 : ∀ {b : List AVal}, LnsArg b → ∃ v T, b = [v] ∧ Rd 5 σ0 v T.length (rws rwL T) ∧ ∀ x ∈ T, x.2.1 < 18446744073709551616 ∧ x.2.2.1 < 18446744073709551616 ∧ x.2.2.2.1 < 18446744073709551616 ∧ x.2.2.2.2 < 18446744073709551616 := fun h => by
    rcases h with h | ⟨xs, h, hx, _, _⟩
    · exact ⟨_, [], h, ⟨rfl, .inl ⟨rfl, rfl⟩⟩, by simp⟩
    · obtain ⟨t, e1, e2, e3⟩ := lnCells xs hx
      exact ⟨_, t, h, ⟨rws_len _ t, .inr (.inl ⟨false, by rw [e1, e2]⟩)⟩, e3⟩
  obtain ⟨lv, t, rfl, a1, a2⟩ := p1 h1
  obtain ⟨sv, s, cs, rfl, b1, b2, b3⟩ := p2 h2
  obtain ⟨nv, T, rfl, c1, c2⟩ := p3 h3
  exact ⟨ep, last, lv, sv, nv, t, s, cs, T, rfl, a1, b1, b2, c1, a2, b3, c2, he', hl'⟩
end Go.Proofs.YticefdfhcahlfaaDoor.AM

namespace Go.Proofs.YticefdfhcahlfaaDoor.AM
open Go.RowKit
set_option linter.unusedVariables false
set_option maxRecDepth 100000
theorem gok_of {W : World} (h0 : ∀ r, r < 256 → W.cell? ⟨0, r, none⟩ = some (.int .u8 ((Go.Pinned.utf8FirstZ.getD r 0 : Nat) : Int))) (h1 : ∀ r, r < 32 → W.cell? ⟨1, r, none⟩ = some (.int .u8 ((utf8Acc.getD r 0 : Nat) : Int))) : GOk (immOf W) := by
  have gen : ∀ (g : Nat) (l : List Nat), (∀ r, r < l.length → W.cell? ⟨g, r, none⟩ = some (.int .u8 ((l.getD r 0 : Nat) : Int))) → CRel (fun _ => none) (immOf W) (l.map fun (n : Nat) => AVal.int .u8 (n : Int)) (fun j => icell (immOf W) ⟨g, j, none⟩) := fun g l h => by
    refine CRel.mk fun j v hv => ?_
    rw [List.getElem?_map, Option.map_eq_some_iff] at hv
    obtain ⟨n, hn, rfl⟩ := hv
    have hj := (List.getElem?_eq_some_iff.1 hn).1
    refine ⟨.int .u8 (n : Int), ?_, by simp [VRel]⟩
    rw [icell_immOf, h j hj, List.getD_eq_getElem?_getD, hn]; rfl
  have l0 : Go.Pinned.utf8FirstZ.length = 256 := by decide
  have l1 : utf8Acc.length = 32 := by decide
  have k0 := gen 0 Go.Pinned.utf8FirstZ fun r hr => h0 r (by omega)
  have k1 := gen 1 utf8Acc fun r hr => h1 r (by omega)
  intro g cs hg
  match g, hg with
  | 0, hg =>
    simp only [gloTab, gloRaw, Option.map_some, Option.some.injEq] at hg
    subst hg; exact k0
  | 1, hg =>
    simp only [gloTab, gloRaw, Option.map_some, Option.some.injEq] at hg
    subst hg; exact k1
  | g + 2, hg => simp [gloTab, gloRaw] at hg
end Go.Proofs.YticefdfhcahlfaaDoor.AM
