/- What the functions of this chapter give: their contracts over the machine. -/
import Derived.Test.YticefdfhcahlfaaGreatDoorC221
import Derived.Test.YticefdfhcahlfaaGreatDoorAm3
import Derived.Shelf.SlGeneric
import Derived.Ground.SlsfProg
import Derived.Shelf.SlSortCmp.NoneTotal
import Derived.Tactics
import Derived.Tactics2
import Derived.Defers
import Derived.Recover
import Derived.Laws.Pointers
namespace Go.Proofs.YticefdfhcahlfaaGreatDoor.AM
set_option maxRecDepth 100000
set_option linter.unusedVariables false
set_option linter.unusedSimpArgs false
abbrev i64 (n:Int):AVal := .int .i64 n
abbrev u64 (n:Int):AVal := .int .u64 n
abbrev Ln := Nat×Nat×Nat×Nat
def lnV (n:ByteArray) (x:Ln):AVal := .agg [.str n,u64 (x.1:Int),u64 (x.2.1:Int),u64 (x.2.2.1:Int),u64 (x.2.2.2:Int)]
abbrev Tbl := List (ByteArray×Ln)
def lkB:Tbl→ByteArray→Option Ln
  | [],_=>none
  | (k,x) :: T,n=>if n=k then some x else lkB T n
def setB:Tbl→ByteArray→Ln→Tbl
  | [],n,y=>[(n,y)]
  | (k,x) :: T,n,y=>if n=k then (n,y) :: T else (k,x) :: setB T n y
def EntL (e:Entry) (p:ByteArray×Ln):Prop := e.2.1=.str p.1∧e.2.2=lnV p.1 p.2
theorem lkB_none {n:ByteArray}:∀ {T:Tbl},lkB T n=none↔n ∉ T.map (·.1)
  | []=>by simp [lkB]
  | (k,x) :: T=>by
    have ih := lkB_none (n := n) (T := T)
    simp only [lkB,List.map_cons,List.mem_cons]
    by_cases h:n=k
    · simp [h]
    · rw [if_neg h,ih]; simp [h]
theorem setB_new {n:ByteArray} {y:Ln}:∀ {T:Tbl},lkB T n=none→setB T n y=T++[(n,y)]
  | [],_=>rfl
  | (k,x) :: T,h=>by
    simp only [lkB] at h
    by_cases hk:n=k
    · rw [if_pos hk] at h; cases h
    · rw [if_neg hk] at h
      simp only [setB]
      rw [if_neg hk,setB_new h]; rfl
theorem setB_keys {n:ByteArray} {y x:Ln}:∀ {T:Tbl},lkB T n=some x→(setB T n y).map (·.1)=T.map (·.1)
  | [],h=>by cases h
  | (k,z) :: T,h=>by
    simp only [lkB] at h
    simp only [setB]
    by_cases hk:n=k
    · rw [if_pos hk]; simp [hk]
    · rw [if_neg hk] at h ⊢
      simp [setB_keys h]
theorem setB_nodup {n:ByteArray} {y:Ln} {T:Tbl} (h:(T.map (·.1)).Nodup):((setB T n y).map (·.1)).Nodup := by
  cases hl:lkB T n with
  | none =>
    rw [setB_new hl,List.map_append,List.nodup_append]
    refine ⟨h,by simp,?_⟩
    rintro a ha b hb rfl
    simp at hb; subst hb
    exact lkB_none.1 hl ha
  | some x=>rw [setB_keys hl]; exact h
theorem setB_len {n:ByteArray} {y:Ln} {T:Tbl}:(setB T n y).length=if lkB T n=none then T.length+1 else T.length := by
  cases hl:lkB T n with
  | none=>rw [setB_new hl]; simp
  | some x =>
    have := congrArg List.length (setB_keys (y := y) hl)
    simpa using this
theorem ba_beq (a b:ByteArray):(a == b)=decide (a=b) := by
  have h:(a == b)=(a.data == b.data) := by
    cases a; cases b; rfl
  rw [h]
  by_cases hab:a=b
  · subst hab; simp
  · have:¬ a.data=b.data := fun e=>hab (ByteArray.ext e)
    simp [hab,this]
theorem keyS (a b:ByteArray):keyEqA (.str a) (.str b)=some (decide (a=b)) := by
  simp only [keyEqA,keyEq,ba_beq]
theorem findS {n:ByteArray}:∀ {ents:List Entry} {T:Tbl},All2 EntL ents T→(findA (.str n) ents=some none∧lkB T n=none)∨∃ i x,findA (.str n) ents=some (some (i,lnV n x))∧lkB T n=some x∧∀ y,All2 EntL (ents.modify i fun e=>(e.1,.str n,lnV n y)) (setB T n y)
  | [],[],_=>.inl ⟨rfl,rfl⟩
  | (st,y,d) :: ents,(k,x) :: T,h=>by
    obtain ⟨⟨hy,hd⟩,ht⟩ := h
    simp only at hy hd
    subst hy hd
    by_cases hnk:n=k
    · subst hnk
      refine .inr ⟨0,x,by simp only [findA,keyS,decide_true],by simp [lkB],fun y=>?_⟩
      simp only [List.modify_zero_cons,setB,if_true]
      exact ⟨⟨rfl,rfl⟩,ht⟩
    · have hf:keyEqA (.str n) (.str k)=some false := by rw [keyS,decide_eq_false hnk]
      rcases findS (n := n) ht with ⟨h1,h2⟩ | ⟨i,x1,h1,h2,h3⟩
      · exact .inl ⟨by simp only [findA]; rw [hf]; simp only; rw [h1]; rfl,by simp [lkB,hnk,h2]⟩
      · refine .inr ⟨i+1,x1,by simp only [findA]; rw [hf]; simp only; rw [h1]; rfl,by simp [lkB,hnk,h2],fun y=>?_⟩
        simp only [List.modify_succ_cons,setB,if_neg hnk]
        exact ⟨⟨rfl,rfl⟩,h3 y⟩
  | [],_ :: _,h=>h.elim
  | _ :: _,[],h=>h.elim
structure TRep (σ:St) (t mp:Nat) (T:Tbl):Prop where
  head:σ.mem.get t=some (.cells 1 [.map mp])
  map:∃ clock ents,σ.mem.get mp=some (.map clock ents)∧All2 EntL ents T∧(∀ e∈ents,e.1<clock)∧(ents.map (·.1)).Nodup
  keys:(T.map (·.1)).Nodup
  ne:t≠mp
  lt:t<σ.next∧mp<σ.next
theorem TRep.frame {σ σ':St} {t mp:Nat} {T:Tbl} (h:TRep σ t mp T) (hm:∀ a,a=t∨a=mp→σ'.mem.get a=σ.mem.get a) (hn:σ.next≤σ'.next):TRep σ' t mp T :=
  ⟨by rw [hm t (.inl rfl)]; exact h.head,by rw [hm mp (.inr rfl)]; exact h.map,h.keys,h.ne,by have := h.lt; omega⟩
theorem stamps_modify (f:Entry→Entry) (hf:∀ e,(f e).1=e.1):∀ (ents:List Entry) (i:Nat),(ents.modify i f).map (·.1)=ents.map (·.1)
  | [],0=>rfl
  | [],i+1=>rfl
  | e :: es,0=>by simp [hf]
  | e :: es,i+1=>by simp [stamps_modify f hf es i]
theorem stamps_lt {ents:List Entry} {c:Nat}:(∀ e∈ents,e.1<c)↔∀ s∈ents.map (·.1),s<c := by simp
theorem tnew_c (σ:St) (Q:AVal→St→Prop) (h:∀ t mp σ',TRep σ' t mp []→σ.next≤σ'.next→(∀ a,a<σ.next→σ'.mem.get a=σ.mem.get a)→σ.next≤t∧σ.next≤mp→Q (.ptr t 0) σ'):ACall Tryz.prog 68 [] σ Q := by
  refine ACall.of_compF hmx (fun a w=>Tryz.call68 a w) Tryz.func68 cf68 (n := 0) (by decide) rfl ?_
  simp [ac68,rs68,lk_cons,storeL,fillL]
  refine h (σ.next+1) σ.next _ ⟨by simp,⟨0,[],?_,trivial,by simp,by simp⟩,by simp,by simp,⟨Nat.lt_succ_self _,Nat.lt_succ_of_lt (Nat.lt_succ_self _)⟩⟩ (by simp; omega) (fun a ha=>?_) ⟨by omega,by omega⟩
  · simp
  · simp [show ¬ a=σ.next by omega,show ¬ a=σ.next+1 by omega]
end Go.Proofs.YticefdfhcahlfaaGreatDoor.AM

namespace Go.Proofs.YticefdfhcahlfaaGreatDoor.AM
set_option maxRecDepth 100000
set_option linter.unusedVariables false
set_option linter.unusedSimpArgs false
theorem ba_list (a:ByteArray):a=⟨a.data.toList.toArray⟩ := by cases a; rfl
theorem strEq (a b:ByteArray):abinS .eql a b=some (.bool (decide (a=b))) := by
  have h := str_eq a.data.toList b.data.toList
  rw [← ba_list,← ba_list] at h
  rw [h]
  by_cases hab:a=b
  · subst hab; simp
  · have:¬ a.data.toList=b.data.toList := fun e=>hab (ByteArray.ext (Array.ext' e))
    simp [hab,this]
theorem ba_empty (n:ByteArray):n=⟨#[]⟩↔n.size=0 := by
  constructor
  · rintro rfl; rfl
  · intro h
    exact ByteArray.ext (Array.eq_empty_of_size_eq_zero h)
end Go.Proofs.YticefdfhcahlfaaGreatDoor.AM




namespace Go.Proofs.YticefdfhcahlfaaGreatDoor.AM
def Grow (σ σ':St):Prop := σ.next≤σ'.next∧∀ a,a<σ.next→σ'.mem.get a=σ.mem.get a
theorem Grow.refl (σ:St):Grow σ σ := ⟨Nat.le_refl _,fun _ _=>rfl⟩
theorem Grow.trans {a b c:St} (h:Grow a b) (k:Grow b c):Grow a c := ⟨Nat.le_trans h.1 k.1,fun x hx=>by rw [k.2 x (by have := h.1; omega),h.2 x hx]⟩
end Go.Proofs.YticefdfhcahlfaaGreatDoor.AM

namespace Go.Proofs.YticefdfhcahlfaaGreatDoor.AM
set_option maxRecDepth 100000
set_option linter.unusedVariables false
set_option linter.unusedSimpArgs false
theorem beN_drop (n:Nat):∀ (d s:Nat),(beN (d+s) n).drop d=beN s n
  | 0,s=>by simp
  | d+1,s=>by
    rw [show d+1+s=(d+s)+1 by omega]
    simp only [beN,List.drop_succ_cons]
    exact beN_drop n d s
abbrev WB (σ:St) (w:Nat) (l:List UInt8) (b:Option Nat):Prop := HB rwB σ w l b
theorem shr8 {n i q:Nat} (hi:i<8) (hq:n / 256 ^ i=q) (ρ:St):evalV ρ (.bin .shr (.int .u64 (n:Int)) (.int .i64 (8*(i:Int))))=some (.int .u64 (q:Int),ρ) := by
  rw [← hq]
  have h0:(8:Int)*(i:Int)=((8*i:Nat):Int) := by omega
  rw [h0]
  have h1:¬ (((8*i:Nat):Int)<0) := by omega
  have h2:min ((8*i:Nat):Int).toNat (IntKind.bits .u64)=8*i := by
    have:IntKind.bits .u64=64 := rfl
    rw [this,Int.toNat_natCast]; omega
  have h3:(2:Nat) ^ (8*i)=256 ^ i := by rw [Nat.pow_mul]
  simp only [evalV,abin,ashift,if_neg h1,h2]
  rw [Int.fdiv_eq_ediv_of_nonneg _ (Int.pow_nonneg (by omega))]
  simp only [Option.map_some]
  congr 3
  have h4:((2:Int) ^ (8*i))=((256 ^ i:Nat):Int) := by rw [← h3]; simp
  rw [h4]
  exact (Int.natCast_ediv _ _).symm
theorem byte_wrap (x:Nat):IntKind.u8.wrap (x:Int)=((UInt8.ofNat x).toNat:Int) := by
  have h1:(UInt8.ofNat x).toNat=x % 256 := by simp
  rw [h1]
  have h2:IntKind.u8.wrap (x:Int)=(x:Int) % 256 := by
    have:IntKind.wrap .u8 (x:Int)=IntKind.wrap .u8 ((x:Int) % 256) := by
      simp [IntKind.wrap,IntKind.bits,IntKind.signed]
    rw [this,IntWalk.u8_in] <;> omega
  rw [h2]; omega
def WnJ (w size n:Nat) (σ0:St) (mm:Nat) (rg:Regs) (σ':St):Prop := ∃ i,mm=8 - i∧i≤8∧σ'.next=σ0.next+1∧σ'.mem.get σ0.next=some (.cells 1 (List.replicate (8 - i) (AVal.int .u8 0)++bytesV (beN i n))) ∧
  (∀ a,a≠σ0.next→σ'.mem.get a=σ0.mem.get a)∧rg=[(0,.ptr w 0),(1,.int .u64 (n:Int)),(2,.int .i64 (size:Int)),(6,.ptr σ0.next 0),(8,.int .i64 (i:Int))]
theorem wnum_c {σ:St} {w:Nat} {l:List UInt8} {b:Option Nat} (h:WB σ w l b) {n size:Nat} (hs:1≤size∧size≤8) (hl:l.length≤1000000000) (Q:AVal→St→Prop)
    (hQ:∀ σ' b',WB σ' w (l++beN size n) b'→WStp w b b' σ σ'→Q (.tup []) σ'):ACall Tryz.prog 78 [.ptr w 0,.int .u64 (n:Int),.int .i64 (size:Int)] σ Q := by
  refine ACall.of_compF hmx (fun a w=>Tryz.call78 a w) Tryz.func78 cf78 (n := 3) (by decide) rfl ?_
  simp [ac78,rs78,lk_cons]
  refine wp_loop (WnJ w size n σ) 8 ?_ ?_
  · exact ⟨0,rfl,by omega,rfl,by simp [beN,bytesV,List.replicate],fun a ha=>by simp [ha],rfl⟩
  · rintro mm rg σ' ⟨i,rfl,hi,g1,g2,g3,rfl⟩
    by_cases hc:i<8
    · have w1:IntKind.i64.wrap (7 - (i:Int))=((7 - i:Nat):Int) := by rw [IntWalk.i64_in] <;> omega
      have w2:IntKind.i64.wrap (8*(i:Int))=8*(i:Int) := by rw [IntWalk.i64_in] <;> omega
      have w3:IntKind.i64.wrap ((i:Int)+1)=((i+1:Nat):Int) := by rw [IntWalk.i64_in] <;> omega
      obtain ⟨q,hq⟩:∃ q,n / 256 ^ i=q := ⟨_,rfl⟩
      have e1 := shr8 hc hq σ'
      have e2 := byte_wrap q
      obtain ⟨k,hk⟩:∃ k,7 - i=k := ⟨_,rfl⟩
      rw [hk] at w1
      have hlt:(i:Int)<8 := by omega
      have k1:(k:Int)<8 := by omega
      have k2:k≤7 := by omega
      have hset:storeL (List.replicate (8 - i) (AVal.int .u8 0)++bytesV (beN i n)) k [AVal.int .u8 ((q:Int) % 256)]=List.replicate (8 - (i+1)) (AVal.int .u8 0)++bytesV (beN (i+1) n) := by
        have h8:8 - i=k+1 := by omega
        have h7:8 - (i+1)=k := by omega
        rw [h8,h7]
        simp only [storeL]
        rw [List.set_append,if_pos (by simp),List.replicate_succ',List.set_append,if_neg (by simp),List.length_replicate]
        simp [beN,bytesV,hq]
      have hlen:(List.replicate (8 - i) (AVal.int .u8 0)++bytesV (beN i n)).length=8 := by simp [bytesV_len,beN_len]; omega
      generalize List.replicate (8 - i) (AVal.int .u8 0)++bytesV (beN i n)=arr at g2 hset hlen
      simp [lk_cons,hlt,w1,w2,w3,↓e1,e2,g2,k1,k2,hlen,hset]
      exact ⟨8 - (i+1),by omega,i+1,rfl,by omega,g1,by simp,fun a ha=>by simp [ha,g3 a ha],by simp⟩
    · have:i=8 := by omega
      subst this
      obtain ⟨v,h1,h2,h3,h4⟩ := h
      have m1:σ'.mem.get w=some (.cells 1 [v]) := by rw [g3 w (by omega)]; exact h1
      have w1:IntKind.i64.wrap (8 - (size:Int))=((8 - size:Nat):Int) := by rw [IntWalk.i64_in] <;> omega
      obtain ⟨d,hd⟩:∃ d,8 - size=d := ⟨_,rfl⟩
      rw [hd] at w1
      have k1:d≤8 := by omega
      have h2':GS rwB σ' v l b := h2.keep (by omega) fun a ha _=>g3 a (by omega)
      have hsrc:srcL σ' 1 (.sl σ.next d (8 - d) (8 - d) true)=some (rws rwB (beN size n),(beN size n).length) := by
        have e1:8 - d=size := by omega
        have e2:bytesV (beN size n)=(bytesV (beN 8 n)).drop d := by
          have := beN_drop n d size
          rw [show d+size=8 by omega] at this
          rw [← this]; simp [bytesV,List.map_drop]
        simp [srcL,g2,e1,beN_len,rwsB,bytesV_len,show d+size≤8 by omega]
        rw [e2,List.take_of_length_le (by rw [List.length_drop,bytesV_len,beN_len]; omega)]
      obtain ⟨v',σ2,b',e1,e2,e3,e4,e5⟩ := gs_appN h2' (by_ := 1) (by decide) hsrc (by rw [beN_len]; omega) (by rw [beN_len]; omega)
      have m2:σ2.mem.get w=some (.cells 1 [v]) := by rw [e5 w (by omega) h3]; exact m1
      have hgl:(8:Nat)≤(List.replicate (8 - 8) (AVal.int .u8 0)++bytesV (beN 8 n)).length := by simp [bytesV_len,beN_len]
      simp [bytesV_len,beN_len] at g2
      simp [lk_cons,m1,g2,w1,optM,asliceSl,bnd,k1,bytesV_len,beN_len,↓e1,m2,e2.one,storeL]
      have hwb:b'≠some w := fun e=>by
        rcases e3 with e3 | e3
        · exact h3 (e3 ▸ e)
        · rw [e3] at e; cases e; omega
      refine hQ _ b' ⟨v',by simp,e2.keep (by simp) fun a ha hb=>?_,hwb,by simp; omega⟩ ⟨by simp; omega,fun x hx=>?_,fun a ha hw hb=>?_⟩
      · have:a≠w := fun e=>hwb (by rw [hb,e])
        simp [this]
      · rcases e3 with e3 | e3
        · exact .inl (e3 ▸ hx)
        · rw [e3] at hx; cases hx; exact .inr (by omega)
      · simp [hw]
        rw [e5 a (by omega) hb,g3 a (by omega)]
end Go.Proofs.YticefdfhcahlfaaGreatDoor.AM

namespace Go.Proofs.YticefdfhcahlfaaGreatDoor.AM
set_option maxRecDepth 100000
set_option linter.unusedVariables false
set_option linter.unusedSimpArgs false
section
variable {σ:St} {w:Nat} {l:List UInt8} {b:Option Nat}
theorem wu64_c (h:WB σ w l b) {n:Nat} (hl:l.length≤1000000000) (Q:AVal→St→Prop)
    (hQ:∀ σ' b',WB σ' w (l++beN 8 n) b'→WStp w b b' σ σ'→Q (.tup []) σ'):ACall Tryz.prog 47 [.ptr w 0,.int .u64 (n:Int)] σ Q := by
  refine ACall.of_compF hmx (fun a w=>Tryz.call47 a w) Tryz.func47 cf47 (n := 2) (by decide) rfl ?_
  simp [ac47,rs47,lk_cons]
  refine wnum_c h (size := 8) (by decide) hl _ fun σ' b' h1 h2=>?_
  simp [lk_cons]
  exact hQ σ' b' h1 h2
theorem wu8_c (h:WB σ w l b) {n:Nat} (hn:n<256) (hl:l.length≤1000000000) (Q:AVal→St→Prop)
    (hQ:∀ σ' b',WB σ' w (l++beN 1 n) b'→WStp w b b' σ σ'→Q (.tup []) σ'):ACall Tryz.prog 46 [.ptr w 0,.int .u8 (n:Int)] σ Q := by
  refine ACall.of_compF hmx (fun a w=>Tryz.call46 a w) Tryz.func46 cf46 (n := 2) (by decide) rfl ?_
  have w1:IntKind.u64.wrap (n:Int)=n := by rw [IntWalk.u64_in] <;> omega
  simp [ac46,rs46,lk_cons,w1]
  refine wnum_c h (size := 1) (by decide) hl _ fun σ' b' h1 h2=>?_
  simp [lk_cons]
  exact hQ σ' b' h1 h2
theorem wdone_c (h:WB σ w l b) (hl:l.length≤1000000000) (Q:AVal→St→Prop)
    (hQ:∀ σ' v' b',GS rwB σ' v' l b'→(∀ x,b'=some x→σ.next≤x)→Grow σ σ'→Q v' σ'):ACall Tryz.prog 52 [.ptr w 0] σ Q := by
  refine ACall.of_compF hmx (fun a w=>Tryz.call52 a w) Tryz.func52 cf52 (n := 1) (by decide) rfl ?_
  obtain ⟨v,h1,h2,h3,h4⟩ := id h
  simp [ac52,rs52,lk_cons,h1]
  refine ACall.of_compF hmx (fun a w=>Tryz.call79 a w) Tryz.func79 cf79 (n := 1) (by decide) rfl ?_
  rcases id h2 with ⟨rfl,rfl,rfl⟩ | ⟨o,t,rfl,rfl,h5,h6⟩
  · simp [ac79,rs79,lk_cons]
    exact hQ σ .nilsl none (GS.nil σ) (by simp) ⟨Nat.le_refl _,fun _ _=>rfl⟩
  · have hg:GS rwB ⟨σ.mem.set σ.next (.cells 1 []),σ.next+1⟩ (.sl σ.next 0 0 0 true) [] (some σ.next) := .inr ⟨σ.next,true,rfl,rfl,by simp,by simp [rws]⟩
    have hsrc:srcL ⟨σ.mem.set σ.next (.cells 1 []),σ.next+1⟩ 1 (.sl o 0 l.length l.length t)=some (rws rwB l,l.length) := (h2.keep (by simp) fun a ha _=>by simp [show ¬ a=σ.next by omega]).src
    obtain ⟨v',σ2,b',e1,e2,e3,e4,e5⟩ := gs_appN hg (by_ := 1) (by decide) hsrc (by simp; omega) (by simp; omega)
    simp only [List.nil_append] at e2
    simp [ac79,rs79,lk_cons,fillL,repL,↓e1]
    simp at e4 e5
    refine hQ _ v' b' e2 (fun x hx=>?_) ⟨by omega,fun a ha=>?_⟩
    · rcases e3 with e3 | e3
      · rw [e3] at hx; cases hx; omega
      · rw [e3] at hx; cases hx; simp
    · rw [e5 a (by omega) (by omega)]
      simp [show ¬ a=σ.next by omega]
end
end Go.Proofs.YticefdfhcahlfaaGreatDoor.AM

namespace Go.Proofs.YticefdfhcahlfaaGreatDoor.AM
set_option maxRecDepth 100000
set_option linter.unusedVariables false
set_option linter.unusedSimpArgs false
def PuJ (n size:Nat) (l:List UInt8) (b:Option Nat) (σ0:St) (mm:Nat) (rg:Regs) (σ':St):Prop := ∃ (k:Nat) (v:AVal) (l1:List UInt8) (b1:Option Nat),mm=k∧k≤size∧l1++beN k n=l++beN size n∧GS rwB σ' v l1 b1∧BStp b b1 σ0 σ'∧rg=[(0,v),(1,.int .u64 (n:Int)),(7,.int .i64 ((k:Int) - 1))]
def PvJ (n i:Nat) (v:AVal) (σ1:St) (mm:Nat) (rg:Regs) (σ':St):Prop := ∃ j,mm=i - j∧j≤i∧σ'=σ1∧rg=[(0,v),(1,.int .u64 (n:Int)),(7,.int .i64 (i:Int)),(8,.int .u64 ((n / 256 ^ j:Nat):Int)),(9,.int .i64 (j:Int))]
theorem rput_c {σ:St} {v:AVal} {l:List UInt8} {b:Option Nat} (h:GS rwB σ v l b) {n size:Nat} (hs:size≤8) (hl:l.length≤1000000000) (hn:n<18446744073709551616) (Q:AVal→St→Prop)
    (hQ:∀ v' σ' b',GS rwB σ' v' (l++beN size n) b'→BStp b b' σ σ'→Q v' σ'):ACall Tryz.prog 16 [v,.int .u64 (n:Int),.int .i64 (size:Int)] σ Q := by
  refine ACall.of_compF hmx (fun a w=>Tryz.call16 a w) Tryz.func16 cf16 (n := 3) (by decide) rfl ?_
  have w0:IntKind.i64.wrap ((size:Int) - 1)=(size:Int) - 1 := by rw [IntWalk.i64_in] <;> omega
  simp [ac16,rs16,lk_cons,w0]
  refine wp_loop (PuJ n size l b σ) size ?_ ?_
  · exact ⟨size,v,l,b,rfl,Nat.le_refl _,rfl,h,BStp.refl _ _,rfl⟩
  · rintro mm rg σ1 ⟨k,v1,l1,b1,rfl,hk,hl1,g1,g2,rfl⟩
    cases mm with
    | zero =>
      simp [beN] at hl1
      subst hl1
      simp [lk_cons]
      exact hQ v1 σ1 b1 g1 g2
    | succ i =>
      have e0:((i+1:Nat):Int) - 1=(i:Int) := by omega
      have c0:(i:Int) ≥ 0 := by omega
      rw [e0]
      simp [lk_cons,c0]
      refine wp_loop (PvJ n i v1 σ1) i ?_ ?_
      · exact ⟨0,rfl,by omega,rfl,by simp [lk_cons]⟩
      · rintro mm rg σ2 ⟨j,rfl,hj,rfl,rfl⟩
        obtain ⟨q,hq⟩:∃ q,n / 256 ^ j=q := ⟨_,rfl⟩
        have hqn:q≤n := by rw [← hq]; exact Nat.div_le_self _ _
        rw [hq]
        by_cases hc:j<i
        · have w1:IntKind.i64.wrap ((j:Int)+1)=((j+1:Nat):Int) := by rw [IntWalk.i64_in] <;> omega
          have hc':(j:Int)<i := by omega
          have w2:IntKind.u64.wrap ((q:Int) / 256)=((q / 256:Nat):Int) := by rw [IntWalk.u64_in] <;> omega
          have w3:IntKind.u64.wrap ((q:Int).tdiv 256)=((q / 256:Nat):Int) := by
            rw [Int.tdiv_eq_ediv_of_nonneg (by omega),w2]
          obtain ⟨q',hq'⟩:∃ q',q / 256=q' := ⟨_,rfl⟩
          rw [hq'] at w2 w3
          simp [lk_cons,hc,hc',w1,w2,w3]
          refine ⟨i - (j+1),by omega,j+1,rfl,by omega,rfl,?_⟩
          have:n / 256 ^ (j+1)=q' := by rw [Nat.pow_succ,← Nat.div_div_eq_div_mul,hq,hq']
          simp [this]
        · have:j=i := by omega
          subst this
          have w3:(q:Int).tmod 256=((q % 256:Nat):Int) := by
            rw [Int.tmod_eq_emod_of_nonneg (by omega)]; omega
          have w4 := byte_wrap (q % 256)
          have w5:(UInt8.ofNat (q % 256)).toNat=(UInt8.ofNat q).toNat := by simp
          rw [w5,show ((q % 256:Nat):Int)=(q:Int) % 256 by omega] at w4
          have w6:IntKind.i64.wrap ((j:Int) - 1)=(j:Int) - 1 := by rw [IntWalk.i64_in] <;> omega
          have hb:GS rwB ⟨σ2.mem.set σ2.next (.cells 1 (rwB.a (UInt8.ofNat q))),σ2.next+1⟩ v1 l1 b1 := g1.keep (by simp) fun a ha _=>by simp [show ¬ a=σ2.next by omega]
          have hll := congrArg List.length hl1
          simp only [List.length_append,beN_len] at hll
          obtain ⟨σ',e1,e2,e3,e4⟩ := gs_app1 hb (nb := σ2.next) (by_ := 1) (t := true) (x := UInt8.ofNat q) (by decide) (by simp) (fun e=>by have := g1.lt e; omega) (by omega) (by omega)
          simp only [rwB] at e1
          generalize (UInt8.ofNat q).toNat=z at w4 e1
          simp [lk_cons,w3,w4,fillL,repL,storeL,↓e1,w6]
          refine ⟨j,Nat.lt_succ_self _,j,_,l1++[UInt8.ofNat q],_,rfl,by omega,?_,e2,g2.trans ⟨by rw [e3]; simp; omega,fun x hx=>?_,fun a ha hb=>?_⟩,rfl⟩
          · rw [← hl1]; simp [beN,hq]
          · cases hx; exact .inr (by simp)
          · rw [e4 a (by simp; omega) hb]; simp [show ¬ a=σ2.next by omega]
theorem rputb_c {σ:St} {v:AVal} {l:List UInt8} {b:Option Nat} (h:GS rwB σ v l b) {u:AVal} {m:List UInt8} {c:Option Nat} (hu:GS rwB σ u m c) (hbc:∀ x,c=some x→b≠some x) (hl:l.length≤1000000) (hm:m.length≤1000000) (Q:AVal→St→Prop)
    (hQ:∀ v' σ' b',GS rwB σ' v' (l++(beN 4 m.length++m)) b'→BStp b b' σ σ'→Q v' σ'):ACall Tryz.prog 19 [v,u] σ Q := by
  refine ACall.of_compF hmx (fun a w=>Tryz.call19 a w) Tryz.func19 cf19 (n := 2) (by decide) rfl ?_
  have w1:IntKind.u64.wrap (m.length:Int)=m.length := by rw [IntWalk.u64_in] <;> omega
  have hlen := hu.len
  simp [ac19,rs19,lk_cons,↓hlen,w1]
  refine rput_c h (size := 4) (by decide) (by omega) (by omega) _ fun v1 σ1 b1 h1 h2=>?_
  have hu1:GS rwB σ1 u m c := hu.keep h2.next fun a ha hc=>h2.keep a ha (hbc a hc)
  obtain ⟨v',σ2,b',e1,e2,e3,e4,e5⟩ := gs_appN h1 (by_ := 1) (by decide) hu1.src (by simp [beN_len]; omega) (by simp [beN_len]; omega)
  simp [lk_cons,↓e1]
  rw [List.append_assoc] at e2
  refine hQ v' σ2 b' e2 (h2.trans ⟨e4,fun x hx=>?_,e5⟩)
  rcases e3 with e3 | e3
  · exact .inl (e3 ▸ hx)
  · rw [e3] at hx; cases hx; exact .inr (Nat.le_refl _)
end Go.Proofs.YticefdfhcahlfaaGreatDoor.AM

namespace Go.Proofs.YticefdfhcahlfaaGreatDoor.AM
set_option maxRecDepth 100000
set_option linter.unusedVariables false
set_option linter.unusedSimpArgs false
def rwL:Rw (ByteArray×Ln) 5 := ⟨fun x=>[.str x.1,u64 (x.2.1:Int),u64 (x.2.2.1:Int),u64 (x.2.2.2.1:Int),u64 (x.2.2.2.2:Int)],fun _=>rfl,fun _=>rfl⟩
theorem rwL_row {T:Tbl} {i:Nat} {n:ByteArray} {x:Ln} (h:T[i]?=some (n,x)):(rws rwL T)[i*5]?=some (.str n)∧(rws rwL T)[i*5+1]?=some (u64 (x.1:Int))∧(rws rwL T)[i*5+2]?=some (u64 (x.2.1:Int))∧(rws rwL T)[i*5+3]?=some (u64 (x.2.2.1:Int))∧(rws rwL T)[i*5+4]?=some (u64 (x.2.2.2:Int)) := by
  have h0 := rws_get rwL h (j := 0) (by decide)
  have h1 := rws_get rwL h (j := 1) (by decide)
  have h2 := rws_get rwL h (j := 2) (by decide)
  have h3 := rws_get rwL h (j := 3) (by decide)
  have h4 := rws_get rwL h (j := 4) (by decide)
  exact ⟨h0,h1,h2,h3,h4⟩
end Go.Proofs.YticefdfhcahlfaaGreatDoor.AM

namespace Go.Proofs.YticefdfhcahlfaaGreatDoor.AM
set_option maxRecDepth 100000
set_option linter.unusedVariables false
set_option linter.unusedSimpArgs false
def lessB (a b:ByteArray):Bool := decide (a.data.toList<b.data.toList)
theorem bLess (a b:ByteArray):Op.bytesLess a.toList b.toList=lessB a b := by
  rw [ByteArray.toList_eq,ByteArray.toList_eq,bytesLess_eq]; rfl
theorem strLss (a b:ByteArray):abinS .lss a b=some (.bool (lessB a b)) := by simp only [abinS,bLess]
theorem lessB_irrefl (a:ByteArray):lessB a a=false := by simp [lessB,List.lt_irrefl]
theorem lessB_trans {a b c:ByteArray} (h:lessB a b=true) (k:lessB b c=true):lessB a c=true := by
  simp only [lessB,decide_eq_true_eq] at *
  exact List.lt_trans h k
theorem lessB_tri {a b:ByteArray} (h:lessB a b=false) (k:lessB b a=false):a=b := by
  simp only [lessB,decide_eq_false_iff_not] at *
  exact ByteArray.ext (Array.ext' (List.le_antisymm k h))
theorem lessB_ntrans {a b c:ByteArray} (h:lessB a b=false) (k:lessB b c=false):lessB a c=false := by
  simp only [lessB,decide_eq_false_iff_not] at *
  exact fun hac=>(List.not_lt.2 (List.le_trans (List.not_lt.1 k) (List.not_lt.1 h))) hac
theorem lessB_asymm {a b:ByteArray} (h:lessB a b=true):lessB b a=false := by
  cases hb:lessB b a with
  | false=>rfl
  | true=>have := lessB_trans h hb; rw [lessB_irrefl] at this; cases this
def RisL (T:Tbl):Prop := ∀ (i j:Nat) (x y:ByteArray×Ln),i<j→T[i]?=some x→T[j]?=some y→lessB y.1 x.1=false
theorem RisL.tail {x:ByteArray×Ln} {T:Tbl} (h:RisL (x :: T)):RisL T := fun i j a b hij ha hb=>h (i+1) (j+1) a b (by omega) (by simpa using ha) (by simpa using hb)
theorem RisL.uniq:∀ {S T:Tbl},RisL S→RisL T→(S.map (·.1)).Nodup→S.Perm T→S=T
  | [],T,_,_,_,h=>h.nil_eq
  | x :: S,[],_,_,_,h=>by have := h.length_eq; simp at this
  | x :: S,y :: T,hs,ht,hn,h=>by
    have hxy:x=y := by
      have h1:x∈y :: T := h.subset (List.mem_cons_self)
      have h2:y∈x :: S := h.symm.subset (List.mem_cons_self)
      rcases List.mem_cons.1 h1 with e | e
      · exact e
      rcases List.mem_cons.1 h2 with e' | e'
      · exact e'.symm
      obtain ⟨i,hi⟩ := List.getElem?_of_mem e
      obtain ⟨j,hj⟩ := List.getElem?_of_mem e'
      have l1 := ht 0 (i+1) y x (by omega) rfl (by simpa using hi)
      have l2 := hs 0 (j+1) x y (by omega) rfl (by simpa using hj)
      have he := lessB_tri l1 l2
      simp only [List.map_cons,List.nodup_cons] at hn
      exact absurd (by rw [he]; exact List.mem_map.2 ⟨y,e',rfl⟩) hn.1
    subst hxy
    simp only [List.map_cons,List.nodup_cons] at hn
    rw [RisL.uniq hs.tail ht.tail hn.2 (List.perm_cons x |>.1 h)]
theorem RisL.ins {T:Tbl} {k:Nat} {x:ByteArray×Ln} (h:RisL T) (hk:k≤T.length) (h1:∀ j p,j<k→T[j]?=some p→lessB p.1 x.1=true) (h2:∀ p,T[k]?=some p→lessB p.1 x.1=false):RisL (T.take k++x :: T.drop k) := by
  have hl:(T.take k).length=k := by simp; omega
  have get:∀ i p,(T.take k++x :: T.drop k)[i]?=some p→(i<k∧T[i]?=some p)∨(i=k∧p=x)∨(k<i∧T[i - 1]?=some p) := by
    intro i p hp
    rcases Nat.lt_trichotomy i k with hi | hi | hi
    · rw [List.getElem?_append_left (by omega),List.getElem?_take,if_pos hi] at hp
      exact .inl ⟨hi,hp⟩
    · subst hi
      rw [List.getElem?_append_right (by omega),hl,Nat.sub_self] at hp
      simp at hp
      exact .inr (.inl ⟨rfl,hp.symm⟩)
    · rw [List.getElem?_append_right (by omega),hl] at hp
      obtain ⟨d,hd⟩:∃ d,i - k=d+1 := ⟨i - k - 1,by omega⟩
      rw [hd,List.getElem?_cons_succ,List.getElem?_drop] at hp
      exact .inr (.inr ⟨hi,by rw [← hp]; congr 1; omega⟩)
  have low:∀ j p,k≤j→T[j]?=some p→lessB p.1 x.1=false := by
    intro j p hj hp
    rcases Nat.eq_or_lt_of_le hj with e | e
    · exact h2 p (by rw [e]; exact hp)
    · obtain ⟨q,hq⟩:∃ q,T[k]?=some q := ⟨_,List.getElem?_eq_getElem (by have := (List.getElem?_eq_some_iff.1 hp).1; omega)⟩
      exact lessB_ntrans (h k j q p e hq hp) (h2 q hq)
  intro i j a b hij ha hb
  rcases get i a ha with ⟨i1,i2⟩ | ⟨i1,rfl⟩ | ⟨i1,i2⟩ <;> rcases get j b hb with ⟨j1,j2⟩ | ⟨j1,rfl⟩ | ⟨j1,j2⟩
  · exact h i j a b hij i2 j2
  · exact lessB_asymm (h1 i a i1 i2)
  · exact h i (j - 1) a b (by omega) i2 j2
  · omega
  · omega
  · exact low (j - 1) b (by omega) j2
  · omega
  · omega
  · exact h (i - 1) (j - 1) a b (by omega) i2 j2
end Go.Proofs.YticefdfhcahlfaaGreatDoor.AM

namespace Go.Proofs.YticefdfhcahlfaaGreatDoor.AM
set_option maxRecDepth 100000
set_option linter.unusedVariables false
set_option linter.unusedSimpArgs false
def InJ (m i:Nat) (x:ByteArray×Ln) (v:AVal) (ys:Tbl) (σ1:St) (mm:Nat) (rg:Regs) (σ':St):Prop := ∃ k:Nat,mm=ys.length - k∧k≤ys.length∧(∀ j p,j<k→ys[j]?=some p→lessB p.1 x.1=true)∧σ'=σ1∧rg=[(0,.ptr m 0),(3,v),(4,i64 i),(5,i64 k)]
def AlJ (m:Nat) (T:Tbl) (σ0:St) (mm:Nat) (rg:Regs) (σ':St):Prop := ∃ (i:Nat) (v:AVal) (ys:Tbl) (b1:Option Nat),mm=T.length - i∧i≤T.length∧ys.Perm (T.take i)∧RisL ys∧GS rwL σ' v ys b1∧(∀ x,b1=some x→σ0.next≤x)∧Grow σ0 σ'∧rg=[(0,.ptr m 0),(3,v),(4,i64 i)]
theorem perm_ins {T ys:Tbl} {i k:Nat} {x:ByteArray×Ln} (hp:ys.Perm (T.take i)) (hx:T[i]?=some x):(ys.take k++x :: ys.drop k).Perm (T.take (i+1)) := by
  have htk:T.take (i+1)=T.take i++[x] := by rw [List.take_add_one,hx]; rfl
  rw [htk]
  have h1:(ys.take k++x :: ys.drop k).Perm (x :: (ys.take k++ys.drop k)) := List.perm_middle
  rw [List.take_append_drop] at h1
  exact h1.trans ((List.Perm.cons x hp).trans (List.perm_append_singleton x (T.take i)).symm)
end Go.Proofs.YticefdfhcahlfaaGreatDoor.AM


namespace Go.Proofs.YticefdfhcahlfaaGreatDoor.AM
set_option maxRecDepth 100000
set_option linter.unusedVariables false
set_option linter.unusedSimpArgs false
def dn (T:Tbl):Tbl := T.filter fun p=>decide (p.2.2.1≠0)
def lnB (x:ByteArray×Ln):List UInt8 := (beN 4 x.1.size++x.1.data.toList)++(beN 8 x.2.2.1++(beN 8 x.2.2.2.1++beN 8 x.2.2.2.2))
def lnsB (T:Tbl):List UInt8 := (T.map lnB).flatten
def encT (T:Tbl):List UInt8 := beN 1 (dn T).length++lnsB (dn T)
theorem lnsB_snoc (T:Tbl) (x:ByteArray×Ln):lnsB (T++[x])=lnsB T++lnB x := by simp [lnsB]
theorem dn_snoc (T:Tbl) (x:ByteArray×Ln):dn (T++[x])=dn T++(if x.2.2.1=0 then [] else [x]) := by
  simp only [dn,List.filter_append]
  congr 1
  by_cases h:x.2.2.1=0 <;> simp [List.filter_cons,h]
theorem dn_len (T:Tbl):(dn T).length≤T.length := List.length_filter_le _ _
def LnOk (p:ByteArray×Ln):Prop := p.1.size≤1000∧p.2.1<18446744073709551616∧p.2.2.1<18446744073709551616∧p.2.2.2.1<18446744073709551616∧p.2.2.2.2<18446744073709551616
theorem lnB_len {x:ByteArray×Ln} (h:LnOk x):(lnB x).length≤1028 := by
  have := h.1
  simp [lnB,beN_len]; omega
theorem lnsB_len:∀ {T:Tbl},(∀ x∈T,LnOk x)→(lnsB T).length≤T.length*1028
  | [],_=>by simp [lnsB]
  | x :: T,h=>by
    have h1 := lnB_len (h x (by simp))
    have h2 := lnsB_len (T := T) fun y hy=>h y (by simp [hy])
    simp only [lnsB,List.map_cons,List.flatten_cons,List.length_append,List.length_cons] at h2 ⊢
    omega
def B1J (v0 v1:AVal) (ys:Tbl) (σ0:St) (mm:Nat) (rg:Regs) (σ':St):Prop := ∃ (i:Nat) (v2:AVal) (b2:Option Nat),mm=ys.length - i∧i≤ys.length∧GS rwL σ' v2 (dn (ys.take i)) b2∧(∀ x,b2=some x→σ0.next≤x)∧Grow σ0 σ'∧rg=[(1,v0),(5,v2),(6,v1),(7,i64 i)]
end Go.Proofs.YticefdfhcahlfaaGreatDoor.AM

namespace Go.Proofs
open Go.Shelf
def Tryz.sortLn_ren:Go.Shelf.Ren := ⟨fun | 6=>89 | 15=>97 | 14=>96 | 28=>107 | 29=>108 | 20=>99 | 21=>100 | 22=>101 | 23=>102 | 24=>103 | 25=>104 | 26=>105 | 27=>106 | 46=>109 | 47=>110 | 48=>111 | 49=>112 | 50=>113 | 57=>114 | n=>n,fun | 22=>26 | 24=>64 | 25=>151 | 3=>3 | 39=>77 | 0=>0 | 53=>189 | 55=>23 | 4=>4 | 46=>182 | 45=>181 | 50=>186 | 5=>5 | 9=>9 | 66=>191 | 70=>194 | 76=>196 | 77=>197 | n=>n,fun | n=>n⟩
theorem Tryz.sortLn:Go.Proofs.SlLaysF0.n6 Tryz.prog Tryz.sortLn_ren := {
  mixed := by kernel_rfl
  f6 := ⟨Tryz.f89.name,by decide,Tryz.func89.trans (congrArg some (by kernel_rfl))⟩
  f14 := ⟨Tryz.f96.name,by decide,Tryz.func96.trans (congrArg some (by kernel_rfl))⟩
  f15 := Tryz.func97.trans (congrArg some (by kernel_rfl))
  f20 := ⟨Tryz.f99.name,by decide,Tryz.func99.trans (congrArg some (by kernel_rfl))⟩
  f21 := ⟨Tryz.f100.name,by decide,Tryz.func100.trans (congrArg some (by kernel_rfl))⟩
  f22 := ⟨Tryz.f101.name,by decide,Tryz.func101.trans (congrArg some (by kernel_rfl))⟩
  f23 := ⟨Tryz.f102.name,by decide,Tryz.func102.trans (congrArg some (by kernel_rfl))⟩
  f24 := ⟨Tryz.f103.name,by decide,Tryz.func103.trans (congrArg some (by kernel_rfl))⟩
  f25 := ⟨Tryz.f104.name,by decide,Tryz.func104.trans (congrArg some (by kernel_rfl))⟩
  f26 := ⟨Tryz.f105.name,by decide,Tryz.func105.trans (congrArg some (by kernel_rfl))⟩
  f27 := ⟨Tryz.f106.name,by decide,Tryz.func106.trans (congrArg some (by kernel_rfl))⟩
  f28 := Tryz.func107.trans (congrArg some (by kernel_rfl))
  f29 := Tryz.func108.trans (congrArg some (by kernel_rfl))
  f46 := ⟨Tryz.f109.name,by decide,Tryz.func109.trans (congrArg some (by kernel_rfl))⟩
  f47 := Tryz.func110.trans (congrArg some (by kernel_rfl))
  f48 := Tryz.func111.trans (congrArg some (by kernel_rfl))
  f49 := ⟨Tryz.f112.name,by decide,Tryz.func112.trans (congrArg some (by kernel_rfl))⟩
  f50 := ⟨Tryz.f113.name,by decide,Tryz.func113.trans (congrArg some (by kernel_rfl))⟩
  f57 := ⟨Tryz.f114.name,by decide,Tryz.func114.trans (congrArg some (by kernel_rfl))⟩
  t0 := Tryz.underlying0
  a0 := Tryz.isAgg0
  z0 := Tryz.sizeOf0
  v0 := Tryz.zeroValue0
  t3 := Tryz.underlying3
  a3 := Tryz.isAgg3
  z3 := Tryz.sizeOf3
  v3 := Tryz.zeroValue3
  t4 := Tryz.underlying4
  a4 := Tryz.isAgg4
  z4 := Tryz.sizeOf4
  v4 := Tryz.zeroValue4
  t5 := Tryz.underlying5
  a5 := Tryz.isAgg5
  z5 := Tryz.sizeOf5
  v5 := Tryz.zeroValue5
  t9 := Tryz.underlying9
  a9 := Tryz.isAgg9
  z9 := Tryz.sizeOf9
  v9 := Tryz.zeroValue9
  t22 := Tryz.underlying26
  a22 := Tryz.isAgg26
  z22 := Tryz.sizeOf26
  v22 := Tryz.zeroValue26
  t25 := Tryz.underlying151
  a25 := Tryz.isAgg151
  z25 := Tryz.sizeOf151
  v25 := Tryz.zeroValue151
  t39 := Tryz.underlying77
  a39 := Tryz.isAgg77
  z39 := Tryz.sizeOf77
  v39 := Tryz.zeroValue77
  t45 := Tryz.underlying181
  a45 := Tryz.isAgg181
  z45 := Tryz.sizeOf181
  v45 := Tryz.zeroValue181
  t46 := Tryz.underlying182
  a46 := Tryz.isAgg182
  z46 := Tryz.sizeOf182
  v46 := Tryz.zeroValue182
  t50 := Tryz.underlying186
  a50 := Tryz.isAgg186
  z50 := Tryz.sizeOf186
  v50 := Tryz.zeroValue186
  t53 := Tryz.underlying189
  a53 := Tryz.isAgg189
  z53 := Tryz.sizeOf189
  v53 := Tryz.zeroValue189
  t55 := Tryz.underlying23
  a55 := Tryz.isAgg23
  z55 := Tryz.sizeOf23
  v55 := Tryz.zeroValue23
  t66 := Tryz.underlying191
  a66 := Tryz.isAgg191
  z66 := Tryz.sizeOf191
  v66 := Tryz.zeroValue191
  t70 := Tryz.underlying194
  a70 := Tryz.isAgg194
  z70 := Tryz.sizeOf194
  v70 := Tryz.zeroValue194
  t76 := Tryz.underlying196
  a76 := Tryz.isAgg196
  z76 := Tryz.sizeOf196
  v76 := Tryz.zeroValue196
  t77 := Tryz.underlying197
  a77 := Tryz.isAgg197
  z77 := Tryz.sizeOf197
  v77 := Tryz.zeroValue197 }
end Go.Proofs

namespace Go.Proofs.YticefdfhcahlfaaGreatDoor.AM
open Go.RowKit
set_option maxRecDepth 100000
set_option linter.unusedVariables false
set_option linter.unusedSimpArgs false
def GSl (lo:Nat) (σ:St) (v:AVal) (l:Tbl):Prop := v=.nilsl∧l=[]∨∃ o,v=.sl o 0 l.length l.length false∧lo≤o∧o<σ.next∧σ.mem.get o=some (.cells 5 (rws rwL l))∧0<l.length
theorem GSl.frame' {lo lo':Nat} {σ1 σ2:St} {v:AVal} {l:Tbl} (h:GSl lo σ1 v l) (hn:σ1.next≤σ2.next) (hl:lo'≤lo) (hm:∀ a,lo≤a→a<σ1.next→σ2.mem.get a=σ1.mem.get a):GSl lo' σ2 v l := by
  rcases h with h | ⟨o,h1,h3,h4,h5,h6⟩
  · exact .inl h
  · exact .inr ⟨o,h1,by omega,by omega,(hm o h3 h4).trans h5,h6⟩
theorem GSl.frame {lo:Nat} {σ1 σ2:St} {v:AVal} {l:Tbl} (h:GSl lo σ1 v l) (hn:σ1.next≤σ2.next) (hm:∀ a,lo≤a→a<σ1.next→σ2.mem.get a=σ1.mem.get a):GSl lo σ2 v l := h.frame' hn (Nat.le_refl _) hm
theorem GSl.lo {lo:Nat} {σ1:St} {v:AVal} {l:Tbl} (h:GSl lo σ1 v l) {o:Nat} (hv:v=.sl o 0 l.length l.length false):lo≤o := by
  rcases h with ⟨rfl,_⟩ | ⟨o',rfl,h3,_⟩
  · cases hv
  · cases hv; exact h3
theorem GSl.one {lo:Nat} {σ1:St} {v:AVal} {l:Tbl} (h:GSl lo σ1 v l):v.one=true∧cellsOf v=[v] := by
  rcases h with ⟨rfl,_⟩ | ⟨o,rfl,_⟩ <;> simp
theorem GSl.gs {lo:Nat} {σ1:St} {v:AVal} {l:Tbl} (h:GSl lo σ1 v l):∃ b,GS rwL σ1 v l b∧∀ x,b=some x→lo≤x := by
  rcases h with ⟨rfl,rfl⟩ | ⟨o,rfl,h3,h4,h5,_⟩
  · exact ⟨none,GS.nil _,by simp⟩
  · exact ⟨some o,.inr ⟨o,false,rfl,rfl,h4,h5⟩,fun x hx=>by cases hx; exact h3⟩
theorem gsl_app {lo:Nat} {ρ0 ρ:St} {ov:AVal} {l:Tbl} (ho:GSl lo ρ0 ov l) (hn:ρ0.next≤ρ.next) (hm:∀ a,lo≤a→a<ρ0.next→ρ.mem.get a=ρ0.mem.get a) (hl:l.length≤100000) {b:Nat} {x:ByteArray×Ln} (hb:ρ.mem.get b=some (.cells 5 (rwL.a x))) (hlo:lo≤ρ.next) (hb0:ρ0.next≤b) :
    ∃ w ρ',evalV ρ (.append 5 48 ov (.sl b 0 1 1 true))=some (w,ρ')∧GSl lo ρ' w (l++[x])∧ρ'.next=ρ.next+1∧∀ a,a<ρ.next→(∀ o,ov=.sl o 0 l.length l.length false→a≠o)→ρ'.mem.get a=ρ.mem.get a := by
  obtain ⟨c,hg,hc⟩ := (ho.frame hn hm).gs
  have hc0:c≠some b := fun e=>by
    rcases ho with ⟨rfl,rfl⟩ | ⟨o,rfl,_,h4,_⟩
    · rcases hg with ⟨_,_,h⟩ | ⟨_,_,_,h,_⟩
      · rw [h] at e; cases e
      · cases h
    · rcases hg with ⟨h,_⟩ | ⟨_,_,h1,h2,_⟩
      · cases h
      · cases h2; rw [h1] at e; cases e; omega
  obtain ⟨ρ',e1,e2,e3,e4⟩ := gs_app1 hg (nb := b) (by_ := 48) (t := true) (x := x) (by decide) hb hc0 (by omega) (by omega)
  refine ⟨_,ρ',e1,?_,e3,fun a ha hne=>e4 a ha fun e=>?_⟩
  · rcases e2 with ⟨h,_⟩ | ⟨o,t,h1,h2,h3,h4⟩
    · cases h
    · cases h1; exact .inr ⟨ρ.next,by simp,hlo,h3,h4,by simp⟩
  · rcases hg with ⟨_,_,h⟩ | ⟨o,t,h1,h2,_⟩
    · rw [h] at e; cases e
    · rw [h1] at e; cases e
      rcases ho with ⟨rfl,_⟩ | ⟨o',rfl,_⟩
      · cases h2
      · cases h2; exact hne _ rfl rfl
def leftE (S:List Nat) (ents:List Entry):Nat := ents.countP fun e=>decide (e.1 ∉ S)
theorem leftE_lt {S:List Nat} {e:Entry}:∀ {ents:List Entry},e∈ents→e.1 ∉ S→leftE (S++[e.1]) ents<leftE S ents
  | e0 :: ents,h,hs=>by
    have hle:leftE (S++[e.1]) ents≤leftE S ents := List.countP_mono_left fun z _ h=>by
      simp only [decide_eq_true_eq,List.mem_append,not_or] at h ⊢; exact h.1
    simp only [leftE,List.countP_cons] at hle ⊢
    rcases List.mem_cons.1 h with rfl | h
    · simp [hs]
      exact Nat.lt_succ_of_le (by simpa using hle)
    · have ih := leftE_lt h hs
      simp only [leftE] at ih
      by_cases h0:e0.1∈S
      · simp [h0]; simpa using ih
      · by_cases h1:e0.1=e.1
        · simp [h0,h1] at ih ⊢; omega
        · simp [h0,h1]; simpa using ih
def VLn (e:MEnt) (x:ByteArray×Ln):Prop := e.2.2=.agg (rwL.a x)
theorem rwL_inj {x y:ByteArray×Ln} (h:rwL.a x=rwL.a y):x=y := by
  obtain ⟨n,a,b,c,d⟩ := x
  obtain ⟨n',a',b',c',d'⟩ := y
  simp only [rwL,List.cons.injEq,AVal.int.injEq,AVal.str.injEq,true_and,and_true] at h
  obtain ⟨h0,h1,h2,h3,h4⟩ := h
  simp only [Prod.mk.injEq]
  exact ⟨h0,by omega,by omega,by omega,by omega⟩
theorem vln_uniq:∀ {V:List MEnt} {ys zs:Tbl},All2 VLn V ys→All2 VLn V zs→ys=zs
  | [],[],[],_,_=>rfl
  | [],_ :: _,_,h,_=>h.elim
  | [],_,_ :: _,_,h=>h.elim
  | _ :: _,[],_,h,_=>h.elim
  | _ :: _,_,[],_,h=>h.elim
  | v :: V,y :: ys,z :: zs,h,k=>by
    have e:AVal.agg (rwL.a y)=.agg (rwL.a z) := h.1.symm.trans k.1
    rw [rwL_inj (AVal.agg.inj e),vln_uniq h.2 k.2]
theorem perm_ln {V ents:List MEnt} (hp:V.Perm ents):∀ {xs:Tbl},All2 VLn ents xs→∃ ys,All2 VLn V ys∧ys.Perm xs := by
  induction hp with
  | nil=>intro xs h; cases xs with
    | nil=>exact ⟨[],trivial,.nil⟩
    | cons=>exact h.elim
  | cons x p ih=>intro xs h; cases xs with
    | nil=>exact h.elim
    | cons y ys=>obtain ⟨zs,h1,h2⟩ := ih h.2; exact ⟨y :: zs,⟨h.1,h1⟩,h2.cons y⟩
  | swap x y l=>intro xs h; match xs,h with
    | a :: b :: t,h=>exact ⟨b :: a :: t,⟨h.2.1,h.1,h.2.2⟩,.swap _ _ _⟩
  | trans p q ih1 ih2=>intro xs h; obtain ⟨ys,h1,h2⟩ := ih2 h; obtain ⟨zs,h3,h4⟩ := ih1 h1; exact ⟨zs,h3,h4.trans h2⟩
def ApJ (n0 it b1 mp clock:Nat) (ents:List MEnt) (lp:Loop) (σ0:St) (mm:Nat) (rg:Regs) (σ':St):Prop := ∃ (V:List MEnt) (ys:List (ByteArray×Ln)) (ov:AVal),mm=leftE (V.map (·.1)) ents∧V.length+leftE (V.map (·.1)) ents≤ents.length∧(V.map (·.1)).Nodup∧(∀ e∈V,e∈ents)∧All2 VLn V ys ∧
  σ'.mem.get it=some (.iter (some mp) clock (V.map (·.1)) clock)∧σ'.mem.get (n0+1)=some (.loop lp)∧σ'.mem.get n0=some (.cells 1 [ov])∧GSl (it+1) σ' ov ys∧it<σ'.next∧(∀ a,a<n0→σ'.mem.get a=σ0.mem.get a)∧rg=[(0,.yld (n0+1)),(6,.ptr it 0)]
theorem appseq_c {σ:St} {b1 mp clock:Nat} {ents:List MEnt} {xs:List (ByteArray×Ln)} (hb:σ.mem.get b1=some (.cells 1 [.map mp])) (hm:σ.mem.get mp=some (.map clock ents)) (hb1:b1<σ.next) (hmp:mp<σ.next) (hs:∀ e∈ents,e.1<clock) (hn:(ents.map (·.1)).Nodup) (hx:All2 VLn ents xs) (hl:ents.length≤10000)
    (Q:AVal→St→Prop) (hQ:∀ v ys σ',ys.Perm xs→GSl σ.next σ' v ys→Grow σ σ'→Q v σ'):ACall Tryz.prog 95 [.nilsl,.fn 90 [] [.ptr b1 0]] σ Q := by
  refine ACall.of_compF hmx (fun a w=>Tryz.call95 a w) Tryz.func95 cf95 (n := 2) (by decide) rfl ?_
  simp [ac95,rs95,lk_cons]
  intro lp hlp1 hlp2
  refine ACall.of_compF hmx (fun a w=>Tryz.call90 a w) Tryz.func90 cf90 (n := 2) (by decide) rfl ?_
  have z1:¬ b1=σ.next := by omega
  have z2:¬ b1=σ.next+1 := by omega
  have z3:¬ mp=σ.next := by omega
  have z4:¬ mp=σ.next+1 := by omega
  simp [ac90,rs90,lk_cons,hb,hm,z1,z2,z3,z4]
  refine wp_loop (ApJ σ.next (σ.next+1+1) b1 mp clock ents lp σ) (leftE [] ents) ?_ ?_
  · refine ⟨[],[],.nilsl,rfl,by simp [leftE,List.countP_le_length],List.nodup_nil,fun e he=>(by cases he),trivial,by simp,by simp [show ¬ σ.next+1=σ.next+1+1 by omega],by simp [show ¬ σ.next=σ.next+1 by omega,show ¬ σ.next=σ.next+1+1 by omega],.inl ⟨rfl,rfl⟩,by simp,fun a ha=>by simp [show ¬ a=σ.next by omega,show ¬ a=σ.next+1 by omega,show ¬ a=σ.next+1+1 by omega],rfl⟩
  · rintro mm rg σ' ⟨V,ys,ov,rfl,hvl,hv1,hv2,hv3,g1,g2,g3,g4,g5,g6,rfl⟩
    have q1:mp<σ.next := hmp
    obtain ⟨L,n1,n2⟩ := next_all g1 ((g6 mp hmp).trans hm) hs
    simp [lk_cons,↓n1]
    intro p1 p2 hp
    rcases n2 _ hp with ⟨he,hall⟩ | ⟨e,he,hne,hpe⟩
    · cases he
      have hperm := walked hn hv1 hv2 hall
      obtain ⟨zs,hz1,hz2⟩ := perm_ln hperm hx
      have hyz:ys=zs := vln_uniq hv3 hz1
      subst hyz
      simp [lk_cons,g2,g3,hlp1,hlp2,afterQ]
      refine hQ ov ys _ hz2 (g4.frame' (Nat.le_refl _) (by omega) fun a ha _=>by simp [show ¬ a=σ.next+1 by omega]) ⟨by simp; omega,fun a ha=>by simp [show ¬ a=σ.next+1 by omega]; exact g6 a ha⟩
    · cases hpe
      have el := entry_last (σ := ⟨σ'.mem.set (σ.next+1+1) (.iter (some mp) clock (V.map (·.1)++[e.1]) clock),σ'.next⟩) (it := σ.next+1+1) (mp := mp) (clock := clock) (S := V.map (·.1)) (by simp) (by simp [show ¬ mp=σ.next+1+1 by omega,g6 mp hmp,hm]) hn he
      obtain ⟨j,hj⟩ := List.getElem?_of_mem he
      obtain ⟨x,hx1,hx2⟩ := hx.get hj
      simp only [VLn,rwL] at hx2
      have hyl:ys.length≤100000 := by have := hv3.len; omega
      rw [hx2] at el
      simp [lk_cons,↓el,storeL]
      refine ⟨fun v σ3=>v=.bool true∧∃ ov',σ3.mem.get σ.next=some (.cells 1 [ov'])∧GSl (σ.next+1+1+1) σ3 ov' (ys++[x])∧σ3.mem.get (σ.next+1)=some (.loop lp)∧σ3.mem.get (σ.next+1+1)=some (.iter (some mp) clock (V.map (·.1)++[e.1]) clock)∧σ'.next≤σ3.next∧∀ a,a<σ.next→σ3.mem.get a=σ.mem.get a,?_,?_⟩
      · have w1:¬ σ.next=σ'.next := by omega
        have w2:¬ σ.next+1=σ'.next := by omega
        have w3:¬ σ.next=σ'.next+1 := by omega
        have w4:¬ σ.next=σ.next+1+1 := by omega
        have w5:¬ σ.next=σ'.next+1+1 := by omega
        have v1:¬ σ'.next=σ.next := by omega
        have v2:¬ σ'.next=σ.next+1 := by omega
        have v3:¬ σ'.next+1=σ.next := by omega
        have v4:¬ σ.next+1=σ'.next+1+1 := by omega
        have v5:¬ σ.next+1+1=σ'.next := by omega
        have v6:¬ σ.next+1+1=σ'.next+1 := by omega
        have v7:¬ σ.next+1=σ'.next+1 := by omega
        obtain ⟨w,ρ',e1,e2,e3,e4⟩ := gsl_app (x := x) (b := σ'.next+1+1) (ρ := ⟨((((((σ'.mem.set (σ.next+1+1) (.iter (some mp) clock (V.map (·.1)++[e.1]) clock)).set σ'.next (.cells 5 [.str ⟨#[]⟩,.int .u64 0,.int .u64 0,.int .u64 0,.int .u64 0])).set σ'.next (.cells 5 [.str x.1,u64 (x.2.1:Int),u64 (x.2.2.1:Int),u64 (x.2.2.2.1:Int),u64 (x.2.2.2.2:Int)])).set (σ'.next+1) (.cells 5 [.str ⟨#[]⟩,.int .u64 0,.int .u64 0,.int .u64 0,.int .u64 0])).set (σ'.next+1) (.cells 5 [.str x.1,u64 (x.2.1:Int),u64 (x.2.2.1:Int),u64 (x.2.2.2.1:Int),u64 (x.2.2.2.2:Int)])).set (σ.next+1) (.loop { lp with state := .busy })).set (σ'.next+1+1) (.cells 5 [.str x.1,u64 (x.2.1:Int),u64 (x.2.2.1:Int),u64 (x.2.2.2.1:Int),u64 (x.2.2.2.2:Int)]),σ'.next+1+1+1⟩) g4 (by simp; omega) (fun a ha hb=>by simp [show ¬ a=σ.next+1 by omega,show ¬ a=σ.next+1+1 by omega,show ¬ a=σ'.next by omega,show ¬ a=σ'.next+1 by omega,show ¬ a=σ'.next+1+1 by omega]) hyl (by simp [rwL]) (by simp; omega) (by omega)
        simp [roundY,bindP,lk_cons,storeL,w1,w2,w3,w4,w5,v1,v2,v3,v4,v5,v6,v7,g2,g3,fillL,repL,↓e1]
        have m0:ρ'.mem.get σ.next=some (.cells 1 [ov]) := by
          rw [e4 _ (by simp; omega) fun o ho=>by have := g4.lo ho; omega]
          simp [w1,w2,w3,w4,w5,v1,v2,v3,v4,v5,v6,v7,g3]
          all_goals omega
        have m1:ρ'.mem.get (σ.next+1)=some (.loop { lp with state := .busy }) := by
          rw [e4 _ (by simp; omega) fun o ho=>by have := g4.lo ho; omega]
          simp [v4]
          all_goals omega
        have m2:ρ'.mem.get (σ.next+1+1)=some (.iter (some mp) clock (V.map (·.1)++[e.1]) clock) := by
          rw [e4 _ (by simp; omega) fun o ho=>by have := g4.lo ho; omega]
          simp [v5,v6,w2,show ¬ σ.next=σ'.next by omega]
        simp [m0,e2.one,storeL,roundQ,m1,m2,lk_cons]
        refine ⟨e2.frame (by simp) fun a ha hb=>by simp [show ¬ a=σ.next+1 by omega,show ¬ a=σ.next by omega],by omega,by rw [e3]; simp; omega,fun a ha=>?_⟩
        simp [show ¬ a=σ.next+1 by omega,show ¬ a=σ.next by omega]
        rw [e4 _ (by simp; omega) fun o ho=>by have := g4.lo ho; omega]
        simp [show ¬ a=σ.next+1 by omega,show ¬ a=σ.next+1+1 by omega,show ¬ a=σ'.next by omega,show ¬ a=σ'.next+1 by omega,show ¬ a=σ'.next+1+1 by omega]
        exact g6 a ha
      · rintro v σ3 ⟨rfl,ov',k1,k2,k3,k4,k5,k6⟩
        simp [lk_cons]
        refine ⟨leftE ((V++[e]).map (·.1)) ents,by rw [List.map_append]; exact leftE_lt he hne,V++[e],ys++[x],ov',rfl,by rw [List.map_append,List.length_append]; have := leftE_lt he hne; simp only [List.map_cons,List.map_nil,List.length_cons,List.length_nil]; omega,?_,?_,All2.snoc (R := VLn) hx2 hv3,by simpa using k4,k3,k1,k2,by omega,k6,rfl⟩
        · rw [List.map_append,List.nodup_append]
          exact ⟨hv1,by simp,fun a ha b hb e=>by simp at hb; subst hb; subst e; exact hne ha⟩
        · intro y hy
          rcases List.mem_append.1 hy with hy | hy
          · exact hv2 y hy
          · rw [List.mem_singleton.1 hy]; exact he
end Go.Proofs.YticefdfhcahlfaaGreatDoor.AM

namespace Go.Proofs.YticefdfhcahlfaaGreatDoor.AM
open Go.RowKit
open Go.Sort hiding Below ahead
open Go.Shelf
set_option maxRecDepth 100000
set_option linter.unusedVariables false
set_option linter.unusedSimpArgs false
def ordS (a b:ByteArray):Int := if lessB a b then -1 else if a=b then 0 else 1
theorem ordS_lt {a b:ByteArray}:ordS a b<0↔lessB a b=true := by
  unfold ordS
  cases h:lessB a b with
  | true=>simp
  | false =>
    by_cases he:a=b
    · simp [he]
    · simp [he]
theorem baEq (a b:ByteArray):(a.toList == b.toList)=decide (a=b) := by
  have h := strEq a b
  simp only [abinS,Option.some.injEq,AVal.bool.injEq] at h
  exact h
theorem nanS_c (a:ByteArray) (σ:St) (Q:AVal→St→Prop) (h:Q (.bool false) σ):ACall Tryz.prog 91 [.str a] σ Q := by
  refine ACall.of_compF hmx (fun a w=>Tryz.call91 a w) Tryz.func91 cf91 (n := 1) (by decide) rfl ?_
  have e:abinS .neq a a=some (.bool false) := by simp [abinS]
  simp [ac91,rs91,lk_cons,e]
  exact h
theorem cmpS_c (a b:ByteArray) (σ:St) (Q:AVal→St→Prop) (h:Q (i64 (ordS a b)) σ):ACall Tryz.prog 72 [.str a,.str b] σ Q := by
  refine ACall.of_compF hmx (fun a w=>Tryz.call72 a w) Tryz.func72 cf72 (n := 2) (by decide) rfl ?_
  simp [ac72,rs72,lk_cons]
  refine nanS_c _ _ _ ?_
  simp [lk_cons]
  refine nanS_c _ _ _ ?_
  have e1 := strLss a b
  have e2:abinS .gtr a b=some (.bool !(lessB a b || decide (a=b))) := by simp only [abinS,bLess,baEq]
  unfold ordS at h
  cases hl:lessB a b with
  | true =>
    rw [hl] at h e1 e2
    simp [lk_cons,e1]
    simpa using h
  | false =>
    rw [hl] at h e1 e2
    by_cases he:a=b
    · rw [decide_eq_true he] at e2
      simp [lk_cons,e1,e2]
      simpa [he] using h
    · rw [decide_eq_false he] at e2
      simp [lk_cons,e1,e2]
      simpa [he] using h
def ordL (x y:ByteArray×Ln):Int := ordS x.1 y.1
theorem swoL:SWO (ltOf ordL) where
  irrefl x := by simp only [ltOf,ordL,ordS_lt,decide_eq_false_iff_not,lessB_irrefl]; simp
  trans x y z h1 h2 := by simp only [ltOf,decide_eq_true_eq,ordL,ordS_lt] at *; exact lessB_trans h1 h2
  ntrans x y z h1 h2 := by
    simp only [ltOf,decide_eq_false_iff_not,ordL,ordS_lt,Bool.not_eq_true] at *
    exact lessB_ntrans h1 h2
theorem lncmp_c (x y:ByteArray×Ln) (σ:St) (Q:AVal→St→Prop) (h:Q (i64 (ordL x y)) σ):ACall Tryz.prog 71 [.agg (rwL.a x),.agg (rwL.a y)] σ Q := by
  refine ACall.scrub ?_
  refine ACall.of_compF hmx (fun a w=>Tryz.call71 a w) Tryz.func71 cf71 (n := 2) (by decide) rfl ?_
  simp [ac71,rs71,lk_cons,rwL]
  refine cmpS_c _ _ _ _ ?_
  simp [lk_cons]
  exact ⟨fun a ha=>by simp [show ¬ a=σ.next by omega,show ¬ a=σ.next+1 by omega],h⟩
def lnRow:RowOf (ByteArray×Ln) 5 where
  a := rwL.a
  c x := [.string x.1,.int .u64 (x.2.1:Int),.int .u64 (x.2.2.1:Int),.int .u64 (x.2.2.2.1:Int),.int .u64 (x.2.2.2.2:Int)]
  la _ := rfl
  lc _ := rfl
  rel x i v u h1 h2 ρ I u' := by
    match i with
    | 0=>simp [rwL] at h1 h2; subst h1; subst h2; simp [VRel]
    | 1=>simp [rwL] at h1 h2; subst h1; subst h2; simp [VRel]
    | 2=>simp [rwL] at h1 h2; subst h1; subst h2; simp [VRel]
    | 3=>simp [rwL] at h1 h2; subst h1; subst h2; simp [VRel]
    | 4=>simp [rwL] at h1 h2; subst h1; subst h2; simp [VRel]
    | i+5=>simp [rwL] at h1
  one x := rfl
  onec x v h := by simp at h; rcases h with rfl | rfl | rfl | rfl | rfl <;> rfl
theorem rows_ln (l:Tbl):rowsA lnRow l=rws rwL l := rfl
theorem sortl_c {σ:St} {a:Nat} {l:Tbl} (hne:l≠[]) (hl:l.length≤100000) (hm:σ.mem.get a=some (.cells 5 (rws rwL l))) (Q:AVal→St→Prop)
    (hQ:∀ l',l'.Perm l→RisL l'→Q (.tup []) ⟨σ.mem.set a (.cells 5 (rws rwL l')),σ.next⟩):ACall Tryz.prog 89 [.sl a 0 l.length l.length false,.fn 71 [] []] σ Q := by
  have h := sortf_calls Tryz.sortLn lnRow (by decide) (fun w=>by kernel_rfl) (fun w=>by kernel_rfl) swoL (fun a w=>Tryz.call71 a w) (fun x y=>lncmp_c x y _ _ rfl) (fun a w=>Tryz.call89 a w) (σ := σ) (a := a) (cap := l.length) (t := false) (post := []) hne (by omega) (by simpa [rows_ln] using hm) Q (fun l' h1 h2=>by
    have := hQ l' h1 fun i j x y hij hx hy=>by
      have := h2 i j x y hij hx hy
      simp only [ordL,ordS_lt,Bool.not_eq_true] at this
      exact this
    simpa [rows_ln] using this)
  exact h
theorem sortl_nil (σ:St) (fv:AVal) (Q:AVal→St→Prop) (hQ:Q (.tup []) σ):ACall Tryz.prog 89 [.nilsl,fv] σ Q := by
  refine ACall.ofCalls (fun a w=>Tryz.call89 a w) fun B w0 ρ I w cargs rl hsz hargs=>?_
  obtain ⟨u0,h0,v0⟩ := hargs.get 0 _ rfl
  obtain ⟨u1,h1,v1⟩ := hargs.get 1 _ rfl
  simp only [VRel] at v0
  subst v0
  have hca:cargs=#[.slice none 0 0,u1] := by
    apply Array.ext_getElem?
    intro i
    have hs:cargs.size=2 := hsz
    match i with
    | 0=>exact h0
    | 1=>exact h1
    | i+2=>rw [Array.getElem?_eq_none (by omega),Array.getElem?_eq_none (by simp)]
  subst hca
  refine (AnyF.slices_SortFunc_none { Tryz.sortLn with } none 0 u1 w).mono ?_
  rintro e w' ⟨rfl,rfl⟩
  exact ⟨.tup [],σ,ρ,I,.tuple #[],rfl,by simp only [VRel]; exact ⟨_,rfl,rfl,trivial⟩,rl,Ext.refl _ _ _,hQ⟩
theorem vln_of:∀ {ents:List MEnt} {T:Tbl},All2 EntL ents T→All2 VLn ents T := fun h=>h.imp fun _ _ h=>h.2
theorem all_c {σ:St} {t mp:Nat} {T:Tbl} (h:TRep σ t mp T) (hl:T.length≤10000) (Q:AVal→St→Prop)
    (hQ:∀ v ys σ' b',ys.Perm T→RisL ys→GS rwL σ' v ys b'→(∀ x,b'=some x→σ.next≤x)→Grow σ σ'→Q v σ'):ACall Tryz.prog 31 [.ptr t 0] σ Q := by
  refine ACall.of_compF hmx (fun a w=>Tryz.call31 a w) Tryz.func31 cf31 (n := 1) (by decide) rfl ?_
  have hh := h.head
  have hlt := h.lt
  obtain ⟨clock,ents,hm,ha,hs,hd⟩ := h.map
  have hle := ha.len
  simp [ac31,rs31,lk_cons,hh]
  refine ACall.of_compF hmx (fun a w=>Tryz.call70 a w) Tryz.func70 cf70 (n := 1) (by decide) rfl ?_
  simp [ac70,rs70,lk_cons]
  refine ACall.of_compF hmx (fun a w=>Tryz.call69 a w) Tryz.func69 cf69 (n := 2) (by decide) rfl ?_
  simp [ac69,rs69,lk_cons]
  refine ACall.of_compF hmx (fun a w=>Tryz.call88 a w) Tryz.func88 cf88 (n := 1) (by decide) rfl ?_
  simp [ac88,rs88,lk_cons]
  refine appseq_c (b1 := σ.next) (mp := mp) (clock := clock) (ents := ents) (xs := T) (by simp) (by simp [show ¬ mp=σ.next by omega,hm]) (by simp) (by simp; omega) hs hd (vln_of ha) (by omega) _ fun v ys σ' p1 p2 p3=>?_
  have hg:Grow σ σ' := ⟨by have := p3.1; simp at this; omega,fun a ha=>by rw [p3.2 a (by simp; omega)]; simp [show ¬ a=σ.next by omega]⟩
  have pl := p1.length_eq
  simp [lk_cons]
  rcases p2 with ⟨rfl,rfl⟩ | ⟨o,rfl,q2,q3,q4,q5⟩
  · refine sortl_nil _ _ _ ?_
    simp [lk_cons]
    exact hQ _ [] _ none p1 (fun i j x y _ h=>by simp at h) (GS.nil _) (by simp) hg
  · simp at q2
    refine sortl_c (by intro e; subst e; simp at q5) (by omega) q4 _ fun l' s1 s2=>?_
    have sl := s1.length_eq
    simp [lk_cons]
    refine hQ _ l' _ (some o) (s1.trans p1) s2 (.inr ⟨o,false,rfl,by rw [sl],q3,by simp⟩) (fun x hx=>by cases hx; omega) ⟨hg.1,fun a ha=>?_⟩
    simp [show ¬ a=o by omega]
    exact hg.2 a ha
end Go.Proofs.YticefdfhcahlfaaGreatDoor.AM

namespace Go.Proofs.YticefdfhcahlfaaGreatDoor.AM
set_option linter.unusedVariables false
set_option linter.unusedSimpArgs false
structure S25 where
  f0:Int
  f1:Int
deriving DecidableEq
def InP (l:List S25) (n:Int):Prop := ∃ x∈l,x.f0≤n∧n<x.f1
def Can:Int→List S25→Prop
  | _,[]=>True
  | b,x :: t=>b<x.f0∧x.f0<x.f1∧Can x.f1 t
theorem in_nil (n:Int):¬ InP [] n := by simp [InP]
theorem in_cons (x:S25) (t:List S25) (n:Int):InP (x :: t) n↔(x.f0≤n∧n<x.f1)∨InP t n := by simp [InP]
theorem in_app (s t:List S25) (n:Int):InP (s++t) n↔InP s n∨InP t n := by
  simp only [InP,List.mem_append]
  constructor
  · rintro ⟨x,h | h,r⟩
    · exact .inl ⟨x,h,r⟩
    · exact .inr ⟨x,h,r⟩
  · rintro (⟨x,h,r⟩ | ⟨x,h,r⟩)
    · exact ⟨x,.inl h,r⟩
    · exact ⟨x,.inr h,r⟩
theorem can_in:∀ {l:List S25} {b n:Int},Can b l→InP l n→b<n
  | [],_,_,_,h=>absurd h (in_nil _)
  | x :: t,b,n,hc,h=>by
    obtain ⟨h1,h2,h3⟩ := hc
    rcases (in_cons x t n).1 h with h | h
    · omega
    · have := can_in h3 h; omega
theorem can_mem:∀ {l:List S25} {b:Int},Can b l→∀ x∈l,b<x.f0∧x.f0<x.f1
  | [],_,_,_,h=>absurd h (List.not_mem_nil)
  | y :: t,b,hc,x,h=>by
    obtain ⟨h1,h2,h3⟩ := hc
    rcases List.mem_cons.1 h with rfl | h
    · exact ⟨h1,h2⟩
    · have := can_mem h3 x h; omega
theorem can_snoc:∀ {m:List S25} {b:Int} {z:S25},Can b m→(∀ w∈m,w.f1<z.f0)→b<z.f0→z.f0<z.f1→Can b (m++[z])
  | [],_,_,_,_,h1,h2=>⟨h1,h2,trivial⟩
  | x :: t,b,z,hc,hw,h1,h2=>⟨hc.1,hc.2.1,can_snoc hc.2.2 (fun w h=>hw w (List.mem_cons_of_mem _ h)) (hw x List.mem_cons_self) h2⟩
theorem can_snoc_inv:∀ {m:List S25} {b:Int} {z:S25},Can b (m++[z])→Can b m∧(∀ w∈m,w.f1<z.f0)∧b<z.f0∧z.f0<z.f1
  | [],_,_,h=>⟨trivial,fun _ h=>absurd h List.not_mem_nil,h.1,h.2.1⟩
  | x :: t,b,z,h=>by
    obtain ⟨h1,h2,h3⟩ := h
    obtain ⟨k1,k2,k3,k4⟩ := can_snoc_inv (m := t) h3
    refine ⟨⟨h1,h2,k1⟩,fun w hw=>?_,by omega,k4⟩
    rcases List.mem_cons.1 hw with rfl | hw
    · exact k3
    · exact k2 w hw
def GoodR (l:List S25):Prop := Can (-1) l∧∀ n,InP l n→n<18446744073709551615
theorem good_mem {l:List S25} (h:GoodR l):∀ x∈l,0≤x.f0∧x.f0<x.f1∧x.f1≤18446744073709551615 := fun x hx=>by
  have h1 := can_mem h.1 x hx
  have h2 := h.2 (x.f1 - 1) ⟨x,hx,by omega,by omega⟩
  omega
def inB (l:List S25) (n:Int):Bool := l.any fun x=>decide (x.f0≤n∧n<x.f1)
theorem inB_iff (l:List S25) (n:Int):inB l n=true↔InP l n := by
  simp [inB,InP]
def putM (e:Int):List Int→List Int
  | []=>[e]
  | y :: t=>if y<e then y :: putM e t else if y=e then y :: t else e :: y :: t
def Inc:Int→List Int→Prop
  | _,[]=>True
  | b,y :: t=>b<y∧Inc y t
theorem put_spec (e:Int):∀ (l:List Int) (b:Int),Inc b l→b<e→Inc b (putM e l)∧(∀ y,y∈putM e l↔y=e∨y∈l)∧(putM e l).length≤l.length+1
  | [],b,_,h=>⟨⟨h,trivial⟩,fun y=>by simp [putM],by simp [putM]⟩
  | x :: t,b,hi,h=>by
    obtain ⟨h1,h2⟩ := hi
    unfold putM
    by_cases c1:x<e
    · rw [if_pos c1]
      obtain ⟨r1,r2,r3⟩ := put_spec e t x h2 c1
      refine ⟨⟨h1,r1⟩,fun y=>?_,by simp only [List.length_cons]; omega⟩
      rw [List.mem_cons,r2,List.mem_cons]
      constructor
      · rintro (h | h | h)
        · exact .inr (.inl h)
        · exact .inl h
        · exact .inr (.inr h)
      · rintro (h | h | h)
        · exact .inr (.inl h)
        · exact .inl h
        · exact .inr (.inr h)
    · rw [if_neg c1]
      by_cases c2:x=e
      · rw [if_pos c2]
        subst c2
        exact ⟨⟨h1,h2⟩,fun y=>by simp,by simp⟩
      · rw [if_neg c2]
        exact ⟨⟨h,by omega,h2⟩,fun y=>by simp,by simp⟩
def endsM:List S25→List Int→List Int
  | [],acc=>acc
  | x :: t,acc=>endsM t (putM x.f1 (putM x.f0 acc))
theorem ends_spec:∀ (l:List S25) (acc:List Int),(∀ x∈l,0≤x.f0∧0≤x.f1)→Inc (-1) acc→Inc (-1) (endsM l acc)∧(∀ y,y∈endsM l acc↔y∈acc∨∃ x∈l,y=x.f0∨y=x.f1)∧(endsM l acc).length≤acc.length+2*l.length
  | [],acc,_,h=>⟨h,fun y=>by simp [endsM],by simp [endsM]⟩
  | x :: t,acc,hp,h=>by
    have hx := hp x List.mem_cons_self
    obtain ⟨a1,a2,a3⟩ := put_spec x.f0 acc (-1) h (by omega)
    obtain ⟨b1,b2,b3⟩ := put_spec x.f1 _ (-1) a1 (by omega)
    obtain ⟨r1,r2,r3⟩ := ends_spec t _ (fun z hz=>hp z (List.mem_cons_of_mem _ hz)) b1
    refine ⟨r1,fun y=>?_,by simp only [endsM,List.length_cons]; omega⟩
    show y∈endsM t _↔_
    rw [r2,b2,a2]
    simp only [List.mem_cons,exists_eq_or_imp]
    constructor
    · rintro ((h | h | h) | h)
      · exact .inr (.inl (.inr h))
      · exact .inr (.inl (.inl h))
      · exact .inl h
      · exact .inr (.inr h)
    · rintro (h | (h | h) | h)
      · exact .inl (.inr (.inr h))
      · exact .inl (.inr (.inl h))
      · exact .inl (.inl h)
      · exact .inr h
def pushM (acc:List S25) (a c:Int):List S25 := match acc.getLast? with
  | some z=>if z.f1=a then acc.dropLast++[⟨z.f0,c⟩] else acc++[⟨a,c⟩]
  | none=>[⟨a,c⟩]
theorem push_nil (a c:Int):pushM [] a c=[⟨a,c⟩] := rfl
theorem push_snoc (m:List S25) (z:S25) (a c:Int):pushM (m++[z]) a c=if z.f1=a then m++[⟨z.f0,c⟩] else (m++[z])++[⟨a,c⟩] := by
  unfold pushM
  simp
theorem push_spec (acc:List S25) (a c:Int) (hac:a<c) (h0:0≤a) (hc:Can (-1) acc) (hb:∀ z∈acc,z.f1≤a) :
    Can (-1) (pushM acc a c)∧(∀ z∈pushM acc a c,z.f1≤c)∧(∀ n,InP (pushM acc a c) n↔InP acc n∨(a≤n∧n<c))∧(pushM acc a c).length≤acc.length+1 := by
  rcases List.eq_nil_or_concat acc with rfl | ⟨m,z,rfl⟩
  · rw [push_nil]
    exact ⟨⟨by show -1<a; omega,hac,trivial⟩,fun z hz=>by rw [List.mem_singleton.1 hz]; exact Int.le_refl _,fun n=>by simp [InP],by simp⟩
  · rw [List.concat_eq_append] at *
    rw [push_snoc]
    obtain ⟨k1,k2,k3,k4⟩ := can_snoc_inv hc
    have hz := hb z (by simp)
    have hm:∀ w∈m,w.f1≤a := fun w hw=>hb w (by simp [hw])
    by_cases h:z.f1=a
    · rw [if_pos h]
      refine ⟨can_snoc k1 k2 k3 (by show z.f0<c; omega),fun w hw=>?_,fun n=>?_,by simp⟩
      · rcases List.mem_append.1 hw with hw | hw
        · have := hm w hw; omega
        · rw [List.mem_singleton.1 hw]; exact Int.le_refl _
      · rw [in_app,in_app,in_cons,in_cons]
        have := in_nil n
        have e:(z.f0≤n∧n<c)↔(z.f0≤n∧n<z.f1)∨(a≤n∧n<c) := by omega
        show InP m n∨(z.f0≤n∧n<c)∨_↔_
        rw [e]
        constructor
        · rintro (h | (h | h) | h)
          · exact .inl (.inl h)
          · exact .inl (.inr (.inl h))
          · exact .inr h
          · exact absurd h this
        · rintro ((h | h | h) | h)
          · exact .inl h
          · exact .inr (.inl (.inl h))
          · exact absurd h this
          · exact .inr (.inl (.inr h))
    · rw [if_neg h]
      refine ⟨can_snoc hc (fun w hw=>?_) (by show -1<a; omega) hac,fun w hw=>?_,fun n=>?_,by simp⟩
      · show w.f1<a
        rcases List.mem_append.1 hw with hw | hw
        · have := k2 w hw; omega
        · rw [List.mem_singleton.1 hw]; omega
      · rcases List.mem_append.1 hw with hw | hw
        · have := hb w hw; omega
        · rw [List.mem_singleton.1 hw]; exact Int.le_refl _
      · rw [in_app,in_cons]
        have := in_nil n
        constructor
        · rintro (h | h | h)
          · exact .inl h
          · exact .inr h
          · exact absurd h this
        · rintro (h | h)
          · exact .inl h
          · exact .inr (.inl h)
def keepB (x y:List S25) (a:Int):Bool := inB x a && !inB y a
def setM (x y:List S25):List S25→List Int→List S25
  | acc,a :: c :: t=>setM x y (if keepB x y a=true then pushM acc a c else acc) (c :: t)
  | acc,_=>acc
theorem seg_in {x:List S25} {e:List Int} (hx:∀ z∈x,z.f0∈e∧z.f1∈e) {a c:Int} (hm:∀ m∈e,m≤a∨c≤m) {n:Int} (h:a≤n∧n<c):InP x n↔InP x a := by
  constructor
  · rintro ⟨z,hz,h1,h2⟩
    have := hm _ (hx z hz).1
    exact ⟨z,hz,by omega,by omega⟩
  · rintro ⟨z,hz,h1,h2⟩
    have := hm _ (hx z hz).2
    exact ⟨z,hz,by omega,by omega⟩
theorem inc_mem:∀ {t:List Int} {a:Int},Inc a t→∀ m∈t,a<m
  | [],_,_,_,h=>absurd h List.not_mem_nil
  | y :: t,a,hi,m,h=>by
    rcases List.mem_cons.1 h with rfl | h
    · exact hi.1
    · have := inc_mem hi.2 m h
      have := hi.1
      omega
theorem set_spec {x y:List S25} {e:List Int} (hx:∀ z∈x,z.f0∈e∧z.f1∈e) (hy:∀ z∈y,z.f0∈e∧z.f1∈e):∀ (t:List Int) (a:Int) (acc:List S25),Inc a t→0≤a→(∀ m∈e,m≤a∨m∈t)→Can (-1) acc→(∀ z∈acc,z.f1≤a)→(∀ n,InP acc n↔n<a∧InP x n∧¬ InP y n) →
    Can (-1) (setM x y acc (a :: t))∧(∀ n,InP (setM x y acc (a :: t)) n↔InP x n∧¬ InP y n)∧(setM x y acc (a :: t)).length≤acc.length+t.length
  | [],a,acc,_,_,hm,hc,_,hn=>by
    refine ⟨hc,fun n=>?_,by simp [setM]⟩
    show InP acc n↔_
    rw [hn]
    constructor
    · exact fun h=>h.2
    · intro h
      obtain ⟨z,hz,h1,h2⟩ := h.1
      have := hm _ (hx z hz).2
      simp only [List.not_mem_nil,or_false] at this
      exact ⟨by omega,h⟩
  | c :: t,a,acc,hi,h0,hm,hc,hb,hn=>by
    obtain ⟨hac,hi'⟩ := hi
    have hm':∀ m∈e,m≤a∨c≤m := fun m h=>by
      rcases hm m h with h | h
      · exact .inl h
      · rcases List.mem_cons.1 h with rfl | h
        · exact .inr (Int.le_refl _)
        · have := inc_mem hi' m h; omega
    have hm2:∀ m∈e,m≤c∨m∈t := fun m h=>by
      rcases hm m h with h | h
      · exact .inl (by omega)
      · rcases List.mem_cons.1 h with rfl | h
        · exact .inl (Int.le_refl _)
        · exact .inr h
    show Can (-1) (setM x y (if keepB x y a=true then pushM acc a c else acc) (c :: t))∧(∀ n,InP (setM x y (if keepB x y a=true then pushM acc a c else acc) (c :: t)) n↔_)∧(setM x y (if keepB x y a=true then pushM acc a c else acc) (c :: t)).length≤_
    have hk:keepB x y a=true↔InP x a∧¬ InP y a := by
      unfold keepB
      rw [Bool.and_eq_true,Bool.not_eq_true',inB_iff,← inB_iff y,Bool.not_eq_true]
    by_cases h:keepB x y a=true
    · rw [if_pos h]
      obtain ⟨p1,p2,p3,p4⟩ := push_spec acc a c hac h0 hc hb
      obtain ⟨r1,r2,r3⟩ := set_spec hx hy t c (pushM acc a c) hi' (by omega) hm2 p1 p2 (fun n=>by
        rw [p3,hn]
        constructor
        · rintro (⟨h1,h2⟩ | h1)
          · exact ⟨by omega,h2⟩
          · refine ⟨h1.2,?_⟩
            rw [seg_in hx hm' h1,seg_in hy hm' h1]
            exact hk.1 h
        · rintro ⟨h1,h2⟩
          by_cases h3:n<a
          · exact .inl ⟨h3,h2⟩
          · exact .inr ⟨by omega,h1⟩)
      exact ⟨r1,r2,by simp only [List.length_cons]; omega⟩
    · rw [if_neg h]
      obtain ⟨r1,r2,r3⟩ := set_spec hx hy t c acc hi' (by omega) hm2 hc (fun z hz=>by have := hb z hz; omega) (fun n=>by
        rw [hn]
        constructor
        · rintro ⟨h1,h2⟩
          exact ⟨by omega,h2⟩
        · rintro ⟨h1,h2⟩
          refine ⟨?_,h2⟩
          by_cases h3:n<a
          · exact h3
          · rw [seg_in hx hm' ⟨by omega,h1⟩,seg_in hy hm' ⟨by omega,h1⟩] at h2
            exact absurd (hk.2 h2) h)
      exact ⟨r1,r2,by simp only [List.length_cons]; omega⟩
end Go.Proofs.YticefdfhcahlfaaGreatDoor.AM

namespace Go.Proofs.YticefdfhcahlfaaGreatDoor.AM
open Go.RowKit
set_option maxRecDepth 100000
set_option linter.unusedVariables false
set_option linter.unusedSimpArgs false
theorem word_c {σ:St} {v:AVal} {c:Option Nat} {a0 a1 a2 a3 a4 a5 a6 a7:UInt8} {r:List UInt8} (h:RdB σ v (a0 :: a1 :: a2 :: a3 :: a4 :: a5 :: a6 :: a7 :: r) c) (Q:AVal→St→Prop)
    (hQ:Q (.int .u64 (wordN a0.toNat a1.toNat a2.toNat a3.toNat a4.toNat a5.toNat a6.toNat a7.toNat:Nat)) σ):ACall Tryz.prog 85 [v] σ Q := by
  refine ACall.of_compF hmx (fun a w=>Tryz.call85 a w) Tryz.func85 cf85 (n := 1) (by decide) rfl ?_
  obtain ⟨p0,i0,d0⟩ := h.at (i := 0) (x := a0) rfl (z := 0) rfl
  obtain ⟨p1,i1,d1⟩ := h.at (i := 1) (x := a1) rfl (z := 1) rfl
  obtain ⟨p2,i2,d2⟩ := h.at (i := 2) (x := a2) rfl (z := 2) rfl
  obtain ⟨p3,i3,d3⟩ := h.at (i := 3) (x := a3) rfl (z := 3) rfl
  obtain ⟨p4,i4,d4⟩ := h.at (i := 4) (x := a4) rfl (z := 4) rfl
  obtain ⟨p5,i5,d5⟩ := h.at (i := 5) (x := a5) rfl (z := 5) rfl
  obtain ⟨p6,i6,d6⟩ := h.at (i := 6) (x := a6) rfl (z := 6) rfl
  obtain ⟨p7,i7,d7⟩ := h.at (i := 7) (x := a7) rfl (z := 7) rfl
  have d0 := d0 σ (fun _ _=>rfl)
  have d1 := d1 σ (fun _ _=>rfl)
  have d2 := d2 σ (fun _ _=>rfl)
  have d3 := d3 σ (fun _ _=>rfl)
  have d4 := d4 σ (fun _ _=>rfl)
  have d5 := d5 σ (fun _ _=>rfl)
  have d6 := d6 σ (fun _ _=>rfl)
  have d7 := d7 σ (fun _ _=>rfl)
  have b0 := a0.toNat_lt
  have b1 := a1.toNat_lt
  have b2 := a2.toNat_lt
  have b3 := a3.toNat_lt
  have b4 := a4.toNat_lt
  have b5 := a5.toNat_lt
  have b6 := a6.toNat_lt
  have b7 := a7.toNat_lt
  unfold wordN at hQ
  generalize a0.toNat=x0 at *
  generalize a1.toNat=x1 at *
  generalize a2.toNat=x2 at *
  generalize a3.toNat=x3 at *
  generalize a4.toNat=x4 at *
  generalize a5.toNat=x5 at *
  generalize a6.toNat=x6 at *
  generalize a7.toNat=x7 at *
  have w:∀ x:Nat,x<256→IntKind.u64.wrap (x:Int)=(x:Int) := fun x hx=>by rw [IntWalk.u64_in] <;> omega
  have sl:∀ (x s:Nat),x<256→s≤56→x <<< s<18446744073709551616 := fun x s hx hs=>by
    rw [Nat.shiftLeft_eq]
    have h4:(2:Nat) ^ s≤2 ^ 56 := Nat.pow_le_pow_right (by omega) hs
    have h5:x*2 ^ s≤255*2 ^ 56 := Nat.mul_le_mul (by omega) h4
    have:255*2 ^ 56<18446744073709551616 := by decide
    omega
  have s1 := shl64 (s := 8) b1 (by omega)
  have s2 := shl64 (s := 16) b2 (by omega)
  have s3 := shl64 (s := 24) b3 (by omega)
  have s4 := shl64 (s := 32) b4 (by omega)
  have s5 := shl64 (s := 40) b5 (by omega)
  have s6 := shl64 (s := 48) b6 (by omega)
  have s7 := shl64 (s := 56) b7 (by omega)
  have t1 := sl x1 8 b1 (by omega)
  have t2 := sl x2 16 b2 (by omega)
  have t3 := sl x3 24 b3 (by omega)
  have t4 := sl x4 32 b4 (by omega)
  have t5 := sl x5 40 b5 (by omega)
  have t6 := sl x6 48 b6 (by omega)
  have t7 := sl x7 56 b7 (by omega)
  simp only [Int.cast_ofNat_Int] at s1 s2 s3 s4 s5 s6 s7
  generalize x1 <<< 8=y1 at *
  generalize x2 <<< 16=y2 at *
  generalize x3 <<< 24=y3 at *
  generalize x4 <<< 32=y4 at *
  generalize x5 <<< 40=y5 at *
  generalize x6 <<< 48=y6 at *
  generalize x7 <<< 56=y7 at *
  have o1 := or64 (a := x0) (by omega) t1
  have u1:x0 ||| y1<18446744073709551616 := Nat.or_lt_two_pow (n := 64) (by omega) t1
  generalize x0 ||| y1=z1 at *
  have o2 := or64 u1 t2
  have u2:z1 ||| y2<18446744073709551616 := Nat.or_lt_two_pow (n := 64) u1 t2
  generalize z1 ||| y2=z2 at *
  have o3 := or64 u2 t3
  have u3:z2 ||| y3<18446744073709551616 := Nat.or_lt_two_pow (n := 64) u2 t3
  generalize z2 ||| y3=z3 at *
  have o4 := or64 u3 t4
  have u4:z3 ||| y4<18446744073709551616 := Nat.or_lt_two_pow (n := 64) u3 t4
  generalize z3 ||| y4=z4 at *
  have o5 := or64 u4 t5
  have u5:z4 ||| y5<18446744073709551616 := Nat.or_lt_two_pow (n := 64) u4 t5
  generalize z4 ||| y5=z5 at *
  have o6 := or64 u5 t6
  have u6:z5 ||| y6<18446744073709551616 := Nat.or_lt_two_pow (n := 64) u5 t6
  generalize z5 ||| y6=z6 at *
  have o7 := or64 u6 t7
  generalize z6 ||| y7=z7 at *
  simp [ac85,rs85,lk_cons,↓i0,↓i1,↓i2,↓i3,↓i4,↓i5,↓i6,↓i7,↓d0,↓d1,↓d2,↓d3,↓d4,↓d5,↓d6,↓d7,w _ b0,w _ b1,w _ b2,w _ b3,w _ b4,w _ b5,w _ b6,w _ b7,s1,s2,s3,s4,s5,s6,s7,o1,o2,o3,o4,o5,o6,o7]
  exact hQ
end Go.Proofs.YticefdfhcahlfaaGreatDoor.AM

namespace Go.Proofs.YticefdfhcahlfaaGreatDoor.AM
open Go.RowKit
set_option maxRecDepth 100000
set_option linter.unusedVariables false
set_option linter.unusedSimpArgs false
def fT (x:Nat):Nat := Go.Pinned.utf8FirstZ.getD x 0
def clsOf (f:Nat):Nat×Nat×Nat := (f % 8,utf8Acc.getD (f / 16*2) 0,utf8Acc.getD (f / 16*2+1) 0)
def okB (lo hi:Nat) (b:UInt8):Bool := decide (lo≤b.toNat) && decide (b.toNat≤hi)
def vld:List UInt8→Bool
  | []=>true
  | x :: l=>if x.toNat<128 then vld l
    else if (clsOf (fT x.toNat)).1=2 then (match l with
      | a :: r=>okB (clsOf (fT x.toNat)).2.1 (clsOf (fT x.toNat)).2.2 a && vld r
      | _=>false)
    else if (clsOf (fT x.toNat)).1=3 then (match l with
      | a :: b :: r=>okB (clsOf (fT x.toNat)).2.1 (clsOf (fT x.toNat)).2.2 a && okB 128 191 b && vld r
      | _=>false)
    else if (clsOf (fT x.toNat)).1=4 then (match l with
      | a :: b :: d :: r=>okB (clsOf (fT x.toNat)).2.1 (clsOf (fT x.toNat)).2.2 a && okB 128 191 b && okB 128 191 d && vld r
      | _=>false)
    else false
termination_by l=>l.length
decreasing_by all_goals (simp only [List.length_cons]; omega)
theorem vld_nil:vld []=true := by rw [vld]
theorem vld_asc {x:UInt8} {l:List UInt8} (h:x.toNat<128):vld (x :: l)=vld l := by
  rw [vld.eq_def]
  simp only [if_pos h]
theorem vld_skip:∀ (n:Nat) (l:List UInt8),(∀ x∈l.take n,x.toNat<128)→vld l=vld (l.drop n)
  | 0,l,_=>by simp
  | n+1,[],_=>by simp
  | n+1,x :: l,h=>by
    rw [vld_asc (h x (by simp)),List.drop_succ_cons]
    exact vld_skip n l fun y hy=>h y (by simp [hy])
theorem first_len:Go.Pinned.utf8FirstZ.length=256 := by decide
theorem first_lt:∀ x∈Go.Pinned.utf8FirstZ,x<256 := by decide
theorem acc_len:utf8Acc.length=32 := by decide
theorem cls_at {x:Nat} (hx:x<256):∃ f n k lo hi:Nat,((gl 0).drop x).take 1=[.int .u8 (f:Int)]∧abits .and .u8 (f:Int) 7=some (.int .u8 (n:Int))∧ashift .shr .u8 (f:Int) 4=some (.int .u8 (k:Int))∧k<16∧((gl 1).drop (k*2)).take 2=[.int .u8 (lo:Int),.int .u8 (hi:Int)]∧n<8∧clsOf (fT x)=(n,lo,hi) := by
  have hx':x<Go.Pinned.utf8FirstZ.length := by rw [first_len]; exact hx
  have hf:fT x=Go.Pinned.utf8FirstZ[x] := by simp [fT,List.getD_eq_getElem?_getD,List.getElem?_eq_getElem hx']
  have hlt:fT x<256 := by rw [hf]; exact first_lt _ (List.getElem_mem hx')
  have h0:gl 0=Go.Pinned.utf8FirstZ.map fun (n:Nat)=>AVal.int .u8 (n:Int) := rfl
  have h1:gl 1=utf8Acc.map fun (n:Nat)=>AVal.int .u8 (n:Int) := rfl
  have h2:((gl 0).drop x).take 1=[.int .u8 (fT x:Int)] := by
    rw [h0,← List.map_drop,← List.map_take,List.drop_eq_getElem_cons hx',hf]; rfl
  revert h2 hlt
  clear hf
  generalize fT x=f
  intro hlt h2
  refine ⟨f,f % 8,f / 16,utf8Acc.getD (f / 16*2) 0,utf8Acc.getD (f / 16*2+1) 0,h2,?_,?_,by omega,?_,by omega,rfl⟩
  · have := and8 (a := f) (b := 7) hlt (by omega)
    rw [show f &&& 7=f % 8 from Nat.and_two_pow_sub_one_eq_mod f 3] at this
    exact this
  · have e1:¬ ((4:Int)<0) := by omega
    have e2:min (4:Int).toNat (IntKind.bits .u8)=4 := rfl
    simp only [ashift,if_neg e1,e2]
    rw [Int.fdiv_eq_ediv_of_nonneg _ (Int.pow_nonneg (by omega))]
    have e3:(f:Int) / 2 ^ 4=((f / 16:Nat):Int) := by
      have:(2:Int) ^ 4=16 := by decide
      rw [this]; omega
    rw [e3]
  · obtain ⟨k,hk⟩:∃ k,f / 16=k := ⟨_,rfl⟩
    have hk16:k<16 := by omega
    rw [hk,h1,← List.map_drop,← List.map_take]
    have g1:k*2<utf8Acc.length := by rw [acc_len]; omega
    have g2:k*2+1<utf8Acc.length := by rw [acc_len]; omega
    rw [List.drop_eq_getElem_cons g1,List.drop_eq_getElem_cons g2]
    simp only [List.take_succ_cons,List.take_zero,List.map_cons,List.map_nil,List.getD_eq_getElem?_getD,List.getElem?_eq_getElem g1,List.getElem?_eq_getElem g2,Option.getD_some]
def VaJ (l0:List UInt8) (c:Option Nat) (σ0:St) (mm:Nat) (rg:Regs) (σ':St):Prop := ∃ (l:List UInt8) (v:AVal),mm=l.length∧vld l=vld l0∧l.length≤l0.length∧RdB σ' v l c∧Grow σ0 σ'∧rg=[(0,v)]
theorem take8 {l:List UInt8} (h:8<l.length):∃ a0 a1 a2 a3 a4 a5 a6 a7 r,l=a0 :: a1 :: a2 :: a3 :: a4 :: a5 :: a6 :: a7 :: r := by
  match l,h with
  | a0 :: a1 :: a2 :: a3 :: a4 :: a5 :: a6 :: a7 :: r,_=>exact ⟨_,_,_,_,_,_,_,_,_,rfl⟩
theorem wordl_c {σ:St} {v:AVal} {l:List UInt8} {c:Option Nat} (h:RdB σ v l c) (hl:8<l.length):∃ w:Nat,w<18446744073709551616∧(w &&& hiM=0→∀ x∈l.take 8,x.toNat<128)∧∀ (Q:AVal→St→Prop),Q (.int .u64 (w:Int)) σ→ACall Tryz.prog 85 [v] σ Q := by
  obtain ⟨a0,a1,a2,a3,a4,a5,a6,a7,r,rfl⟩ := take8 hl
  refine ⟨wordN a0.toNat a1.toNat a2.toNat a3.toNat a4.toNat a5.toNat a6.toNat a7.toNat,?_,fun hw=>?_,fun Q hQ=>word_c h Q hQ⟩
  · have sl:∀ (x s:Nat),x<256→s≤56→x <<< s<2 ^ 64 := fun x s hx hs=>by
      rw [Nat.shiftLeft_eq]
      have h4:(2:Nat) ^ s≤2 ^ 56 := Nat.pow_le_pow_right (by omega) hs
      have h5:x*2 ^ s≤255*2 ^ 56 := Nat.mul_le_mul (by omega) h4
      have:255*2 ^ 56<2 ^ 64 := by decide
      omega
    show wordN _ _ _ _ _ _ _ _<2 ^ 64
    unfold wordN
    have z:a0.toNat<2 ^ 64 := by have := a0.toNat_lt; omega
    exact Nat.or_lt_two_pow (Nat.or_lt_two_pow (Nat.or_lt_two_pow (Nat.or_lt_two_pow (Nat.or_lt_two_pow (Nat.or_lt_two_pow (Nat.or_lt_two_pow z (sl _ _ a1.toNat_lt (by omega))) (sl _ _ a2.toNat_lt (by omega))) (sl _ _ a3.toNat_lt (by omega))) (sl _ _ a4.toNat_lt (by omega))) (sl _ _ a5.toNat_lt (by omega))) (sl _ _ a6.toNat_lt (by omega))) (sl _ _ a7.toNat_lt (by omega))
  · obtain ⟨h0,h1,h2,h3,h4,h5,h6,h7⟩ := word_hi a0.toNat_lt a1.toNat_lt a2.toNat_lt a3.toNat_lt a4.toNat_lt a5.toNat_lt a6.toNat_lt a7.toNat_lt hw
    intro x hx
    simp at hx
    rcases hx with rfl | rfl | rfl | rfl | rfl | rfl | rfl | rfl <;> assumption
theorem drop8 {l:List UInt8} {n:Nat} (h1:∀ x∈l.take n,x.toNat<128) {m:Nat} (h2:∀ x∈(l.drop n).take m,x.toNat<128):∀ x∈l.take (n+m),x.toNat<128 := by
  intro x hx
  rw [List.take_add] at hx
  rcases List.mem_append.1 hx with hx | hx
  · exact h1 x hx
  · exact h2 x hx
end Go.Proofs.YticefdfhcahlfaaGreatDoor.AM

namespace Go.Proofs.YticefdfhcahlfaaGreatDoor.AM
open Go.RowKit
set_option maxRecDepth 100000
set_option linter.unusedVariables false
set_option linter.unusedSimpArgs false
def ViJ (l0:List UInt8) (bd:Nat) (c:Option Nat) (σ1:St) (mm:Nat) (rg:Regs) (σ':St):Prop := ∃ (l:List UInt8) (v:AVal),mm=l.length∧vld l=vld l0∧l.length≤bd∧RdB σ' v l c∧σ'=σ1∧rg=[(0,v)]
theorem andM {w:Nat} (hw:w<18446744073709551616) (hlt:hiM<18446744073709551616):∃ z,w &&& hiM=z∧abits .and .u64 (w:Int) 9259542123273814144=some (.int .u64 (z:Int)) := ⟨_,rfl,and64 hw hlt⟩
theorem hi_lt:hiM<18446744073709551616 := by decide
set_option maxHeartbeats 4000000 in
theorem valid_c {σ:St} {v0:AVal} {l0:List UInt8} {c:Option Nat} (h0:RdB σ v0 l0 c) (hl0:l0.length≤4611686018427387904) (Q:AVal→St→Prop) (hQ:Q (.bool (vld l0)) σ):ACall Tryz.prog 66 [v0] σ Q := by
  refine ACall.scrub ?_
  refine ACall.of_compF hmx (fun a w=>Tryz.call66 a w) Tryz.func66 cf66 (n := 1) (by decide) rfl ?_
  have hlen0 := h0.len
  obtain ⟨v1,f1,r1⟩ := h0.full
  simp [ac66,rs66,lk_cons,↓hlen0,optM,↓f1]
  refine wp_loop (VaJ l0 c σ) l0.length ?_ ?_
  · exact ⟨l0,v1,rfl,rfl,Nat.le_refl _,r1,Grow.refl _,rfl⟩
  · rintro mm rg σ1 ⟨l,v,rfl,hv,hl,r,g,rfl⟩
    have hlen := r.len
    cases l with
    | nil =>
      rw [vld_nil] at hv
      rw [← hv] at hQ
      simp [lk_cons,↓hlen]
      exact ⟨g.2,hQ⟩
    | cons x l1 =>
      obtain ⟨p0,i0,d0⟩ := r.at (i := 0) (x := x) rfl (z := 0) rfl
      have d0 := d0 σ1 (fun _ _=>rfl)
      have hpos:(0:Int)<((x :: l1).length:Int) := by simp only [List.length_cons]; omega
      have hxlt := x.toNat_lt
      simp only [List.length_cons] at hl
      by_cases hx:x.toNat<128
      · rw [vld_asc hx] at hv
        obtain ⟨v2,s2,r2⟩ := r.cut (n := 1) (by simp) .i64 (z := 1) rfl
        have s2 := s2 σ1 (fun _ _=>rfl)
        simp only [List.drop_succ_cons,List.drop_zero] at r2
        have hlen2 := r2.len
        have hx':(x.toNat:Int)<128 := by omega
        have fin:∀ (l':List UInt8) (v':AVal),vld l'=vld l0→l'.length≤l1.length→RdB σ1 v' l' c→∃ m',m'<(x :: l1).length∧VaJ l0 c σ m' [(0,v')] σ1 := fun l' v' h1 h2 h3=>⟨l'.length,by simp; omega,l',v',rfl,h1,by omega,h3,g,rfl⟩
        by_cases h8:8<l1.length
        · have h8':(8:Int)<l1.length := by omega
          obtain ⟨w,hw1,hw2,hw3⟩ := wordl_c r2 h8
          obtain ⟨z,hz,ha⟩ := andM hw1 hi_lt
          simp [lk_cons,↓hlen,hpos,↓i0,↓d0,hx,hx',optM,↓s2,↓hlen2,h8,h8']
          refine hw3 _ ?_
          by_cases hz0:z=0
          · have a8 := hw2 (hz.trans hz0)
            have v8:vld (l1.drop 8)=vld l0 := by rw [← vld_skip 8 l1 a8]; exact hv
            obtain ⟨v3,s3,r3⟩ := r2.cut (n := 8) (by omega) .i64 (z := 8) rfl
            have s3 := s3 σ1 (fun _ _=>rfl)
            have hlen3 := r3.len
            have hdl:(l1.drop 8).length=l1.length - 8 := List.length_drop
            revert r3 hlen3 v8 hdl
            generalize l1.drop 8=l2
            intro v8 r3 hlen3 hdl
            by_cases h16:16<l2.length
            · have h16':(16:Int)<l2.length := by omega
              obtain ⟨wa,wa1,wa2,wa3⟩ := wordl_c r3 (by omega)
              obtain ⟨v4,s4,r4⟩ := r3.cut (n := 8) (by omega) .i64 (z := 8) rfl
              have s4 := s4 σ1 (fun _ _=>rfl)
              have hd8:(l2.drop 8).length=l2.length - 8 := List.length_drop
              obtain ⟨wb,wb1,wb2,wb3⟩ := wordl_c r4 (by omega)
              have ho := or64 wa1 wb1
              have hol:wa ||| wb<18446744073709551616 := Nat.or_lt_two_pow (n := 64) wa1 wb1
              obtain ⟨y,hy⟩:∃ y,wa ||| wb=y := ⟨_,rfl⟩
              rw [hy] at ho hol
              obtain ⟨z',hz',ha'⟩ := andM hol hi_lt
              simp [lk_cons,ha,hz0,optM,↓s3,↓hlen3,h16,h16',↓s4]
              refine wa3 _ ?_
              simp [lk_cons,↓s4]
              refine wb3 _ ?_
              by_cases hz1:z'=0
              · have hor:(wa ||| wb) &&& hiM=0 := by rw [hy]; exact hz'.trans hz1
                obtain ⟨ka,kb⟩ := hi_or hor
                have a16 := drop8 (wa2 ka) (wb2 kb)
                have v16:vld (l2.drop 16)=vld l0 := by rw [← vld_skip 16 l2 a16]; exact v8
                obtain ⟨v5,s5,r5⟩ := r3.cut (n := 16) (by omega) .i64 (z := 16) rfl
                have s5 := s5 σ1 (fun _ _=>rfl)
                have hd16:(l2.drop 16).length=l2.length - 16 := List.length_drop
                simp [lk_cons,ho,ha',hz1,optM,↓s5]
                refine wp_loop (ViJ l0 l1.length c σ1) (l2.drop 16).length ?_ ?_
                · exact ⟨_,v5,rfl,v16,by omega,r5,rfl,by simp [lk_cons]⟩
                · rintro mm rg σ2 ⟨l3,v6,rfl,v3e,l3l,r6,rfl,rfl⟩
                  have hlen6 := r6.len
                  by_cases h32:32<l3.length
                  · have h32':(32:Int)<l3.length := by omega
                    obtain ⟨x1,x11,x12,x13⟩ := wordl_c r6 (by omega)
                    obtain ⟨u8,t8,q8⟩ := r6.cut (n := 8) (by omega) .i64 (z := 8) rfl
                    obtain ⟨u16,t16,q16⟩ := r6.cut (n := 16) (by omega) .i64 (z := 16) rfl
                    obtain ⟨u24,t24,q24⟩ := r6.cut (n := 24) (by omega) .i64 (z := 24) rfl
                    obtain ⟨u32,t32,q32⟩ := r6.cut (n := 32) (by omega) .i64 (z := 32) rfl
                    have t8 := t8 σ2 (fun _ _=>rfl)
                    have t16 := t16 σ2 (fun _ _=>rfl)
                    have t24 := t24 σ2 (fun _ _=>rfl)
                    have t32 := t32 σ2 (fun _ _=>rfl)
                    obtain ⟨x2,x21,x22,x23⟩ := wordl_c q8 (by rw [List.length_drop]; omega)
                    obtain ⟨x3,x31,x32,x33⟩ := wordl_c q16 (by rw [List.length_drop]; omega)
                    obtain ⟨x4,x41,x42,x43⟩ := wordl_c q24 (by rw [List.length_drop]; omega)
                    have ho1 := or64 x11 x21
                    have hol1:x1 ||| x2<18446744073709551616 := Nat.or_lt_two_pow (n := 64) x11 x21
                    have ho2 := or64 x31 x41
                    have hol2:x3 ||| x4<18446744073709551616 := Nat.or_lt_two_pow (n := 64) x31 x41
                    have ho3 := or64 hol1 hol2
                    have hol3:(x1 ||| x2) ||| (x3 ||| x4)<18446744073709551616 := Nat.or_lt_two_pow (n := 64) hol1 hol2
                    obtain ⟨z2,hz2,ha2⟩ := andM hol3 hi_lt
                    have asc:z2=0→∀ x∈l3.take 32,x.toNat<128 := fun e=>by
                      obtain ⟨k12,k34⟩ := hi_or (hz2.trans e)
                      obtain ⟨k1,k2⟩ := hi_or k12
                      obtain ⟨k3,k4⟩ := hi_or k34
                      exact drop8 (n := 24) (drop8 (n := 16) (drop8 (x12 k1) (x22 k2)) (x32 k3)) (x42 k4)
                    clear hz2
                    generalize (x1 ||| x2) ||| (x3 ||| x4)=y3 at *
                    generalize x1 ||| x2=y1 at *
                    generalize x3 ||| x4=y2 at *
                    simp [lk_cons,↓hlen6,h32,h32',optM,↓t8,↓t16,↓t24]
                    refine x13 _ ?_
                    simp [lk_cons,↓t8,↓t16,↓t24]
                    refine x23 _ ?_
                    simp [lk_cons,↓t16,↓t24,ho1]
                    refine x33 _ ?_
                    simp [lk_cons,↓t24]
                    refine x43 _ ?_
                    by_cases hz3:z2=0
                    · have e32:vld (l3.drop 32)=vld l0 := by rw [← vld_skip 32 l3 (asc hz3)]; exact v3e
                      have hd32:(l3.drop 32).length=l3.length - 32 := List.length_drop
                      simp [lk_cons,ho2,ho3,ha2,hz3,optM,↓t32]
                      exact ⟨_,by omega,l3.drop 32,u32,hd32.symm,e32,by omega,q32,rfl,rfl⟩
                    · have hz3':¬ (z2:Int)=0 := by omega
                      simp [lk_cons,ho2,ho3,ha2,hz3,hz3']
                      have := fin l3 v6 v3e (by omega) r6
                      simpa using this
                  · have h32':¬ (32:Int)<l3.length := by omega
                    simp [lk_cons,↓hlen6,h32,h32']
                    have := fin l3 v6 v3e (by omega) r6
                    simpa using this
              · have hz1':¬ (z':Int)=0 := by omega
                simp [lk_cons,ho,ha',hz1,hz1']
                have := fin l2 v3 v8 (by omega) r3
                simpa using this
            · have h16':¬ (16:Int)<l2.length := by omega
              simp [lk_cons,ha,hz0,optM,↓s3,↓hlen3,h16,h16']
              have := fin l2 v3 v8 (by omega) r3
              simpa using this
          · have hz0':¬ (z:Int)=0 := by omega
            simp [lk_cons,ha,hz0,hz0']
            have := fin l1 v2 hv (Nat.le_refl _) r2
            simpa using this
        · have h8':¬ (8:Int)<l1.length := by omega
          simp [lk_cons,↓hlen,hpos,↓i0,↓d0,hx,hx',optM,↓s2,↓hlen2,h8,h8']
          have := fin l1 v2 hv (Nat.le_refl _) r2
          simpa using this
      · obtain ⟨f,n,k,lo,hi,e1,e2,e3,e4,e5,e6,e7⟩ := cls_at hxlt
        have vx := vld.eq_def (x :: l1)
        simp only [if_neg hx,e7] at vx
        have hx':¬ (x.toNat:Int)<128 := by omega
        have hx2:(x.toNat:Int)<256 := by omega
        have wn:IntKind.i64.wrap (n:Int)=n := by rw [IntWalk.i64_in] <;> omega
        have hk16:(k:Int)<16 := by omega
        have g2:Grow σ ⟨(σ1.mem.set σ1.next (.cells 2 [.int .u8 0,.int .u8 0])).set σ1.next (.cells 2 [.int .u8 (lo:Int),.int .u8 (hi:Int)]),σ1.next+1⟩ := ⟨by have := g.1; simp; omega,fun a ha=>by have := g.1; simp [show ¬ a=σ1.next by omega]; exact g.2 a ha⟩
        have rS:RdB ⟨(σ1.mem.set σ1.next (.cells 2 [.int .u8 0,.int .u8 0])).set σ1.next (.cells 2 [.int .u8 (lo:Int),.int .u8 (hi:Int)]),σ1.next+1⟩ v (x :: l1) c := r.keep (by simp) fun a ha _=>by simp [show ¬ a=σ1.next by omega]
        obtain ⟨S,hS⟩:∃ S:St,S=⟨(σ1.mem.set σ1.next (.cells 2 [.int .u8 0,.int .u8 0])).set σ1.next (.cells 2 [.int .u8 (lo:Int),.int .u8 (hi:Int)]),σ1.next+1⟩ := ⟨_,rfl⟩
        have mS:S.mem.get σ1.next=some (.cells 2 [.int .u8 (lo:Int),.int .u8 (hi:Int)]) := by rw [hS]; simp
        rw [← hS] at g2 rS
        have bad:vld l0=false→∀ a,a<σ.next→S.mem.get a=σ.mem.get a := fun _=>g2.2
        have fin:∀ (m:Nat) (v':AVal),1≤m→m≤l1.length+1→vld ((x :: l1).drop m)=vld l0→RdB S v' ((x :: l1).drop m) c→∃ m',m'<l1.length+1∧VaJ l0 c σ m' [(0,v')] S := fun m v' h1 h1' h2 h3=>⟨((x :: l1).drop m).length,by rw [List.length_drop,List.length_cons]; omega,_,v',rfl,h2,by rw [List.length_drop,List.length_cons]; omega,h3,g2,rfl⟩
        have byte:∀ (i:Nat) (z:Int),z=(i:Int)→∀ b,(x :: l1)[i]?=some b→∃ p,(∀ ρ,evalV ρ (.idxAddr 1 v (.int .i64 z))=some (p,ρ))∧evalV S (.ld1 p)=some (.int .u8 (b.toNat:Int),S) := fun i z hz b hb=>by
          obtain ⟨p,h1,h2⟩ := rS.at hb hz
          exact ⟨p,h1,h2 S fun _ _=>rfl⟩
        obtain ⟨N,hN⟩:∃ N,(x :: l1).length=N := ⟨_,rfl⟩
        have hN1:l1.length+1=N := hN
        simp only [hN] at hlen
        have hposN:(0:Int)<(N:Int) := by omega
        have hposN':0<N := by omega
        have no:vld l0=false→(∀ a,a<σ.next→S.mem.get a=σ.mem.get a)∧Q (.bool false) σ := fun h=>⟨g2.2,by rw [h] at hQ; exact hQ⟩
        rw [hN1] at fin
        have hm:(x :: l1).length=N := hN
        simp [lk_cons,↓hlen,hposN,hposN',↓i0,↓d0,hx,hx',hx2,e1,e2,e3,e5,wn,hk16,e4,storeL]
        rw [← hS]
        by_cases hn2:n=2
        · subst hn2
          rcases l1 with _ | ⟨a,l2⟩
          · simp at vx hm
            subst hm
            simp [lk_cons,↓hlen]
            exact no (hv.symm.trans vx)
          · simp only [if_true] at vx
            have hN2:¬ N<2 := by simp at hm; omega
            have hN2':¬ (N:Int)<2 := by omega
            obtain ⟨p1,i1,d1⟩ := byte 1 1 rfl a rfl
            obtain ⟨v2,s2,r2⟩ := rS.cut (n := 2) (by simp) .i64 (z := 2) rfl
            have s2 := s2 S (fun _ _=>rfl)
            by_cases c1:a.toNat<lo
            · have c1':(a.toNat:Int)<lo := by omega
              simp [lk_cons,↓hlen,hN2,hN2',↓i1,↓d1,mS,c1,c1']
              exact no (hv.symm.trans (by rw [vx]; simp [okB,Nat.not_le.2 c1]))
            have c1':¬ (a.toNat:Int)<lo := by omega
            by_cases c2:hi<a.toNat
            · have c2':(hi:Int)<a.toNat := by omega
              simp [lk_cons,↓hlen,hN2,hN2',↓i1,↓d1,mS,c1,c1',c2,c2']
              exact no (hv.symm.trans (by rw [vx]; simp [okB,Nat.not_le.2 c2]))
            have c2':¬ (hi:Int)<a.toNat := by omega
            simp [lk_cons,↓hlen,hN2,hN2',↓i1,↓d1,mS,c1,c1',c2,c2',optM,↓s2]
            obtain ⟨m',q1,q2⟩ := fin 2 v2 (by omega) (by omega) (by rw [← hv,vx]; simp [okB,Nat.not_lt.1 c1,Nat.not_lt.1 c2]) r2
            exact ⟨m',by first | omega | (simp only [List.length_cons] at hm; omega) | (simp only [List.length_cons] at hm ⊢; omega),q2⟩
        by_cases hn3:n=3
        · subst hn3
          rcases l1 with _ | ⟨a,_ | ⟨b,l2⟩⟩
          · simp at vx hm
            subst hm
            simp [lk_cons,↓hlen]
            exact no (hv.symm.trans vx)
          · simp at vx hm
            subst hm
            simp [lk_cons,↓hlen]
            exact no (hv.symm.trans vx)
          · simp only [if_true] at vx
            simp at vx
            have hN2:¬ N<3 := by simp at hm; omega
            have hN2':¬ (N:Int)<3 := by omega
            obtain ⟨p1,i1,d1⟩ := byte 1 1 rfl a rfl
            obtain ⟨p2,i2,d2⟩ := byte 2 2 rfl b rfl
            obtain ⟨v2,s2,r2⟩ := rS.cut (n := 3) (by simp) .i64 (z := 3) rfl
            have s2 := s2 S (fun _ _=>rfl)
            by_cases c1:a.toNat<lo
            · have c1':(a.toNat:Int)<lo := by omega
              simp [lk_cons,↓hlen,hN2,hN2',↓i1,↓d1,mS,c1,c1']
              exact no (hv.symm.trans (by rw [vx]; simp [okB,Nat.not_le.2 c1]))
            have c1':¬ (a.toNat:Int)<lo := by omega
            by_cases c2:hi<a.toNat
            · have c2':(hi:Int)<a.toNat := by omega
              simp [lk_cons,↓hlen,hN2,hN2',↓i1,↓d1,mS,c1,c1',c2,c2']
              exact no (hv.symm.trans (by rw [vx]; simp [okB,Nat.not_le.2 c2]))
            have c2':¬ (hi:Int)<a.toNat := by omega
            by_cases c3:b.toNat<128
            · have c3':(b.toNat:Int)<128 := by omega
              simp [lk_cons,↓hlen,hN2,hN2',↓i1,↓d1,mS,c1,c1',c2,c2',↓i2,↓d2,c3,c3']
              exact no (hv.symm.trans (by rw [vx]; simp [okB,Nat.not_le.2 c3]))
            have c3':¬ (b.toNat:Int)<128 := by omega
            by_cases c4:191<b.toNat
            · have c4':(191:Int)<b.toNat := by omega
              simp [lk_cons,↓hlen,hN2,hN2',↓i1,↓d1,mS,c1,c1',c2,c2',↓i2,↓d2,c3,c3',c4,c4']
              exact no (hv.symm.trans (by rw [vx]; simp [okB,Nat.not_le.2 c4]))
            have c4':¬ (191:Int)<b.toNat := by omega
            simp [lk_cons,↓hlen,hN2,hN2',↓i1,↓d1,mS,c1,c1',c2,c2',↓i2,↓d2,c3,c3',c4,c4',optM,↓s2]
            obtain ⟨m',q1,q2⟩ := fin 3 v2 (by omega) (by omega) (by rw [← hv,vx]; simp [okB,Nat.not_lt.1 c1,Nat.not_lt.1 c2,Nat.not_lt.1 c3,Nat.not_lt.1 c4]) r2
            exact ⟨m',by first | omega | (simp only [List.length_cons] at hm; omega) | (simp only [List.length_cons] at hm ⊢; omega),q2⟩
        by_cases hn4:n=4
        · subst hn4
          rcases l1 with _ | ⟨a,_ | ⟨b,_ | ⟨d,l2⟩⟩⟩
          · simp at vx hm
            subst hm
            simp [lk_cons,↓hlen]
            exact no (hv.symm.trans vx)
          · simp at vx hm
            subst hm
            simp [lk_cons,↓hlen]
            exact no (hv.symm.trans vx)
          · simp at vx hm
            subst hm
            simp [lk_cons,↓hlen]
            exact no (hv.symm.trans vx)
          · simp at vx
            have hN2:¬ N<4 := by simp at hm; omega
            have hN2':¬ (N:Int)<4 := by omega
            obtain ⟨p1,i1,d1⟩ := byte 1 1 rfl a rfl
            obtain ⟨p2,i2,d2⟩ := byte 2 2 rfl b rfl
            obtain ⟨p3,i3,d3⟩ := byte 3 3 rfl d rfl
            obtain ⟨v2,s2,r2⟩ := rS.cut (n := 4) (by simp) .i64 (z := 4) rfl
            have s2 := s2 S (fun _ _=>rfl)
            by_cases c1:a.toNat<lo
            · have c1':(a.toNat:Int)<lo := by omega
              simp [lk_cons,↓hlen,hN2,hN2',↓i1,↓d1,mS,c1,c1']
              exact no (hv.symm.trans (by rw [vx]; simp [okB,Nat.not_le.2 c1]))
            have c1':¬ (a.toNat:Int)<lo := by omega
            by_cases c2:hi<a.toNat
            · have c2':(hi:Int)<a.toNat := by omega
              simp [lk_cons,↓hlen,hN2,hN2',↓i1,↓d1,mS,c1,c1',c2,c2']
              exact no (hv.symm.trans (by rw [vx]; simp [okB,Nat.not_le.2 c2]))
            have c2':¬ (hi:Int)<a.toNat := by omega
            by_cases c3:b.toNat<128
            · have c3':(b.toNat:Int)<128 := by omega
              simp [lk_cons,↓hlen,hN2,hN2',↓i1,↓d1,mS,c1,c1',c2,c2',↓i2,↓d2,c3,c3']
              exact no (hv.symm.trans (by rw [vx]; simp [okB,Nat.not_le.2 c3]))
            have c3':¬ (b.toNat:Int)<128 := by omega
            by_cases c4:191<b.toNat
            · have c4':(191:Int)<b.toNat := by omega
              simp [lk_cons,↓hlen,hN2,hN2',↓i1,↓d1,mS,c1,c1',c2,c2',↓i2,↓d2,c3,c3',c4,c4']
              exact no (hv.symm.trans (by rw [vx]; simp [okB,Nat.not_le.2 c4]))
            have c4':¬ (191:Int)<b.toNat := by omega
            by_cases c5:d.toNat<128
            · have c5':(d.toNat:Int)<128 := by omega
              simp [lk_cons,↓hlen,hN2,hN2',↓i1,↓d1,mS,c1,c1',c2,c2',↓i2,↓d2,c3,c3',c4,c4',↓i3,↓d3,c5,c5']
              exact no (hv.symm.trans (by rw [vx]; simp [okB,Nat.not_le.2 c5]))
            have c5':¬ (d.toNat:Int)<128 := by omega
            by_cases c6:191<d.toNat
            · have c6':(191:Int)<d.toNat := by omega
              simp [lk_cons,↓hlen,hN2,hN2',↓i1,↓d1,mS,c1,c1',c2,c2',↓i2,↓d2,c3,c3',c4,c4',↓i3,↓d3,c5,c5',c6,c6']
              exact no (hv.symm.trans (by rw [vx]; simp [okB,Nat.not_le.2 c6]))
            have c6':¬ (191:Int)<d.toNat := by omega
            simp [lk_cons,↓hlen,hN2,hN2',↓i1,↓d1,mS,c1,c1',c2,c2',↓i2,↓d2,c3,c3',c4,c4',↓i3,↓d3,c5,c5',c6,c6',optM,↓s2]
            obtain ⟨m',q1,q2⟩ := fin 4 v2 (by omega) (by omega) (by rw [← hv,vx]; simp [okB,Nat.not_lt.1 c1,Nat.not_lt.1 c2,Nat.not_lt.1 c3,Nat.not_lt.1 c4,Nat.not_lt.1 c5,Nat.not_lt.1 c6]) r2
            exact ⟨m',by first | omega | (simp only [List.length_cons] at hm; omega) | (simp only [List.length_cons] at hm ⊢; omega),q2⟩
        · simp only [if_neg hn2,if_neg hn3,if_neg hn4] at vx
          have hn2':¬ (n:Int)=2 := by omega
          have hn3':¬ (n:Int)=3 := by omega
          have hn4':¬ (n:Int)=4 := by omega
          simp [lk_cons,hn2,hn2',hn3,hn3',hn4,hn4']
          exact no (hv.symm.trans vx)
end Go.Proofs.YticefdfhcahlfaaGreatDoor.AM

namespace Go.Proofs.YticefdfhcahlfaaGreatDoor.AM
open Go.RowKit
set_option linter.unusedVariables false
set_option linter.unusedSimpArgs false
set_option maxRecDepth 100000
theorem catch_idle (p:Addr) (w:World) :
    CallsD Tryz.prog 64 #[.pointer (some p)] .returning w fun e u' w'=>e=.returned (.tuple #[])∧u'=.returning∧w'=w := by
  refine callsD_of_wpS Tryz.func64 rfl fun c₀ cs hu=>?_
  apply wpS_seq
  apply wpS_region
  simp [wpOpsS,go_sem,recoverD,hu,Exit.thenS]
  have hnil:∀ w:World,(binOp BinOp.eql 20 .nilIface .nilIface).run Tryz.prog w=.ok (.bool true) w := fun _=>by kernel_rfl
  refine wpS_of_wp ?_
  go_wp2
  cases c₀
  simp_all [bodyPostS,results,Tryz.f64]
set_option maxHeartbeats 8000000 in
theorem catch_thrown (p:Addr) (c:Int) (x:Value) (w:World) (hc:(w.alloc (.cells #[.int .i64 c] 138)).cell? p=some x) (hz:(w.alloc (.cells #[.int .i64 c] 138)).frozen? p=false) :
    CallsD Tryz.prog 64 #[.pointer (some p)] (.panicking [{ v := .iface 138 (.agg #[.int .i64 c]),recovered := false }]) w fun e u' w'=>e=.returned (.tuple #[])∧u'=.panicking [{ v := .iface 138 (.agg #[.int .i64 c]),recovered := true }]∧w'=(w.alloc (.cells #[.int .i64 c] 138)).setCell p (.int .i64 c) := by
  refine callsD_of_wpS Tryz.func64 rfl fun c₀ cs hu=>?_
  apply wpS_seq
  apply wpS_region
  simp [wpOpsS,go_sem,recoverD,hu,Exit.thenS]
  have hnil:∀ w:World,(binOp BinOp.eql 20 (.iface 138 (.agg #[.int .i64 c])) .nilIface).run Tryz.prog w=.ok (.bool false) w := fun _=>by kernel_rfl
  have hta:∀ w:World,(Instr.typeAssert (.iface 138 (.agg #[.int .i64 c])) 20 138 true).run Tryz.prog w=.ok (.tuple #[.agg #[.int .i64 c],.bool true]) w := fun _=>by kernel_rfl
  refine wpS_of_wp ?_
  go_wp2
  simp [bodyPostS,results,Tryz.f64]
end Go.Proofs.YticefdfhcahlfaaGreatDoor.AM

namespace Go.Proofs.YticefdfhcahlfaaGreatDoor.AM
open Go.RowKit
set_option linter.unusedVariables false
set_option linter.unusedSimpArgs false
theorem put_keep {a:Act} {d:Option Tmp} {v:Value} {t:Nat} (h:d≠some t):(a.put d v).tmps[t]?=a.tmps[t]? := by
  cases d with
  | none=>rfl
  | some x =>
    show (a.tmps.setIfInBounds x v)[t]?=_
    rw [Array.getElem?_setIfInBounds_ne (fun e=>h (by rw [e]))]
theorem wpList_keep {P:Program} {ops:Array Oper} {E:Exit→Act→World→Prop} {t:Nat} {x:Option Value}:∀ (l:List Oper) (a:Act) (w:World),wpList P ops E l a w→(∀ o∈l,o.dst≠some t)→a.tmps[t]?=x →
    wpList P ops (fun e a' w'=>E e a' w'∧(e=.outgrown∨a'.tmps[t]?=x)) l a w := by
  intro l
  induction l with
  | nil=>intro a w h _ hx; exact ⟨h,.inr hx⟩
  | cons o l ih =>
    intro a w h hk hx
    have hko := hk o (by simp)
    have hkl:∀ o∈l,o.dst≠some t := fun o ho=>hk o (by simp [ho])
    have go:∀ v w',wpList P ops E l (a.put o.dst v) w'→wpList P ops (fun e a' w'=>E e a' w'∧(e=.outgrown∨a'.tmps[t]?=x)) l (a.put o.dst v) w' :=
      fun v w' h=>ih _ _ h hkl ((put_keep hko).trans hx)
    simp only [wpList] at h ⊢
    split at h
    · rename_i hw
      rw [if_pos hw]
      rcases h with h | ⟨h1,b,c,h2⟩
      · left
        revert h
        unfold Oper.wp
        generalize (execOp a.eval o).run P w=R
        intro h
        cases R with
        | ok s w1 =>
          cases s with
          | value v=>exact go _ _ h
          | skip=>exact go _ _ h
          | defer d=>exact ih _ _ h hkl ((put_keep (a := { a with defers := d :: a.defers }) hko).trans hx)
          | enter f args =>
            rw [Oper.upon_enter] at h ⊢
            refine h.mono fun e w' he=>?_
            cases e with
            | returned v=>exact go _ _ he
            | panicked c=>exact ⟨he,.inr hx⟩
            | outgrown=>obtain ⟨b,c,he⟩ := he; exact ⟨b,c,he,.inl rfl⟩
          | row r args =>
            rw [Oper.upon_row] at h ⊢
            exact Rows.mono h fun v w' he=>go _ _ he
          | _=>exact h
        | halt s w1 =>
          cases s with
          | panic v=>exact ⟨h,.inr hx⟩
          | _=>exact h
      · exact .inr ⟨h1,b,c,h2,.inl rfl⟩
    · rename_i hw
      rw [if_neg hw]
      exact go _ _ h
theorem seq3_sound {P:Program} {T:AVal→St→Prop} {B:Nat} {w0:Root} (hmx:P.follows .mixedOrders=true) {nt:Nat} {h:Hints} {x z:Code} {id:Nat} {ops:Array Oper} {ax az:ACode} {l':List AOper} {keep:List Nat} {t b:Nat}
    (hcx:comp P nt h x=some ax) (hcl:listM (compOper P nt ops.toList) ops.toList=some l') (hcz:comp P nt h z=some az) (hk:∀ o∈ops.toList,o.dst≠some t) (nx:ax.noR=true) (nz:az.noR=true) {Q:Post} {r:Regs} {σ:St} {ρ:Rho} {I:Imm} {a:Act} {w:World}
    (hx:ax.wp (Env.of P) (fun e r s=>e=.normal∧r.lookup t=some (.ptr b 0)∧rwp (Env.th P T) l' r s (fun r s=>az.wp (Env.of P) Q (norm keep r) s)) r σ)
    (hr:RegsRel ρ I r a.tmps) (rl:Rel B w0 ρ I σ w) (hd:a.defers=w0.ds) (hs:a.tmps.size=nt) (hb:b<σ.next) :
    (Code.seq x (.seq (.region id ops false) z)).wp P (fun e a2 w2=>LiftP0 nt B w0 ρ I σ T Q e a2 w2∧((∃ c,e=.panic c)→∃ cv,a2.tmps[t]?=some cv∧VRel ρ I (.ptr b 0) cv)) a w := by
  refine Go.wp_seq (Code.wp_mono ?_ (code_sound (P := Env.of P) hmx x ax hcx _ r σ ρ I a w nx hx hr rl (YOk.of _ _ _ _ _) hd hs))
  intro e a1 w1 hl
  cases e with
  | normal =>
    obtain ⟨r1,σ1,ρ1,I1,g1,g2,g3,g4,g5,_,g6,g7⟩ := hl
    obtain ⟨cv,hp,hv⟩ := g4 t _ g6
    have hv0:VRel ρ I (.ptr b 0) cv := by
      simp only [VRel] at hv ⊢
      rw [g5.1 b hb] at hv
      exact hv
    let E0:Exit→Act→World→Prop := fun e a2 w2=>match e with
      | .normal=>Lift nt B w0 ρ1 I1 σ1 (fun r s=>az.wp (Env.of P) Q (norm keep r) s) a2 w2
      | .panic c=>a2.defers=w0.ds∧LiftT B w0 ρ1 I1 σ1 T c w2
      | _=>False
    have h2:wpList P ops E0 ops.toList a1 w1 := rwp_sound (P := (Env.th P T)) (fun _ _ _ _ h=>h) ops.toList l' r1 σ1 ρ1 I1 a1 w1 _ hcl g7 g4 g3 g1 g2 (fun a w h=>h) (fun c a w hd h=>⟨hd,h⟩)
    have h3 := wpList_keep ops.toList a1 w1 h2 hk hp
    have h4 := Go.wp_region_list (id := id) h3
    refine Go.wp_seq (Code.wp_mono ?_ h4)
    intro e a2 w2 hl
    obtain ⟨hl,hkp⟩ := hl
    cases e with
    | normal =>
      obtain ⟨r2,σ2,ρ2,I2,k1,k2,k3,k4,k5,k6⟩ := hl
      show Code.wp P z _ a2 w2
      refine Code.wp_mono ?_ (code_sound (P := Env.of P) hmx z az hcz Q (norm keep r2) σ2 ρ2 I2 a2 w2 nz k6 (k4.norm keep) k3 (YOk.of _ _ _ _ _) k1 k2)
      intro e a3 w3 hl
      have hex := g5.trans k5
      cases e with
      | normal=>exact ⟨Lift.ext hex hl,fun ⟨_,h⟩=>by cases h⟩
      | ret=>exact ⟨Lift.ext hex hl,fun ⟨_,h⟩=>by cases h⟩
      | exit id=>exact ⟨Lift.ext hex hl,fun ⟨_,h⟩=>by cases h⟩
      | goto l=>exact (hl:False).elim
      | panic c=>exact hl.2.no.elim
      | outgrown=>exact (hl:False).elim
    | panic c =>
      refine ⟨⟨hl.1,hl.2.ext g5⟩,fun _=>⟨cv,?_,hv0⟩⟩
      rcases hkp with h | h
      · cases h
      · exact h
    | ret=>exact (hl:False).elim
    | exit id=>exact (hl:False).elim
    | goto l=>exact (hl:False).elim
    | outgrown=>exact (hl:False).elim
  | ret=>obtain ⟨_,_,_,_,_,_,_,_,_,g,_⟩ := hl; cases g
  | exit id=>obtain ⟨_,_,_,_,_,_,_,_,_,g,_⟩ := hl; cases g
  | goto l=>exact (hl:False).elim
  | panic c=>exact hl.2.no.elim
  | outgrown=>exact (hl:False).elim
end Go.Proofs.YticefdfhcahlfaaGreatDoor.AM

namespace Go.Proofs.YticefdfhcahlfaaGreatDoor.AM
open Go.RowKit
set_option linter.unusedVariables false
set_option linter.unusedSimpArgs false
set_option maxRecDepth 100000
def cOf:ACode→ACode
  | .seq _ (.seq _ c)=>c
  | _=>.skip
def bodyC:Option Code→Code
  | some (.seq _ (.seq _ c))=>c
  | _=>.skip
def bX:Code→Code
  | .seq x _=>x
  | _=>.skip
def bZ:Code→Code
  | .seq _ (.seq _ z)=>z
  | _=>.skip
def bR:Code→Array Oper
  | .seq _ (.seq (.region _ ops _) _)=>ops
  | _=>#[]
def aX:ACode→ACode
  | .seq x _=>x
  | _=>.skip
def aZ:ACode→ACode
  | .seq _ (.seq _ z)=>z
  | _=>.skip
def aR:ACode→List AOper
  | .seq _ (.seq (.reg _ ops) _)=>ops
  | _=>[]
theorem bodyC_eq:∃ id,bodyC Tryz.f23.body=.seq (bX (bodyC Tryz.f23.body)) (.seq (.region id (bR (bodyC Tryz.f23.body)) false) (bZ (bodyC Tryz.f23.body))) := ⟨_,rfl⟩
theorem compX61:comp Tryz.prog 19 h23 (bX (bodyC Tryz.f23.body))=some (aX (cOf ac23)) := by kernel_rfl
theorem compZ61:comp Tryz.prog 19 h23 (bZ (bodyC Tryz.f23.body))=some (aZ (cOf ac23)) := by kernel_rfl
theorem compR61:listM (compOper Tryz.prog 19 (bR (bodyC Tryz.f23.body)).toList) (bR (bodyC Tryz.f23.body)).toList=some (aR (cOf ac23)) := by kernel_rfl
theorem keepR61:∀ o∈(bR (bodyC Tryz.f23.body)).toList,o.dst≠some 4 := by
  intro o ho
  have:((bR (bodyC Tryz.f23.body)).toList.all fun o=>o.dst != some 4)=true := by kernel_rfl
  have := List.all_eq_true.1 this o ho
  simpa using this
theorem ins_mono {P:Env}:∀ (i:AIns) (r:Regs) (σ:St) (Q Q':AVal→St→Prop),i.wp P r σ Q→(∀ v σ,Q v σ→Q' v σ)→i.wp P r σ Q' := by
  intro i r σ Q Q' h hq
  cases i with
  | op o=>simp only [AIns.wp] at h ⊢; split at h <;> simp_all
  | pick c a b =>
    simp only [AIns.wp] at h ⊢
    split at h
    · split at h
      · simp_all
      · exact h.elim
    · exact h.elim
  | call f args =>
    simp only [AIns.wp] at h ⊢
    split at h
    · rename_i g xs ys hf
      split at h
      · rename_i vs hvs; exact h.mono hq
      · exact h.elim
    · split at h
      · obtain ⟨K,h1,h2⟩ := h; exact ⟨K,h1,fun v σ hk=>hq _ _ (h2 v σ hk)⟩
      · exact h.elim
    · exact h.elim
  | next x =>
    simp only [AIns.wp] at h ⊢
    split at h
    · exact fun p hp=>hq _ _ (h p hp)
    · exact h.elim
  | panic x=>simp only [AIns.wp] at h ⊢; exact h
theorem rwp_mono {P:Env}:∀ (ops:List AOper) (r:Regs) (σ:St) (Q Q':Regs→St→Prop),rwp P ops r σ Q→(∀ v σ,Q v σ→Q' v σ)→rwp P ops r σ Q' := by
  intro ops
  induction ops with
  | nil=>intro r σ Q Q' h hq; exact hq _ _ h
  | cons o rest ih =>
    intro r σ Q Q' h hq
    simp only [rwp] at h ⊢
    split at h
    · rename_i hg; exact ins_mono _ _ _ _ _ h fun v σ h=>ih _ _ _ _ h hq
    · split at h
      · rename_i hb
        split at h
        · rename_i hbw; simp only [if_pos hbw]; exact ins_mono _ _ _ _ _ h fun v σ h=>ih _ _ _ _ h hq
        · rename_i hbw; simp only [if_neg hbw]; exact ih _ _ _ _ h hq
      · exact ih _ _ _ _ h hq
      · exact h.elim
theorem ops_keep {P:Program} {T:AVal→St→Prop} {t:Nat} {v:AVal}:∀ (l:List AOper) (r:Regs) (σ:St) (Q:Regs→St→Prop),rwp (Env.th P T) l r σ Q→(∀ o∈l,∃ d op,o=⟨d,.op op,none⟩∧d≠some t)→r.lookup t=some v→rwp (Env.of P) l r σ (fun r σ=>r.lookup t=some v∧Q r σ) := by
  intro l
  induction l with
  | nil=>intro r σ Q h _ hv; exact ⟨hv,h⟩
  | cons o l ih =>
    intro r σ Q h hk hv
    obtain ⟨d,op,rfl,hd⟩ := hk o (by simp)
    simp only [rwp,AIns.wp] at h ⊢
    split at h
    · rename_i v' σ' he
      exact ih _ _ _ h (fun o ho=>hk o (by simp [ho])) ((lookup_setR_ne hd).trans hv)
    · exact h.elim
theorem quietZ {T:AVal→St→Prop} {Q:Post} {r:Regs} {σ:St} (h:(aZ (cOf ac23)).wp (Env.th Tryz.prog T) Q r σ):(aZ (cOf ac23)).wp (Env.of Tryz.prog) Q r σ := by
  unfold ac23 cOf aZ at h ⊢
  exact h
theorem body_c {T:AVal→St→Prop} {Q:Post} {bv fv:AVal} {b:Nat} {σ:St} (h:(cOf ac23).wp (Env.th Tryz.prog T) Q [(0,bv),(1,fv),(4,.ptr b 0)] σ) :
    (aX (cOf ac23)).wp (Env.of Tryz.prog) (fun e r s=>e=.normal∧r.lookup 4=some (.ptr b 0)∧rwp (Env.th Tryz.prog T) (aR (cOf ac23)) r s (fun r s=>(aZ (cOf ac23)).wp (Env.of Tryz.prog) Q (norm [4,5] r) s)) [(0,bv),(1,fv),(4,.ptr b 0)] σ := by
  have hz:∀ {r σ},(aZ (cOf ac23)).wp (Env.th Tryz.prog T) Q r σ→(aZ (cOf ac23)).wp (Env.of Tryz.prog) Q r σ := quietZ
  revert h hz
  unfold ac23 cOf aX aR aZ
  intro h hz
  have h1 := ops_keep (t := 4) (v := .ptr b 0) _ _ _ _ h (by simp) rfl
  exact rwp_mono _ _ _ _ _ h1 fun r σ ⟨k1,k2⟩=>⟨rfl,by simp [norm,k1,List.filterMap_cons]; cases List.lookup 1 r <;> simp [lk_cons],rwp_mono _ _ _ _ _ k2 fun r σ k=>hz k⟩
end Go.Proofs.YticefdfhcahlfaaGreatDoor.AM

/- pack.Read (its code: cf23, cf64). -/
namespace Go.Proofs.YticefdfhcahlfaaGreatDoor.AM
open Go.RowKit
set_option linter.unusedVariables false
set_option linter.unusedSimpArgs false
set_option maxRecDepth 100000
def aOf:ACode→ACode
  | .seq a _=>a
  | _=>.skip
def bodyA:Option Code→Code
  | some (.seq a _)=>a
  | _=>.skip
def bodyR:Option Code→Array Oper
  | some (.seq _ (.seq (.region _ ops _) _))=>ops
  | _=>#[]
theorem body61:Tryz.f23.body=some (.seq (bodyA Tryz.f23.body) (.seq (.region 1 (bodyR Tryz.f23.body) false) (bodyC Tryz.f23.body))) := rfl
theorem compA61:comp Tryz.prog 19 h23 (bodyA Tryz.f23.body)=some (aOf ac23) := by kernel_rfl
theorem read_c {σ:St} {bv fv:AVal} (Q:AVal→St→Prop)
    (h:(cOf ac23).wp (Env.th Tryz.prog fun v σ'=>∃ c x,v=.iface 138 (.agg [.int .i64 c])∧σ'.mem.get σ.next=some (.cells 1 [.int .i64 x])∧Q (.int .i64 c) ⟨σ'.mem.set σ.next (.cells 1 [.int .i64 c]),σ'.next⟩)
      (retPost rs23 Q) [(0,bv),(1,fv),(4,.ptr σ.next 0)] ⟨σ.mem.set σ.next (.cells 1 [.int .i64 0]),σ.next+1⟩):ACall Tryz.prog 23 [bv,fv] σ Q := by
  refine ACall.ofCalls (fun a w=>Tryz.call23 a w) fun B w0 ρ I w cargs rl hsz hargs=>?_
  refine calls_of_wp_defers Tryz.func23 body61 ?_
  refine Go.wp_seq ?_
  have hA := code_sound (P := Env.of Tryz.prog) (w0 := { w0 with ds := [] }) (B := B) hmx (bodyA Tryz.f23.body) (aOf ac23) compA61 (fun e r s=>e=.normal∧r=[(0,bv),(1,fv),(4,.ptr σ.next 0)]∧s=⟨σ.mem.set σ.next (.cells 1 [.int .i64 0]),σ.next+1⟩) (argR 0 [bv,fv]) σ ρ I { tmps := cargs++Array.replicate (Tryz.f23.ntmps - cargs.size) undef,defers := [] } w rfl (by simp [ac23,aOf,lk_cons,argR]) ?_ (rl.atDs []) (YOk.of _ _ _ _ _) rfl ?_
  · refine Code.wp_mono ?_ hA
    intro e a w1 hl
    cases e with
    | normal =>
      obtain ⟨r,σ1,ρ1,I1,g1,g2,g3,g4,g5,_,rfl,rfl⟩ := hl
      refine Go.wp_seq ?_
      refine Go.wp_region_list ?_
      obtain ⟨cvp,hp,hvp⟩ := g4 4 (.ptr σ.next 0) rfl
      simp only [VRel] at hvp
      have hmf:∀ (fn:Fn) (first cap:Array Value) (w:World),(Instr.makeFunc fn first cap).run Tryz.prog w=.ok (.func fn first cap) w := fun _ _ _ _=>rfl
      have hev:a.eval (.tmp 4)=cvp := by
        have:a.tmps.getD 4 undef=cvp := by rw [Array.getD_eq_getD_getElem?,hp]; rfl
        exact this
      have hC0:Code.wp Tryz.prog (bodyC Tryz.f23.body) (bodyPostD Tryz.prog Tryz.f23 fun e w'=>∃ v σ' ρ' I' cv,e=Ending.returned cv∧VRel ρ' I' v cv∧Rel B w0 ρ' I' σ' w'∧Ext ρ I σ ρ' I' σ'∧Q v σ')
          { tmps := a.tmps.setIfInBounds 6 (Value.func (Fn.func 64) #[] #[cvp]),defers := ⟨.fn (.func 64) #[cvp],#[]⟩ :: a.defers } w1 := by
        obtain ⟨pl,hpl,rfl⟩ := hvp
        have hinv:∀ w,(invoke (.fn (.func 64) #[.pointer (some ⟨pl.b,pl.base+0,none⟩)]) #[]).run Tryz.prog w=.ok (.enter 64 #[.pointer (some ⟨pl.b,pl.base+0,none⟩)]) w := fun w=>Tryz.call64 _ w
        have hR:RegsRel ρ1 I1 [(0,bv),(1,fv),(4,.ptr σ.next 0)] (a.tmps.setIfInBounds 6 (Value.func (Fn.func 64) #[] #[.pointer (some ⟨pl.b,pl.base+0,none⟩)])) := by
          intro t v hv
          obtain ⟨cu,b1,b2⟩ := g4 t v hv
          have hne:t≠6 := by
            intro h6; subst h6
            simp [lk_cons] at hv
          exact ⟨cu,by rw [Array.getElem?_setIfInBounds_ne (fun e=>hne e.symm)]; exact b1,b2⟩
        obtain ⟨rid,hid⟩ := bodyC_eq
        have hC := seq3_sound (id := rid) (P := Tryz.prog) (B := B) (w0 := { w0 with ds := [⟨.fn (.func 64) #[.pointer (some ⟨pl.b,pl.base+0,none⟩)],#[]⟩] }) (nt := 19)
          (a := { tmps := a.tmps.setIfInBounds 6 (Value.func (Fn.func 64) #[] #[.pointer (some ⟨pl.b,pl.base+0,none⟩)]),defers := ⟨.fn (.func 64) #[.pointer (some ⟨pl.b,pl.base+0,none⟩)],#[]⟩ :: a.defers })
          hmx compX61 compR61 compZ61 keepR61 rfl rfl (body_c h) hR (g3.ofDs.atDs _) (by rw [g1]) (by simp [g2]) (Nat.lt_succ_self _)
        rw [hid]
        · refine Code.wp_mono ?_ hC
          intro e a2 w2 hl
          obtain ⟨hl,hkp⟩ := hl
          have hlt0:σ.next<σ.next+1 := Nat.lt_succ_self _
          have key:Lift 19 B { w0 with ds := [⟨.fn (.func 64) #[.pointer (some ⟨pl.b,pl.base+0,none⟩)],#[]⟩] } ρ1 I1 ⟨σ.mem.set σ.next (.cells 1 [.int .i64 0]),σ.next+1⟩ (fun r σ=>match resA r σ rs23 with | some v=>Q v σ | none=>False) a2 w2 →
              Leaves Tryz.prog Tryz.f23 a2.tmps (fun e w'=>∃ v σ' ρ' I' cv,e=Ending.returned cv∧VRel ρ' I' v cv∧Rel B w0 ρ' I' σ' w'∧Ext ρ I σ ρ' I' σ'∧Q v σ') a2.defers .returning w2 := by
            rintro ⟨r,σ',ρ',I',q1,q2,q3,q4,q5,q6⟩
            split at q6
            · rename_i v hv
              obtain ⟨cv,u1,u2⟩ := res_sound (P := Env.of Tryz.prog) (fn := Tryz.f23) q4 q3.ofDs (rs := rs23) (by kernel_rfl) hv
              rw [q1]
              refine ⟨by simp,_,_,64,_,rfl,hinv _,(catch_idle _ w2).mono ?_⟩
              rintro e u' w' ⟨rfl,rfl,rfl⟩
              exact ⟨cv,u1,v,σ',ρ',I',cv,rfl,u2,q3.ofDs,g5.trans q5,q6⟩
            · exact q6.elim
          cases e with
          | normal=>exact key hl
          | ret=>exact key hl
          | exit id =>
            obtain ⟨r,σ',ρ',I',q1,q2,q3,q4,q5,q6⟩ := hl
            exact q6.elim
          | goto l=>exact (hl:False).elim
          | outgrown=>exact (hl:False).elim
          | panic chain =>
            obtain ⟨hd,v,σ',ρ',I',cv,rfl,q2,q3,q4,c,x,rfl,hm,hq⟩ := hl
            show Leaves Tryz.prog Tryz.f23 a2.tmps _ a2.defers _ w2
            rw [hd]
            obtain ⟨cw,t4,hv4⟩ := hkp ⟨_,rfl⟩
            simp only [VRel] at hv4
            obtain ⟨pl',hp4,rfl⟩ := hv4
            have hpp:pl'=pl := by rw [hpl] at hp4; exact (Option.some.inj hp4).symm
            subst hpp
            have hρ:ρ' σ.next=some pl' := (q4.1 _ hlt0).trans hpl
            have hcv:cv=.iface 138 (.agg #[.int .i64 c]) := by
              simp only [VRel] at q2
              obtain ⟨y,rfl,cs',rfl,hsz,_,hC⟩ := q2
              obtain ⟨u,hu1,hu2⟩ := hC.get 0 (.int .i64 c) rfl
              simp only [VRel] at hu2
              subst hu2
              have h1:cs'.size=1 := hsz
              have:cs'=#[.int .i64 c] := by
                apply Array.ext (by simp [h1])
                intro i hi1 hi2
                have:i=0 := by omega
                subst this
                rw [Array.getElem?_eq_getElem hi1] at hu1
                simpa using hu1
              rw [this]
            subst hcv
            have ra:Rel B w0 ρ' I' σ' (w2.alloc (.cells #[.int .i64 c] 138)) :=
              Rel.below q3.ofDs ((Below.refl _ _).alloc (Nat.le_refl _) _)
            obtain ⟨⟨u,c1⟩,c2,c3,c4⟩ := ra.setCell hρ hm (o := 0) (by simp) (v := .int .i64 c) (cv := .int .i64 c) (by simp [VRel]) rfl
            refine ⟨by simp,_,_,64,_,rfl,hinv _,(catch_thrown _ c u w2 c1 c2).mono ?_⟩
            rintro e u' w' ⟨rfl,rfl,rfl⟩
            have hregs:RegsRel ρ' I' [(4,.ptr σ.next 0)] a2.tmps := by
              intro t v hv
              by_cases h4:t=4
              · subst h4
                simp at hv; subst hv
                exact ⟨_,t4,by simp only [VRel]; exact ⟨pl',hρ,rfl⟩⟩
              · have:(t == 4)=false := by simp [h4]
                simp [List.lookup,this] at hv
            obtain ⟨cv2,u1,u2⟩ := res_sound (P := Env.of Tryz.prog) (fn := Tryz.f23) hregs c3 (rs := rs23) (v := .int .i64 c) (by kernel_rfl) (by simp [rs23,resA,lk_cons])
            exact ⟨cv2,u1,.int .i64 c,_,ρ',I',cv2,rfl,u2,c3,(g5.trans q4).trans c4,hq⟩
      have hev6:Act.eval { tmps := a.tmps.setIfInBounds 6 (Value.func (Fn.func 64) #[] #[cvp]),defers := a.defers } (.tmp 6)=Value.func (Fn.func 64) #[] #[cvp] := by
        show (a.tmps.setIfInBounds 6 (Value.func (Fn.func 64) #[] #[cvp])).getD 6 undef=_
        rw [Array.getD_eq_getD_getElem?,Array.getElem?_setIfInBounds_self]
        simp [g2]
      have hC1 := hC0
      revert hC1
      generalize bodyC Tryz.f23.body=CC
      intro hC1
      generalize hbr:bodyR Tryz.f23.body=ops
      simp only [bodyR,Tryz.f23] at hbr
      subst hbr
      simp [wpList,Oper.wp,execOp,hmf,hev,Oper.upon,Region.wanted,Act.put,resolve,hev6,Deferred.ofValue]
      left
      have hE:∀ N E,Exit.then N E .normal=N := fun _ _=>rfl
      rw [hE]
      exact .inl hC1
    | ret =>
      obtain ⟨r,σ1,ρ1,I1,g1,g2,g3,g4,g5,g6,_⟩ := hl
      cases g6
    | exit id =>
      obtain ⟨r,σ1,ρ1,I1,g1,g2,g3,g4,g5,g6,_⟩ := hl
      cases g6
    | goto l=>exact (hl:False).elim
    | panic c=>exact hl.2.no.elim
    | outgrown=>exact (hl:False).elim
  · intro t v hv
    obtain ⟨_,h2⟩ := argR_lookup [bv,fv] 0 t v hv
    rw [Nat.sub_zero] at h2
    obtain ⟨u,h3,h4⟩ := hargs.get t v h2
    have hlt := (Array.getElem?_eq_some_iff.1 h3).1
    exact ⟨u,by rw [Array.getElem?_append_left hlt]; exact h3,h4⟩
  · have:cargs.size=2 := hsz
    simp [this]
end Go.Proofs.YticefdfhcahlfaaGreatDoor.AM

namespace Go.Proofs.YticefdfhcahlfaaGreatDoor.AM
open Go.RowKit
set_option linter.unusedVariables false
set_option linter.unusedSimpArgs false
set_option maxRecDepth 100000
theorem fail_c {T:AVal→St→Prop} {rv:AVal} {c:Int} {σ:St} {Q:AVal→St→Prop} (hT:c≠0→T (.iface 138 (.agg [.int .i64 c])) σ) (hQ:c=0→Q (.tup []) σ):ACall (Env.th Tryz.prog T) 33 [rv,.int .i64 c] σ Q := by
  refine ACall.of_compF hmx (fun a w=>Tryz.call33 a w) Tryz.func33 cf33 (n := 2) (by decide) rfl ?_
  by_cases hc:c=0
  · simp [ac33,rs33,lk_cons,hc,hQ]
  · simp [ac33,rs33,lk_cons,hc,hT,fillL,storeL]
end Go.Proofs.YticefdfhcahlfaaGreatDoor.AM


namespace Go.Proofs.YticefdfhcahlfaaGreatDoor.AM
open Go.RowKit
set_option maxRecDepth 100000
set_option linter.unusedVariables false
set_option linter.unusedSimpArgs false
def be (l:List UInt8):Nat := l.foldl (fun a b=>a*256+b.toNat) 0
theorem be_snoc (l:List UInt8) (b:UInt8):be (l++[b])=be l*256+b.toNat := by simp [be,List.foldl_append]
theorem be_nil:be []=0 := rfl
theorem be_lt_aux:∀ (l:List UInt8) (a:Nat),l.foldl (fun a b=>a*256+b.toNat) a+1≤(a+1)*256 ^ l.length
  | [],a=>by simp
  | b :: l,a=>by
    have h := be_lt_aux l (a*256+b.toNat)
    have hb := b.toNat_lt
    simp only [List.foldl_cons,List.length_cons,Nat.pow_succ]
    refine Nat.le_trans h ?_
    have:(a*256+b.toNat+1)*256 ^ l.length≤((a+1)*256)*256 ^ l.length := Nat.mul_le_mul_right _ (by omega)
    rw [Nat.mul_comm (256 ^ l.length) 256,← Nat.mul_assoc]
    exact this
theorem be_lt (l:List UInt8):be l<256 ^ l.length := by
  have := be_lt_aux l 0
  unfold be
  omega
theorem take_snoc {l:List UInt8} {i:Nat} {x:UInt8} (h:l[i]?=some x):l.take (i+1)=l.take i++[x] := by
  rw [List.take_add_one,h]; rfl
abbrev thrownV (c:Int):AVal := .iface 138 (.agg [.int .i64 c])
theorem shl8 {x:Nat} (h:x*256<18446744073709551616) (ρ:St):evalV ρ (.bin .shl (.int .u64 (x:Nat)) (.int .u64 8))=some (.int .u64 ((x:Int)*256),ρ) := by
  have h1:IntKind.u64.wrap ((x:Int)*2 ^ min (Int.toNat 8) IntKind.u64.bits)=(x:Int)*256 := by
    have:(2:Int) ^ min (Int.toNat 8) IntKind.u64.bits=256 := by decide
    rw [this]
    rw [IntWalk.u64_in] <;> omega
  simp only [evalV,abin,ashift,h1]
  rfl
theorem or8 {x:Nat} {b:UInt8} (h:x*256+b.toNat<18446744073709551616) (ρ:St):evalV ρ (.bin .or (.int .u64 ((x:Int)*256)) (.int .u64 (b.toNat:Int)))=some (.int .u64 ((x*256+b.toNat:Nat):Int),ρ) := by
  have hb := b.toNat_lt
  have h0:(x:Int)*256=((x*256:Nat):Int) := by omega
  rw [h0]
  have h2:((BitVec.ofInt IntKind.u64.bits ((x*256:Nat):Int)) ||| (BitVec.ofInt IntKind.u64.bits (b.toNat:Int))).toNat=x*256+b.toNat := by
    have e:IntKind.u64.bits=64 := rfl
    rw [e]
    simp only [BitVec.ofInt_natCast,BitVec.toNat_or,BitVec.toNat_ofNat]
    rw [Nat.mod_eq_of_lt (by omega),Nat.mod_eq_of_lt (by omega)]
    have := Nat.two_pow_add_eq_or_of_lt (i := 8) (b := b.toNat) hb x
    rw [Nat.mul_comm x 256]
    exact this.symm
  simp only [evalV,abin,abinI,abits,h2,if_true]
  rw [IntWalk.u64_in] <;> first | rfl | omega
end Go.Proofs.YticefdfhcahlfaaGreatDoor.AM

namespace Go.Proofs.YticefdfhcahlfaaGreatDoor.AM
open Go.RowKit
set_option maxRecDepth 100000
set_option linter.unusedVariables false
set_option linter.unusedSimpArgs false
def RR (σ:St) (r:Nat) (l:List UInt8) (c:Option Nat):Prop := ∃ v,σ.mem.get r=some (.cells 1 [v])∧RdB σ v l c∧c≠some r∧r<σ.next
theorem RR.keep {σ σ':St} {r:Nat} {l:List UInt8} {c:Option Nat} (h:RR σ r l c) (hn:σ.next≤σ'.next) (hm:∀ a,a<σ.next→a=r∨c=some a→σ'.mem.get a=σ.mem.get a):RR σ' r l c := by
  obtain ⟨v,h1,h2,h3,h4⟩ := h
  exact ⟨v,(hm r h4 (.inl rfl)).trans h1,h2.keep hn fun a ha hc=>hm a ha (.inr hc),h3,by omega⟩
structure RStp (r:Nat) (σ σ':St):Prop where
  next:σ.next≤σ'.next
  keep:∀ a,a<σ.next→a≠r→σ'.mem.get a=σ.mem.get a
theorem RStp.refl (r:Nat) (σ:St):RStp r σ σ := ⟨Nat.le_refl _,fun _ _ _=>rfl⟩
theorem RStp.trans {r:Nat} {a b d:St} (h:RStp r a b) (k:RStp r b d):RStp r a d := ⟨Nat.le_trans h.next k.next,fun x hx hr=>(k.keep x (Nat.lt_of_lt_of_le hx h.next) hr).trans (h.keep x hx hr)⟩
theorem Grow.rstp {σ σ':St} (h:Grow σ σ') (r:Nat):RStp r σ σ' := ⟨h.1,fun a ha _=>h.2 a ha⟩
theorem RR.grow {σ σ':St} {r:Nat} {l:List UInt8} {c:Option Nat} (h:RR σ r l c) (hg:Grow σ σ'):RR σ' r l c := h.keep hg.1 fun a ha _=>hg.2 a ha
def pNum (k:Nat) (l:List UInt8):Except Nat (Nat×List UInt8) := if l.length<k then .error 4 else .ok (be (l.take k),l.drop k)
def pBytes (l:List UInt8):Except Nat (List UInt8×List UInt8) := match pNum 4 l with
  | .error c=>.error c
  | .ok (n,r)=>if r.length<n then .error 4 else .ok (r.take n,r.drop n)
def pText (l:List UInt8):Except Nat (List UInt8×List UInt8) := match pBytes l with
  | .error c=>.error c
  | .ok (b,r)=>if vld b then .ok (b,r) else .error 6
theorem pNum_len {k:Nat} {l:List UInt8} {n:Nat} {r:List UInt8} (h:pNum k l=.ok (n,r)):r.length+k=l.length∧n<256 ^ k := by
  unfold pNum at h
  split at h
  · cases h
  · rename_i hk
    cases h
    have := be_lt (l.take k)
    rw [List.length_take,Nat.min_eq_left (by omega)] at this
    exact ⟨by rw [List.length_drop]; omega,this⟩
theorem pBytes_len {l b r:List UInt8} (h:pBytes l=.ok (b,r)):r.length≤l.length∧b.length≤l.length := by
  unfold pBytes at h
  split at h
  · cases h
  · rename_i n r' hn
    have := (pNum_len hn).1
    split at h
    · cases h
    · cases h; simp only [List.length_drop,List.length_take]; omega
theorem pText_len {l b r:List UInt8} (h:pText l=.ok (b,r)):r.length≤l.length∧b.length≤l.length := by
  unfold pText at h
  split at h
  · cases h
  · rename_i b' r' hb
    have := pBytes_len hb
    split at h
    · cases h; exact this
    · cases h
section
variable {T:AVal→St→Prop} {σ:St} {r:Nat} {l:List UInt8} {c:Option Nat} {Q:AVal→St→Prop}
theorem rtake_c (h:RR σ r l c) (hl:l.length<4611686018427387904) {n:Nat} (hT:l.length<n→T (thrownV 4) σ)
    (hQ:n≤l.length→∀ v1 σ',RR σ' r (l.drop n) c→RdB σ' v1 (l.take n) c→σ'.next=σ.next→(∀ a,a≠r→σ'.mem.get a=σ.mem.get a)→Q v1 σ'):ACall (Env.th Tryz.prog T) 80 [.ptr r 0,.int .u64 (n:Int)] σ Q := by
  refine ACall.of_compF hmx (fun a w=>Tryz.call80 a w) Tryz.func80 cf80 (n := 2) (by decide) rfl ?_
  obtain ⟨v,h1,h2,h3,h4⟩ := h
  have hlen := h2.len
  have w1:IntKind.u64.wrap (l.length:Int)=l.length := by rw [IntWalk.u64_in] <;> omega
  by_cases hn:l.length<n
  · have hn':(l.length:Int)<n := by omega
    simp [ac80,rs80,lk_cons,h1,↓hlen,w1,hn,hn',fillL,storeL]
    exact hT hn
  · have hn':¬ (l.length:Int)<n := by omega
    obtain ⟨v1,s1,r1⟩ := h2.pre (n := n) (by omega) .u64 rfl
    obtain ⟨v2,s2,r2⟩ := h2.cut (n := n) (by omega) .u64 rfl
    have s1 := s1 σ (fun _ _=>rfl)
    have s2 := s2 σ (fun _ _=>rfl)
    simp [ac80,rs80,lk_cons,h1,↓hlen,w1,hn,hn',optM,↓s1,↓s2,r2.one,storeL]
    have kp:∀ a,a≠r→(σ.mem.set r (.cells 1 [v2])).get a=σ.mem.get a := fun a ha=>by simp [ha]
    have rk:∀ {w:AVal} {m:List UInt8},RdB σ w m c→RdB ⟨σ.mem.set r (.cells 1 [v2]),σ.next⟩ w m c := fun hw=>hw.keep (Nat.le_refl _) fun a _ hc=>kp a fun e=>h3 (by rw [hc,e])
    exact hQ (by omega) v1 _ ⟨v2,by simp,rk r2,h3,h4⟩ (rk r1) rfl kp
def NuJ (v1:AVal) (l1:List UInt8) (σ0:St) (mm:Nat) (rg:Regs) (σ':St):Prop := ∃ i,mm=l1.length - i∧i≤l1.length∧σ'=σ0 ∧
  rg=[(5,.int .u64 (be (l1.take i):Nat)),(10,v1),(11,.int .i64 (l1.length:Nat)),(12,.int .i64 (i:Nat))]
theorem rnum_c (h:RR σ r l c) (hl:l.length<4611686018427387904) {n:Nat} (hn8:n≤8) (hT:∀ e,pNum n l=.error e→T (thrownV (e:Int)) σ)
    (hQ:∀ x l' σ',pNum n l=.ok (x,l')→RR σ' r l' c→RStp r σ σ'→Q (.int .u64 (x:Int)) σ'):ACall (Env.th Tryz.prog T) 65 [.ptr r 0,.int .u64 (n:Int)] σ Q := by
  refine ACall.of_compF hmx (fun a w=>Tryz.call65 a w) Tryz.func65 cf65 (n := 2) (by decide) rfl ?_
  simp [ac65,rs65,lk_cons]
  refine rtake_c h hl (fun hn=>by have := hT 4 (by rw [pNum,if_pos hn]); exact this) fun hn v1 σ1 h1 h2 hx hk=>?_
  have hq := hQ (be (l.take n)) (l.drop n) σ1 (by rw [pNum,if_neg (by omega)]) h1 ⟨by omega,fun a _ ha=>hk a ha⟩
  have hlt:(l.take n).length=n := by simp [Nat.min_eq_left hn]
  revert h2 hq hlt
  generalize l.take n=l1
  intro h2 hq hlt
  subst hlt
  have hlen1 := h2.len
  simp [lk_cons,↓hlen1]
  refine wp_loop (NuJ v1 l1 σ1) l1.length ?_ ?_
  · exact ⟨0,rfl,Nat.zero_le _,rfl,by simp [be_nil,lk_cons]⟩
  · rintro mm rg σ' ⟨i,rfl,hi,rfl,rfl⟩
    by_cases hc:i<l1.length
    · obtain ⟨x,hx⟩:∃ x,l1[i]?=some x := ⟨_,List.getElem?_eq_getElem (by omega)⟩
      obtain ⟨k,hk⟩:∃ k,i+1=k := ⟨_,rfl⟩
      have w1:IntKind.i64.wrap ((i:Int)+1)=(k:Int) := by rw [IntWalk.i64_in] <;> omega
      have htk := take_snoc hx
      have hbe:be (l1.take k)=be (l1.take i)*256+x.toNat := by rw [← hk,htk,be_snoc]
      have hbl:be (l1.take k)<18446744073709551616 := by
        have := be_lt (l1.take k)
        have hle:(l1.take k).length≤8 := by simp; omega
        have := Nat.pow_le_pow_right (n := 256) (by decide) hle
        have e:256 ^ 8=18446744073709551616 := by decide
        omega
      have e1 := shl8 (x := be (l1.take i)) (by omega) σ'
      have e2 := or8 (x := be (l1.take i)) (b := x) (by omega) σ'
      obtain ⟨p,a1,a2⟩ := h2.at hx rfl
      have a2 := a2 σ' (fun _ _=>rfl)
      have wx:IntKind.u64.wrap (x.toNat:Int)=x.toNat := by have := x.toNat_lt; rw [IntWalk.u64_in] <;> omega
      simp [lk_cons,hc,w1,↓a1,↓a2,wx,↓e1,↓e2]
      exact ⟨l1.length - k,by omega,k,rfl,by omega,rfl,by rw [hbe]; simp⟩
    · have:i=l1.length := by omega
      subst this
      simp [lk_cons]
      exact hq
theorem ru64_c (h:RR σ r l c) (hl:l.length<4611686018427387904) (hT:∀ e,pNum 8 l=.error e→T (thrownV (e:Int)) σ)
    (hQ:∀ x l' σ',pNum 8 l=.ok (x,l')→RR σ' r l' c→RStp r σ σ'→Q (.int .u64 (x:Int)) σ'):ACall (Env.th Tryz.prog T) 25 [.ptr r 0] σ Q := by
  refine ACall.of_compF hmx (fun a w=>Tryz.call25 a w) Tryz.func25 cf25 (n := 1) (by decide) rfl ?_
  simp [ac25,rs25,lk_cons]
  refine rnum_c h hl (n := 8) (by decide) hT fun x l' σ' h1 h2 h3=>?_
  simp [lk_cons]
  exact hQ x l' σ' h1 h2 h3
theorem ru8_c (h:RR σ r l c) (hl:l.length<4611686018427387904) (hT:∀ e,pNum 1 l=.error e→T (thrownV (e:Int)) σ)
    (hQ:∀ x l' σ',pNum 1 l=.ok (x,l')→RR σ' r l' c→RStp r σ σ'→Q (.int .u8 (x:Int)) σ'):ACall (Env.th Tryz.prog T) 26 [.ptr r 0] σ Q := by
  refine ACall.of_compF hmx (fun a w=>Tryz.call26 a w) Tryz.func26 cf26 (n := 1) (by decide) rfl ?_
  simp [ac26,rs26,lk_cons]
  refine rnum_c h hl (n := 1) (by decide) hT fun x l' σ' h1 h2 h3=>?_
  have hx := (pNum_len h1).2
  have w1:IntKind.u8.wrap (x:Int)=x := by rw [IntWalk.u8_in]; omega
  simp [lk_cons,w1]
  exact hQ x l' σ' h1 h2 h3
end
theorem clone_c {σ:St} {v:AVal} {l:List UInt8} {c:Option Nat} (h:RdB σ v l c) (hl:l.length≤140737488355328) (Q:AVal→St→Prop)
    (hQ:∀ σ' v' b',GS rwB σ' v' l b'→(∀ x,b'=some x→σ.next≤x)→Grow σ σ'→Q v' σ'):ACall Tryz.prog 79 [v] σ Q := by
  refine ACall.of_compF hmx (fun a w=>Tryz.call79 a w) Tryz.func79 cf79 (n := 1) (by decide) rfl ?_
  by_cases hv:v=.nilsl
  · subst hv
    have hl0:l=[] := by
      rcases h with ⟨⟨_,h⟩ | ⟨t,h⟩,_⟩ | ⟨o,off,cap,t,vals,_,h,_⟩
      · exact h
      · cases h
      · cases h
    subst hl0
    simp [ac79,rs79,lk_cons]
    exact hQ σ .nilsl none (GS.nil σ) (by simp) (Grow.refl _)
  · have hnil:aeqn 1 v .nilsl=some false := by
      rcases h with ⟨⟨h,_⟩ | ⟨t,h⟩,_⟩ | ⟨o,off,cap,t,vals,_,h,_⟩
      · exact absurd h hv
      · rw [h]; simp
      · rw [h]; simp
    have hg:GS rwB ⟨σ.mem.set σ.next (.cells 1 []),σ.next+1⟩ (.sl σ.next 0 0 0 true) [] (some σ.next) := .inr ⟨σ.next,true,rfl,rfl,by simp,by simp [rws]⟩
    have hsrc := (h.keep (σ' := ⟨σ.mem.set σ.next (.cells 1 []),σ.next+1⟩) (by simp) fun a ha _=>by simp [show ¬ a=σ.next by omega]).src
    obtain ⟨v',σ2,b',e1,e2,e3,e4,e5⟩ := gs_appN hg (by_ := 1) (by decide) hsrc (by simp; omega) (by simp; omega)
    simp only [List.nil_append] at e2
    have hev:∀ ρ:St,evalV ρ (.eqn 1 false v .nilsl)=some (.bool false,ρ) := fun ρ=>by simp only [evalV,hnil]; rfl
    simp [ac79,rs79,lk_cons,↓hev,fillL,repL,↓e1]
    simp at e4 e5
    refine hQ _ v' b' e2 (fun x hx=>?_) ⟨by omega,fun a ha=>?_⟩
    · rcases e3 with e3 | e3
      · rw [e3] at hx; cases hx; omega
      · rw [e3] at hx; cases hx; simp
    · rw [e5 a (by omega) (by omega)]
      simp [show ¬ a=σ.next by omega]
section
variable {T:AVal→St→Prop} {σ:St} {r:Nat} {l:List UInt8} {c:Option Nat} {Q:AVal→St→Prop}
theorem rbytes_b (h:RR σ r l c) (hl:l.length≤140737488355328) (hT:∀ e σ',pBytes l=.error e→RStp r σ σ'→T (thrownV (e:Int)) σ')
    (hQ:∀ b l' v' b' σ',pBytes l=.ok (b,l')→RR σ' r l' c→GS rwB σ' v' b b'→(∀ x,b'=some x→σ.next≤x)→RStp r σ σ'→Q v' σ'):ACall (Env.th Tryz.prog T) 57 [.ptr r 0] σ Q := by
  refine ACall.of_compF hmx (fun a w=>Tryz.call57 a w) Tryz.func57 cf57 (n := 1) (by decide) rfl ?_
  simp [ac57,rs57,lk_cons]
  refine rnum_c h (by omega) (n := 4) (by decide) (fun e he=>hT e σ (by rw [pBytes,he]) (RStp.refl _ _)) fun x l1 σ1 h1 h2 h3=>?_
  have hx := pNum_len h1
  simp [lk_cons]
  refine rtake_c h2 (by omega) (fun hn=>hT 4 σ1 (by rw [pBytes,h1]; simp only [if_pos hn]) h3) fun hn v1 σ2 k1 k2 k3 k4=>?_
  have s2:RStp r σ1 σ2 := ⟨by omega,fun a _ ha=>k4 a ha⟩
  simp [lk_cons]
  refine ACall.into (clone_c k2 (by rw [List.length_take]; omega) _ fun σ3 v' b' m1 m2 m3=>?_)
  simp [lk_cons]
  have := h3.next
  exact hQ _ _ v' b' σ3 (by rw [pBytes,h1]; simp only [if_neg (show ¬ l1.length<x by omega)]) (k1.grow m3) m1 (fun y hy=>by have := m2 y hy; omega) (h3.trans (s2.trans (m3.rstp r)))
theorem rtext_c (h:RR σ r l c) (hl:l.length≤140737488355328) (hT:∀ e σ',pText l=.error e→RStp r σ σ'→T (thrownV (e:Int)) σ')
    (hQ:∀ b l' σ',pText l=.ok (b,l')→RR σ' r l' c→RStp r σ σ'→Q (.str ⟨b.toArray⟩) σ'):ACall (Env.th Tryz.prog T) 28 [.ptr r 0] σ Q := by
  refine ACall.of_compF hmx (fun a w=>Tryz.call28 a w) Tryz.func28 cf28 (n := 1) (by decide) rfl ?_
  simp [ac28,rs28,lk_cons]
  refine rbytes_b h hl (fun e σ' he hs=>hT e σ' (by rw [pText,he]) hs) fun b l' v' b' σ1 h1 h2 h3 h4 h5=>?_
  have hb := (pBytes_len h1).2
  simp [lk_cons]
  refine ACall.into (valid_c (RdB.ofGS h3) (by omega) _ ?_)
  have hstr := h3.bytesStr
  cases hv:vld b with
  | true =>
    simp [lk_cons,↓hstr]
    exact hQ b l' σ1 (by rw [pText,h1]; simp only [hv,if_true]) h2 h5
  | false =>
    simp [lk_cons,fillL,storeL]
    exact hT 6 σ1 (by rw [pText,h1]; simp [hv]) h5
end
end Go.Proofs.YticefdfhcahlfaaGreatDoor.AM

namespace Go.Proofs.YticefdfhcahlfaaGreatDoor.AM
open Go.RowKit
set_option maxRecDepth 100000
set_option linter.unusedVariables false
set_option linter.unusedSimpArgs false
abbrev RSt := Except Nat (List UInt8)
def SR (σ:St) (r:Nat) (st:RSt) (c:Option Nat):Prop := r<σ.next∧c≠some r∧(∀ x,c=some x→x<σ.next)∧match st with
  | .ok l=>∃ v,σ.mem.get r=some (.cells 2 [v,.int .i64 0])∧RdB σ v l c∧l.length≤1000000
  | .error e=>e≠0∧∃ v,v.one=true∧σ.mem.get r=some (.cells 2 [v,.int .i64 (e:Int)])
theorem SR.keep {σ σ':St} {r:Nat} {st:RSt} {c:Option Nat} (h:SR σ r st c) (hn:σ.next≤σ'.next) (hm:∀ a,a<σ.next→a=r∨c=some a→σ'.mem.get a=σ.mem.get a):SR σ' r st c := by
  obtain ⟨h1,h2,h3,h4⟩ := h
  refine ⟨by omega,h2,fun x hx=>by have := h3 x hx; omega,?_⟩
  cases st with
  | ok l =>
    obtain ⟨v,k1,k2,k3⟩ := h4
    exact ⟨v,(hm r h1 (.inl rfl)).trans k1,k2.keep hn fun a ha hc=>hm a ha (.inr hc),k3⟩
  | error e =>
    obtain ⟨k0,v,k1,k2⟩ := h4
    exact ⟨k0,v,k1,(hm r h1 (.inl rfl)).trans k2⟩
def sNum (k:Nat):RSt→Nat×RSt
  | .error e=>(0,.error e)
  | .ok l=>match pNum k l with
    | .error e=>(0,.error e)
    | .ok (x,l')=>(x,.ok l')
def sBytes (st:RSt):List UInt8×RSt := match sNum 4 st with
  | (_,.error e)=>([],.error e)
  | (n,.ok l)=>if l.length<n then ([],.error 4) else (l.take n,.ok (l.drop n))
def sText (st:RSt):List UInt8×RSt := match sBytes st with
  | (b,.error e)=>(b,.error e)
  | (b,.ok l)=>if vld b then (b,.ok l) else (b,.error 6)
def sFail (e:Nat):RSt→RSt
  | .error c=>.error c
  | .ok _=>.error e
def sEnd:RSt→Nat
  | .error e=>e
  | .ok l=>if l=[] then 0 else 5
def SnJ (r k:Nat) (l:List UInt8) (σ0:St) (mm:Nat) (rg:Regs) (σ':St):Prop := ∃ i,mm=k - i∧i≤k∧σ'=σ0∧rg=[(0,.ptr r 0),(1,.int .i64 (k:Int)),(5,.int .u64 (be (l.take i):Nat)),(6,.int .i64 (i:Nat))]
theorem snum_c {σ:St} {r:Nat} {st:RSt} {c:Option Nat} (h:SR σ r st c) {k:Nat} (hk:k≤8) (Q:AVal→St→Prop)
    (hQ:∀ σ',SR σ' r (sNum k st).2 c→σ'.next=σ.next→(∀ a,a≠r→σ'.mem.get a=σ.mem.get a)→Q (.int .u64 ((sNum k st).1:Nat)) σ'):ACall Tryz.prog 34 [.ptr r 0,.int .i64 (k:Int)] σ Q := by
  refine ACall.of_compF hmx (fun a w=>Tryz.call34 a w) Tryz.func34 cf34 (n := 2) (by decide) rfl ?_
  obtain ⟨h1,h2,h3,h4⟩ := h
  cases st with
  | error e =>
    obtain ⟨k0,v,k1,k2⟩ := h4
    have e0:¬ (e:Int)=0 := by omega
    have hq := hQ σ ⟨h1,h2,h3,k0,v,k1,k2⟩ rfl fun _ _=>rfl
    simp only [sNum] at hq
    simp [ac34,rs34,lk_cons,k2,k0,e0]
    simpa using hq
  | ok l =>
    obtain ⟨v,k1,k2,k3⟩ := h4
    have hlen := k2.len
    by_cases hl:l.length<k
    · have hl':(l.length:Int)<k := by omega
      have hp:pNum k l=.error 4 := by rw [pNum,if_pos hl]
      have hq := hQ ⟨σ.mem.set r (.cells 2 [v,.int .i64 4]),σ.next⟩
      simp only [sNum,hp] at hq
      simp [ac34,rs34,lk_cons,k1,↓hlen,hl,hl',storeL]
      have := hq ⟨h1,h2,h3,by decide,v,k2.one.1,by simp⟩ (by trivial) (fun a ha=>by simp [ha])
      simpa using this
    · have hl':¬ (l.length:Int)<k := by omega
      have hp:pNum k l=.ok (be (l.take k),l.drop k) := by rw [pNum,if_neg hl]
      obtain ⟨v2,s2,r2⟩ := k2.cut (n := k) (by omega) .i64 rfl
      have s2 := s2 σ (fun _ _=>rfl)
      have hkl:k≤l.length := by omega
      simp [ac34,rs34,lk_cons,k1,↓hlen,hl,hl']
      refine wp_loop (SnJ r k l σ) k ?_ ?_
      · exact ⟨0,rfl,Nat.zero_le _,rfl,by simp [be_nil,lk_cons]⟩
      · rintro mm rg σ' ⟨i,rfl,hi,rfl,rfl⟩
        by_cases hc:i<k
        · obtain ⟨x,hx⟩:∃ x,l[i]?=some x := ⟨_,List.getElem?_eq_getElem (by omega)⟩
          obtain ⟨m,hm⟩:∃ m,i+1=m := ⟨_,rfl⟩
          have hc':(i:Int)<k := by omega
          have w1:IntKind.i64.wrap ((i:Int)+1)=(m:Int) := by rw [IntWalk.i64_in] <;> omega
          have htk:l.take (i+1)=l.take i++[x] := by rw [List.take_add_one,hx]; rfl
          have hbe:be (l.take m)=be (l.take i)*256+x.toNat := by rw [← hm,htk,be_snoc]
          have hbl:be (l.take m)<18446744073709551616 := by
            have := be_lt (l.take m)
            have hle:(l.take m).length≤8 := by simp; omega
            have := Nat.pow_le_pow_right (n := 256) (by decide) hle
            have e:256 ^ 8=18446744073709551616 := by decide
            omega
          obtain ⟨p,a1,a2⟩ := k2.at hx rfl
          have a2 := a2 σ' (fun _ _=>rfl)
          have wx:IntKind.u64.wrap (x.toNat:Int)=x.toNat := by have := x.toNat_lt; rw [IntWalk.u64_in] <;> omega
          obtain ⟨y,hy⟩:∃ y,be (l.take i)=y := ⟨_,rfl⟩
          obtain ⟨z,hz⟩:∃ z,be (l.take m)=z := ⟨_,rfl⟩
          rw [hy,hz] at hbe
          rw [hz] at hbl
          have wm:IntKind.u64.wrap ((y:Int)*256)=(y:Int)*256 := by rw [IntWalk.u64_in] <;> omega
          have wa:IntKind.u64.wrap ((y:Int)*256+x.toNat)=(z:Int) := by rw [IntWalk.u64_in] <;> omega
          simp [lk_cons,hc,hc',w1,k1,↓a1,↓a2,wx,hy,wm,wa]
          exact ⟨k - m,by omega,m,rfl,by omega,rfl,by rw [hz]⟩
        · have:i=k := by omega
          subst this
          have hq := hQ ⟨σ'.mem.set r (.cells 2 [v2,.int .i64 0]),σ'.next⟩
          simp only [sNum,hp] at hq
          simp [lk_cons,k1,optM,↓s2,r2.one,storeL]
          exact hq ⟨h1,h2,h3,v2,by simp,r2.keep (Nat.le_refl _) fun a _ hc=>by
            have:a≠r := fun e=>h2 (by rw [hc,e])
            simp [this],by rw [List.length_drop]; omega⟩ (by trivial) fun a ha=>by simp [ha]
end Go.Proofs.YticefdfhcahlfaaGreatDoor.AM

namespace Go.Proofs.YticefdfhcahlfaaGreatDoor.AM
open Go.RowKit
set_option maxRecDepth 100000
set_option linter.unusedVariables false
set_option linter.unusedSimpArgs false
theorem sNum_len {k:Nat} {st:RSt} {n:Nat} {l:List UInt8} (h:sNum k st=(n,.ok l)):∃ l0,st=.ok l0∧pNum k l0=.ok (n,l) := by
  unfold sNum at h
  split at h
  · cases h
  · rename_i l0
    split at h
    · cases h
    · rename_i x l' hp
      cases h
      exact ⟨l0,rfl,hp⟩
theorem sbytes_c {σ:St} {r:Nat} {st:RSt} {c:Option Nat} (h:SR σ r st c) (Q:AVal→St→Prop)
    (hQ:∀ σ' v c',SR σ' r (sBytes st).2 c→RdB σ' v (sBytes st).1 c'→(c'=c∨c'=none)→σ'.next=σ.next→(∀ a,a≠r→σ'.mem.get a=σ.mem.get a)→Q v σ'):ACall Tryz.prog 74 [.ptr r 0] σ Q := by
  refine ACall.of_compF hmx (fun a w=>Tryz.call74 a w) Tryz.func74 cf74 (n := 1) (by decide) rfl ?_
  simp [ac74,rs74,lk_cons]
  refine snum_c h (k := 4) (by decide) _ fun σ1 h1 hn hm=>?_
  obtain ⟨n,st1,hs⟩:∃ n st1,sNum 4 st=(n,st1) := ⟨_,_,rfl⟩
  rw [hs] at h1
  simp only [hs]
  have hb:sBytes st=match (n,st1) with
    | (_,.error e)=>([],.error e)
    | (n,.ok l)=>if l.length<n then ([],.error 4) else (l.take n,.ok (l.drop n)) := by rw [sBytes,hs] <;> rfl
  obtain ⟨g1,g2,g3,g4⟩ := h1
  cases st1 with
  | error e =>
    obtain ⟨k0,v,k1,k2⟩ := g4
    have e0:¬ (e:Int)=0 := by omega
    simp only at hb
    rw [hb] at hQ
    simp [lk_cons,k2,k0,e0]
    exact hQ σ1 .nilsl none ⟨g1,g2,g3,k0,v,k1,k2⟩ (RdB.ofI (.inl ⟨rfl,rfl⟩) _) (.inr rfl) hn hm
  | ok l =>
    obtain ⟨v,k1,k2,k3⟩ := g4
    have hlen := k2.len
    have w1:IntKind.u64.wrap (l.length:Int)=l.length := by rw [IntWalk.u64_in] <;> omega
    simp only at hb
    by_cases hl:l.length<n
    · have hl':(l.length:Int)<n := by omega
      rw [if_pos hl] at hb
      rw [hb] at hQ
      simp [lk_cons,k1,↓hlen,w1,hl,hl',storeL]
      exact hQ _ .nilsl none ⟨g1,g2,g3,by decide,v,k2.one.1,by simp⟩ (RdB.ofI (.inl ⟨rfl,rfl⟩) _) (.inr rfl) hn fun a ha=>by simp [ha]; exact hm a ha
    · have hl':¬ (l.length:Int)<n := by omega
      rw [if_neg hl] at hb
      rw [hb] at hQ
      obtain ⟨v1,s1,r1⟩ := k2.pre (n := n) (by omega) .u64 rfl
      obtain ⟨v2,s2,r2⟩ := k2.cut (n := n) (by omega) .u64 rfl
      have s1 := s1 σ1 (fun _ _=>rfl)
      have s2 := s2 σ1 (fun _ _=>rfl)
      simp [lk_cons,k1,↓hlen,w1,hl,hl',optM,↓s1,↓s2,r2.one,storeL]
      have kp:∀ a,a≠r→(σ1.mem.set r (.cells 2 [v2,.int .i64 0])).get a=σ1.mem.get a := fun a ha=>by simp [ha]
      have rk:∀ {w:AVal} {m:List UInt8},RdB σ1 w m c→RdB ⟨σ1.mem.set r (.cells 2 [v2,.int .i64 0]),σ1.next⟩ w m c := fun hw=>hw.keep (Nat.le_refl _) fun a _ hc=>kp a fun e=>g2 (by rw [hc,e])
      exact hQ _ v1 c ⟨g1,g2,g3,v2,by simp,rk r2,by rw [List.length_drop]; omega⟩ (rk r1) (.inl rfl) hn fun a ha=>by rw [kp a ha,hm a ha]
theorem stext_c {σ:St} {r:Nat} {st:RSt} {c:Option Nat} (h:SR σ r st c) (Q:AVal→St→Prop)
    (hQ:∀ σ',SR σ' r (sText st).2 c→σ'.next=σ.next→(∀ a,a≠r→σ'.mem.get a=σ.mem.get a)→Q (.str ⟨(sText st).1.toArray⟩) σ'):ACall Tryz.prog 36 [.ptr r 0] σ Q := by
  refine ACall.of_compF hmx (fun a w=>Tryz.call36 a w) Tryz.func36 cf36 (n := 1) (by decide) rfl ?_
  simp [ac36,rs36,lk_cons]
  refine sbytes_c h _ fun σ1 v c' h1 h2 hc hn hm=>?_
  obtain ⟨b,st1,hs⟩:∃ b st1,sBytes st=(b,st1) := ⟨_,_,rfl⟩
  rw [hs] at h1 h2
  simp only at h1 h2
  have hb:sText st=match (b,st1) with
    | (b,.error e)=>(b,.error e)
    | (b,.ok l)=>if vld b then (b,.ok l) else (b,.error 6) := by rw [sText,hs] <;> rfl
  have hstr := h2.str
  have h1' := h1
  obtain ⟨g1,g2,g3,g4⟩ := h1
  cases st1 with
  | error e =>
    obtain ⟨k0,v1,k1,k2⟩ := g4
    have e0:¬ (e:Int)=0 := by omega
    simp only at hb
    rw [hb] at hQ
    simp [lk_cons,k2,k0,e0,↓hstr]
    exact hQ σ1 h1' hn hm
  | ok l =>
    obtain ⟨v1,k1,k2,k3⟩ := g4
    have hbl:b.length≤4611686018427387904 := by
      have h0:(sBytes st).1.length≤1000000 := by
        obtain ⟨n0,s0,e0⟩:∃ n0 s0,sNum 4 st=(n0,s0) := ⟨_,_,rfl⟩
        have hb0:sBytes st=match (n0,s0) with
          | (_,.error e)=>([],.error e)
          | (n,.ok l)=>if l.length<n then ([],.error 4) else (l.take n,.ok (l.drop n)) := by rw [sBytes,e0] <;> rfl
        rw [hb0]
        cases s0 with
        | error e=>simp
        | ok l0 =>
          obtain ⟨l1,q1,q2⟩ := sNum_len e0
          have q3 := (pNum_len q2).1
          obtain ⟨_,_,_,q4⟩ := h
          rw [q1] at q4
          obtain ⟨_,_,_,q5⟩ := q4
          simp only
          split
          · simp
          · simp only [List.length_take]; omega
      rw [hs] at h0
      simp only at h0
      omega
    simp only at hb
    simp [lk_cons,k1]
    refine valid_c h2 hbl _ ?_
    cases hv:vld b with
    | true =>
      rw [hv,if_pos rfl] at hb
      rw [hb] at hQ
      simp [lk_cons,↓hstr]
      exact hQ σ1 h1' hn hm
    | false =>
      rw [hv] at hb
      simp only [Bool.false_eq_true,if_false] at hb
      rw [hb] at hQ
      have h2':RdB ⟨σ1.mem.set r (.cells 2 [v1,.int .i64 6]),σ1.next⟩ v b c' := h2.keep (Nat.le_refl _) fun a _ ha=>by
        have:a≠r := fun e=>by
          rcases hc with hc | hc
          · exact g2 (by rw [← hc,ha,e])
          · rw [hc] at ha; cases ha
        simp [this]
      have hstr2 := h2'.str
      simp [lk_cons,k1,storeL,↓hstr2]
      exact hQ _ ⟨g1,g2,g3,by decide,v1,k2.one.1,by simp⟩ hn fun a ha=>by simp [ha]; exact hm a ha
theorem sfail_c {σ:St} {r:Nat} {st:RSt} {c:Option Nat} (h:SR σ r st c) {e:Nat} (he:e≠0) (Q:AVal→St→Prop)
    (hQ:∀ σ',SR σ' r (sFail e st) c→σ'.next=σ.next→(∀ a,a≠r→σ'.mem.get a=σ.mem.get a)→Q (.tup []) σ'):ACall Tryz.prog 39 [.ptr r 0,.int .i64 (e:Int)] σ Q := by
  refine ACall.of_compF hmx (fun a w=>Tryz.call39 a w) Tryz.func39 cf39 (n := 2) (by decide) rfl ?_
  have h' := h
  obtain ⟨g1,g2,g3,g4⟩ := h
  cases st with
  | error e1 =>
    obtain ⟨k0,v,k1,k2⟩ := g4
    have e0:¬ (e1:Int)=0 := by omega
    simp [ac39,rs39,lk_cons,k2,k0,e0]
    exact hQ σ h' rfl fun _ _=>rfl
  | ok l =>
    obtain ⟨v,k1,k2,k3⟩ := g4
    simp [ac39,rs39,lk_cons,k1,storeL]
    exact hQ _ ⟨g1,g2,g3,he,v,k2.one.1,by simp⟩ rfl fun a ha=>by simp [ha]
theorem send_c {σ:St} {r:Nat} {st:RSt} {c:Option Nat} (h:SR σ r st c) (Q:AVal→St→Prop)
    (hQ:∀ σ',σ'.next=σ.next→(∀ a,a≠r→σ'.mem.get a=σ.mem.get a)→Q (.int .i64 (sEnd st:Nat)) σ'):ACall Tryz.prog 40 [.ptr r 0] σ Q := by
  refine ACall.of_compF hmx (fun a w=>Tryz.call40 a w) Tryz.func40 cf40 (n := 1) (by decide) rfl ?_
  obtain ⟨g1,g2,g3,g4⟩ := h
  cases st with
  | error e =>
    obtain ⟨k0,v,k1,k2⟩ := g4
    have e0:¬ (e:Int)=0 := by omega
    simp [ac40,rs40,lk_cons,k2,k0,e0]
    exact hQ σ rfl fun _ _=>rfl
  | ok l =>
    obtain ⟨v,k1,k2,k3⟩ := g4
    have hlen := k2.len
    cases l with
    | nil =>
      simp [ac40,rs40,lk_cons,k1,↓hlen]
      exact hQ σ rfl fun _ _=>rfl
    | cons y l =>
      obtain ⟨N,hN⟩:∃ N,(y :: l).length=N := ⟨_,rfl⟩
      have hp:(0:Int)<(N:Int) := by rw [← hN]; simp only [List.length_cons]; omega
      have hp':0<N := by omega
      simp only [hN] at hlen
      simp [ac40,rs40,lk_cons,k1,↓hlen,hp,hp',storeL]
      have := hQ ⟨σ.mem.set r (.cells 2 [v,.int .i64 5]),σ.next⟩ (by trivial) fun a ha=>by simp [ha]
      simpa [sEnd] using this
end Go.Proofs.YticefdfhcahlfaaGreatDoor.AM


namespace Go.Proofs.YticefdfhcahlfaaGreatDoor.AM
open Go.RowKit
set_option maxRecDepth 100000
set_option linter.unusedVariables false
set_option linter.unusedSimpArgs false
theorem rputb_r {σ:St} {v:AVal} {l:List UInt8} {b:Option Nat} (h:GS rwB σ v l b) {u:AVal} {m:List UInt8} {c:Option Nat} (hu:RdB σ u m c) (hbc:∀ x,c=some x→b≠some x) (hl:l.length≤1000000) (hm:m.length≤1000000) (Q:AVal→St→Prop)
    (hQ:∀ v' σ' b',GS rwB σ' v' (l++(beN 4 m.length++m)) b'→BStp b b' σ σ'→Q v' σ'):ACall Tryz.prog 19 [v,u] σ Q := by
  refine ACall.of_compF hmx (fun a w=>Tryz.call19 a w) Tryz.func19 cf19 (n := 2) (by decide) rfl ?_
  have w1:IntKind.u64.wrap (m.length:Int)=m.length := by rw [IntWalk.u64_in] <;> omega
  have hlen := hu.len
  simp [ac19,rs19,lk_cons,↓hlen,w1]
  refine rput_c h (size := 4) (by decide) (by omega) (by omega) _ fun v1 σ1 b1 h1 h2=>?_
  have hu1:RdB σ1 u m c := hu.keep h2.next fun a ha hc=>h2.keep a ha (hbc a hc)
  obtain ⟨v',σ2,b',e1,e2,e3,e4,e5⟩ := gs_appN h1 (by_ := 1) (by decide) hu1.src (by simp [beN_len]; omega) (by simp [beN_len]; omega)
  simp [lk_cons,↓e1]
  rw [List.append_assoc] at e2
  refine hQ v' σ2 b' e2 (h2.trans ⟨e4,fun x hx=>?_,e5⟩)
  rcases e3 with e3 | e3
  · exact .inl (e3 ▸ hx)
  · rw [e3] at hx; cases hx; exact .inr (Nat.le_refl _)
def txB (s:ByteArray):List UInt8 := beN 4 s.size++s.data.toList
def byB (m:List UInt8):List UInt8 := beN 4 m.length++m
theorem txB_len (s:ByteArray):(txB s).length=4+s.size := by simp [txB,beN_len]
end Go.Proofs.YticefdfhcahlfaaGreatDoor.AM


namespace Go.Proofs.YticefdfhcahlfaaGreatDoor.AM
open Go.RowKit
set_option maxRecDepth 100000
set_option linter.unusedVariables false
set_option linter.unusedSimpArgs false
def numsB (xs:List Nat):List UInt8 := (xs.map fun n=>beN 8 n).flatten
theorem numsB_snoc (xs:List Nat) (n:Nat):numsB (xs++[n])=numsB xs++beN 8 n := by simp [numsB]
theorem numsB_len (xs:List Nat):(numsB xs).length=8*xs.length := by
  induction xs with
  | nil=>rfl
  | cons x xs ih=>simp only [numsB,List.map_cons,List.flatten_cons,List.length_append,beN_len,List.length_cons] at ih ⊢; omega
def PsJ (w o:Nat) (t:Bool) (xs:List Nat) (l:List UInt8) (b:Option Nat) (σ0:St) (mm:Nat) (rg:Regs) (σ':St):Prop := ∃ (i:Nat) (b':Option Nat),mm=xs.length - i∧i≤xs.length∧WB σ' w (l++numsB (xs.take i)) b'∧WStp w b b' σ0 σ'∧rg=[(0,.ptr w 0),(6,.sl o 0 xs.length xs.length t),(7,i64 (xs.length:Nat)),(8,i64 i)]
theorem puts_c {σ:St} {w o:Nat} {t:Bool} {xs:List Nat} {l:List UInt8} {b:Option Nat} (h:WB σ w l b) (ho:o<σ.next) (hm:σ.mem.get o=some (.cells 1 (xs.map fun (n:Nat)=>u64 (n:Int)))) (how:o≠w) (hob:b≠some o) (hl:l.length≤100000) (hx:xs.length≤1000) (Q:AVal→St→Prop)
    (hQ:∀ σ' b',WB σ' w (l++numsB xs) b'→WStp w b b' σ σ'→Q (.tup []) σ'):ACall Tryz.prog 45 [.ptr w 0,.sl o 0 xs.length xs.length t] σ Q := by
  refine ACall.of_compF hmx (fun a w=>Tryz.call45 a w) Tryz.func45 cf45 (n := 2) (by decide) rfl ?_
  simp [ac45,rs45,lk_cons]
  refine wp_loop (PsJ w o t xs l b σ) xs.length ?_ ?_
  · exact ⟨0,b,rfl,Nat.zero_le _,by simpa [numsB] using h,WStp.refl _ _ _,by simp [lk_cons]⟩
  · rintro mm rg σ1 ⟨i,b',rfl,hi,h1,s1,rfl⟩
    by_cases hc:i<xs.length
    · obtain ⟨x,hx1⟩:∃ x,xs[i]?=some x := ⟨_,List.getElem?_eq_getElem hc⟩
      have m1 := (s1.keep o ho how hob).trans hm
      have w1:IntKind.i64.wrap ((i:Int)+1)=((i+1:Nat):Int) := by rw [IntWalk.i64_in] <;> omega
      have htk:xs.take (i+1)=xs.take i++[x] := by rw [List.take_add_one,hx1]; rfl
      have hnl := numsB_len (xs.take i)
      rw [List.length_take] at hnl
      simp [lk_cons,hc,m1,hx1]
      refine wu64_c h1 (by rw [List.length_append]; omega) _ fun σ2 b2 h2 s2=>?_
      simp [lk_cons,w1]
      refine ⟨xs.length - (i+1),by omega,i+1,b2,rfl,by omega,?_,s1.trans s2,rfl⟩
      rw [(List.getElem?_eq_some_iff.1 hx1).2] at h2
      rw [htk,numsB_snoc,← List.append_assoc]
      exact h2
    · have:i=xs.length := by omega
      subst this
      rw [List.take_length] at h1
      simp [lk_cons]
      exact hQ σ1 b' h1 s1
end Go.Proofs.YticefdfhcahlfaaGreatDoor.AM



namespace Go.Proofs.YticefdfhcahlfaaGreatDoor.AM
open Go.RowKit
set_option maxRecDepth 100000
set_option linter.unusedVariables false
set_option linter.unusedSimpArgs false
theorem refyes_c {σ:St} (b:Bool) (Q:AVal→St→Prop) (hQ:Q (.int .u64 ((if b then 1 else 0:Nat):Int)) σ):ACall Tryz.prog 17 [.bool b] σ Q := by
  refine ACall.of_compF hmx (fun a w=>Tryz.call17 a w) Tryz.func17 cf17 (n := 1) (by decide) rfl ?_
  cases b
  · simp [ac17,rs17,lk_cons]; exact hQ
  · simp [ac17,rs17,lk_cons]; exact hQ
theorem BStp.grow0 {b':Option Nat} {σ σ':St} (h:BStp none b' σ σ'):Grow σ σ' := ⟨h.next,fun a ha=>h.keep a ha (by simp)⟩
end Go.Proofs.YticefdfhcahlfaaGreatDoor.AM

namespace Go.Proofs.YticefdfhcahlfaaGreatDoor.AM
open Go.RowKit
set_option maxRecDepth 100000
set_option linter.unusedVariables false
set_option linter.unusedSimpArgs false
theorem pNum_err {k:Nat} {l:List UInt8} {e:Nat} (h:pNum k l=.error e):e≠0 := by
  unfold pNum at h
  split at h
  · cases h; decide
  · cases h
theorem pBytes_err {l:List UInt8} {e:Nat} (h:pBytes l=.error e):e≠0 := by
  unfold pBytes at h
  split at h
  · rename_i h1; cases h; exact pNum_err h1
  · split at h
    · cases h; decide
    · cases h
theorem pText_err {l:List UInt8} {e:Nat} (h:pText l=.error e):e≠0 := by
  unfold pText at h
  split at h
  · rename_i h1; cases h; exact pBytes_err h1
  · split at h
    · cases h
    · cases h; decide
end Go.Proofs.YticefdfhcahlfaaGreatDoor.AM

namespace Go.Proofs.YticefdfhcahlfaaGreatDoor.AM
open Go.RowKit
set_option maxRecDepth 100000
set_option linter.unusedVariables false
set_option linter.unusedSimpArgs false
theorem sBytes_st (l:List UInt8):(∃ b r,pBytes l=.ok (b,r)∧sBytes (.ok l)=(b,.ok r))∨∃ e b,pBytes l=.error e∧sBytes (.ok l)=(b,.error e) := by
  cases hp:pNum 4 l with
  | error e=>exact .inr ⟨e,[],by rw [pBytes,hp],by simp [sBytes,sNum,hp]⟩
  | ok x =>
    obtain ⟨n,r⟩ := x
    by_cases hl:r.length<n
    · exact .inr ⟨4,[],by rw [pBytes,hp]; simp [hl],by simp [sBytes,sNum,hp,hl]⟩
    · exact .inl ⟨r.take n,r.drop n,by rw [pBytes,hp]; simp [hl],by simp [sBytes,sNum,hp,hl]⟩
theorem sText_st (l:List UInt8):(∃ b r,pText l=.ok (b,r)∧sText (.ok l)=(b,.ok r))∨∃ e b,pText l=.error e∧sText (.ok l)=(b,.error e) := by
  rcases sBytes_st l with ⟨b,r,h1,h2⟩ | ⟨e,b,h1,h2⟩
  · cases hv:vld b with
    | true=>exact .inl ⟨b,r,by rw [pText,h1]; simp [hv],by rw [sText,h2]; simp [hv]⟩
    | false=>exact .inr ⟨6,b,by rw [pText,h1]; simp [hv],by rw [sText,h2]; simp [hv]⟩
  · exact .inr ⟨e,b,by rw [pText,h1],by rw [sText,h2]⟩
theorem sNum_st (k:Nat) (l:List UInt8):(∃ x r,pNum k l=.ok (x,r)∧sNum k (.ok l)=(x,.ok r))∨∃ e,pNum k l=.error e∧sNum k (.ok l)=(0,.error e) := by
  cases hp:pNum k l with
  | error e=>exact .inr ⟨e,rfl,by simp [sNum,hp]⟩
  | ok x=>exact .inl ⟨x.1,x.2,rfl,by simp [sNum,hp]⟩
end Go.Proofs.YticefdfhcahlfaaGreatDoor.AM

namespace Go.Proofs.YticefdfhcahlfaaGreatDoor.AM
open Go.RowKit
set_option maxRecDepth 100000
set_option linter.unusedVariables false
set_option linter.unusedSimpArgs false
abbrev Prs (α:Type) := List UInt8→Except Nat (α×List UInt8)
def pB {α β:Type} (p:Prs α) (f:α→Prs β):Prs β := fun l=>match p l with
  | .error e=>.error e
  | .ok x=>f x.1 x.2
theorem pB_err {α β:Type} {p:Prs α} {f:α→Prs β} {l:List UInt8} {e:Nat} (h:p l=.error e):pB p f l=.error e := by simp only [pB,h]
theorem pB_ok {α β:Type} {p:Prs α} {f:α→Prs β} {l r:List UInt8} {x:α} (h:p l=.ok (x,r)):pB p f l=f x r := by simp only [pB,h]
theorem pB_assoc {α β γ:Type} (p:Prs α) (f:α→Prs β) (g:β→Prs γ):pB (pB p f) g=pB p fun x=>pB (f x) g := by
  funext l
  simp only [pB]
  cases p l <;> rfl
def pR {α:Type} (x:α):Prs α := fun l=>.ok (x,l)
theorem pB_pR {α β:Type} (x:α) (f:α→Prs β):pB (pR x) f=f x := rfl
theorem pB_inv {α β:Type} {p:Prs α} {f:α→Prs β} {l r:List UInt8} {y:β} (h:pB p f l=.ok (y,r)):∃ x m,p l=.ok (x,m)∧f x m=.ok (y,r) := by
  cases hp:p l with
  | error e=>rw [pB_err hp] at h; cases h
  | ok x=>exact ⟨x.1,x.2,rfl,by rw [pB_ok (r := x.2) (x := x.1) hp] at h; exact h⟩
theorem pB_inve {α β:Type} {p:Prs α} {f:α→Prs β} {l:List UInt8} {e:Nat} (h:pB p f l=.error e):p l=.error e∨∃ x m,p l=.ok (x,m)∧f x m=.error e := by
  cases hp:p l with
  | error e'=>rw [pB_err hp] at h; cases h; exact .inl rfl
  | ok x=>exact .inr ⟨x.1,x.2,rfl,by rw [pB_ok (r := x.2) (x := x.1) hp] at h; exact h⟩
def pFlag:Prs Bool := pB (pNum 1) fun n l=>if 1<n then .error 16 else .ok (decide (n=1),l)
def pTx:Prs ByteArray := pB pText fun b=>pR ⟨b.toArray⟩
def pMany {α:Type} (p:Prs α):Nat→Prs (List α)
  | 0=>pR []
  | k+1=>pB p fun x=>pB (pMany p k) fun xs=>pR (x :: xs)
theorem pMany_step {α β:Type} (p:Prs α) (k:Nat) (F:List α→Prs β):pB (pMany p (k+1)) F=pB p fun x=>pB (pMany p k) fun xs=>F (x :: xs) := by
  rw [pMany,pB_assoc]
  congr 1
  funext x
  rw [pB_assoc]
  rfl
theorem ne0 {α β:Type} {p:Prs α} {f:α→Prs β} (hp:∀ l e,p l=.error e→e≠0) (hf:∀ x l e,f x l=.error e→e≠0) (l:List UInt8) (e:Nat) (h:pB p f l=.error e):e≠0 := by
  rcases pB_inve h with h | ⟨x,m,_,h⟩
  · exact hp _ _ h
  · exact hf _ _ _ h
theorem pR_ne0 {α:Type} (x:α) (l:List UInt8) (e:Nat) (h:pR x l=.error e):e≠0 := by cases h
theorem pMany_ne0 {α:Type} {p:Prs α} (hp:∀ l e,p l=.error e→e≠0):∀ k l e,pMany p k l=.error e→e≠0
  | 0,l,e,h=>by cases h
  | k+1,l,e,h=>ne0 hp (fun x=>ne0 (pMany_ne0 hp k) fun y=>pR_ne0 _) l e h
theorem pMany_len {α:Type} {p:Prs α} (hp:∀ l x r,p l=.ok (x,r)→r.length≤l.length):∀ k l x r,pMany p k l=.ok (x,r)→r.length≤l.length∧x.length=k
  | 0,l,x,r,h=>by cases h; exact ⟨Nat.le_refl _,rfl⟩
  | k+1,l,x,r,h=>by
    obtain ⟨y,m,h1,h2⟩ := pB_inv h
    obtain ⟨ys,m2,h3,h4⟩ := pB_inv h2
    cases h4
    have := hp _ _ _ h1
    have := pMany_len hp k _ _ _ h3
    exact ⟨by omega,by rw [List.length_cons,this.2]⟩
/-! ### items in memory -/
end Go.Proofs.YticefdfhcahlfaaGreatDoor.AM

namespace Go.Proofs.YticefdfhcahlfaaGreatDoor.AM
open Go.RowKit
set_option maxRecDepth 100000
set_option linter.unusedVariables false
set_option linter.unusedSimpArgs false
def tabT:TabL := [(13,ac13,rs13,1),(47,ac47,rs47,2),(46,ac46,rs46,2),(48,ac48,rs48,1),(53,ac53,rs53,1),(49,ac49,rs49,2),(54,ac54,rs54,2),(55,ac55,rs55,2),(52,ac52,rs52,1),(78,ac78,rs78,3),(79,ac79,rs79,1)]
theorem tabTOk:TabOk Tryz.prog (look tabT) := by
  unfold tabT
  refine tab_cons ?_ (fun a w=>Tryz.call13 a w) Tryz.func13 cf13 (by decide)
  refine tab_cons ?_ (fun a w=>Tryz.call47 a w) Tryz.func47 cf47 (by decide)
  refine tab_cons ?_ (fun a w=>Tryz.call46 a w) Tryz.func46 cf46 (by decide)
  refine tab_cons ?_ (fun a w=>Tryz.call48 a w) Tryz.func48 cf48 (by decide)
  refine tab_cons ?_ (fun a w=>Tryz.call53 a w) Tryz.func53 cf53 (by decide)
  refine tab_cons ?_ (fun a w=>Tryz.call49 a w) Tryz.func49 cf49 (by decide)
  refine tab_cons ?_ (fun a w=>Tryz.call54 a w) Tryz.func54 cf54 (by decide)
  refine tab_cons ?_ (fun a w=>Tryz.call55 a w) Tryz.func55 cf55 (by decide)
  refine tab_cons ?_ (fun a w=>Tryz.call52 a w) Tryz.func52 cf52 (by decide)
  refine tab_cons ?_ (fun a w=>Tryz.call78 a w) Tryz.func78 cf78 (by decide)
  refine tab_cons ?_ (fun a w=>Tryz.call79 a w) Tryz.func79 cf79 (by decide)
  exact tab_nil hmx
def noteZ:AVal := .agg [.int .u8 0,.int .u8 0,.bool false,.int .i64 0,.int .u64 0,.int .u64 0,.int .u64 0,.int .u64 0,.int .u64 0,.int .u64 0,.int .u64 0,.str ⟨#[]⟩,.str ⟨#[]⟩,.nilsl,.nilsl]
theorem tell_run:((callT (look tabT) 300 20 13 [noteZ] σ0).bind fun x=>frz 0 x.2.mem x.1)=some (.tup [.isl (bytesV (List.replicate 74 0)) 74 false,.int .i64 0]) := by kernel_rfl
theorem tell0_c {σ:St} (Q:AVal→St→Prop) (hQ:Q (.tup [.isl (bytesV (List.replicate 74 0)) 74 false,.int .i64 0]) σ):ACall Tryz.prog 13 [noteZ] σ Q := by
  refine ACall.pure rfl ?_
  have h := tell_run
  cases hc:callT (look tabT) 300 20 13 [noteZ] σ0 with
  | none=>rw [hc] at h; cases h
  | some x =>
    rw [hc] at h
    exact ACall.of_run tabTOk 300 20 hc ⟨_,h,rfl,hQ⟩
end Go.Proofs.YticefdfhcahlfaaGreatDoor.AM

namespace Go.Proofs.YticefdfhcahlfaaGreatDoor.AM
open Go.RowKit
set_option maxRecDepth 100000
set_option linter.unusedVariables false
set_option linter.unusedSimpArgs false
theorem wwrite0_c {σ:St} {t mp w:Nat} {l:List UInt8} {b:Option Nat} (h:TRep σ t mp []) (hw:WB σ w l b) (hl:l.length≤100000) (Q:AVal→St→Prop)
    (hQ:∀ σ' b',WB σ' w (l++beN 1 0) b'→WStp w b b' σ σ'→Q (.tup []) σ'):ACall Tryz.prog 51 [.ptr t 0,.ptr w 0] σ Q := by
  refine ACall.of_compF hmx (fun a w=>Tryz.call51 a w) Tryz.func51 cf51 (n := 2) (by decide) rfl ?_
  simp [ac51,rs51,lk_cons]
  refine all_c h (by simp) _ fun v1 ys σ1 b1 p1 p2 p3 p4 p5=>?_
  have hys:ys=[] := p1.eq_nil
  subst hys
  have hlen1 := p3.len
  simp [lk_cons,↓hlen1]
  refine wp_loop (fun mm rg σ'=>mm=0∧σ'=σ1∧rg=[(1,.ptr w 0),(4,.nilsl),(10,v1),(11,i64 0),(12,i64 0)]) 0 ?_ ?_
  · exact ⟨rfl,rfl,by simp [lk_cons]⟩
  · rintro mm rg σ2 ⟨rfl,rfl,rfl⟩
    simp [lk_cons]
    refine wu8_c (n := 0) (hw.keep p5.1 fun a ha _=>p5.2 a ha) (by decide) (by omega) _ fun σ3 b3 q1 q2=>?_
    simp [lk_cons]
    refine wp_loop (fun mm rg σ'=>mm=0∧σ'=σ3∧rg=[(1,.ptr w 0),(29,.nilsl),(30,i64 0),(31,i64 0)]) 0 ?_ ?_
    · exact ⟨rfl,rfl,by simp [lk_cons]⟩
    · rintro mm rg σ4 ⟨rfl,rfl,rfl⟩
      simp [lk_cons]
      exact hQ _ b3 q1 ⟨Nat.le_trans p5.1 q2.next,fun x hx=>by
        rcases q2.own x hx with e | e
        · exact .inl e
        · exact .inr (Nat.le_trans p5.1 e),fun a ha hne hb=>(q2.keep a (Nat.lt_of_lt_of_le ha p5.1) hne hb).trans (p5.2 a ha)⟩
end Go.Proofs.YticefdfhcahlfaaGreatDoor.AM

namespace Go.Proofs.YticefdfhcahlfaaGreatDoor.AM
open Go.RowKit
set_option maxRecDepth 100000
set_option linter.unusedVariables false
set_option linter.unusedSimpArgs false
def tabU:TabL := [(32,ac32,rs32,1),(73,ac73,rs73,1),(67,ac67,rs67,1),(86,ac86,rs86,1),(87,ac87,rs87,2),(93,ac93,rs93,1),(94,ac94,rs94,2),(98,ac98,rs98,1)]
theorem tabUOk:TabOk Tryz.prog (look tabU) := by
  unfold tabU
  refine tab_cons ?_ (fun a w=>Tryz.call32 a w) Tryz.func32 cf32 (by decide)
  refine tab_cons ?_ (fun a w=>Tryz.call73 a w) Tryz.func73 cf73 (by decide)
  refine tab_cons ?_ (fun a w=>Tryz.call67 a w) Tryz.func67 cf67 (by decide)
  refine tab_cons ?_ (fun a w=>Tryz.call86 a w) Tryz.func86 cf86 (by decide)
  refine tab_cons ?_ (fun a w=>Tryz.call87 a w) Tryz.func87 cf87 (by decide)
  refine tab_cons ?_ (fun a w=>Tryz.call93 a w) Tryz.func93 cf93 (by decide)
  refine tab_cons ?_ (fun a w=>Tryz.call94 a w) Tryz.func94 cf94 (by decide)
  refine tab_cons ?_ (fun a w=>Tryz.call98 a w) Tryz.func98 cf98 (by decide)
  exact tab_nil hmx
def topicZ:AVal := .agg [.int .u64 0,.int .u64 0,.nilsl,.nilsl,.nilsl]
def runTrue (x:Option (AVal×St)):Bool := match x with
  | some (.bool true,_)=>true
  | _=>false
theorem check_run:runTrue (callT (look tabU) 300 20 32 [topicZ] σ0)=true := by kernel_rfl
theorem check0_c {σ:St} (Q:AVal→St→Prop) (hq:Q (.bool true) σ):ACall Tryz.prog 32 [topicZ] σ Q := by
  refine ACall.frame ?_ rfl
  have h := check_run
  unfold runTrue at h
  split at h
  · rename_i σ hs; exact ACall.of_run tabUOk 300 20 hs ⟨rfl,hq⟩
  · cases h
theorem table0_c {σ:St} (Q:AVal→St→Prop) (hQ:∀ t mp σ',TRep σ' t mp []→(σ.next≤t∧σ.next≤mp)→Grow σ σ'→Q (.tup [.ptr t 0,.bool true]) σ'):ACall Tryz.prog 44 [.nilsl] σ Q := by
  refine ACall.of_compF hmx (fun a w=>Tryz.call44 a w) Tryz.func44 cf44 (n := 1) (by decide) rfl ?_
  simp [ac44,rs44,lk_cons]
  refine tnew_c _ _ fun t mp σ1 hr hn1 hk1 hge=>?_
  simp [lk_cons]
  refine wp_loop (fun mm rg σ'=>mm=0∧σ'=σ1∧rg=[(0,.nilsl),(4,.ptr t 0),(8,.nilsl),(9,i64 0),(10,i64 0)]) 0 ?_ ?_
  · exact ⟨rfl,rfl,by simp [lk_cons]⟩
  · rintro mm rg σ2 ⟨rfl,rfl,rfl⟩
    simp [lk_cons]
    exact hQ t mp _ hr hge ⟨hn1,hk1⟩
set_option maxHeartbeats 2000000 in
theorem enc0_c {σ:St} (Q:AVal→St→Prop) (hQ:∀ v b σ',GS rwB σ' v (List.replicate 19 0) b→Grow σ σ'→Q (.tup [v,i64 0]) σ'):ACall Tryz.prog 12 [topicZ] σ Q := by
  refine ACall.of_compF hmx (fun a w=>Tryz.call12 a w) Tryz.func12 cf12 (n := 1) (by decide) rfl ?_
  simp [ac12,rs12,lk_cons,topicZ,fillL,storeL]
  obtain ⟨S,hS⟩:∃ S:St,S=⟨σ.mem.set σ.next (.cells 5 [u64 0,u64 0,.nilsl,.nilsl,.nilsl]),σ.next+1⟩ := ⟨_,rfl⟩
  have nS:S.next=σ.next+1 := by rw [hS]
  have mS:S.mem.get σ.next=some (.cells 5 [u64 0,u64 0,.nilsl,.nilsl,.nilsl]) := by rw [hS]; simp
  have gS:Grow σ S := ⟨by omega,fun a ha=>by rw [hS]; simp [show ¬ a=σ.next by omega]⟩
  rw [← hS]
  refine table0_c _ fun t mp σ1 tr tge g1=>?_
  have m1 := (g1.2 σ.next (by omega)).trans mS
  have n1 := g1.1
  have tlt := tr.lt
  simp [lk_cons,m1]
  refine check0_c _ ?_
  have e1:¬ σ.next=σ1.next := by omega
  simp [lk_cons,m1,e1,fillL,storeL,repL]
  obtain ⟨S2,hS2⟩:∃ S2:St,S2=⟨(σ1.mem.set σ1.next (.cells 1 [.nilsl])).set (σ1.next+1) (.cells 1 [u64 0,u64 0]),σ1.next+1+1⟩ := ⟨_,rfl⟩
  have nS2:S2.next=σ1.next+2 := by rw [hS2]
  have kS2:∀ a,a<σ1.next→S2.mem.get a=σ1.mem.get a := fun a ha=>by rw [hS2]; simp [show ¬ a=σ1.next by omega,show ¬ a=σ1.next+1 by omega]
  have h0:WB S2 σ1.next [] none := ⟨.nilsl,by rw [hS2]; simp,GS.nil _,by simp,by omega⟩
  have mz:S2.mem.get (σ1.next+1)=some (.cells 1 ([0,0].map fun (n:Nat)=>u64 (n:Int))) := by rw [hS2]; simp
  have mS2 := (kS2 σ.next (by omega)).trans m1
  have tS2:TRep S2 t mp [] := tr.frame (fun x hx=>kS2 x (by rcases hx with rfl | rfl <;> omega)) (by omega)
  rw [← hS2]
  generalize σ1.next=w at e1 nS2 kS2 h0 mz n1 tlt ⊢
  refine puts_c (xs := [0,0]) h0 (by omega) mz (by omega) (by simp) (by simp) (by simp) _ fun σ3 b3 h3 s3=>?_
  have m3 := (s3.keep σ.next (by omega) (by omega) (by simp)).trans mS2
  simp [lk_cons,m3]
  refine wu8_c (n := 0) h3 (by decide) (by simp [numsB_len]) _ fun σ4 b4 h4 s4=>?_
  have s4 := s3.trans s4
  have m4 := (s4.keep σ.next (by omega) (by omega) (by simp)).trans mS2
  simp [lk_cons,m4]
  refine wp_loop (fun mm rg σ'=>mm=0∧σ'=σ4∧rg=[(1,.ptr σ.next 0),(4,.ptr t 0),(6,.ptr w 0),(41,.nilsl),(42,i64 0),(43,i64 0)]) 0 ?_ ?_
  · exact ⟨rfl,rfl,by simp [lk_cons]⟩
  rintro mm rg σ5 ⟨rfl,rfl,rfl⟩
  simp [lk_cons,m4]
  refine wu8_c (n := 0) h4 (by decide) (by simp [numsB_len,beN_len]) _ fun σ6 b6 h6 s6=>?_
  have s6 := s4.trans s6
  have m6 := (s6.keep σ.next (by omega) (by omega) (by simp)).trans mS2
  simp [lk_cons,m6]
  refine wp_loop (fun mm rg σ'=>mm=0∧σ'=σ6∧rg=[(4,.ptr t 0),(6,.ptr w 0),(68,.nilsl),(69,i64 0),(70,i64 0)]) 0 ?_ ?_
  · exact ⟨rfl,rfl,by simp [lk_cons]⟩
  rintro mm rg σ7 ⟨rfl,rfl,rfl⟩
  simp [lk_cons]
  have t6:TRep σ7 t mp [] := tS2.frame (fun x hx=>s6.keep x (by rcases hx with rfl | rfl <;> omega) (by rcases hx with rfl | rfl <;> omega) (by simp)) s6.next
  refine wwrite0_c t6 h6 (by simp [numsB_len,beN_len]) _ fun σ8 b8 h8 s8=>?_
  have s8 := s6.trans s8
  simp [lk_cons]
  refine wdone_c h8 (by simp [numsB_len,beN_len]) _ fun σ9 v9 b9 h9 f9 g9=>?_
  have hlen := h9.len
  have hl:((((([]++numsB [0,0])++beN 1 0)++beN 1 0)++beN 1 0):List UInt8)=List.replicate 19 0 := by decide
  rw [hl] at h9
  have hlen := h9.len
  simp [lk_cons,↓hlen]
  exact hQ v9 b9 σ9 h9 ⟨by have := s8.next; have := g9.1; omega,fun a ha=>by
    have := s8.next
    rw [g9.2 a (by omega),s8.keep a (by omega) (by omega) (by simp),kS2 a (by omega),g1.2 a (by omega)]
    exact gS.2 a ha⟩
end Go.Proofs.YticefdfhcahlfaaGreatDoor.AM

namespace Go.Proofs.YticefdfhcahlfaaGreatDoor.AM
open Go.RowKit
set_option maxRecDepth 100000
set_option linter.unusedVariables false
set_option linter.unusedSimpArgs false
structure RStpC (r cell:Nat) (σ σ':St):Prop where
  next:σ.next≤σ'.next
  keep:∀ a,a<σ.next→a≠r→a≠cell→σ'.mem.get a=σ.mem.get a
theorem read_h {X:Type} {σ:St} {bv:AVal} {l:List UInt8} {c:Option Nat} (hb:RdB σ bv l c) {g cell:Nat} (hcell:cell<σ.next) {res:Except Nat (X×List UInt8)} {Post:X→St→St→Prop} (Q:AVal→St→Prop)
    (hcall:∀ (T:AVal→St→Prop) (r:Nat) (σ1:St) (K:AVal→St→Prop),RR σ1 r l c→σ.next≤r→Grow σ σ1→(∀ e σ',res=.error e→RStpC r cell σ1 σ'→T (thrownV (e:Int)) σ') →
      (∀ x l' σ',res=.ok (x,l')→RR σ' r l' c→Post x σ1 σ'→σ1.next≤σ'.next→(∀ a,a<σ1.next→a≠r→a≠cell→σ'.mem.get a=σ1.mem.get a)→K (.tup []) σ')→ACall (Env.th Tryz.prog T) g [.ptr r 0,.ptr cell 0] σ1 K)
    (hE:∀ e σ',res=.error e→σ.next≤σ'.next→(∀ a,a<σ.next→a≠cell→σ'.mem.get a=σ.mem.get a)→Q (.int .i64 (e:Int)) σ')
    (hK:∀ x l' σ1 σ' σ2,res=.ok (x,l')→Post x σ1 σ'→Grow σ σ1→σ.next<σ1.next→(∀ a,a≠σ.next→σ2.mem.get a=σ'.mem.get a)→σ2.next=σ'.next→σ1.next≤σ'.next→(∀ a,a<σ.next→a≠cell→σ'.mem.get a=σ.mem.get a)→Q (.int .i64 (if l'=[] then 0 else 5)) σ2):ACall Tryz.prog 23 [bv,.fn g [] [.ptr cell 0]] σ Q := by
  refine read_c Q ?_
  have hone := hb.one
  have e1:¬ σ.next=σ.next+1 := by omega
  simp [cOf,ac23,lk_cons,fillL,storeL,hone]
  refine hcall _ (σ.next+1) _ _ ⟨bv,by simp [storeL],hb.keep (by simp; omega) fun a ha _=>by simp [show ¬ a=σ.next by omega,show ¬ a=σ.next+1 by omega],fun e=>by have := hb.lt e; omega,by simp⟩ (by omega) ⟨by simp; omega,fun a ha=>by simp [show ¬ a=σ.next by omega,show ¬ a=σ.next+1 by omega]⟩ (fun e σ' he hs=>?_) (fun x l' σ' hx hr hp hn hk=>?_)
  · have hm := hs.keep σ.next (by simp; omega) (by omega) (by omega)
    simp [e1] at hm
    refine ⟨(e:Int),rfl,⟨0,hm⟩,hE e _ he (by have := hs.next; simp at this ⊢; omega) (fun a ha hac=>?_)⟩
    have := hs.keep a (by simp; omega) (by omega) hac
    simp [show ¬ a=σ.next by omega,show ¬ a=σ.next+1 by omega] at this ⊢
    exact this
  · obtain ⟨v',h1,h2,h3,h4⟩ := hr
    have hlen := h2.len
    have hm := hk σ.next (by simp; omega) (by omega) (by omega)
    simp [e1] at hm
    have hn':σ.next+1+1≤σ'.next := by simpa using hn
    have hg:Grow σ ⟨(σ.mem.set σ.next (.cells 1 [.int .i64 0])).set (σ.next+1) (.cells 1 [bv]),σ.next+1+1⟩ := ⟨by simp; omega,fun a ha=>by simp [show ¬ a=σ.next by omega,show ¬ a=σ.next+1 by omega]⟩
    have hq := fun (b:Blk)=>hK x l' _ σ' ⟨σ'.mem.set σ.next b,σ'.next⟩ hx hp (by simpa [storeL] using hg) (by simp; omega) (fun a ha=>by simp [ha]) rfl hn (fun a ha hac=>by
      have := hk a (by simp; omega) (by omega) hac
      simp [show ¬ a=σ.next by omega,show ¬ a=σ.next+1 by omega] at this
      exact this)
    cases l' with
    | nil =>
      simp [lk_cons,h1,↓hlen,hm,storeL,rs23]
      simpa using hq _
    | cons y l' =>
      have hp:(0:Int)<((y :: l').length:Int) := by simp only [List.length_cons]; omega
      obtain ⟨N,hN⟩:∃ N,(y :: l').length=N := ⟨_,rfl⟩
      simp only [hN] at hlen hp
      have hp':0<N := by omega
      simp [lk_cons,h1,↓hlen,hm,storeL,rs23,hp,hp']
      simpa using hq _
end Go.Proofs.YticefdfhcahlfaaGreatDoor.AM

namespace Go.Proofs.YticefdfhcahlfaaGreatDoor.AM
open Go.RowKit
set_option maxRecDepth 100000
set_option linter.unusedVariables false
set_option linter.unusedSimpArgs false
def noteCs:List AVal := [.int .u8 0,.int .u8 0,.bool false,.int .i64 0,.int .u64 0,.int .u64 0,.int .u64 0,.int .u64 0,.int .u64 0,.int .u64 0,.int .u64 0,.str ⟨#[]⟩,.str ⟨#[]⟩,.nilsl,.nilsl]
def HrJ (r tc o:Nat) (c:Option Nat) (σ0:St) (mm:Nat) (rg:Regs) (σ':St):Prop := ∃ (i:Nat) (l:List UInt8),mm=1 - i∧i≤1∧l=([1]:List UInt8).drop i∧RR σ' r l c∧RStpC r tc σ0 σ'∧(∃ z1 z2 zs,σ'.mem.get tc=some (.cells 15 (z1 :: z2 :: zs))∧(z1 :: z2 :: zs).length=15)∧(o<σ'.next∧σ'.mem.get o=some (.cells 1 [.ptr tc 0,.ptr tc 1]))∧rg=[(0,.ptr r 0),(1,.ptr tc 0),(3,.fn 25 [.ptr r 0] []),(14,.sl o 0 2 2 true),(15,i64 2),(16,i64 i)]
theorem hear1c_c {T:AVal→St→Prop} {σ:St} {r tc:Nat} {c:Option Nat} {K:AVal→St→Prop} (h:RR σ r [1] c) (htc:σ.mem.get tc=some (.cells 15 noteCs)) (htl:tc<σ.next) (hrt:tc≠r) (hct:c≠some tc)
    (hT:∀ σ',RStpC r tc σ σ'→T (thrownV ((4:Nat):Int)) σ'):ACall (Env.th Tryz.prog T) 56 [.ptr r 0,.ptr tc 0] σ K := by
  refine ACall.of_compF hmx (fun a w=>Tryz.call56 a w) Tryz.func56 cf56 (n := 2) (by decide) rfl ?_
  obtain ⟨v,q1,q2,q3,q4⟩ := id h
  simp [ac56,rs56,lk_cons,fillL,storeL,repL]
  refine wp_loop (HrJ r tc σ.next c σ) 1 ?_ ?_
  · refine ⟨0,[1],rfl,by omega,rfl,h.keep (by simp) fun a ha _=>by simp [show ¬ a=σ.next by omega],⟨by simp,fun a ha _ _=>by simp [show ¬ a=σ.next by omega]⟩,⟨_,_,_,by simp [show ¬ tc=σ.next by omega]; exact htc,rfl⟩,⟨by simp,by simp⟩,by simp [lk_cons]⟩
  · rintro mm rg σ1 ⟨i,l,rfl,hi,rfl,h1,s1,⟨z1,z2,zs,hz,hzl⟩,⟨hol,ho⟩,rfl⟩
    have w1:IntKind.i64.wrap ((i:Int)+1)=((i+1:Nat):Int) := by rw [IntWalk.i64_in] <;> omega
    have hzl':zs.length=13 := by simpa using hzl
    rcases (by omega:i=0∨i=1) with rfl | rfl
    · simp [lk_cons,ho]
      refine ru8_c (l := [1]) h1 (by decide) (fun e he=>by cases he) fun x l' σ2 p1 p2 p3=>?_
      have hx:l'=[] := by
        have := (pNum_len p1).1
        simp at this; exact this
      subst hx
      have tl1:tc<σ1.next := Nat.lt_of_lt_of_le htl s1.next
      have hz2 := (p3.keep tc tl1 hrt).trans hz
      have ho2 := (p3.keep σ.next hol (by omega)).trans ho
      have n3 := p3.next
      have n1 := s1.next
      have hto:¬ tc=σ.next := by omega
      simp [lk_cons,hz2,storeL,w1]
      refine ⟨1,[],rfl,by omega,rfl,p2.keep (Nat.le_refl _) fun a ha hac=>?_,⟨by show σ.next≤σ2.next; omega,fun a ha har hat=>?_⟩,⟨.int .u8 (x:Int),z2,zs,by simp,by simpa using hzl'⟩,⟨by show σ.next<σ2.next; omega,?_⟩,by simp [show IntKind.i64.wrap 1=1 from rfl]⟩
      · have:a≠tc := by
          rcases hac with rfl | hac
          · exact Ne.symm hrt
          · exact fun e=>hct (by rw [hac,e])
        simp [this]
      · simp [hat]
        exact (p3.keep a (by omega) har).trans (s1.keep a ha har hat)
      · simp [show ¬ σ.next=tc by omega]
        exact ho2
    · simp [lk_cons,ho]
      refine ru8_c (l := []) h1 (by decide) (fun e he=>?_) fun x l' σ2 p1 p2 p3=>by cases p1
      have:e=4 := by cases he; rfl
      subst this
      exact hT σ1 s1
theorem hear1_c {σ:St} {xv:AVal} {c:Option Nat} (hb:RdB σ xv [1] c) (Q:AVal→St→Prop) (hQ:∀ σ',Grow σ σ'→Q (.tup [.agg noteCs,i64 4]) σ'):ACall Tryz.prog 14 [xv] σ Q := by
  refine ACall.of_compF hmx (fun a w=>Tryz.call14 a w) Tryz.func14 cf14 (n := 1) (by decide) rfl ?_
  simp [ac14,rs14,lk_cons]
  obtain ⟨S,hS⟩:∃ S:St,S=⟨(σ.mem.set σ.next (.cells 15 noteCs)).set (σ.next+1) (.cells 15 noteCs),σ.next+1+1⟩ := ⟨_,rfl⟩
  have nS:S.next=σ.next+2 := by rw [hS]
  have kS:∀ a,a<σ.next→S.mem.get a=σ.mem.get a := fun a ha=>by rw [hS]; simp [show ¬ a=σ.next by omega,show ¬ a=σ.next+1 by omega]
  have m2:S.mem.get σ.next=some (.cells 15 noteCs) := by rw [hS]; simp
  have m4:S.mem.get (σ.next+1)=some (.cells 15 noteCs) := by rw [hS]; simp
  have hS' := hS
  unfold noteCs at hS
  rw [← hS]
  refine read_h (X := Unit) (res := .error 4) (Post := fun _ _ _=>True) (hb.keep (by omega) fun a ha _=>kS a ha) (cell := σ.next+1) (by omega) _ (fun T r σa K k1 k2 k3 k4 k5=>?_) (fun e σb he hn hk=>?_) (fun x l' σa σb σc hx=>by cases hx)
  · have htc := (k3.2 (σ.next+1) (by omega)).trans m4
    exact hear1c_c k1 htc (by have := k3.1; omega) (by omega) (fun ec=>by have := hb.lt ec; omega) fun σ' hs=>k4 4 σ' rfl hs
  · cases he
    have hm := (hk σ.next (by omega) (by omega)).trans m2
    unfold noteCs at hm
    simp [lk_cons,hm,storeL,fillL]
    exact hQ _ ⟨by show σ.next≤σb.next; omega,fun a ha=>by
      simp [show ¬ a=σ.next by omega]
      exact (hk a (by omega) (by omega)).trans (kS a ha)⟩
end Go.Proofs.YticefdfhcahlfaaGreatDoor.AM

namespace Go.Proofs.YticefdfhcahlfaaGreatDoor.AM
open Go.RowKit
set_option maxRecDepth 100000
set_option linter.unusedVariables false
set_option linter.unusedSimpArgs false
section
variable {T:AVal→St→Prop} {σ:St} {r:Nat} {l:List UInt8} {c:Option Nat} {Q:AVal→St→Prop}
theorem ru16_c (h:RR σ r l c) (hl:l.length<4611686018427387904) (hT:∀ e,pNum 2 l=.error e→T (thrownV (e:Int)) σ)
    (hQ:∀ x l' σ',pNum 2 l=.ok (x,l')→RR σ' r l' c→RStp r σ σ'→Q (.int .u16 (x:Int)) σ'):ACall (Env.th Tryz.prog T) 58 [.ptr r 0] σ Q := by
  refine ACall.of_compF hmx (fun a w=>Tryz.call58 a w) Tryz.func58 cf58 (n := 1) (by decide) rfl ?_
  simp [ac58,rs58,lk_cons]
  refine rnum_c h hl (n := 2) (by decide) hT fun x l' σ' h1 h2 h3=>?_
  have hx := (pNum_len h1).2
  have w1:IntKind.u16.wrap (x:Int)=x := by rw [IntWalk.u16_in] <;> omega
  simp [lk_cons,w1]
  exact hQ x l' σ' h1 h2 h3
theorem ryes_c (h:RR σ r l c) (hl:l.length<4611686018427387904) (hT:∀ e σ',pFlag l=.error e→RStp r σ σ'→T (thrownV (e:Int)) σ')
    (hQ:∀ x l' σ',pFlag l=.ok (x,l')→RR σ' r l' c→RStp r σ σ'→l'.length≤l.length→Q (.bool x) σ'):ACall (Env.th Tryz.prog T) 27 [.ptr r 0] σ Q := by
  refine ACall.of_compF hmx (fun a w=>Tryz.call27 a w) Tryz.func27 cf27 (n := 1) (by decide) rfl ?_
  simp [ac27,rs27,lk_cons]
  refine ru8_c h hl (fun e he=>hT e σ (pB_err he) (RStp.refl _ _)) fun x l' σ' h1 h2 h3=>?_
  have hx := (pNum_len h1).2
  have hlen := (pNum_len h1).1
  by_cases hc:1<x
  · have hc':(1:Int)<x := by omega
    simp [lk_cons,hc,hc']
    refine fail_c (fun _=>hT 16 σ' (by rw [pFlag,pB_ok h1]; simp [hc]) h3) fun e=>by cases e
  · have hc':¬ (1:Int)<x := by omega
    have hd:decide ((x:Int)=1)=decide (x=1) := decide_eq_decide.2 (by omega)
    simp [lk_cons,hc,hc']
    have := hQ (decide (x=1)) l' σ' (by rw [pFlag,pB_ok h1]; simp [hc]) h2 h3 (by omega)
    simpa [hd] using this
end
theorem RStp.c {r tc:Nat} {σ σ':St} (h:RStp r σ σ'):RStpC r tc σ σ' := ⟨h.next,fun a ha h1 _=>h.keep a ha h1⟩
theorem RStpC.trans {r tc:Nat} {a b d:St} (h:RStpC r tc a b) (k:RStpC r tc b d):RStpC r tc a d := ⟨Nat.le_trans h.next k.next,fun x hx h1 h2=>(k.keep x (Nat.lt_of_lt_of_le hx h.next) h1 h2).trans (h.keep x hx h1 h2)⟩
theorem Grow.rstpc {r tc:Nat} {σ σ':St} (h:Grow σ σ'):RStpC r tc σ σ' := ⟨h.1,fun a ha _ _=>h.2 a ha⟩
theorem RStpC.st {r tc:Nat} {σ:St} {b:Blk}:RStpC r tc σ ⟨σ.mem.set tc b,σ.next⟩ := ⟨Nat.le_refl _,fun a _ _ h=>by simp [h]⟩
end Go.Proofs.YticefdfhcahlfaaGreatDoor.AM


namespace Go.Proofs.YticefdfhcahlfaaGreatDoor.AM
open Go.RowKit
set_option maxRecDepth 100000
set_option linter.unusedVariables false
set_option linter.unusedSimpArgs false
def Tr {β:Type} (res:Except Nat (β×List UInt8)) (st:RSt) (G:Prs β):Prop := (∃ m,st=.ok m∧res=G m)∨∃ e,st=.error e∧res=.error e
section
variable {β:Type} {res:Except Nat (β×List UInt8)} {st:RSt}
theorem Tr.num {k:Nat} {F:Nat→Prs β} (h:Tr res st (pB (pNum k) F)):Tr res (sNum k st).2 (F (sNum k st).1) := by
  rcases h with ⟨m,rfl,h⟩ | ⟨e,rfl,h⟩
  · rcases sNum_st k m with ⟨x,r,h1,h2⟩ | ⟨e,h1,h2⟩
    · rw [h2]; exact .inl ⟨r,rfl,by rw [h,pB_ok h1]⟩
    · rw [h2]; exact .inr ⟨e,rfl,by rw [h,pB_err h1]⟩
  · exact .inr ⟨e,rfl,h⟩
theorem Tr.text {F:ByteArray→Prs β} (h:Tr res st (pB pTx F)):Tr res (sText st).2 (F ⟨(sText st).1.toArray⟩) := by
  rcases h with ⟨m,rfl,h⟩ | ⟨e,rfl,h⟩
  · rcases sText_st m with ⟨x,r,h1,h2⟩ | ⟨e,x,h1,h2⟩
    · rw [h2]; exact .inl ⟨r,rfl,by rw [h,pTx,pB_assoc,pB_ok h1]; rfl⟩
    · rw [h2]; exact .inr ⟨e,rfl,by rw [h,pTx,pB_assoc,pB_err h1]⟩
  · exact .inr ⟨e,rfl,h⟩
def sFlag (st:RSt):Bool×RSt := (decide ((sNum 1 st).1=1),match (sNum 1 st).2 with
  | .ok l=>if 1<(sNum 1 st).1 then .error 16 else .ok l
  | .error e=>.error e)
theorem Tr.flag {F:Bool→Prs β} (h:Tr res st (pB pFlag F)):Tr res (sFlag st).2 (F (sFlag st).1) := by
  rcases h with ⟨m,rfl,h⟩ | ⟨e,rfl,h⟩
  · unfold sFlag
    rcases sNum_st 1 m with ⟨x,r,h1,h2⟩ | ⟨e,h1,h2⟩
    · rw [h2,h,pFlag,pB_assoc,pB_ok h1]
      by_cases hx:1<x
      · simp only [hx,if_true]
        exact .inr ⟨16,rfl,by simp [pB]⟩
      · simp only [hx,if_false]
        exact .inl ⟨r,rfl,by simp [pB]⟩
    · rw [h2]; exact .inr ⟨e,rfl,by rw [h,pFlag,pB_assoc,pB_err h1]⟩
  · exact .inr ⟨e,rfl,h⟩
end
theorem sNum_lt (k:Nat) (st:RSt):(sNum k st).1<256 ^ k := by
  cases st with
  | error e=>exact Nat.pow_pos (by decide)
  | ok l =>
    rcases sNum_st k l with ⟨x,r,h1,h2⟩ | ⟨e,h1,h2⟩
    · rw [h2]; exact (pNum_len h1).2
    · rw [h2]; exact Nat.pow_pos (by decide)
theorem SR.code {σ:St} {r:Nat} {st:RSt} {c:Option Nat} (h:SR σ r st c):∃ v e,σ.mem.get r=some (.cells 2 [v,.int .i64 ((e:Nat):Int)])∧(e=0∧(∃ l,st=.ok l)∨e≠0∧st=.error e) := by
  obtain ⟨h1,h2,h3,h4⟩ := h
  cases st with
  | ok l=>obtain ⟨v,k1,_⟩ := h4; exact ⟨v,0,k1,.inl ⟨rfl,l,rfl⟩⟩
  | error e=>obtain ⟨k0,v,_,k1⟩ := h4; exact ⟨v,e,k1,.inr ⟨k0,rfl⟩⟩
theorem rflag_c {σ:St} {r:Nat} {st:RSt} {c:Option Nat} (h:SR σ r st c) (Q:AVal→St→Prop)
    (hQ:∀ σ',SR σ' r (sFlag st).2 c→σ'.next=σ.next→(∀ a,a≠r→σ'.mem.get a=σ.mem.get a)→Q (.bool (sFlag st).1) σ'):ACall Tryz.prog 35 [.ptr r 0] σ Q := by
  refine ACall.of_compF hmx (fun a w=>Tryz.call35 a w) Tryz.func35 cf35 (n := 1) (by decide) rfl ?_
  simp [ac35,rs35,lk_cons]
  refine snum_c h (k := 1) (by decide) _ fun σ1 h1 n1 k1=>?_
  obtain ⟨v,e,hm,he⟩ := h1.code
  have hd:decide (((sNum 1 st).1:Int)=1)=decide ((sNum 1 st).1=1) := decide_eq_decide.2 (by omega)
  unfold sFlag at hQ
  revert h1 he hQ hd
  generalize hs2:(sNum 1 st).2=s2
  generalize hs1:(sNum 1 st).1=n
  intro hQ h1 he hd
  rcases he with ⟨rfl,l,rfl⟩ | ⟨he,rfl⟩
  · by_cases hn:1<n
    · have hn':(1:Int)<n := by omega
      simp [lk_cons,hm,hn,hn']
      refine sfail_c h1 (e := 16) (by decide) _ fun σ2 h2 n2 k2=>?_
      simp [lk_cons]
      simp only [hn,if_true] at hQ
      have := hQ σ2 (by simpa [sFail] using h2) (by omega) fun a ha=>(k2 a ha).trans (k1 a ha)
      simpa [hd] using this
    · have hn':¬ (1:Int)<n := by omega
      simp [lk_cons,hm,hn,hn']
      simp only [hn,if_false] at hQ
      have := hQ σ1 h1 n1 k1
      simpa [hd] using this
  · have he':¬ (e:Int)=0 := by omega
    simp [lk_cons,hm,he,he']
    have := hQ σ1 h1 n1 k1
    simpa [hd] using this
end Go.Proofs.YticefdfhcahlfaaGreatDoor.AM

namespace Go.Proofs.YticefdfhcahlfaaGreatDoor.AM
open Go.RowKit
set_option maxRecDepth 100000
set_option linter.unusedVariables false
set_option linter.unusedSimpArgs false
structure RN {β:Type} (S:St) (r tc k:Nat) (c:Option Nat) (res:Except Nat (β×List UInt8)) (σ:St) (st:RSt) (G:Prs β) (cells:List AVal):Prop where
  sr:SR σ r st c
  tr:Tr res st G
  cell:σ.mem.get tc=some (.cells k cells)
  next:σ.next=S.next
  keep:∀ a,a≠r→a≠tc→σ.mem.get a=S.mem.get a
  ne:tc≠r
  nc:c≠some tc
section
variable {β:Type} {S:St} {r tc w:Nat} {c:Option Nat} {res:Except Nat (β×List UInt8)} {σ:St} {st:RSt} {cells:List AVal}
theorem RN.step {G G':Prs β} (R:RN S r tc w c res σ st G cells) {st':RSt} {σ2:St} (h:SR σ2 r st' c) (hn:σ2.next=σ.next) (hm:∀ a,a≠r→σ2.mem.get a=σ.mem.get a) (ht:Tr res st' G') (cells':List AVal):RN S r tc w c res ⟨σ2.mem.set tc (.cells w cells'),σ2.next⟩ st' G' cells' :=
  ⟨h.keep (Nat.le_refl _) fun a _ hac=>by
    have:a≠tc := by
      rcases hac with rfl | hac
      · exact Ne.symm R.ne
      · exact fun e=>R.nc (by rw [hac,e])
    simp [this],ht,by simp,hn.trans R.next,fun a h1 h2=>by simp [h2]; exact (hm a h1).trans (R.keep a h1 h2),R.ne,R.nc⟩
theorem rn_num {k:Nat} {F:Nat→Prs β} (R:RN S r tc w c res σ st (pB (pNum k) F) cells) (hk:k≤8) (Q:AVal→St→Prop)
    (hQ:∀ n st' σ2,n<256 ^ k→σ2.mem.get tc=some (.cells w cells)→(∀ cells',RN S r tc w c res ⟨σ2.mem.set tc (.cells w cells'),σ2.next⟩ st' (F n) cells')→Q (.int .u64 (n:Nat)) σ2):ACall Tryz.prog 34 [.ptr r 0,.int .i64 (k:Int)] σ Q :=
  snum_c R.sr hk Q fun σ2 h1 h2 h3=>hQ _ _ σ2 (sNum_lt k st) ((h3 tc R.ne).trans R.cell) (R.step h1 h2 h3 R.tr.num)
theorem rn_num0 {k:Nat} {F:Nat→Prs β} (R:RN S r tc w c res σ st (pB (pNum k) F) cells) (hk:k≤8) (Q:AVal→St→Prop)
    (hQ:∀ n st' σ2,n<256 ^ k→RN S r tc w c res σ2 st' (F n) cells→Q (.int .u64 (n:Nat)) σ2):ACall Tryz.prog 34 [.ptr r 0,.int .i64 (k:Int)] σ Q :=
  snum_c R.sr hk Q fun σ2 h1 h2 h3=>hQ _ _ σ2 (sNum_lt k st) ⟨h1,R.tr.num,(h3 tc R.ne).trans R.cell,h2.trans R.next,fun a h1 h2=>(h3 a h1).trans (R.keep a h1 h2),R.ne,R.nc⟩
theorem rn_flag {F:Bool→Prs β} (R:RN S r tc w c res σ st (pB pFlag F) cells) (Q:AVal→St→Prop)
    (hQ:∀ y st' σ2,σ2.mem.get tc=some (.cells w cells)→(∀ cells',RN S r tc w c res ⟨σ2.mem.set tc (.cells w cells'),σ2.next⟩ st' (F y) cells')→Q (.bool y) σ2):ACall Tryz.prog 35 [.ptr r 0] σ Q :=
  rflag_c R.sr Q fun σ2 h1 h2 h3=>hQ _ _ σ2 ((h3 tc R.ne).trans R.cell) (R.step h1 h2 h3 R.tr.flag)
end
end Go.Proofs.YticefdfhcahlfaaGreatDoor.AM

namespace Go.Proofs.YticefdfhcahlfaaGreatDoor.AM
open Go.RowKit
set_option maxRecDepth 100000
set_option linter.unusedVariables false
set_option linter.unusedSimpArgs false
def IntsOf (v:AVal) (xs:List Int):Prop := v=.nilsl∧xs=[]∨∃ t,v=.isl (xs.map fun z=>.int .i64 z) xs.length t
theorem IntsOf.len {v:AVal} {xs:List Int} (h:IntsOf v xs) (ρ:St):evalV ρ (.len 1 v)=some (i64 xs.length,ρ) := by
  rcases h with ⟨rfl,rfl⟩ | ⟨t,rfl⟩ <;> simp
theorem IntsOf.at {v:AVal} {xs:List Int} (h:IntsOf v xs) {i:Nat} {z:Int} (hx:xs[i]?=some z):∃ p,(∀ ρ,evalV ρ (.idxAddr 1 v (.int .i64 (i:Int)))=some (p,ρ))∧∀ ρ,evalV ρ (.ld1 p)=some (.int .i64 z,ρ) := by
  rcases h with ⟨rfl,rfl⟩ | ⟨t,rfl⟩
  · simp at hx
  · have hi := (List.getElem?_eq_some_iff.1 hx).1
    refine ⟨_,fun ρ=>by simp [hi]; rfl,fun ρ=>?_⟩
    have:((xs.map fun z=>AVal.int .i64 z).drop i).take 1=[.int .i64 z] := by
      rw [← List.map_drop,← List.map_take,List.drop_eq_getElem_cons hi,(List.getElem?_eq_some_iff.1 hx).2]; simp
    simp [this]
theorem bytesV_set (L:List UInt8) (k:Nat) (y:UInt8):(bytesV L).set k (.int .u8 (y.toNat:Int))=bytesV (L.set k y) := by
  rw [bytesV,bytesV,List.map_set]
theorem shl8u (r:Nat):∃ s:Int,ashift .shl .u8 1 (r:Int)=some (.int .u8 s) := by
  have h1:¬ ((r:Int)<0) := by omega
  simp only [ashift,if_neg h1]
  exact ⟨_,rfl⟩
theorem xor8u (a b:Int):∃ y:UInt8,abits .xor .u8 a b=some (.int .u8 (y.toNat:Int)) := by
  simp only [abits]
  refine ⟨UInt8.ofNat (BitVec.ofInt IntKind.u8.bits a ^^^ BitVec.ofInt IntKind.u8.bits b).toNat,?_⟩
  congr 2
def TB (lo:Nat) (σ:St) (v:AVal) (n:Nat):Prop := ∃ o cap t L,v=.sl o 0 n cap t∧o<σ.next∧lo≤o∧σ.mem.get o=some (.cells 1 (bytesV L))∧n≤cap∧n≤L.length
def TuJ (av bv:AVal) (N:Nat) (S:St) (mm:Nat) (rg:Regs) (σ':St):Prop := ∃ (i n:Nat) (v:AVal),mm=4 - i∧i≤4∧n≤N∧TB S.next σ' v n∧Grow S σ'∧rg=[(1,av),(2,bv),(7,v),(8,i64 i)]
set_option maxHeartbeats 1000000 in
theorem turned_c {σ:St} {b av bv:AVal} {l bl:List UInt8} {c:Option Nat} {xs:List Int} (hb:RdB σ b l c) (ha:IntsOf av xs) (hc:BytesOf bv bl) (hl:l.length≤100000) (Q:AVal→St→Prop)
    (hQ:∀ v l' c' σ',RdB σ' v l' c'→l'.length≤l.length→(∀ y,c'=some y→σ.next≤y)→Grow σ σ'→Q v σ'):ACall Tryz.prog 8 [b,av,bv] σ Q := by
  refine ACall.of_compF hmx (fun a w=>Tryz.call8 a w) Tryz.func8 cf8 (n := 3) (by decide) rfl ?_
  obtain ⟨o1,o2⟩ := hb.one
  have halen := ha.len
  have hblen := hc.len
  obtain ⟨S1,hS1⟩:∃ S1:St,S1=⟨σ.mem.set σ.next (.cells 1 []),σ.next+1⟩ := ⟨_,rfl⟩
  have nS1:S1.next=σ.next+1 := by rw [hS1]
  have kS1:∀ a,a<σ.next→S1.mem.get a=σ.mem.get a := fun a ha=>by rw [hS1]; simp [show ¬ a=σ.next by omega]
  have hsrc := (hb.keep (σ' := S1) (by omega) fun a ha _=>kS1 a ha).src
  have g0:GS rwB S1 (.sl σ.next 0 0 0 true) [] (some σ.next) := .inr ⟨σ.next,true,rfl,rfl,by omega,by rw [hS1]; simp [rwsB,bytesV]⟩
  obtain ⟨v',σ2,b',e1,e2,e3,e4,e5⟩ := gs_appN g0 (by_ := 1) (by decide) hsrc (by simp; omega) (by simp; omega)
  rw [hS1] at e1
  simp [ac8,rs8,lk_cons,repL,fillL,↓e1]
  have hlo:∀ y,b'=some y→σ.next≤y := fun y hy=>by rcases e3 with e | e <;> rw [e] at hy <;> cases hy <;> omega
  obtain ⟨o,ho⟩:∃ o,b'=some o := by rcases e3 with e | e <;> exact ⟨_,e⟩
  have g2:Grow σ σ2 := ⟨by omega,fun a ha=>(e5 a (by omega) (fun e=>by cases e; omega)).trans (kS1 a ha)⟩
  simp only [List.nil_append] at e2
  have tb:TB σ.next σ2 v' l.length := by
    rcases e2 with ⟨_,_,h⟩ | ⟨o2,t,h1,h2,h3,h4⟩
    · rw [h] at ho; cases ho
    · exact ⟨o2,_,t,l,h2,h3,hlo _ h1,by rw [h4,rwsB],Nat.le_refl _,Nat.le_refl _⟩
  refine wp_loop (TuJ av bv l.length σ) 4 ?_ ?_
  · exact ⟨0,l.length,v',rfl,by omega,Nat.le_refl _,tb,g2,by simp [lk_cons]⟩
  rintro mm rg σ3 ⟨i,n,v,rfl,hi,hn,⟨o,cap,t,L,rfl,ho,hol,hm,hnc,hnL⟩,g3,rfl⟩
  have gl:(bytesV L).length=L.length := bytesV_len L
  by_cases hgo:i<xs.length∧i<bl.length∧i<4∧0<n
  · obtain ⟨c1,c2,c3,c4⟩ := hgo
    have c1':(i:Int)<xs.length := by omega
    have c2':(i:Int)<bl.length := by omega
    have c3':(i:Int)<4 := by omega
    have c4':(0:Int)<n := by omega
    obtain ⟨z,hz⟩:∃ z,xs[i]?=some z := ⟨_,List.getElem?_eq_getElem c1⟩
    obtain ⟨y,hy⟩:∃ y,bl[i]?=some y := ⟨_,List.getElem?_eq_getElem c2⟩
    obtain ⟨p,p1,p2⟩ := ha.at hz
    obtain ⟨q,q1,q2⟩ := (RdB.ofI hc σ3).at hy rfl
    have q2 := q2 σ3 (by simp)
    obtain ⟨w,hw⟩:∃ w:Nat,IntKind.u64.wrap z=(w:Int)∧w<18446744073709551616 := by
      refine ⟨(IntKind.u64.wrap z).toNat,?_,?_⟩ <;> (simp only [IntKind.wrap,IntKind.bits,IntKind.signed]; simp; omega)
    have w0:IntKind.u64.wrap (n:Int)=n := by rw [IntWalk.u64_in] <;> omega
    have w1:IntKind.i64.wrap ((i:Int)+1)=((i+1:Nat):Int) := by rw [IntWalk.i64_in] <;> omega
    have n0:¬ n=0 := by omega
    obtain ⟨k,hk⟩:∃ k,w % n=k := ⟨_,rfl⟩
    have hkn:k<n := by rw [← hk]; exact Nat.mod_lt _ c4
    have tm:(w:Int).tmod n=(k:Int) := by rw [← hk]; exact (Int.ofNat_tmod w n).symm
    have wk:IntKind.i64.wrap (k:Int)=k := by rw [IntWalk.i64_in] <;> omega
    have wk1:IntKind.i64.wrap ((k:Int)+1)=((k+1:Nat):Int) := by rw [IntWalk.i64_in] <;> omega
    obtain ⟨r,hr⟩:∃ r,y.toNat % 9=r := ⟨_,rfl⟩
    have hr9:r<9 := by rw [← hr]; exact Nat.mod_lt _ (by decide)
    have tr:(y.toNat:Int).tmod 9=(r:Int) := by rw [← hr]; exact (Int.ofNat_tmod y.toNat 9).symm
    obtain ⟨x,hx⟩:∃ x,L[k]?=some x := ⟨_,List.getElem?_eq_getElem (by omega)⟩
    have hbx:(bytesV L)[k]?=some (.int .u8 (x.toNat:Int)) := by simp [bytesV,hx]
    have kc1:k≤cap := by omega
    have kc2:k+1≤n := by omega
    have e9:((k:Int)+1).toNat=k+1 := by omega
    have e10:(0:Int)≤(k:Int)+1 := by omega
    obtain ⟨s,hs⟩ := shl8u r
    obtain ⟨y2,hy2⟩ := xor8u (x.toNat:Int) s
    have hkL:k<L.length := by omega
    have hkL1:k+1≤L.length := by omega
    have hkL2:k≤L.length := by omega
    have hb2:(bytesV L)[k]'(by rw [gl]; exact hkL)=.int .u8 (x.toNat:Int) := by rw [List.getElem?_eq_getElem (by rw [gl]; exact hkL)] at hbx; exact Option.some.inj hbx
    have mo:∀ σ':St,Grow σ3 σ'→Grow σ σ' := fun σ' h=>g3.trans h
    by_cases h8:r=8
    · subst h8
      by_cases hz0:n - (k+1)=0
      · simp [lk_cons,↓halen,↓hblen,c1,c1',c2,c2',c3,c3',c4,c4',↓p1,↓p2,↓q1,↓q2,hw.1,w0,n0,tm,wk,wk1,tr,asliceSl,bnd,optM,kc1,kc2,hm,e9,e10,hnc,srcL,gl,hz0,hkL,hkL1,hkL2,storeL,w1]
        have gW:∀ B:Blk,Grow σ ⟨σ3.mem.set o B,σ3.next⟩ := fun B=>⟨g3.1,fun a ha=>by simp [show ¬ a=o by omega]; exact g3.2 a ha⟩
        exact ⟨4 - (i+1),by omega,i+1,k,_,rfl,by omega,by omega,⟨o,k,true,L,rfl,ho,hol,by simp,Nat.le_refl _,hkL2⟩,gW _,rfl⟩
      · have hz1:¬ k+(n - (k+1))≤k := by omega
        have hz2:k+(n - (k+1))≤140737488355328 := by omega
        have hz3:k+(n - (k+1))≤9223372036854775807 := by omega
        simp [lk_cons,↓halen,↓hblen,c1,c1',c2,c2',c3,c3',c4,c4',↓p1,↓p2,↓q1,↓q2,hw.1,w0,n0,tm,wk,wk1,tr,asliceSl,bnd,optM,kc1,kc2,hm,e9,e10,hnc,hnL,srcL,gl,hz0,hz1,hz2,hz3,hkL,hkL1,hkL2,w1]
        refine ⟨4 - (i+1),by omega,i+1,_,_,rfl,by omega,by omega,⟨σ3.next,_,false,L.take k++(L.drop (k+1)).take (n - (k+1)),rfl,Nat.lt_succ_self _,g3.1,?_,Nat.le_refl _,?_⟩,mo _ ⟨Nat.le_succ _,fun a ha=>by simp [show ¬ a=σ3.next by omega]⟩,rfl⟩
        · simp [bytesV,List.map_take,List.map_drop]
        · simp; omega
    · have h8':¬ (r:Int)=8 := by omega
      simp [lk_cons,↓halen,↓hblen,c1,c1',c2,c2',c3,c3',c4,c4',↓p1,↓p2,↓q1,↓q2,hw.1,w0,n0,tm,wk,wk1,tr,h8,h8',hkn,hm,hb2,hs,hy2,storeL,gl,hkL,hkL1,w1]
      have gW:∀ B:Blk,Grow σ ⟨σ3.mem.set o B,σ3.next⟩ := fun B=>⟨g3.1,fun a ha=>by simp [show ¬ a=o by omega]; exact g3.2 a ha⟩
      refine ⟨4 - (i+1),by omega,i+1,n,_,rfl,by omega,hn,⟨o,cap,t,L.set k y2,rfl,ho,hol,?_,hnc,by simp; exact hnL⟩,gW _,rfl⟩
      simp [bytesV_set]
  have hfin:Q (.sl o 0 n cap t) σ3 := by
    refine hQ _ (L.take n) (some o) σ3 (.inr ⟨o,0,cap,t,bytesV L,rfl,by simp; omega,by simp; omega,ho,hm,by simp [gl]; omega,?_⟩) (by simp; omega) (fun y hy=>by cases hy; exact hol) g3
    simp [bytesV,List.map_take,Nat.min_eq_left hnL]
  by_cases c1:i<xs.length
  · have c1':(i:Int)<xs.length := by omega
    by_cases c2:i<bl.length
    · have c2':(i:Int)<bl.length := by omega
      by_cases c3:i<4
      · have c3':(i:Int)<4 := by omega
        have:n=0 := by omega
        subst this
        simp [lk_cons,↓halen,↓hblen,c1,c1',c2,c2',c3,c3']
        exact hfin
      · have c3':¬ (i:Int)<4 := by omega
        simp [lk_cons,↓halen,↓hblen,c1,c1',c2,c2',c3,c3']
        exact hfin
    · have c2':¬ (i:Int)<bl.length := by omega
      simp [lk_cons,↓halen,↓hblen,c1,c1',c2,c2']
      exact hfin
  · have c1':¬ (i:Int)<xs.length := by omega
    simp [lk_cons,↓halen,↓hblen,c1,c1']
    exact hfin
end Go.Proofs.YticefdfhcahlfaaGreatDoor.AM

namespace Go.Proofs.YticefdfhcahlfaaGreatDoor.AM
open Go.RowKit
set_option maxRecDepth 100000
set_option linter.unusedVariables false
set_option linter.unusedSimpArgs false
theorem rep_bytes (k:Nat):repL k [.int .u8 0]=bytesV (List.replicate k 0) := by
  simp only [repL,bytesV,List.map_replicate]
  rw [show ((0:UInt8).toNat:Int)=0 from rfl]
  induction k with
  | zero=>rfl
  | succ k ih=>rw [List.replicate_succ,List.flatten_cons,ih,List.replicate_succ]; rfl
theorem mk_str (m:Mem) (a N k:Nat) (h:a<N) (z:List UInt8) (hz:List.replicate k 0=z):evalV ⟨m.set a (.cells 1 (repL k [.int .u8 0])),N⟩ (.bytesStr (.sl a 0 k k true))=some (.str ⟨z.toArray⟩,⟨m.set a (.cells 1 (repL k [.int .u8 0])),N⟩) := by
  have hl:z.length=k := by rw [← hz]; simp
  refine (RdB.ofGS (b := some a) (.inr ⟨a,true,rfl,by rw [hl],h,?_⟩)).str
  rw [rwsB,rep_bytes,hz]; simp
theorem awake {σ:St} (Q:AVal→St→Prop) (hQ:∀ σ',Grow σ σ'→Q (.bool true) σ'):ACall Tryz.prog 4 [] σ Q := by
  refine ACall.of_compF hmx (fun a w=>Tryz.call4 a w) Tryz.func4 cf4 (n := 0) (by decide) rfl ?_
  simp [ac4,rs4,lk_cons,fillL]
  refine enc0_c _ fun v b σ1 h1 g1=>?_
  simp [lk_cons,fillL]
  refine tell0_c _ ?_
  generalize h74:List.replicate 74 (0:UInt8)=z74
  generalize h19:List.replicate 19 (0:UInt8)=z19 at h1
  have l74:z74.length=74 := by rw [← h74]; rfl
  simp [lk_cons,fillL,storeL,repL]
  obtain ⟨S,hS⟩:∃ S:St,S=⟨σ1.mem.set σ1.next (.cells 1 [.int .u8 1]),σ1.next+1⟩ := ⟨_,rfl⟩
  have nS:S.next=σ1.next+1 := by rw [hS]
  have gS:Grow σ1 S := ⟨by omega,fun a ha=>by rw [hS]; simp [show ¬ a=σ1.next by omega]⟩
  have hb:RdB S (.sl σ1.next 0 1 1 true) [1] (some σ1.next) := RdB.ofGS (.inr ⟨σ1.next,true,rfl,rfl,by omega,by rw [hS]; simp [rwsB,bytesV]⟩)
  rw [← hS]
  refine hear1_c hb _ fun σ2 g2=>?_
  have g02 := g1.trans (gS.trans g2)
  have h2 := h1.keep (gS.trans g2).1 fun a ha _=>(gS.trans g2).2 a ha
  have hv:∀ A B:Blk,evalV ⟨(σ2.mem.set σ2.next A).set σ2.next B,σ2.next+1⟩ (.bytesStr v)=some (.str ⟨z19.toArray⟩,⟨(σ2.mem.set σ2.next A).set σ2.next B,σ2.next+1⟩) := fun A B=>(RdB.ofGS (h2.keep (σ' := ⟨(σ2.mem.set σ2.next A).set σ2.next B,σ2.next+1⟩) (by simp) fun a ha _=>by simp [show ¬ a=σ2.next by omega])).str
  have m19:∀ m:Mem,_ := fun m=>mk_str m (σ2.next+1) (σ2.next+1+1) 19 (by omega) z19 h19
  have m74:∀ m:Mem,_ := fun m=>mk_str m (σ2.next+1+1) (σ2.next+1+1+1) 74 (by omega) z74 h74
  have b74:∀ ρ:St,evalV ρ (.bytesStr (.isl (bytesV z74) 74 false))=some (.str ⟨z74.toArray⟩,ρ) := fun ρ=>(RdB.ofI (.inr ⟨false,by rw [l74]⟩) ρ).str
  simp [lk_cons,noteCs,fillL,storeL,↓hv,↓m19,↓m74,↓b74,strEq]
  exact hQ _ (g02.trans ⟨by simp; omega,fun a ha=>by simp [show ¬ a=σ2.next by omega,show ¬ a=σ2.next+1 by omega,show ¬ a=σ2.next+1+1 by omega]⟩)
end Go.Proofs.YticefdfhcahlfaaGreatDoor.AM



namespace Go.Proofs.YticefdfhcahlfaaGreatDoor.AM
open Go.RowKit
set_option maxRecDepth 100000
set_option linter.unusedVariables false
set_option linter.unusedSimpArgs false
theorem be_cons (x:UInt8) (l:List UInt8):be (x :: l)=x.toNat*256 ^ l.length+be l := by
  have gen:∀ (l:List UInt8) (a:Nat),l.foldl (fun a b=>a*256+b.toNat) a=a*256 ^ l.length+be l := by
    intro l
    induction l with
    | nil=>intro a; simp [be]
    | cons y l ih =>
      intro a
      simp only [be,List.foldl_cons,List.length_cons] at ih ⊢
      rw [ih,ih (0*256+y.toNat),Nat.pow_succ]
      rw [Nat.add_mul,Nat.add_mul,Nat.mul_assoc,Nat.mul_comm 256]
      omega
  have := gen l (0*256+x.toNat)
  simpa [be] using this
theorem be_beN (n:Nat):∀ k,be (beN k n)=n % 256 ^ k
  | 0=>by simp [beN,be,Nat.mod_one]
  | k+1=>by
    rw [beN,be_cons,beN_len,be_beN n k,Nat.pow_succ]
    have h1:(UInt8.ofNat (n / 256 ^ k)).toNat=n / 256 ^ k % 256 := by simp
    rw [h1,Nat.mod_mul,Nat.add_comm,Nat.mul_comm]
end Go.Proofs.YticefdfhcahlfaaGreatDoor.AM



namespace Go.Proofs.YticefdfhcahlfaaGreatDoor.AM
open Go.RowKit
set_option maxRecDepth 100000
set_option linter.unusedVariables false
set_option linter.unusedSimpArgs false
def U8Arg (x:List AVal):Prop := ∃ n,x=[.int .u8 n]∧(Lit.int .u8 n).wf=true
def U64Arg (x:List AVal):Prop := ∃ n,x=[.int .u64 n]∧(Lit.int .u64 n).wf=true
def I64Arg (x:List AVal):Prop := ∃ n,x=[.int .i64 n]∧(Lit.int .i64 n).wf=true
def StrArg (x:List AVal):Prop := ∃ s:ByteArray,x=[.str s]∧s.size≤140737488351232
def PairArg (x:List AVal):Prop := (fun x=>∃ a b,x=a++b∧U64Arg a∧U64Arg b) x
def IntsArg (b:List AVal):Prop := b=[.nilsl]∨∃ xs:List (List AVal),b=[.isl xs.flatten xs.length false]∧(∀ x∈xs,x.length=1∧I64Arg x)∧xs.length≤9223372036854775807∧xs.length*8≤140737488351232
theorem intsArg {v:AVal} (h:IntsArg [v]):∃ xs,IntsOf v xs := by
  rcases h with h | ⟨xs,h,hx,_⟩
  · cases h; exact ⟨[],.inl ⟨rfl,rfl⟩⟩
  · cases h
    have:∀ xs:List (List AVal),(∀ x∈xs,x.length=1∧I64Arg x)→∃ l:List Int,xs.flatten=(l.map fun z=>.int .i64 z)∧l.length=xs.length := by
      intro xs
      induction xs with
      | nil=>intro _; exact ⟨[],rfl,rfl⟩
      | cons x xs ih =>
        intro h
        obtain ⟨l,h1,h2⟩ := ih (fun y hy=>h y (by simp [hy]))
        obtain ⟨n,rfl,_⟩ := (h x (by simp)).2
        exact ⟨n :: l,by simp [h1],by simp [h2]⟩
    obtain ⟨l,h1,h2⟩ := this xs hx
    exact ⟨l,.inr ⟨false,by rw [h1,h2]⟩⟩
end Go.Proofs.YticefdfhcahlfaaGreatDoor.AM

namespace Go.Proofs.YticefdfhcahlfaaGreatDoor.AM
set_option maxRecDepth 100000
set_option linter.unusedVariables false
set_option linter.unusedSimpArgs false
theorem frz_sl {lo n o len cap es:Nat} {t:Bool} {m:Mem} {vals:List AVal} (hn:lo≤n) (hm:m.get n=some (.cells es vals)) (hl:o+len*es≤vals.length) (hu:uptoL lo vals=true):frz lo m (.sl n o len cap t)=some (.isl ((vals.drop o).take (len*es)) len (t && decide (cap=len))) := by
  simp only [frz,frz1]
  rw [if_neg (by omega),hm]
  simp only
  rw [if_pos ⟨hl,hu⟩]
theorem uptoL_app (lo:Nat):∀ a b:List AVal,uptoL lo (a++b)=(uptoL lo a && uptoL lo b)
  | [],b=>by simp [uptoL]
  | x :: a,b=>by simp [uptoL,uptoL_app lo a b,Bool.and_assoc]
def rc:List S25→List AVal
  | []=>[]
  | x :: t=>u64 x.f0 :: u64 x.f1 :: rc t
theorem rc_len:∀ l:List S25,(rc l).length=l.length*2
  | []=>rfl
  | x :: t=>by simp [rc,rc_len t]; omega
theorem rc_drop:∀ (l:List S25) (i:Nat),(rc l).drop (i*2)=rc (l.drop i)
  | [],i=>by simp [rc]
  | x :: t,0=>by simp [rc]
  | x :: t,i+1=>by rw [show (i+1)*2=i*2+1+1 by omega]; simp [rc,rc_drop t i]
theorem rc_app:∀ (l m:List S25),rc (l++m)=rc l++rc m
  | [],m=>rfl
  | x :: t,m=>by simp [rc,rc_app t m]
theorem rc_upto (lo:Nat):∀ l:List S25,uptoL lo (rc l)=true
  | []=>rfl
  | x :: t=>by simp [rc,rc_upto lo t]
theorem rc_get {l:List S25} {i:Nat} {x:S25} (h:l[i]?=some x):((rc l).drop (i*2)).take 2=[u64 x.f0,u64 x.f1] := by
  have hi := (List.getElem?_eq_some_iff.1 h).1
  rw [rc_drop,List.drop_eq_getElem_cons hi,(List.getElem?_eq_some_iff.1 h).2]
  simp [rc]
def RgI (v:AVal) (l:List S25):Prop := v=.nilsl∧l=[]∨∃ t,v=.isl (rc l) l.length t
def RgM (σ:St) (v:AVal) (l:List S25):Prop := RgI v l∨∃ a o c t vals,v=.sl a o l.length c t∧l.length≤c∧a<σ.next∧σ.mem.get a=some (.cells 2 vals)∧o+l.length*2≤vals.length∧(vals.drop o).take (l.length*2)=rc l
theorem RgI.m {v:AVal} {l:List S25} (h:RgI v l) (σ:St):RgM σ v l := .inl h
theorem RgM.len {σ:St} {v:AVal} {l:List S25} (h:RgM σ v l) (ρ:St):evalV ρ (.len 1 v)=some (i64 l.length,ρ) := by
  rcases h with (⟨rfl,rfl⟩ | ⟨t,rfl⟩) | ⟨a,o,c,t,vals,rfl,_⟩ <;> simp
theorem RgM.frame {σ σ':St} {v:AVal} {l:List S25} (h:RgM σ v l) (hn:σ.next≤σ'.next) (hm:∀ a,a<σ.next→σ'.mem.get a=σ.mem.get a):RgM σ' v l := by
  rcases h with h | ⟨a,o,c,t,vals,h1,h2,h3,h4,h5⟩
  · exact .inl h
  · exact .inr ⟨a,o,c,t,vals,h1,h2,by omega,(hm a h3).trans h4,h5⟩
theorem RgM.src {σ:St} {v:AVal} {l:List S25} (h:RgM σ v l) {ρ:St} (hm:∀ a,a<σ.next→ρ.mem.get a=σ.mem.get a):srcL ρ 2 v=some (rc l,l.length) := by
  rcases h with (⟨rfl,rfl⟩ | ⟨t,rfl⟩) | ⟨a,o,c,t,vals,rfl,h2,h3,h4,h5,h6⟩
  · rfl
  · simp [srcL,rc_len]
  · simp [srcL,hm a h3,h4,h5,h6]
theorem sl_get {vals:List AVal} {o:Nat} {l:List S25} {i:Nat} {x:S25} (h5:o+l.length*2≤vals.length) (h6:(vals.drop o).take (l.length*2)=rc l) (h:l[i]?=some x) :
    vals[o+i*2]?=some (u64 x.f0)∧vals[o+i*2+1]?=some (u64 x.f1)∧o+i*2+2≤vals.length∧(vals.drop (o+i*2)).take 2=[u64 x.f0,u64 x.f1] := by
  have hi := (List.getElem?_eq_some_iff.1 h).1
  have hg := rc_get h
  have hd:(vals.drop (o+i*2)).take 2=[u64 x.f0,u64 x.f1] := by
    rw [← hg,← h6,List.drop_take,List.drop_drop,List.take_take]
    congr 1; omega
  have e0:vals[o+i*2]?=((vals.drop (o+i*2)).take 2)[0]? := by simp
  have e1:vals[o+i*2+1]?=((vals.drop (o+i*2)).take 2)[1]? := by simp
  exact ⟨by rw [e0,hd]; rfl,by rw [e1,hd]; rfl,by omega,hd⟩
end Go.Proofs.YticefdfhcahlfaaGreatDoor.AM

namespace Go.Proofs.YticefdfhcahlfaaGreatDoor.AM
set_option maxRecDepth 100000
set_option linter.unusedVariables false
set_option linter.unusedSimpArgs false
theorem frz_rc {lo:Nat} {m:Mem} {b:Nat} {l:List S25} {c:Nat} {t:Bool} {rest:List AVal} (hb:lo≤b) (hm:m.get b=some (.cells 2 (rc l++rest))) (hr:uptoL lo rest=true):∃ v',frz lo m (.sl b 0 l.length c t)=some v'∧RgI v' l := by
  have h := frz_sl (o := 0) (len := l.length) (cap := c) (t := t) hb hm (by rw [List.length_append,rc_len]; omega) (by rw [uptoL_app,rc_upto,hr]; rfl)
  rw [List.drop_zero,List.take_append_of_le_length (by rw [rc_len]; omega),List.take_of_length_le (by rw [rc_len]; omega)] at h
  exact ⟨_,h,.inr ⟨_,rfl⟩⟩
end Go.Proofs.YticefdfhcahlfaaGreatDoor.AM


namespace Go.Proofs.YticefdfhcahlfaaGreatDoor.AM
set_option maxRecDepth 100000
set_option linter.unusedVariables false
set_option linter.unusedSimpArgs false
def Out (lo:Nat) (σ':St) (v:AVal) (l:List S25):Prop := v=.nilsl∧l=[]∨∃ o,v=.sl o 0 l.length l.length false∧0<l.length∧lo≤o∧o<σ'.next∧σ'.mem.get o=some (.cells 2 (rc l))
theorem Out.frz {lo lo':Nat} {σ':St} {v:AVal} {l:List S25} (h:Out lo σ' v l) (hl:lo'≤lo):∃ v',frz lo' σ'.mem v=some v'∧RgI v' l := by
  rcases h with ⟨rfl,rfl⟩ | ⟨o,rfl,h0,h1,h2,h3⟩
  · exact ⟨.nilsl,rfl,.inl ⟨rfl,rfl⟩⟩
  · exact frz_rc (rest := []) (Nat.le_trans hl h1) (by simpa using h3) rfl
theorem RgM.at {σ:St} {v:AVal} {l:List S25} (hv:RgM σ v l) {i:Nat} {x:S25} (hx:l[i]?=some x) {ρ:St} (hm:∀ a,a<σ.next→ρ.mem.get a=σ.mem.get a) :
    ∃ p,evalV ρ (.idxAddr 2 v (i64 i))=some (p,ρ)∧evalV ρ (.ldn 2 p)=some (.agg [u64 x.f0,u64 x.f1],ρ)∧(∃ q,evalV ρ (.fieldAddr 0 p)=some (q,ρ)∧evalV ρ (.ld1 q)=some (u64 x.f0,ρ))∧∃ q,evalV ρ (.fieldAddr 1 p)=some (q,ρ)∧evalV ρ (.ld1 q)=some (u64 x.f1,ρ) := by
  have hi := (List.getElem?_eq_some_iff.1 hx).1
  rcases hv with (⟨rfl,rfl⟩ | ⟨t,rfl⟩) | ⟨a,o,c,t,vals,rfl,c2,c3,c4,c5,c6⟩
  · simp at hx
  · have e1 := rc_get hx
    exact ⟨.iptr [u64 x.f0,u64 x.f1],by simp [hi,e1],by simp,⟨.iptr [u64 x.f0,u64 x.f1],by simp,by simp⟩,⟨.iptr [u64 x.f1],by simp,by simp⟩⟩
  · obtain ⟨e1,e2,e3,e4⟩ := sl_get c5 c6 hx
    have ga := (hm a c3).trans c4
    exact ⟨.ptr a (o+i*2),by simp [hi],by simp [ga,e3,e4],⟨.ptr a (o+i*2),by simp,by simp [ga,e1]⟩,⟨.ptr a (o+i*2+1),by simp,by simp [ga,e2]⟩⟩
end Go.Proofs.YticefdfhcahlfaaGreatDoor.AM

namespace Go.Proofs.YticefdfhcahlfaaGreatDoor.AM
set_option maxRecDepth 100000
set_option linter.unusedVariables false
set_option linter.unusedSimpArgs false
def SamJ (v w:AVal) (l m:List S25) (σ0:St) (mm:Nat) (rg:Regs) (σ':St):Prop := ∃ i:Nat,mm=l.length - i∧i≤l.length∧l.take i=m.take i∧σ'=σ0∧rg=[(0,v),(1,w),(5,i64 i)]
def InJr (v:AVal) (n:Int) (l:List S25) (σ0:St) (mm:Nat) (rg:Regs) (σ':St):Prop := ∃ i:Nat,mm=l.length - i∧i≤l.length∧inB (l.take i) n=false∧σ'=σ0∧rg=[(0,v),(1,u64 n),(5,i64 i)]
theorem rin_c {σ:St} {v:AVal} {l:List S25} (hv:RgM σ v l) (n:Int) (hl:l.length≤100000) (Q:AVal→St→Prop) (h:Q (.bool (inB l n)) σ):ACall Tryz.prog 84 [v,u64 n] σ Q := by
  refine ACall.of_compF hmx (fun a w=>Tryz.call84 a w) Tryz.func84 cf84 (n := 2) (by decide) rfl ?_
  have l1 := hv.len
  simp [ac84,rs84,lk_cons]
  refine wp_loop (InJr v n l σ) l.length ?_ ?_
  · exact ⟨0,rfl,Nat.zero_le _,rfl,rfl,rfl⟩
  · rintro mm rg σ' ⟨i,rfl,hi,hp,rfl,rfl⟩
    by_cases hlt:i<l.length
    · obtain ⟨x,hx⟩:∃ x,l[i]?=some x := ⟨_,List.getElem?_eq_getElem hlt⟩
      obtain ⟨k,hk⟩:∃ k,i+1=k := ⟨_,rfl⟩
      have w1:IntKind.i64.wrap ((i:Int)+1)=(k:Int) := by rw [IntWalk.i64_in] <;> omega
      obtain ⟨p,p1,_,⟨q0,a1,a2⟩,⟨q1,b1,b2⟩⟩ := hv.at hx (ρ := σ') fun _ _=>rfl
      have hst:inB (l.take k) n=decide (x.f0≤n∧n<x.f1) := by
        rw [inB] at hp
        rw [← hk,List.take_add_one,hx,inB,List.any_append,hp]; simp
      by_cases h1:x.f0≤n
      · by_cases h2:n<x.f1
        · have:inB l n=true := by rw [inB,List.any_eq_true]; exact ⟨x,List.mem_of_getElem? hx,by simp [h1,h2]⟩
          rw [this] at h
          simp [lk_cons,↓l1,hlt,↓p1,↓a1,↓a2,↓b1,↓b2,h1,h2]
          exact h
        · simp [lk_cons,↓l1,hlt,↓p1,↓a1,↓a2,↓b1,↓b2,h1,h2,w1]
          exact ⟨l.length - k,by omega,k,rfl,by omega,by rw [hst]; simp [h2],rfl,rfl⟩
      · simp [lk_cons,↓l1,hlt,↓p1,↓a1,↓a2,h1,w1]
        exact ⟨l.length - k,by omega,k,rfl,by omega,by rw [hst]; simp [h1],rfl,rfl⟩
    · have:i=l.length := by omega
      subst this
      rw [List.take_length] at hp
      rw [hp] at h
      simp [lk_cons,↓l1]
      exact h
def nc (ns:List Int):List AVal := ns.map u64
def NI (v:AVal) (ns:List Int):Prop := v=.nilsl∧ns=[]∨∃ t,v=.isl (nc ns) ns.length t
theorem nc_len (ns:List Int):(nc ns).length=ns.length := by simp [nc]
theorem nc_upto (lo:Nat):∀ ns:List Int,uptoL lo (nc ns)=true
  | []=>rfl
  | x :: t=>by have := nc_upto lo t; simp [nc] at this ⊢; exact this
theorem NI.len {v:AVal} {ns:List Int} (h:NI v ns) (ρ:St):evalV ρ (.len 1 v)=some (i64 ns.length,ρ) := by
  rcases h with ⟨rfl,rfl⟩ | ⟨t,rfl⟩ <;> simp
theorem NI.at {v:AVal} {ns:List Int} (h:NI v ns) {i:Nat} {y:Int} (hy:ns[i]?=some y) (ρ:St):∃ p,evalV ρ (.idxAddr 1 v (i64 i))=some (p,ρ)∧evalV ρ (.ld1 p)=some (u64 y,ρ) := by
  have hi := (List.getElem?_eq_some_iff.1 hy).1
  rcases h with ⟨rfl,rfl⟩ | ⟨t,rfl⟩
  · simp at hy
  · have:((nc ns).drop i).take 1=[u64 y] := by
      rw [nc,← List.map_drop,List.drop_eq_getElem_cons hi,(List.getElem?_eq_some_iff.1 hy).2]; rfl
    exact ⟨.iptr [u64 y],by simp [hi,this],by simp⟩
theorem putM_split (e:Int):∀ (l:List Int) (i:Nat),i≤l.length→(∀ y∈l.take i,y<e)→(∀ y,l[i]?=some y→¬ y<e)→putM e l=l.take i++putM e (l.drop i)
  | l,0,_,_,_=>by simp
  | [],i+1,h,_,_=>by simp at h
  | y :: t,i+1,h,h1,h2=>by
    have hy:y<e := h1 y (by simp)
    conv=>lhs; unfold putM
    rw [if_pos hy,putM_split e t i (by simpa using h) (fun z hz=>h1 z (by simp [hz])) (fun z hz=>h2 z (by simpa using hz))]
    simp
def PutJ (v:AVal) (e:Int) (l:List Int) (σ0:St) (mm:Nat) (rg:Regs) (σ':St):Prop := ∃ i:Nat,mm=l.length - i∧i≤l.length∧(∀ y∈l.take i,y<e)∧σ'=σ0∧rg=[(0,v),(1,u64 e),(5,i64 i)]
theorem frz_nc {lo lo':Nat} {m:Mem} {b:Nat} {l:List Int} {c:Nat} {t:Bool} (hb:lo≤b) (hm:m.get b=some (.cells 1 (nc l))):∃ v',frz lo m (.sl b 0 l.length c t)=some v'∧NI v' l := by
  have h := frz_sl (o := 0) (len := l.length) (cap := c) (t := t) hb hm (by rw [nc_len]; omega) (nc_upto _ l)
  rw [List.drop_zero,List.take_of_length_le (by rw [nc_len]; omega)] at h
  exact ⟨_,h,.inr ⟨_,rfl⟩⟩
theorem put_c (σ:St) {v:AVal} {l:List Int} (hv:NI v l) (e:Int) (hl:l.length≤100000) (Q:AVal→St→Prop) (h:∀ v',NI v' (putM e l)→Q v' σ):ACall Tryz.prog 92 [v,u64 e] σ Q := by
  refine ACall.freeze ?_
  refine ACall.of_compF hmx (fun a w=>Tryz.call92 a w) Tryz.func92 cf92 (n := 2) (by decide) rfl ?_
  have l1 := hv.len
  simp [ac92,rs92,lk_cons]
  refine wp_loop (PutJ v e l σ) l.length ?_ ?_
  · exact ⟨0,rfl,Nat.zero_le _,by simp,rfl,rfl⟩
  · rintro mm rg σ' ⟨i,rfl,hi,hp,rfl,rfl⟩
    by_cases hlt:i<l.length
    · obtain ⟨y,hy⟩:∃ y,l[i]?=some y := ⟨_,List.getElem?_eq_getElem hlt⟩
      have hye:l[i]=y := (List.getElem?_eq_some_iff.1 hy).2
      obtain ⟨k,hk⟩:∃ k,i+1=k := ⟨_,rfl⟩
      have w1:IntKind.i64.wrap ((i:Int)+1)=(k:Int) := by rw [IntWalk.i64_in] <;> omega
      obtain ⟨p,p1,p2⟩ := hv.at hy σ'
      by_cases h1:y<e
      · simp [lk_cons,↓l1,hlt,↓p1,↓p2,h1,w1]
        refine ⟨l.length - k,by omega,k,rfl,by omega,fun z hz=>?_,rfl,rfl⟩
        rw [← hk,List.take_add_one,hy] at hz
        rcases List.mem_append.1 hz with hz | hz
        · exact hp z hz
        · simp at hz; subst hz; exact h1
      · have hsp := putM_split e l i hi hp fun z hz=>by rw [hy] at hz; cases hz; exact h1
        have hdr:l.drop i=y :: l.drop k := by rw [List.drop_eq_getElem_cons hlt,hye,hk]
        by_cases h2:y=e
        · have:putM e l=l := by
            rw [hsp,hdr]; conv=>lhs; unfold putM
            rw [if_neg h1,if_pos h2,← hdr,List.take_append_drop]
          rw [this] at h
          simp [lk_cons,↓l1,hlt,↓p1,↓p2,h1,h2]
          refine ⟨fun a ha=>rfl,?_⟩
          rcases hv with ⟨rfl,_⟩ | ⟨t,rfl⟩
          · exact ⟨_,rfl,h _ (.inl ⟨rfl,by assumption⟩)⟩
          · exact ⟨_,by simp only [frz,frz1]; simp [nc_upto],h _ (.inr ⟨t,rfl⟩)⟩
        · have hpm:putM e l=l.take i++e :: l.drop i := by
            rw [hsp,hdr]; conv=>lhs; unfold putM
            rw [if_neg h1,if_neg h2]
          rw [hpm] at h
          rcases hv with ⟨rfl,rfl⟩ | ⟨t,rfl⟩
          · simp at hy
          have hc1:¬ l.length - i=0 := by omega
          have fin:∀ (nb:Nat) (σ'':St) (kk:Nat),Old σ' σ''→σ'.next≤nb→σ''.mem.get nb=some (.cells 1 (nc (l.take i++e :: l.drop i)))→kk=(l.take i++e :: l.drop i).length→Old σ' σ''∧∃ v',frz σ'.next σ''.mem (.sl nb 0 kk kk false)=some v'∧Q v' σ' := by
            intro nb σ'' kk a1 a2 a3 a5
            subst a5
            obtain ⟨v',f1,f2⟩ := frz_nc (lo' := 0) (c := (l.take i++e :: l.drop i).length) (t := false) a2 a3
            exact ⟨a1,v',f1,h v' f2⟩
          have hi8:i*8≤140737488355328∧i≤9223372036854775807 := by omega
          have hc8:(i+1)*8≤140737488355328∧i+1≤9223372036854775807 := by omega
          have hd8:(i+1+(l.length - i))*8≤140737488355328∧i+1+(l.length - i)≤9223372036854775807 := by omega
          simp [lk_cons,↓l1,hlt,↓p1,↓p2,h1,h2,optM,asliceSl,bnd,hi,fillL,repL,srcL,storeL,nc_len,hc1]
          by_cases hi0:i=0
          · have hc9:¬ 1+l.length≤1 := by omega
            have hd9:(1+l.length)*8≤140737488355328∧1+l.length≤9223372036854775807 := by omega
            have E1:AVal.int .u64 e :: List.take l.length (nc l)=nc (l.take i++e :: l.drop i) := by
              rw [List.take_of_length_le (show (nc l).length≤l.length by rw [nc_len]; omega),hi0]; simp [nc]
            simp [lk_cons,hi0,fillL,repL,srcL,storeL,optM,asliceSl,bnd,nc_len,hc9,hd9]
            refine fin (σ'.next+1+1+1) _ _ (fun a ha=>by simp [show ¬ a=σ'.next by omega,show ¬ a=σ'.next+1 by omega,show ¬ a=σ'.next+1+1 by omega,show ¬ a=σ'.next+1+1+1 by omega,show ¬ a=σ'.next+1+1+1+1 by omega]) (by omega) (by rw [← E1]; simp) (by simp; omega)
          · have k1:¬ i+1≤i := by omega
            have k2:¬ i+1+(l.length - i)≤i+1 := by omega
            have k3:(nc l).length=l.length := nc_len l
            have k4:min i l.length=i := by omega
            have k5:((nc l).take i).length=i := by rw [List.length_take,k3,k4]
            have E2:List.take (i+1) (List.take i (List.take i (nc l))++[AVal.int .u64 e])++List.take (l.length - i) (List.drop i (nc l))=nc (l.take i++e :: l.drop i) := by
              rw [List.take_take,Nat.min_self,List.take_of_length_le (show ((nc l).take i++[AVal.int .u64 e]).length≤i+1 by simp [k3,k4]),List.take_of_length_le (show ((nc l).drop i).length≤l.length - i by simp [k3])]
              simp [nc]
            simp [lk_cons,hi0,hi8,hc8,hd8,fillL,repL,srcL,storeL,optM,asliceSl,bnd,nc_len,hi,k1,k2,k4,hc1]
            refine fin (σ'.next+1+1+1+1) _ _ (fun a ha=>by simp [show ¬ a=σ'.next by omega,show ¬ a=σ'.next+1 by omega,show ¬ a=σ'.next+1+1 by omega,show ¬ a=σ'.next+1+1+1 by omega,show ¬ a=σ'.next+1+1+1+1 by omega]) (by omega) (by rw [← E2]; simp) (by simp; omega)
    · have hiN:i=l.length := by omega
      subst hiN
      have hpm:putM e l=l++[e] := by
        have := putM_split e l l.length (Nat.le_refl _) hp (fun y hy=>by simp at hy)
        rw [this]; simp [putM]
      rw [hpm] at h
      have fin:∀ (nb:Nat) (σ'':St) (kk cc:Nat) (t:Bool),Old σ' σ''→σ'.next≤nb→σ''.mem.get nb=some (.cells 1 (nc (l++[e])))→kk=(l++[e]).length→Old σ' σ''∧∃ v',frz σ'.next σ''.mem (.sl nb 0 kk cc t)=some v'∧Q v' σ' := by
        intro nb σ'' kk cc t a1 a2 a3 a5
        subst a5
        obtain ⟨v',f1,f2⟩ := frz_nc (lo' := 0) (c := cc) (t := t) a2 a3
        exact ⟨a1,v',f1,h v' f2⟩
      have hi8:l.length*8≤140737488355328∧l.length≤9223372036854775807 := by omega
      have hc8:(l.length+1)*8≤140737488355328∧l.length+1≤9223372036854775807 := by omega
      have k3:(nc l).length=l.length := nc_len l
      have k1:¬ l.length+1≤l.length := by omega
      rcases hv with ⟨rfl,rfl⟩ | ⟨t,rfl⟩
      · simp [lk_cons,optM,asliceSl,bnd,fillL,repL,srcL,storeL,nc_len]
        exact fin (σ'.next+1+1) _ 1 1 false (fun a ha=>by simp [show ¬ a=σ'.next by omega,show ¬ a=σ'.next+1 by omega,show ¬ a=σ'.next+1+1 by omega]) (by omega) (by simp [nc]) (by simp)
      · by_cases hi0:l.length=0
        · have hl0 := List.length_eq_zero_iff.1 hi0
          subst hl0
          simp [lk_cons,optM,asliceSl,bnd,fillL,repL,srcL,storeL,nc_len,nc]
          exact fin (σ'.next+1+1) _ 1 1 false (fun a ha=>by simp [show ¬ a=σ'.next by omega,show ¬ a=σ'.next+1 by omega,show ¬ a=σ'.next+1+1 by omega]) (by omega) (by simp [nc]) (by simp)
        · have E3:List.take l.length (List.take l.length (nc l))++[AVal.int .u64 e]=nc (l++[e]) := by
            rw [List.take_take,Nat.min_self,List.take_of_length_le (show (nc l).length≤l.length by rw [nc_len]; omega)]; simp [nc]
          simp [lk_cons,optM,asliceSl,bnd,fillL,repL,srcL,storeL,k3,hi0,hi8,hc8,k1]
          exact fin (σ'.next+1+1+1) _ _ _ false (fun a ha=>by simp [show ¬ a=σ'.next by omega,show ¬ a=σ'.next+1 by omega,show ¬ a=σ'.next+1+1 by omega,show ¬ a=σ'.next+1+1+1 by omega]) (by omega) (by rw [← E3]; simp) (by simp)
end Go.Proofs.YticefdfhcahlfaaGreatDoor.AM

namespace Go.Proofs.YticefdfhcahlfaaGreatDoor.AM
set_option maxRecDepth 100000
set_option linter.unusedVariables false
set_option linter.unusedSimpArgs false
theorem putM_len (e:Int):∀ l:List Int,(putM e l).length≤l.length+1
  | []=>by simp [putM]
  | y :: t=>by
    have := putM_len e t
    unfold putM
    split
    · simp; omega
    · split <;> simp
def EndJ (v:AVal) (l:List S25) (σ0:St) (mm:Nat) (rg:Regs) (σ':St):Prop := ∃ (i:Nat) (ov:AVal) (acc:List Int),mm=l.length - i∧i≤l.length∧NI ov acc∧endsM l []=endsM (l.drop i) acc∧acc.length≤2*i∧σ'=σ0∧rg=[(0,v),(3,ov),(4,i64 i)]
theorem ends_c {σ:St} {v:AVal} {l:List S25} (hv:RgM σ v l) (hl:l.length≤10000) (Q:AVal→St→Prop) (h:∀ v',NI v' (endsM l [])→Q v' σ):ACall Tryz.prog 83 [v] σ Q := by
  refine ACall.of_compF hmx (fun a w=>Tryz.call83 a w) Tryz.func83 cf83 (n := 1) (by decide) rfl ?_
  have l1 := hv.len
  simp [ac83,rs83,lk_cons]
  refine wp_loop (EndJ v l σ) l.length ?_ ?_
  · exact ⟨0,.nilsl,[],rfl,Nat.zero_le _,.inl ⟨rfl,rfl⟩,rfl,Nat.zero_le _,rfl,rfl⟩
  · rintro mm rg σ' ⟨i,ov,acc,rfl,hi,ho,he,hal,rfl,rfl⟩
    by_cases hlt:i<l.length
    · obtain ⟨x,hx⟩:∃ x,l[i]?=some x := ⟨_,List.getElem?_eq_getElem hlt⟩
      have hdr:l.drop i=x :: l.drop (i+1) := by rw [List.drop_eq_getElem_cons hlt,(List.getElem?_eq_some_iff.1 hx).2]
      obtain ⟨k,hk⟩:∃ k,i+1=k := ⟨_,rfl⟩
      have w1:IntKind.i64.wrap ((i:Int)+1)=(k:Int) := by rw [IntWalk.i64_in] <;> omega
      obtain ⟨p,p1,_,⟨q0,a1,a2⟩,⟨q1,b1,b2⟩⟩ := hv.at hx (ρ := σ') fun _ _=>rfl
      have g1 := putM_len x.f0 acc
      simp [lk_cons,↓l1,hlt,↓p1,↓a1,↓a2,↓b1,↓b2]
      refine put_c σ' ho x.f0 (by omega) _ fun v1 hv1=>?_
      simp [lk_cons,↓p1,↓b1,↓b2]
      refine put_c σ' hv1 x.f1 (by omega) _ fun v2 hv2=>?_
      have g2 := putM_len x.f1 (putM x.f0 acc)
      simp [lk_cons,w1]
      exact ⟨l.length - k,by omega,k,v2,_,rfl,by omega,hv2,by rw [he,hdr,hk]; rfl,by omega,rfl,rfl⟩
    · have hiN:i=l.length := by omega
      subst hiN
      rw [List.drop_length] at he
      simp [lk_cons,↓l1]
      exact h _ (he ▸ ho)
def rset (x y:List S25):List S25 := setM x y [] (endsM (x++y) [])
theorem rset_spec {x y:List S25} (hx:∀ z∈x,0≤z.f0∧0≤z.f1∧z.f1≤18446744073709551615) (hy:∀ z∈y,0≤z.f0∧0≤z.f1):GoodR (rset x y)∧(∀ n,InP (rset x y) n↔InP x n∧¬ InP y n)∧(rset x y).length≤2*(x.length+y.length)∧(endsM (x++y) []).length≤2*(x.length+y.length) := by
  have hp:∀ z∈x++y,0≤z.f0∧0≤z.f1 := fun z hz=>by
    rcases List.mem_append.1 hz with h | h
    · exact ⟨(hx z h).1,(hx z h).2.1⟩
    · exact hy z h
  obtain ⟨e1,e2,e3⟩ := ends_spec (x++y) [] hp trivial
  simp only [List.length_append,List.length_nil] at e3
  have mx:∀ z∈x,z.f0∈endsM (x++y) []∧z.f1∈endsM (x++y) [] := fun z hz=>⟨(e2 _).2 (.inr ⟨z,List.mem_append.2 (.inl hz),.inl rfl⟩),(e2 _).2 (.inr ⟨z,List.mem_append.2 (.inl hz),.inr rfl⟩)⟩
  have my:∀ z∈y,z.f0∈endsM (x++y) []∧z.f1∈endsM (x++y) [] := fun z hz=>⟨(e2 _).2 (.inr ⟨z,List.mem_append.2 (.inr hz),.inl rfl⟩),(e2 _).2 (.inr ⟨z,List.mem_append.2 (.inr hz),.inr rfl⟩)⟩
  have key:Can (-1) (setM x y [] (endsM (x++y) []))∧(∀ n,InP (setM x y [] (endsM (x++y) [])) n↔InP x n∧¬ InP y n)∧(setM x y [] (endsM (x++y) [])).length≤2*(x.length+y.length) := by
    cases he:endsM (x++y) [] with
    | nil =>
      rw [he] at mx
      have hx0:x=[] := by
        cases x with
        | nil=>rfl
        | cons z t=>exact absurd (mx z List.mem_cons_self).1 List.not_mem_nil
      subst hx0
      exact ⟨trivial,fun n=>by simp [setM,InP],by simp [setM]⟩
    | cons a t =>
      rw [he] at mx my e1 e3
      obtain ⟨r1,r2,r3⟩ := set_spec mx my t a [] e1.2 (by have := e1.1; omega) (fun m hm=>by
        rcases List.mem_cons.1 hm with rfl | h
        · exact .inl (Int.le_refl _)
        · exact .inr h) trivial (fun z hz=>absurd hz List.not_mem_nil) (fun n=>by
        constructor
        · exact fun h=>absurd h (in_nil n)
        · rintro ⟨h1,⟨z,hz,h2,h3⟩,_⟩
          have hm := (mx z hz).1
          rcases List.mem_cons.1 hm with h | h
          · omega
          · have := inc_mem e1.2 _ h; omega)
      refine ⟨r1,r2,?_⟩
      simp only [List.length_cons,List.length_nil] at e3 r3
      omega
  refine ⟨⟨key.1,fun n hn=>?_⟩,key.2.1,key.2.2,by omega⟩
  obtain ⟨z,hz,h1,h2⟩ := ((key.2.1 n).1 hn).1
  have := hx z hz
  omega
def SetJ (v w ev:AVal) (x y:List S25) (e:List Int) (σ0:St) (mm:Nat) (rg:Regs) (σ':St):Prop := ∃ (i:Nat) (ov:AVal) (acc:List S25),mm=e.length - i∧i≤e.length∧Grow σ0 σ'∧Out σ0.next σ' ov acc∧acc.length≤i∧setM x y [] e=setM x y acc (e.drop i)∧rg=[(0,v),(1,w),(5,ev),(6,ov),(7,i64 i)]
theorem Out.len {lo:Nat} {σ:St} {v:AVal} {l:List S25} (h:Out lo σ v l) (ρ:St):evalV ρ (.len 1 v)=some (i64 l.length,ρ) := by
  rcases h with ⟨rfl,rfl⟩ | ⟨o,rfl,_⟩ <;> simp
theorem rc_at {l:List S25} {i:Nat} {x:S25} (h:l[i]?=some x):(rc l)[i*2+1]?=some (u64 x.f1) := by
  have hg := rc_get h
  have e1:(rc l)[i*2+1]?=(((rc l).drop (i*2)).take 2)[1]? := by simp
  rw [e1,hg]; rfl
theorem rc_last (m:List S25) (z:S25) (c:Int):(rc (m++[z])).set (m.length*2+1) (u64 c)=rc (m++[⟨z.f0,c⟩]) := by
  rw [rc_app,rc_app,← rc_len m]
  rw [List.set_append_right _ _ (by omega)]
  congr 1
  simp [rc]
theorem set_step (x y acc:List S25) (a c:Int) (t:List Int):setM x y acc (a :: c :: t)=setM x y (if keepB x y a=true then pushM acc a c else acc) (c :: t) := rfl
set_option maxHeartbeats 2000000 in
theorem rgset_c {σ:St} {v w:AVal} {x y:List S25} (hv:RgM σ v x) (hw:RgM σ w y) (hlx:x.length+y.length≤1000) (hx:∀ z∈x,0≤z.f0∧0≤z.f1∧z.f1≤18446744073709551615) (hy:∀ z∈y,0≤z.f0∧0≤z.f1) (Q:AVal→St→Prop) (h:∀ v',RgI v' (rset x y)→Q v' σ):ACall Tryz.prog 63 [v,w] σ Q := by
  refine ACall.freeze ?_
  refine ACall.of_compF hmx (fun a w=>Tryz.call63 a w) Tryz.func63 cf63 (n := 2) (by decide) rfl ?_
  obtain ⟨_,_,_,hel⟩ := rset_spec hx hy
  obtain ⟨e,he⟩:∃ e,endsM (x++y) []=e := ⟨_,rfl⟩
  rw [he] at hel
  rw [rset,he] at h
  have main:∀ (σ1:St) (ev:AVal),Grow σ σ1→NI ev e→SetJ v w ev x y e σ e.length [(0,v),(1,w),(5,ev),(6,.nilsl),(7,i64 0)] σ1 := fun σ1 ev hg hev=>⟨0,.nilsl,[],rfl,Nat.zero_le _,hg,.inl ⟨rfl,rfl⟩,Nat.zero_le _,rfl,rfl⟩
  have sx:∀ ρ:St,(∀ a,a<σ.next→ρ.mem.get a=σ.mem.get a)→srcL ρ 2 v=some (rc x,x.length) := fun ρ hρ=>hv.src hρ
  have sy:∀ ρ:St,(∀ a,a<σ.next→ρ.mem.get a=σ.mem.get a)→srcL ρ 2 w=some (rc y,y.length) := fun ρ hρ=>hw.src hρ
  have hb1:x.length*16≤140737488355328∧x.length≤9223372036854775807 := by omega
  have hb2:y.length*16≤140737488355328∧y.length≤9223372036854775807 := by omega
  have hb3:(x.length+y.length)*16≤140737488355328∧x.length+y.length≤9223372036854775807 := by omega
  have s1 := sx ⟨σ.mem.set σ.next (.cells 2 []),σ.next+1⟩ fun a ha=>by simp [show ¬ a=σ.next by omega]
  have u1:¬ σ.next+1=σ.next+1+1 := by omega
  have g0:∀ (b1 b2:Blk),Grow σ ⟨(σ.mem.set σ.next b1).set σ.next b2,σ.next+1⟩ := fun b1 b2=>⟨by simp,fun a ha=>by simp [show ¬ a=σ.next by omega]⟩
  have g1:∀ (b1 b2:Blk),Grow σ ⟨(σ.mem.set σ.next b1).set (σ.next+1) b2,σ.next+1+1⟩ := fun b1 b2=>⟨by simp; omega,fun a ha=>by simp [show ¬ a=σ.next by omega,show ¬ a=σ.next+1 by omega]⟩
  have hl2:(x++y).length≤10000 := by simp; omega
  rcases Nat.eq_zero_or_pos x.length with hx0 | hx0 <;> rcases Nat.eq_zero_or_pos y.length with hy0 | hy0
  case' inl.inl =>
    have hxn := List.length_eq_zero_iff.1 hx0
    have hyn := List.length_eq_zero_iff.1 hy0
    have s2 := sy ⟨(σ.mem.set σ.next (.cells 2 [])).set σ.next (.cells 2 (storeL [] 0 (rc x))),σ.next+1⟩ fun a ha=>by simp [show ¬ a=σ.next by omega]
    simp [ac63,rs63,lk_cons,fillL,repL,s1,hx0,s2,hy0,hyn]
    refine ends_c (l := x++y) (.inr ⟨σ.next,0,0,true,[],by rw [hxn,hyn]; rfl,by rw [hxn,hyn]; simp,by simp,by simp [hxn,hyn,rc,storeL],by rw [hxn,hyn]; simp,by rw [hxn,hyn]; simp [rc]⟩) hl2 _ fun ev hev=>?_
    rw [he] at hev
    simp [lk_cons]
    refine wp_loop _ _ (main _ ev ?_ hev) ?_
    focus exact ⟨by simp,fun a ha=>by simp [show ¬ a=σ.next by omega]⟩
  case' inl.inr =>
    replace hy0:¬ y.length=0 := by omega
    have hxn := List.length_eq_zero_iff.1 hx0
    have hyn:¬ y=[] := fun e=>hy0 (by rw [e]; rfl)
    have s2 := sy ⟨(σ.mem.set σ.next (.cells 2 [])).set σ.next (.cells 2 (storeL [] 0 (rc x))),σ.next+1⟩ fun a ha=>by simp [show ¬ a=σ.next by omega]
    simp [ac63,rs63,lk_cons,fillL,repL,s1,hx0,s2,hy0,hyn,hb2]
    refine ends_c (l := x++y) (.inr ⟨σ.next+1,0,y.length,false,rc y,by rw [hxn]; rfl,by rw [hxn]; simp,by simp,by simp,by rw [hxn]; simp [rc_len],by rw [hxn]; simp [List.take_of_length_le (show (rc y).length≤y.length*2 by rw [rc_len]; omega)]⟩) hl2 _ fun ev hev=>?_
    rw [he] at hev
    simp [lk_cons]
    refine wp_loop _ _ (main _ ev ?_ hev) ?_
    focus exact ⟨by simp; omega,fun a ha=>by simp [show ¬ a=σ.next by omega,show ¬ a=σ.next+1 by omega]⟩
  case' inr.inl =>
    replace hx0:¬ x.length=0 := by omega
    have hyn := List.length_eq_zero_iff.1 hy0
    have s2 := sy ⟨(σ.mem.set σ.next (.cells 2 [])).set (σ.next+1) (.cells 2 (rc x)),σ.next+1+1⟩ fun a ha=>by simp [show ¬ a=σ.next by omega,show ¬ a=σ.next+1 by omega]
    have k1:x.length*2≤(rc x).length := by rw [rc_len]; omega
    simp [ac63,rs63,lk_cons,fillL,repL,s1,hx0,s2,hb1,hy0,k1]
    refine ends_c (l := x++y) (.inr ⟨σ.next+1,0,x.length,false,rc x,by simp [hyn],by simp [hyn],by simp,by simp [hyn,rc,storeL],by rw [hyn]; simp [rc_len],by rw [hyn]; simp [List.take_of_length_le (show (rc x).length≤x.length*2 by rw [rc_len]; omega)]⟩) hl2 _ fun ev hev=>?_
    rw [he] at hev
    simp [lk_cons]
    refine wp_loop _ _ (main _ ev ?_ hev) ?_
    focus exact ⟨by simp; omega,fun a ha=>by simp [show ¬ a=σ.next by omega,show ¬ a=σ.next+1 by omega]⟩
  case' inr.inr =>
    replace hx0:¬ x.length=0 := by omega
    replace hy0:¬ y.length=0 := by omega
    have s2 := sy ⟨(σ.mem.set σ.next (.cells 2 [])).set (σ.next+1) (.cells 2 (rc x)),σ.next+1+1⟩ fun a ha=>by simp [show ¬ a=σ.next by omega,show ¬ a=σ.next+1 by omega]
    have k1:x.length*2≤(rc x).length := by rw [rc_len]; omega
    have k2:¬ x.length+y.length≤x.length := by omega
    have k3:¬ y=[] := fun e=>hy0 (by rw [e]; rfl)
    have k4:(rc x).take (x.length*2)=rc x := List.take_of_length_le (by rw [rc_len]; omega)
    simp [ac63,rs63,lk_cons,fillL,repL,s1,hx0,s2,hb1,hy0,k1,k2,k3,hb3,k4]
    refine ends_c (l := x++y) (.inr ⟨σ.next+1+1,0,x.length+y.length,false,rc x++rc y,by rw [List.length_append],by rw [List.length_append]; exact Nat.le_refl _,by simp,by simp,by rw [List.length_append,List.length_append,rc_len,rc_len]; omega,by rw [rc_app]; simp [List.take_of_length_le (show (rc x++rc y).length≤(x.length+y.length)*2 by simp [rc_len]; omega)]⟩) hl2 _ fun ev hev=>?_
    rw [he] at hev
    simp [lk_cons]
    refine wp_loop _ _ (main _ ev ?_ hev) ?_
    focus exact ⟨by simp; omega,fun a ha=>by simp [show ¬ a=σ.next by omega,show ¬ a=σ.next+1 by omega,show ¬ a=σ.next+1+1 by omega]⟩
  all_goals
    clear s2 s1 u1 g0 g1
    rintro mm rg σ' ⟨i,ov,acc,rfl,hi,hg,ho,hal,hse,rfl⟩
    have l1 := hev.len
    have l2 := ho.len
    obtain ⟨k,hk⟩:∃ k,i+1=k := ⟨_,rfl⟩
    have w1:IntKind.i64.wrap ((i:Int)+1)=(k:Int) := by rw [IntWalk.i64_in] <;> omega
    have hvr:RgM σ' v x := hv.frame hg.1 hg.2
    have hwr:RgM σ' w y := hw.frame hg.1 hg.2
    by_cases hlt:k<e.length
    · obtain ⟨a,ha⟩:∃ a,e[i]?=some a := ⟨_,List.getElem?_eq_getElem (by omega)⟩
      obtain ⟨c,hc⟩:∃ c,e[k]?=some c := ⟨_,List.getElem?_eq_getElem hlt⟩
      obtain ⟨p,p1,p2⟩ := hev.at ha σ'
      obtain ⟨q,q1,q2⟩ := hev.at hc σ'
      have hd1:e.drop i=a :: e.drop k := by rw [List.drop_eq_getElem_cons (by omega),(List.getElem?_eq_some_iff.1 ha).2,hk]
      have hd2:e.drop k=c :: e.drop (k+1) := by rw [List.drop_eq_getElem_cons hlt,(List.getElem?_eq_some_iff.1 hc).2]
      rw [hd1,hd2,set_step,← hd2] at hse
      have skip:keepB x y a=false→∃ m',m'<e.length - i∧SetJ v w ev x y e σ m' [(0,v),(1,w),(5,ev),(6,ov),(7,i64 k)] σ' := fun hkb=>by
        rw [hkb] at hse
        exact ⟨e.length - k,by omega,k,ov,acc,rfl,by omega,hg,ho,by omega,hse,rfl⟩
      simp [lk_cons,↓l1,w1,hlt,↓p1,↓p2]
      refine rin_c hvr a (by omega) _ ?_
      cases hbx:inB x a with
      | false =>
        simp [lk_cons,w1]
        exact skip (by simp [keepB,hbx])
      | true =>
        simp [lk_cons,↓p1,↓p2]
        refine rin_c hwr a (by omega) _ ?_
        cases hby:inB y a with
        | true =>
          simp [lk_cons,w1]
          exact skip (by simp [keepB,hby])
        | false =>
          have hkb:keepB x y a=true := by simp [keepB,hbx,hby]
          rw [hkb,if_pos rfl] at hse
          rcases List.eq_nil_or_concat acc with rfl | ⟨m,z,rfl⟩
          · rcases ho with ⟨rfl,_⟩ | ⟨o,rfl,h0,_⟩
            · simp [lk_cons,↓l1,w1,↓p1,↓p2,↓q1,↓q2,fillL,repL,srcL,storeL]
              exact ⟨e.length - k,by omega,k,_,[⟨a,c⟩],rfl,by omega,⟨by have := hg.1; simp; omega,fun b hb=>by have := hg.1; simp [show ¬ b=σ'.next by omega,show ¬ b=σ'.next+1 by omega]; exact hg.2 b hb⟩,.inr ⟨σ'.next+1,rfl,by simp,by have := hg.1; omega,by simp,by simp [rc]⟩,by simp; omega,by rw [hse,push_nil],rfl⟩
            · simp at h0
          · rw [List.concat_eq_append] at *
            rcases ho with ⟨_,h0⟩ | ⟨o,rfl,h0,h1,h2,h3⟩
            · simp at h0
            · have hzz:(m++[z])[m.length]?=some z := by simp
              have hz1 := rc_at hzz
              have hl1:(m++[z]).length=m.length+1 := by simp
              have w2:IntKind.i64.wrap (((m++[z]).length:Int) - 1)=(m.length:Int) := by rw [IntWalk.i64_in] <;> omega
              have hg1 := hg.1
              have w3:IntKind.i64.wrap (((m.length+1:Nat):Int) - 1)=(m.length:Int) := by rw [IntWalk.i64_in] <;> omega
              rw [hl1] at l2 hal
              have w4:(0:Int)<((m.length+1:Nat):Int) := by omega
              have hlt3:(m.length:Int)<((m.length+1:Nat):Int) := by omega
              have hrl:m.length*2+1<(rc (m++[z])).length := by rw [rc_len,hl1]; omega
              have hl3:m.length<m.length+1 := by omega
              have i2 := push_snoc m z a c
              have w5:IntKind.i64.wrap (m.length:Int)=(m.length:Int) := by rw [IntWalk.i64_in] <;> omega
              obtain ⟨hz2,hz3⟩ := List.getElem?_eq_some_iff.1 hz1
              have w7:m.length*2+1+1≤(rc (m++[z])).length := by rw [rc_len,hl1]; omega
              have w6:(m.length:Int)<(m.length:Int)+1 := by omega
              by_cases hza:z.f1=a
              · rw [if_pos hza] at i2
                rw [i2] at hse
                have hlast := rc_last m z c
                simp [lk_cons,↓l1,↓l2,w1,w5,w6,↓p1,↓p2,↓q1,↓q2,fillL,repL,srcL,storeL,h3,hz1,hz3,hza,hl1,hlast,hrl,w7]
                exact ⟨e.length - k,by omega,k,_,m++[⟨z.f0,c⟩],rfl,by omega,⟨hg1,fun b hb=>by simp [show ¬ b=o by omega]; exact hg.2 b hb⟩,.inr ⟨o,by simp,by simp,h1,h2,by simp⟩,by simp; omega,hse,rfl⟩
              · rw [if_neg hza] at i2
                have kk1:¬ m.length+1+1≤m.length+1 := by omega
                have kk2:(m.length+1)*2≤(rc (m++[z])).length := by rw [rc_len,hl1]; omega
                have kk3:(m.length+1+1)*16≤140737488355328∧m.length+1+1≤9223372036854775807 := by omega
                have kk4:(rc (m++[z])).take ((m.length+1)*2)=rc (m++[z]) := List.take_of_length_le (by rw [rc_len,hl1]; omega)
                have kk5:m.length≤9223372036854775805 := by omega
                have kk6:¬ o=σ'.next := by omega
                rw [i2] at hse
                simp [lk_cons,↓l1,↓l2,w1,w5,w6,↓p1,↓p2,↓q1,↓q2,fillL,repL,srcL,storeL,h3,hz1,hz3,hza,hl1,kk1,kk2,kk3,kk4,kk5,kk6,Ne.symm kk6]
                exact ⟨e.length - k,by omega,k,_,m++[z]++[⟨a,c⟩],rfl,by omega,⟨by simp; omega,fun b hb=>by simp [show ¬ b=σ'.next by omega,show ¬ b=σ'.next+1 by omega,show ¬ b=o by omega]; exact hg.2 b hb⟩,.inr ⟨σ'.next+1,by simp,by simp,by omega,by simp,by rw [rc_app (m++[z])]; simp [rc]⟩,by simp; omega,hse,rfl⟩
    · have hsd:setM x y acc (e.drop i)=acc := by
        cases hd:e.drop i with
        | nil=>rfl
        | cons a t =>
          have:t=[] := List.eq_nil_of_length_eq_zero (by have := congrArg List.length hd; simp at this; omega)
          subst this; rfl
      rw [hsd] at hse
      obtain ⟨v',f1,f2⟩ := ho.frz (Nat.le_refl _)
      simp [lk_cons,↓l1,w1,hlt]
      exact ⟨fun a ha=>hg.2 a ha,v',f1,h v' (hse ▸ f2)⟩
end Go.Proofs.YticefdfhcahlfaaGreatDoor.AM



namespace Go.Proofs.YticefdfhcahlfaaGreatDoor.AM
set_option linter.unusedVariables false
set_option linter.unusedSimpArgs false
structure Ld where
  f0:Int
  f1:Bool
  f2:Int
deriving DecidableEq
structure Hd where
  f0:Int
  f1:List S25
deriving DecidableEq
def RisingP (l:List Ld):Prop := l.Pairwise fun x y=>x.f0<y.f0
def cmpM (a b:Int):Int := if a<b then -1 else if a > b then 1 else 0
def ordM (al ae bl be:Int):Int := if cmpM al bl=0 then cmpM ae be else cmpM al bl
def ofM (L:Int):List Hd→List S25
  | []=>[]
  | x :: t=>if x.f0=L then x.f1 else ofM L t
def HOk:Int→List Hd→Prop
  | _,[]=>True
  | b,x :: t=>b<x.f0∧GoodR x.f1∧x.f1≠[]∧HOk x.f0 t
theorem hok_mem:∀ {l:List Hd} {b:Int},HOk b l→∀ x∈l,b<x.f0∧GoodR x.f1∧x.f1≠[]
  | [],_,_,_,h=>absurd h List.not_mem_nil
  | y :: t,b,hc,x,h=>by
    obtain ⟨h1,h2,h3,h4⟩ := hc
    rcases List.mem_cons.1 h with rfl | h
    · exact ⟨h1,h2,h3⟩
    · have := hok_mem h4 x h
      exact ⟨by omega,this.2⟩
theorem hok_snoc:∀ {m:List Hd} {b:Int} {z:Hd},HOk b m→(∀ w∈m,w.f0<z.f0)→b<z.f0→GoodR z.f1→z.f1≠[]→HOk b (m++[z])
  | [],_,_,_,_,h1,h2,h3=>⟨h1,h2,h3,trivial⟩
  | x :: t,b,z,hc,hw,h1,h2,h3=>⟨hc.1,hc.2.1,hc.2.2.1,hok_snoc hc.2.2.2 (fun w h=>hw w (List.mem_cons_of_mem _ h)) (hw x List.mem_cons_self) h2 h3⟩
theorem of_snoc (L:Int) (z:Hd):∀ m:List Hd,(∀ w∈m,w.f0<z.f0)→ofM L (m++[z])=if z.f0=L then z.f1 else ofM L m
  | [],_=>rfl
  | x :: t,h=>by
    have hx := h x List.mem_cons_self
    show (if x.f0=L then x.f1 else ofM L (t++[z]))=if z.f0=L then z.f1 else (if x.f0=L then x.f1 else ofM L t)
    rw [of_snoc L z t fun w hw=>h w (List.mem_cons_of_mem _ hw)]
    by_cases h1:x.f0=L
    · rw [if_pos h1,if_pos h1,if_neg (by omega)]
    · rw [if_neg h1,if_neg h1]
def COk (pl pe:Int) (h:List Hd):Prop := HOk (-1) h∧(∀ x∈h,x.f0≤18446744073709551615)∧∀ L n,InP (ofM L h) n→pl<L∨(L=pl∧pe≤n)
end Go.Proofs.YticefdfhcahlfaaGreatDoor.AM

namespace Go.Proofs.YticefdfhcahlfaaGreatDoor.AM
set_option maxRecDepth 100000
set_option linter.unusedVariables false
set_option linter.unusedSimpArgs false
abbrev ps (a b:Int):AVal := .agg [u64 a,u64 b]
theorem eqs_ps (ρ:St) (a b c d:Int):evalV ρ (.eqs false [1,1] (.agg [u64 a,u64 b]) (.agg [u64 c,u64 d]))=some (.bool (decide (a=c∧b=d)),ρ) := by
  simp only [evalV,shapeOk,keysEq,kShape,keyEq]
  cases h1:(a == c) <;> cases h2:(b == d) <;> simp_all
theorem nan_c (a:Int) (σ:St) (Q:AVal→St→Prop) (h:Q (.bool false) σ):ACall Tryz.prog 98 [u64 a] σ Q := by
  refine ACall.of_compF hmx (fun a w=>Tryz.call98 a w) Tryz.func98 cf98 (n := 1) (by decide) rfl ?_
  simp [ac98,rs98,lk_cons]
  exact h
theorem cmpu_c (a b:Int) (σ:St) (Q:AVal→St→Prop) (h:Q (i64 (cmpM a b)) σ):ACall Tryz.prog 94 [u64 a,u64 b] σ Q := by
  refine ACall.of_compF hmx (fun a w=>Tryz.call94 a w) Tryz.func94 cf94 (n := 2) (by decide) rfl ?_
  simp [ac94,rs94,lk_cons]
  refine nan_c _ _ _ ?_
  simp [lk_cons]
  refine nan_c _ _ _ ?_
  simp [lk_cons]
  unfold cmpM at h
  by_cases h1:a<b
  · rw [if_pos h1] at h
    simp [lk_cons,h1]
    exact h
  · rw [if_neg h1] at h
    by_cases h2:a > b
    · rw [if_pos h2] at h
      simp [lk_cons,h1,h2]
      exact h
    · rw [if_neg h2] at h
      simp [lk_cons,h1,h2]
      exact h
def OrJ (n:Nat) (t:Bool) (a b:Int) (σ0:St) (mm:Nat) (rg:Regs) (σ':St):Prop := ∃ i:Nat,mm=2 - i∧i≤2∧(1≤i→a=0)∧(2≤i→b=0)∧σ'=σ0∧rg=[(3,i64 0),(6,.sl n 0 2 2 t),(7,i64 2),(8,i64 i)]
theorem or_c (a b:Int) (n:Nat) (t:Bool) (σ:St) (hm:σ.mem.get n=some (.cells 1 [i64 a,i64 b])) (Q:AVal→St→Prop) (h:Q (i64 (if a=0 then b else a)) σ):ACall Tryz.prog 93 [.sl n 0 2 2 t] σ Q := by
  refine ACall.of_compF hmx (fun a w=>Tryz.call93 a w) Tryz.func93 cf93 (n := 1) (by decide) rfl ?_
  simp [ac93,rs93,lk_cons]
  refine wp_loop (OrJ n t a b σ) 2 ?_ ?_
  · exact ⟨0,rfl,by omega,by omega,by omega,rfl,rfl⟩
  · rintro mm rg σ' ⟨i,rfl,hi,h1,h2,rfl,rfl⟩
    have w0:IntKind.i64.wrap (0+1)=1 := by rw [IntWalk.i64_in] <;> omega
    have w1:IntKind.i64.wrap (1+1)=2 := by rw [IntWalk.i64_in] <;> omega
    rcases (by omega:i=0∨i=1∨i=2) with rfl | rfl | rfl
    · by_cases ha:a=0
      · simp [lk_cons,hm,ha,w0]
        exact ⟨1,by omega,1,by omega,by omega,fun _=>rfl,by omega,rfl,rfl⟩
      · rw [if_neg ha] at h
        simp [lk_cons,hm,ha]
        exact h
    · have ha := h1 (by omega)
      rw [if_pos ha] at h
      by_cases hb:b=0
      · simp [lk_cons,hm,hb,w1]
        exact ⟨2,by omega,by omega,fun _=>ha,fun _=>rfl,rfl,rfl⟩
      · simp [lk_cons,hm,hb]
        exact h
    · have ha := h1 (by omega)
      have hb := h2 (by omega)
      rw [if_pos ha,hb] at h
      simp [lk_cons]
      exact h
theorem rorder_c (a b c d:Int) (σ:St) (Q:AVal→St→Prop) (h:Q (i64 (ordM a b c d)) σ):ACall Tryz.prog 82 [ps a b,ps c d] σ Q := by
  refine ACall.scrub ?_
  refine ACall.of_compF hmx (fun a w=>Tryz.call82 a w) Tryz.func82 cf82 (n := 2) (by decide) rfl ?_
  have fin:∀ m:Mem,m=(σ.mem.set σ.next (.cells 2 [u64 a,u64 b])).set (σ.next+1) (.cells 2 [u64 c,u64 d])→∀ x,x<σ.next→m.get x=σ.mem.get x := fun m hm x hx=>by
    subst hm; simp [show ¬ x=σ.next by omega,show ¬ x=σ.next+1 by omega]
  unfold ordM cmpM at h
  by_cases h1:a<c
  · have:¬ a > c := by omega
    simp [h1] at h
    simp [ac82,rs82,lk_cons,h1]
    exact ⟨fin _ rfl,h⟩
  · by_cases h2:a=c
    · subst h2
      by_cases h3:b<d
      · simp [h3] at h
        simp [ac82,rs82,lk_cons,h3]
        exact ⟨fin _ rfl,h⟩
      · by_cases h4:b=d
        · subst h4
          simp at h
          simp [ac82,rs82,lk_cons,↓eqs_ps]
          exact ⟨fin _ rfl,h⟩
        · have h5:b > d := by omega
          simp [h3,h5] at h
          simp [ac82,rs82,lk_cons,h3,h4,↓eqs_ps]
          exact ⟨fin _ rfl,h⟩
    · have h3:a > c := by omega
      simp [h1,h3] at h
      simp [ac82,rs82,lk_cons,h1,h2,↓eqs_ps]
      exact ⟨fin _ rfl,h⟩
theorem order_c (a b c d:Int) (σ:St) (Q:AVal→St→Prop) (h:Q (i64 (ordM a b c d)) σ):ACall Tryz.prog 87 [ps a b,ps c d] σ Q := by
  refine ACall.scrub ?_
  refine ACall.of_compF hmx (fun a w=>Tryz.call87 a w) Tryz.func87 cf87 (n := 2) (by decide) rfl ?_
  simp [ac87,rs87,lk_cons]
  refine cmpu_c _ _ _ _ ?_
  simp [lk_cons]
  refine cmpu_c _ _ _ _ ?_
  simp [lk_cons,fillL,storeL,repL]
  refine or_c (cmpM a c) (cmpM b d) _ _ _ (by simp) _ ?_
  simp [lk_cons]
  exact ⟨fun x hx=>by simp [show ¬ x=σ.next by omega,show ¬ x=σ.next+1 by omega,show ¬ x=σ.next+1+1 by omega],h⟩
end Go.Proofs.YticefdfhcahlfaaGreatDoor.AM

namespace Go.Proofs.YticefdfhcahlfaaGreatDoor.AM
set_option maxRecDepth 100000
set_option linter.unusedVariables false
set_option linter.unusedSimpArgs false
def ldc:List Ld→List AVal
  | []=>[]
  | x :: t=>u64 x.f0 :: .bool x.f1 :: u64 x.f2 :: ldc t
theorem ldc_len:∀ l:List Ld,(ldc l).length=l.length*3
  | []=>rfl
  | x :: t=>by simp [ldc,ldc_len t]; omega
end Go.Proofs.YticefdfhcahlfaaGreatDoor.AM


namespace Go.Proofs.YticefdfhcahlfaaGreatDoor.AM
set_option maxRecDepth 100000
set_option linter.unusedVariables false
set_option linter.unusedSimpArgs false
theorem Out.set {lo:Nat} {σ':St} {v:AVal} {l:List S25} (h:Out lo σ' v l) (b:Blk):Out lo ⟨σ'.mem.set σ'.next b,σ'.next+1⟩ v l := by
  rcases h with h | ⟨o,h1,h2,h3,h4,h5⟩
  · exact .inl h
  · exact .inr ⟨o,h1,h2,h3,by show o<σ'.next+1; omega,by show (σ'.mem.set σ'.next b).get o=_; rw [Mem.get_set_ne _ _ (by omega)]; exact h5⟩
theorem out_app {lo:Nat} {ρ:St} {ov:AVal} {acc:List S25} (ho:Out lo ρ ov acc) (hacc:acc.length≤100000) {b:Nat} {x y:Int} (hb:ρ.mem.get b=some (.cells 2 [u64 x,u64 y])) (hlo:lo≤ρ.next) :
    ∃ w ρ',evalV ρ (.append 2 16 ov (.sl b 0 1 1 true))=some (w,ρ')∧Out lo ρ' w (acc++[⟨x,y⟩])∧ρ'.next=ρ.next+1∧∀ a,a<lo→ρ'.mem.get a=ρ.mem.get a := by
  rcases ho with ⟨rfl,rfl⟩ | ⟨o,rfl,h2,h3,h4,h5⟩
  · refine ⟨.sl ρ.next 0 1 1 false,⟨ρ.mem.set ρ.next (.cells 2 [u64 x,u64 y]),ρ.next+1⟩,by simp [srcL,hb],.inr ⟨ρ.next,rfl,by simp,hlo,Nat.lt_succ_self _,by simp [rc]⟩,rfl,fun a ha=>?_⟩
    simp [show ¬ a=ρ.next by omega]
  · have k1:¬ acc.length+1≤acc.length := by omega
    have k2:acc.length*2≤(rc acc).length := by rw [rc_len]; omega
    have k3:(acc.length+1)*16≤140737488355328∧acc.length≤9223372036854775806 := by omega
    have k4:(rc acc).take (acc.length*2)=rc acc := List.take_of_length_le (by rw [rc_len]; omega)
    refine ⟨.sl ρ.next 0 (acc.length+1) (acc.length+1) false,⟨(ρ.mem.del o).set ρ.next (.cells 2 (rc acc++[u64 x,u64 y])),ρ.next+1⟩,by simp [srcL,hb,h5,k1,k2,k3,k4],.inr ⟨ρ.next,by simp,by simp,hlo,Nat.lt_succ_self _,by simp [rc_app,rc]⟩,rfl,fun a ha=>?_⟩
    simp [show ¬ a=ρ.next by omega,show ¬ a=o by omega]
end Go.Proofs.YticefdfhcahlfaaGreatDoor.AM



namespace Go.Proofs.YticefdfhcahlfaaGreatDoor.AM
set_option maxRecDepth 100000
set_option linter.unusedVariables false
set_option linter.unusedSimpArgs false
theorem RgI.upto {v:AVal} {l:List S25} (h:RgI v l) (lo:Nat):v.upto lo=true := by
  rcases h with ⟨rfl,rfl⟩ | ⟨t,rfl⟩
  · rfl
  · simp [rc_upto]
theorem RgI.one {v:AVal} {l:List S25} (h:RgI v l):v.one=true∧cellsOf v=[v] := by
  rcases h with ⟨rfl,rfl⟩ | ⟨t,rfl⟩ <;> simp
def HC:List AVal→List Hd→Prop
  | [],[]=>True
  | a :: b :: cs,x :: xs=>a=u64 x.f0∧RgI b x.f1∧HC cs xs
  | _,_=>False
theorem HC.get:∀ {cs:List AVal} {xs:List Hd} {i:Nat} {x:Hd},HC cs xs→xs[i]?=some x→∃ r,RgI r x.f1∧(cs.drop (i*2)).take 2=[u64 x.f0,r]
  | a :: b :: cs,y :: xs,0,x,h,hx=>by
    simp at hx; subst hx
    exact ⟨b,h.2.1,by simp [h.1]⟩
  | a :: b :: cs,y :: xs,i+1,x,h,hx=>by
    obtain ⟨r,h1,h2⟩ := h.2.2.get (i := i) (by simpa using hx)
    exact ⟨r,h1,by rw [show (i+1)*2=i*2+1+1 by omega]; simpa using h2⟩
  | [],[],_,_,_,hx=>by simp at hx
  | [],_ :: _,_,_,h,_=>h.elim
  | [_],_,_,_,h,_=>by cases ‹List Hd› <;> exact h.elim
  | _ :: _ :: _,[],_,_,h,_=>h.elim
def HI (v:AVal) (h:List Hd):Prop := v=.nilsl∧h=[]∨∃ cs t,v=.isl cs h.length t∧HC cs h
theorem HI.len {v:AVal} {h:List Hd} (hh:HI v h) (ρ:St):evalV ρ (.len 1 v)=some (i64 h.length,ρ) := by
  rcases hh with ⟨rfl,rfl⟩ | ⟨cs,t,rfl,_⟩ <;> simp
theorem HI.one {v:AVal} {h:List Hd} (hh:HI v h):v.one=true∧cellsOf v=[v] := by
  rcases hh with ⟨rfl,rfl⟩ | ⟨cs,t,rfl,_⟩ <;> simp
theorem HI.at {v:AVal} {h:List Hd} (hh:HI v h) {i:Nat} {x:Hd} (hx:h[i]?=some x) (ρ:St) :
    ∃ p r,RgI r x.f1∧evalV ρ (.idxAddr 2 v (i64 i))=some (p,ρ)∧evalV ρ (.ldn 2 p)=some (.agg [u64 x.f0,r],ρ)∧(∃ q,evalV ρ (.fieldAddr 0 p)=some (q,ρ)∧evalV ρ (.ld1 q)=some (u64 x.f0,ρ))∧∃ q,evalV ρ (.fieldAddr 1 p)=some (q,ρ)∧evalV ρ (.ld1 q)=some (r,ρ) := by
  have hi := (List.getElem?_eq_some_iff.1 hx).1
  rcases hh with ⟨rfl,rfl⟩ | ⟨cs,t,rfl,hc⟩
  · simp at hx
  · obtain ⟨r,hr,e⟩ := hc.get hx
    have h1 := hr.one.1
    exact ⟨.iptr [u64 x.f0,r],r,hr,by simp [hi,e],by simp [h1],⟨.iptr [u64 x.f0,r],by simp,by simp⟩,⟨.iptr [r],by simp,by simp⟩⟩
abbrev cv (ml me:Int) (v:AVal):AVal := .agg [u64 ml,u64 me,v]
end Go.Proofs.YticefdfhcahlfaaGreatDoor.AM

namespace Go.Proofs.YticefdfhcahlfaaGreatDoor.AM
set_option maxRecDepth 100000
set_option linter.unusedVariables false
set_option linter.unusedSimpArgs false
def RgN (lo hi:Nat) (m:Mem) (v:AVal) (l:List S25):Prop := RgI v l∨∃ b c t,v=.sl b 0 l.length c t∧lo≤b∧b<hi∧m.get b=some (.cells 2 (rc l))
theorem RgN.mono {lo lo' hi hi':Nat} {m m':Mem} {v:AVal} {l:List S25} (h:RgN lo hi m v l) (h1:lo'≤lo) (h2:hi≤hi') (hm:∀ a,lo≤a→a<hi→m'.get a=m.get a):RgN lo' hi' m' v l := by
  rcases h with h | ⟨b,c,t,e,k1,k2,k3⟩
  · exact .inl h
  · exact .inr ⟨b,c,t,e,Nat.le_trans h1 k1,Nat.lt_of_lt_of_le k2 h2,(hm b k1 k2).trans k3⟩
theorem rc_frz0 (lo:Nat) (m:Mem) (l:List S25):listM (frzD lo m 0) (rc l)=some (rc l) := by
  refine listM_id ?_
  induction l with
  | nil=>intro x hx; simp [rc] at hx
  | cons y t ih =>
    intro x hx
    simp only [rc,List.mem_cons] at hx
    rcases hx with rfl | rfl | hx
    · simp [frzD]
    · simp [frzD]
    · exact ih x hx
theorem RgN.frz {lo lo' hi:Nat} {m:Mem} {v:AVal} {l:List S25} (h:RgN lo hi m v l) (hl:lo'≤lo):∃ v',frzD lo' m 1 v=some v'∧RgI v' l := by
  rcases h with h | ⟨b,c,t,rfl,k1,k2,k3⟩
  · refine ⟨v,?_,h⟩
    have := h.upto lo'
    rcases h with ⟨rfl,rfl⟩ | ⟨t,rfl⟩
    · simp [frzD]
    · simp only [frzD,this,if_true]
  · refine ⟨.isl (rc l) l.length (t && decide (c=l.length)),?_,.inr ⟨_,rfl⟩⟩
    rw [frzD_sl (Nat.le_trans hl k1) k3 (by rw [rc_len]; omega),List.drop_zero,List.take_of_length_le (by rw [rc_len]; omega),rc_frz0]
    rfl
def HCM (lo hi:Nat) (m:Mem):List AVal→List Hd→Prop
  | [],[]=>True
  | a :: b :: cs,x :: xs=>a=u64 x.f0∧RgN lo hi m b x.f1∧HCM lo hi m cs xs
  | _,_=>False
theorem HCM.len {lo hi:Nat} {m:Mem}:∀ {cs:List AVal} {xs:List Hd},HCM lo hi m cs xs→cs.length=xs.length*2
  | [],[],_=>rfl
  | a :: b :: cs,x :: xs,h=>by simp [h.2.2.len]; omega
  | [],_ :: _,h=>h.elim
  | [_],_,h=>by cases ‹List Hd› <;> exact h.elim
  | _ :: _ :: _,[],h=>h.elim
theorem HCM.app {lo hi:Nat} {m:Mem}:∀ {cs ds:List AVal} {xs ys:List Hd},HCM lo hi m cs xs→HCM lo hi m ds ys→HCM lo hi m (cs++ds) (xs++ys)
  | [],ds,[],ys,_,h=>h
  | a :: b :: cs,ds,x :: xs,ys,h,k=>⟨h.1,h.2.1,h.2.2.app k⟩
  | [],_,_ :: _,_,h,_=>h.elim
  | [_],_,_,_,h,_=>by cases ‹List Hd› <;> exact h.elim
  | _ :: _ :: _,_,[],_,h,_=>h.elim
theorem HCM.mono {lo lo' hi hi':Nat} {m m':Mem} (h1:lo'≤lo) (h2:hi≤hi') (hm:∀ a,lo≤a→a<hi→m'.get a=m.get a):∀ {cs:List AVal} {xs:List Hd},HCM lo hi m cs xs→HCM lo' hi' m' cs xs
  | [],[],_=>trivial
  | a :: b :: cs,x :: xs,h=>⟨h.1,h.2.1.mono h1 h2 hm,HCM.mono h1 h2 hm h.2.2⟩
  | [],_ :: _,h=>h.elim
  | [_],_,h=>by cases ‹List Hd› <;> exact h.elim
  | _ :: _ :: _,[],h=>h.elim
theorem HCM.frz {lo lo' hi:Nat} {m:Mem} (hl:lo'≤lo):∀ {cs:List AVal} {xs:List Hd},HCM lo hi m cs xs→∃ cs',listM (frzD lo' m 1) cs=some cs'∧HC cs' xs
  | [],[],_=>⟨[],rfl,trivial⟩
  | a :: b :: cs,x :: xs,h=>by
    obtain ⟨cs',h1,h2⟩ := HCM.frz hl h.2.2
    obtain ⟨b',h3,h4⟩ := h.2.1.frz hl
    refine ⟨u64 x.f0 :: b' :: cs',?_,rfl,h4,h2⟩
    have e:frzD lo' m 1 (u64 x.f0)=some (u64 x.f0) := by simp [frzD]
    rw [listM_cons,h.1,e,listM_cons,h3,h1]
    rfl
  | [],_ :: _,h=>h.elim
  | [_],_,h=>by cases ‹List Hd› <;> exact h.elim
  | _ :: _ :: _,[],h=>h.elim
def HOut (lo:Nat) (σ':St) (v:AVal) (h:List Hd):Prop := v=.nilsl∧h=[]∨∃ o cs,v=.sl o 0 h.length h.length false∧0<h.length∧lo≤o∧o<σ'.next∧σ'.mem.get o=some (.cells 2 cs)∧HCM lo o σ'.mem cs h
theorem HOut.one {lo:Nat} {σ':St} {v:AVal} {h:List Hd} (hh:HOut lo σ' v h):v.one=true∧cellsOf v=[v] := by
  rcases hh with ⟨rfl,_⟩ | ⟨o,cs,rfl,_⟩ <;> exact ⟨rfl,rfl⟩
theorem HOut.frame {lo:Nat} {σ1 σ2:St} {v:AVal} {h:List Hd} (hh:HOut lo σ1 v h) (hn:σ1.next≤σ2.next) (hm:∀ a,lo≤a→a<σ1.next→σ2.mem.get a=σ1.mem.get a):HOut lo σ2 v h := by
  rcases hh with hh | ⟨o,cs,h1,h2,h3,h4,h5,h6⟩
  · exact .inl hh
  · exact .inr ⟨o,cs,h1,h2,h3,by omega,(hm o h3 h4).trans h5,h6.mono (Nat.le_refl _) (Nat.le_refl _) fun a ha hb=>hm a ha (by omega)⟩
theorem HOut.frz {lo lo':Nat} {σ':St} {v:AVal} {h:List Hd} (hh:HOut lo σ' v h) (hl:lo'≤lo) (ml me:Int):∃ hv,frzD lo' σ'.mem 3 (cv ml me v)=some (cv ml me hv)∧HI hv h := by
  have e:∀ n:Int,frzD lo' σ'.mem 2 (u64 n)=some (u64 n) := fun n=>by simp [frzD]
  have ag:∀ vs:List AVal,frzD lo' σ'.mem 3 (.agg vs)=(listM (frzD lo' σ'.mem 2) vs).map .agg := fun vs=>by simp only [frzD]
  rcases hh with ⟨rfl,rfl⟩ | ⟨o,cs,rfl,h2,h3,h4,h5,h6⟩
  · refine ⟨.nilsl,?_,.inl ⟨rfl,rfl⟩⟩
    rw [ag,listM_cons,e,listM_cons,e,listM_cons]
    simp [frzD,AM.listM]
  · obtain ⟨cs',k1,k2⟩ := h6.frz hl
    have hlen := h6.len
    have es:frzD lo' σ'.mem 2 (.sl o 0 h.length h.length false)=some (.isl cs' h.length false) := by
      rw [frzD_sl (Nat.le_trans hl h3) h5 (by rw [hlen]; omega),List.drop_zero,List.take_of_length_le (by rw [hlen]; omega),k1]
      rfl
    refine ⟨.isl cs' h.length false,?_,.inr ⟨cs',false,rfl,k2⟩⟩
    rw [ag,listM_cons,e,listM_cons,e,listM_cons,es]
    rfl
theorem hout_app {lo:Nat} {ρ0 ρ:St} {ov:AVal} {h:List Hd} (ho:HOut lo ρ0 ov h) (hn:ρ0.next≤ρ.next) (hm:∀ a,lo≤a→a<ρ0.next→ρ.mem.get a=ρ0.mem.get a) (hlen:h.length≤100000) {b:Nat} {L:Int} {rv:AVal} {r:List S25}
    (hb:ρ.mem.get b=some (.cells 2 [u64 L,rv])) (hr:RgN ρ0.next ρ.next ρ.mem rv r) (hlo:lo≤ρ0.next) :
    ∃ w ρ',evalV ρ (.append 2 32 ov (.sl b 0 1 1 true))=some (w,ρ')∧HOut lo ρ' w (h++[⟨L,r⟩])∧ρ'.next=ρ.next+1∧∀ a,a<ρ.next→(a<lo∨ρ0.next≤a)→ρ'.mem.get a=ρ.mem.get a := by
  rcases ho with ⟨rfl,rfl⟩ | ⟨o,cs,rfl,h2,h3,h4,h5,h6⟩
  · refine ⟨.sl ρ.next 0 1 1 false,⟨ρ.mem.set ρ.next (.cells 2 [u64 L,rv]),ρ.next+1⟩,by simp [srcL,hb],.inr ⟨ρ.next,[u64 L,rv],rfl,by simp,by omega,Nat.lt_succ_self _,by simp,rfl,?_,trivial⟩,rfl,fun a ha _=>?_⟩
    · exact hr.mono hlo (Nat.le_refl _) fun a ha hb=>by simp [show ¬ a=ρ.next by omega]
    · simp [show ¬ a=ρ.next by omega]
  · have hl := h6.len
    have k1:¬ h.length+1≤h.length := by omega
    have k2:h.length*2≤cs.length := by omega
    have k3:(h.length+1)*32≤140737488355328∧h.length≤9223372036854775806 := by omega
    have k4:cs.take (h.length*2)=cs := List.take_of_length_le (by omega)
    have hmo := (hm o h3 h4).trans h5
    refine ⟨.sl ρ.next 0 (h.length+1) (h.length+1) false,⟨(ρ.mem.del o).set ρ.next (.cells 2 (cs++[u64 L,rv])),ρ.next+1⟩,by simp [srcL,hb,hmo,k1,k2,k3,k4],.inr ⟨ρ.next,cs++[u64 L,rv],by simp,by simp,by omega,Nat.lt_succ_self _,by simp,HCM.app ?_ ⟨rfl,?_,trivial⟩⟩,rfl,fun a ha hb=>?_⟩
    · exact h6.mono (Nat.le_refl _) (by omega) fun a ha hb=>by simp [show ¬ a=ρ.next by omega,show ¬ a=o by omega]; exact hm a ha (by omega)
    · exact hr.mono hlo (Nat.le_refl _) fun a ha hb=>by simp [show ¬ a=ρ.next by omega,show ¬ a=o by omega]
    · simp [show ¬ a=ρ.next by omega,show ¬ a=o by omega]
end Go.Proofs.YticefdfhcahlfaaGreatDoor.AM



namespace Go.Proofs.YticefdfhcahlfaaGreatDoor.AM
set_option maxRecDepth 100000
set_option linter.unusedVariables false
set_option linter.unusedSimpArgs false
theorem wp_cut {P:Program} {a b:ACode} {Q:Post} {r:Regs} {σ:St} (M:Regs→St→Prop) (h:a.wp P (fun e r σ=>e=.normal∧M r σ) r σ) (hq:∀ r σ,M r σ→b.wp P Q r σ):ACode.wp P (.seq a b) Q r σ := by
  simp only [ACode.wp]
  refine wp_mono' h ?_
  rintro e r σ ⟨rfl,hm⟩
  exact hq r σ hm
end Go.Proofs.YticefdfhcahlfaaGreatDoor.AM



namespace Go.Proofs.YticefdfhcahlfaaGreatDoor.AM
set_option maxRecDepth 100000
set_option linter.unusedVariables false
set_option linter.unusedSimpArgs false
theorem wp_cutK {P:Program} {a:ACode} {Q:Post} {r:Regs} {σ:St} (M:Regs→St→Prop) (h:a.wp P (fun e r σ=>e=.normal∧M r σ) r σ) (hq:∀ r σ,M r σ→Q .normal r σ):ACode.wp P a Q r σ := by
  refine wp_mono' h ?_
  rintro e r σ ⟨rfl,hm⟩
  exact hq r σ hm
end Go.Proofs.YticefdfhcahlfaaGreatDoor.AM

namespace Go.Proofs.YticefdfhcahlfaaGreatDoor.AM
set_option maxRecDepth 100000
set_option linter.unusedVariables false
set_option linter.unusedSimpArgs false
def CsJ (v w:AVal) (h:List Hd) (ml me:Int) (σ0:St) (mm:Nat) (rg:Regs) (σ':St):Prop := ∃ i:Nat,mm=h.length - i∧i≤h.length∧σ'=⟨(σ0.mem.set σ0.next (.cells 3 [u64 ml,u64 me,v])).set (σ0.next+1) (.cells 3 [u64 ml,u64 me,w]),σ0.next+1+1⟩∧rg=[(2,.ptr σ0.next 0),(3,.ptr (σ0.next+1) 0),(5,i64 i)]
theorem place_c (a b:Int) (raw:Bool) (ha:0≤a∧a≤18446744073709551615) (hb:0≤b∧b≤18446744073709551615) (σ:St) (Q:AVal→St→Prop) (h:∀ x y:Int,(0≤x∧x≤18446744073709551615)→(0≤y∧y≤18446744073709551615)→(raw=false→y<8∧x<16)→Q (ps x y) σ):ACall Tryz.prog 62 [ps a b,.bool raw] σ Q := by
  refine ACall.scrub ?_
  refine ACall.of_compF hmx (fun a w=>Tryz.call62 a w) Tryz.func62 cf62 (n := 2) (by decide) rfl ?_
  cases raw with
  | true =>
    simp [ac62,rs62,lk_cons,storeL,fillL]
    exact ⟨fun a ha=>by simp [show ¬ a=σ.next by omega,show ¬ a=σ.next+1 by omega],h a b ha hb (by simp)⟩
  | false =>
    have w1:Int.tmod a 16=a % 16 := Int.tmod_eq_emod_of_nonneg ha.1
    have w2:Int.tmod b 8=b % 8 := Int.tmod_eq_emod_of_nonneg hb.1
    simp [ac62,rs62,lk_cons,storeL,fillL,w1,w2]
    exact ⟨fun a ha=>by simp [show ¬ a=σ.next by omega,show ¬ a=σ.next+1 by omega],h (a % 16) (b % 8) (by omega) (by omega) (by omega)⟩
def LOut (lo:Nat) (σ':St) (v:AVal) (l:List Ld):Prop := v=.nilsl∧l=[]∨∃ o,v=.sl o 0 l.length l.length false∧0<l.length∧lo≤o∧o<σ'.next∧σ'.mem.get o=some (.cells 3 (ldc l))
theorem ldc_app:∀ (l m:List Ld),ldc (l++m)=ldc l++ldc m
  | [],m=>rfl
  | x :: t,m=>by simp [ldc,ldc_app t m]
theorem LOut.len {lo:Nat} {σ':St} {v:AVal} {l:List Ld} (h:LOut lo σ' v l) (ρ:St):evalV ρ (.len 1 v)=some (i64 l.length,ρ) := by
  rcases h with ⟨rfl,rfl⟩ | ⟨o,rfl,_⟩ <;> simp
theorem lout_app {lo:Nat} {ρ0 ρ:St} {ov:AVal} {acc:List Ld} (ho:LOut lo ρ0 ov acc) (hm:∀ a,lo≤a→a<ρ0.next→ρ.mem.get a=ρ0.mem.get a) (hn:ρ0.next≤ρ.next) (hacc:acc.length≤100000) {b:Nat} (x:Ld) (hb:ρ.mem.get b=some (.cells 3 [u64 x.f0,.bool x.f1,u64 x.f2])) (hlo:lo≤ρ0.next) :
    ∃ w ρ',evalV ρ (.append 3 24 ov (.sl b 0 1 1 true))=some (w,ρ')∧LOut lo ρ' w (acc++[x])∧ρ'.next=ρ.next+1∧∀ a,a<lo→ρ'.mem.get a=ρ.mem.get a := by
  rcases ho with ⟨rfl,rfl⟩ | ⟨o,rfl,h2,h3,h4,h5⟩
  · refine ⟨.sl ρ.next 0 1 1 false,⟨ρ.mem.set ρ.next (.cells 3 [u64 x.f0,.bool x.f1,u64 x.f2]),ρ.next+1⟩,by simp [srcL,hb],.inr ⟨ρ.next,rfl,by simp,by omega,Nat.lt_succ_self _,by simp [ldc]⟩,rfl,fun a ha=>?_⟩
    simp [show ¬ a=ρ.next by omega]
  · have k1:¬ acc.length+1≤acc.length := by omega
    have k2:acc.length*3≤(ldc acc).length := by rw [ldc_len]; omega
    have k3:(acc.length+1)*24≤140737488355328∧acc.length≤9223372036854775806 := by omega
    have k4:(ldc acc).take (acc.length*3)=ldc acc := List.take_of_length_le (by rw [ldc_len]; omega)
    have h6 := (hm o h3 h4).trans h5
    refine ⟨.sl ρ.next 0 (acc.length+1) (acc.length+1) false,⟨(ρ.mem.del o).set ρ.next (.cells 3 (ldc acc++[u64 x.f0,.bool x.f1,u64 x.f2])),ρ.next+1⟩,by simp [srcL,hb,h6,k1,k2,k3,k4],.inr ⟨ρ.next,by simp,by simp,by omega,Nat.lt_succ_self _,by simp [ldc_app,ldc]⟩,rfl,fun a ha=>?_⟩
    simp [show ¬ a=ρ.next by omega,show ¬ a=o by omega]
theorem BytesOf.at14 {d:AVal} {l:List UInt8} (h:BytesOf d l) {i:Nat} {x:UInt8} (hx:l[i]?=some x) (ρ:St):∃ p,evalV ρ (.idxAddr 1 d (i64 i))=some (p,ρ)∧evalV ρ (.ld1 p)=some (.int .u8 (x.toNat:Int),ρ) := by
  have hi := (List.getElem?_eq_some_iff.1 hx).1
  rcases h with ⟨rfl,rfl⟩ | ⟨t,rfl⟩
  · simp at hx
  · have e:((bytesV l).drop i).take 1=[.int .u8 (x.toNat:Int)] := by
      have hl:i<(bytesV l).length := by rw [bytesV_len]; exact hi
      rw [List.drop_eq_getElem_cons hl]
      have:(bytesV l)[i]=.int .u8 (x.toNat:Int) := by
        have := (List.getElem?_eq_some_iff.1 hx).2
        simp [bytesV,this]
      simp [this]
    exact ⟨.iptr [.int .u8 (x.toNat:Int)],by simp [hi,e],by simp⟩
def Mk (t:List Ld):Prop := t.length≤13∧RisingP t∧∀ x∈t,(0≤x.f0∧x.f0≤52)∧0≤x.f2∧x.f2≤5
def MdJ (d:AVal) (op:Bool) (l:List UInt8) (σ0:St) (mm:Nat) (rg:Regs) (σ':St):Prop := ∃ (i:Nat) (ov:AVal) (acc:List Ld) (id:Int),mm=l.length - i∧i≤l.length∧i≤13∧acc.length=i∧Mk acc∧(∀ x∈acc,x.f0≤id)∧0≤id∧id≤4*(i:Int)∧Grow σ0 σ'∧LOut σ0.next σ' ov acc∧rg=[(1,.bool op),(5,ov),(6,u64 id),(10,d),(11,i64 l.length),(12,i64 i)]
end Go.Proofs.YticefdfhcahlfaaGreatDoor.AM

namespace Go.Proofs.YticefdfhcahlfaaGreatDoor.AM
set_option maxRecDepth 100000
set_option linter.unusedVariables false
set_option linter.unusedSimpArgs false
def Bnd (l:List S25):Prop := ∀ z∈l,0≤z.f0∧0≤z.f1∧z.f1≤18446744073709551615
def HArg (h:List Hd):Prop := h.length≤9223372036854775806∧∀ x∈h,(0≤x.f0∧x.f0≤18446744073709551615)∧Bnd x.f1∧x.f1.length≤9223372036854775806
def RInv (ml me last:Int) (i:Nat) (out:List Hd):Prop := COk ml me out∧out.length≤i∧out.length≤7∧(∀ x∈out,x.f1.length≤14)∧(∀ x∈out,x.f0≤last)∧0≤last
def RiJr (hv:AVal) (raw:Bool) (ml me:Int) (h:List Hd) (σ0:St) (mm:Nat) (rg:Regs) (σ':St):Prop := ∃ (i:Nat) (last:Int) (ov:AVal) (acc:List Hd),mm=h.length - i∧i≤h.length∧i≤7∧RInv ml me last i acc∧(∀ a,a<σ0.next→σ'.mem.get a=σ0.mem.get a)∧σ0.next+1+1+1≤σ'.next∧HOut (σ0.next+1+1+1) σ' ov acc ∧
  σ'.mem.get (σ0.next+1)=some (.cells 3 [u64 0,u64 0,.nilsl])∧σ'.mem.get (σ0.next+1+1)=some (.cells 3 [u64 ml,u64 me,ov]) ∧
  rg=[(1,.bool raw),(4,.ptr (σ0.next+1) 0),(5,.ptr (σ0.next+1+1) 0),(6,u64 last),(19,hv),(20,i64 h.length),(21,i64 i)]
def RiJr2 (hv rv:AVal) (raw:Bool) (last:Int) (rs:List S25) (h:List Hd) (i:Nat) (n0 n8:Nat) (σ1:St) (mm:Nat) (rg:Regs) (σ':St):Prop := ∃ (j:Nat) (av:AVal) (acc:List S25),mm=rs.length - j∧j≤rs.length∧acc.length≤6∧acc.length≤j∧Bnd acc∧σ1.next≤σ'.next∧(∀ a,a<σ1.next→σ'.mem.get a=σ1.mem.get a)∧Out σ1.next σ' av acc ∧
  rg=[(1,.bool raw),(4,.ptr (n0+1) 0),(5,.ptr (n0+1+1) 0),(6,u64 last),(8,.ptr n8 0),(9,av),(19,hv),(20,i64 h.length),(21,i64 i),(57,rv),(58,i64 rs.length),(59,i64 j)]
theorem Out.rgm {lo:Nat} {σ':St} {v:AVal} {l:List S25} (h:Out lo σ' v l):RgM σ' v l := by
  rcases h with h | ⟨o,rfl,h1,h2,h3,h4⟩
  · exact .inl (.inl h)
  · exact .inr ⟨o,0,l.length,false,rc l,rfl,Nat.le_refl _,h3,h4,by rw [rc_len]; omega,by rw [List.drop_zero,List.take_of_length_le (by rw [rc_len]; omega)]⟩
set_option maxHeartbeats 2000000 in
theorem right14_c {hv:AVal} {h:List Hd} (hh:HI hv h) (ha:HArg h) (a b:Int) (raw:Bool) (hab:(0≤a∧a≤18446744073709551615)∧0≤b∧b≤18446744073709551615) (σ:St) (Q:AVal→St→Prop)
    (hq:∀ ml me hv' h',(0≤ml∧ml≤18446744073709551615)→(0≤me∧me≤18446744073709551615)→HI hv' h'→COk ml me h'→h'.length≤7→(∀ x∈h',x.f1.length≤14)→Q (cv ml me hv') σ):ACall Tryz.prog 22 [cv a b hv,.bool raw] σ Q := by
  refine ACall.freezeD 3 ?_
  refine ACall.of_compF hmx (fun a w=>Tryz.call22 a w) Tryz.func22 cf22 (n := 2) (by decide) rfl ?_
  have l1 := hh.len
  have h1 := hh.one.1
  have h2 := hh.one.2
  have u1:¬ σ.next=σ.next+1+1 := by omega
  simp only [ac22,rs22]
  simp [lk_cons,h1,h2,fillL,storeL]
  refine place_c a b raw hab.1 hab.2 _ _ fun ml me hml hme _=>?_
  simp [lk_cons,h1,h2,fillL,storeL,u1,↓l1]
  refine wp_loop (RiJr hv raw ml me h σ) h.length ?_ ?_
  · exact ⟨0,0,.nilsl,[],rfl,Nat.zero_le _,by omega,⟨⟨trivial,by simp,fun L n hn=>absurd hn (in_nil n)⟩,by simp,by simp,by simp,by simp,by omega⟩,fun k hk=>by simp [show ¬ k=σ.next by omega,show ¬ k=σ.next+1 by omega,show ¬ k=σ.next+1+1 by omega],by simp,.inl ⟨rfl,rfl⟩,by simp,by simp,rfl⟩
  · rintro mm rg σ' ⟨i,last,ov,acc,rfl,hi,hi7,⟨hC,hoi,ho7,hrl,hlast,hl0⟩,gold,hn,ho,m1,m2,rfl⟩
    have z1:¬ σ.next=σ'.next := by omega
    have z2:¬ σ.next+1=σ'.next := by omega
    have z3:¬ σ.next+1+1=σ'.next := by omega
    have o1 := ho.one.1
    have o2 := ho.one.2
    have olen:∀ ρ:St,evalV ρ (.len 1 ov)=some (i64 acc.length,ρ) := fun ρ=>by
      rcases ho with ⟨rfl,rfl⟩ | ⟨o,cs,rfl,_⟩ <;> simp
    have done:∀ ρ:St,σ'.next≤ρ.next→(∀ k,k<σ'.next→ρ.mem.get k=σ'.mem.get k)→Old σ ⟨ρ.mem.set (σ.next+1) (.cells 3 [u64 ml,u64 me,ov]),ρ.next⟩∧∃ v',frzD σ.next (ρ.mem.set (σ.next+1) (.cells 3 [u64 ml,u64 me,ov])) 3 (.agg [u64 ml,u64 me,ov])=some v'∧Q v' σ := by
      intro ρ hρ hm
      have e5:HOut (σ.next+1+1+1) ⟨ρ.mem.set (σ.next+1) (.cells 3 [u64 ml,u64 me,ov]),ρ.next⟩ ov acc := ho.frame hρ fun k hk hb=>by simp [show ¬ k=σ.next+1 by omega]; exact hm k hb
      obtain ⟨hv',f1,f2⟩ := e5.frz (lo' := σ.next) (by omega) ml me
      refine ⟨fun k hk=>?_,cv ml me hv',f1,hq _ _ _ _ hml hme f2 hC ho7 hrl⟩
      simp [show ¬ k=σ.next+1 by omega]
      rw [hm k (by omega)]
      exact gold k hk
    by_cases hlt:i<h.length
    · obtain ⟨x,hx⟩:∃ x,h[i]?=some x := ⟨_,List.getElem?_eq_getElem hlt⟩
      obtain ⟨k,hk⟩:∃ k,i+1=k := ⟨_,rfl⟩
      have w1:IntKind.i64.wrap ((i:Int)+1)=(k:Int) := by have := ha.1; rw [IntWalk.i64_in] <;> omega
      obtain ⟨p,xr,hri,p1,p2,_,_⟩ := hh.at hx σ'
      have r1 := hri.one.1
      have r2 := hri.one.2
      obtain ⟨hx0,hxb,hxl⟩ := ha.2 x (List.mem_of_getElem? hx)
      by_cases c6:(6:Int)<(i:Int)
      · simp [lk_cons,hlt,↓p1,↓p2,storeL,r1,r2,m1,m2,z1,z2,z3,c6,o1,o2]
        exact done ⟨(σ'.mem.set σ'.next (.cells 2 [.int .u64 0,.nilsl])).set σ'.next (.cells 2 [u64 x.f0,xr]),σ'.next+1⟩ (by simp) fun k hk=>by simp [show ¬ k=σ'.next by omega]
      · simp [lk_cons,hlt,↓p1,↓p2,storeL,r1,r2,m1,m2,z1,z2,z3,c6]
        have fin:∀ (last':Int) (w:AVal) (acc':List Hd) (ρ':St),RInv ml me last' k acc'→HOut (σ.next+1+1+1) ρ' w acc'→σ'.next≤ρ'.next→(∀ a,a<σ.next+1+1→ρ'.mem.get a=σ'.mem.get a)→ρ'.mem.get (σ.next+1+1)=some (.cells 3 [u64 ml,u64 me,w]) →
            ∃ mm,mm<h.length - i∧RiJr hv raw ml me h σ mm [(1,.bool raw),(4,.ptr (σ.next+1) 0),(5,.ptr (σ.next+1+1) 0),(6,u64 last'),(19,hv),(20,i64 h.length),(21,i64 k)] ρ' := by
          intro last' w acc' ρ' e0 e1 e2 e3 e6
          exact ⟨h.length - k,by omega,k,last',w,acc',rfl,by omega,by omega,e0,fun a ha=>(e3 a (by omega)).trans (gold a ha),by omega,e1,(e3 _ (by omega)).trans m1,e6,rfl⟩
        have skip:∀ s:St,s.next=σ'.next+1→(∀ k,k<σ'.next→s.mem.get k=σ'.mem.get k)→∃ mm,mm<h.length - i∧RiJr hv raw ml me h σ mm [(1,.bool raw),(4,.ptr (σ.next+1) 0),(5,.ptr (σ.next+1+1) 0),(6,u64 last),(19,hv),(20,i64 h.length),(21,i64 k)] s := fun s hs hg =>
          fin last ov acc s ⟨hC,by omega,ho7,hrl,hlast,hl0⟩ (ho.frame (by omega) fun a _ hb=>hg a hb) (by omega) (fun a ha=>hg a (by omega)) ((hg _ (by omega)).trans m2)
        refine condK_mid (fun rg s=>∃ L:Int,(0≤L∧L≤18446744073709551615)∧s.next=σ'.next+1∧(∀ k,k<σ'.next→s.mem.get k=σ'.mem.get k)∧s.mem.get σ'.next=some (.cells 2 [u64 L,xr])∧rg.lookup 1=some (.bool raw)∧rg.lookup 4=some (.ptr (σ.next+1) 0)∧rg.lookup 5=some (.ptr (σ.next+1+1) 0)∧rg.lookup 6=some (u64 last)∧rg.lookup 7=some (i64 i)∧rg.lookup 8=some (.ptr σ'.next 0)∧rg.lookup 19=some hv∧rg.lookup 20=some (i64 h.length)∧rg.lookup 21=some (i64 i)) ?_ ?_
        · cases raw with
          | true =>
            simp [lk_cons]
            exact ⟨hx0,fun k hk=>by simp [show ¬ k=σ'.next by omega]⟩
          | false =>
            simp [lk_cons,storeL]
            have e1:Int.tmod x.f0 16=x.f0 % 16 := Int.tmod_eq_emod_of_nonneg hx0.1
            exact ⟨by omega,fun k hk=>by simp [show ¬ k=σ'.next by omega]⟩
        · rintro rg s ⟨L,hL,hsn,hsg,hs8,g1,g4,g5,g6,g7,g8,g19,g20,g21⟩
          have s2 := (hsg _ (show σ.next+1+1<σ'.next by omega)).trans m2
          have s1 := (hsg _ (show σ.next+1<σ'.next by omega)).trans m1
          simp only [seqK_normal,wp_seq]
          refine wp_cutK (fun rg' s'=>s'=s∧rg'=[(1,.bool raw),(4,.ptr (σ.next+1) 0),(5,.ptr (σ.next+1+1) 0),(6,u64 last),(8,.ptr σ'.next 0),(19,hv),(20,i64 h.length),(21,i64 i),(55,.bool (decide (L<ml) || (decide (L≤last) && decide (0<i) && decide (0<acc.length))))]) ?_ ?_
          · by_cases c1:L<ml
            · simp [lk_cons,g1,g4,g5,g6,g7,g8,g19,g20,g21,hs8,s2,c1]
            · by_cases c2:L≤last
              · by_cases c3:0<i
                · have c3':(0:Int)<(i:Int) := by omega
                  simp [lk_cons,g1,g4,g5,g6,g7,g8,g19,g20,g21,hs8,s2,c1,c2,c3,c3',o1,o2,↓olen]
                · have c3':¬ (0:Int)<(i:Int) := by omega
                  simp [lk_cons,g1,g4,g5,g6,g7,g8,g19,g20,g21,hs8,s2,c1,c2,c3,c3',o1,o2,↓olen]
              · simp [lk_cons,g1,g4,g5,g6,g7,g8,g19,g20,g21,hs8,s2,c1,c2]
          · rintro _ _ ⟨rfl,rfl⟩
            cases hsk:(decide (L<ml) || (decide (L≤last) && decide (0<i) && decide (0<acc.length))) with
            | true =>
              simp [lk_cons,w1]
              exact skip _ hsn hsg
            | false =>
              rename_i s
              have hnot:¬ L<ml∧(L≤last→0<i→acc=[]) := by
                simp at hsk
                refine ⟨by omega,fun h1 h2=>hsk.2 h1 h2⟩
              simp [-wp_seq,lk_cons]
              refine wp_cut (fun rg s'=>s'=s∧rg=[(1,.bool raw),(4,.ptr (σ.next+1) 0),(5,.ptr (σ.next+1+1) 0),(6,u64 last),(8,.ptr σ'.next 0),(9,.nilsl),(19,hv),(20,i64 h.length),(21,i64 i)]) (by simp [lk_cons]) ?_
              rintro _ s' ⟨hs',rfl⟩
              rw [hs']
              clear hs' s'
              refine wp_cut (fun rg s'=>∃ av ac,Out s.next s' av ac∧ac.length≤6∧Bnd ac∧s.next≤s'.next∧(∀ k,k<s.next→s'.mem.get k=s.mem.get k)∧rg.lookup 1=some (.bool raw)∧rg.lookup 4=some (.ptr (σ.next+1) 0)∧rg.lookup 5=some (.ptr (σ.next+1+1) 0)∧rg.lookup 6=some (u64 last)∧rg.lookup 8=some (.ptr σ'.next 0)∧rg.lookup 9=some av∧rg.lookup 19=some hv∧rg.lookup 20=some (i64 h.length)∧rg.lookup 21=some (i64 i)) ?_ ?_
              · have xl := (hri.m σ).len
                simp [lk_cons,hs8,r1,r2,↓xl]
                refine wp_loop (RiJr2 hv xr raw last x.f1 h i σ.next σ'.next s) x.f1.length ?_ ?_
                · exact ⟨0,.nilsl,[],rfl,Nat.zero_le _,by simp,by simp,fun z hz=>absurd hz List.not_mem_nil,Nat.le_refl _,fun _ _=>rfl,.inl ⟨rfl,rfl⟩,rfl⟩
                · rintro m3 rg3 σ2 ⟨j,av,ac,rfl,hj,ha6,haj,hab2,hn2,hg2,hav,rfl⟩
                  by_cases hlt2:j<x.f1.length
                  · obtain ⟨z,hz⟩:∃ z,x.f1[j]?=some z := ⟨_,List.getElem?_eq_getElem hlt2⟩
                    obtain ⟨j',hj'⟩:∃ k,j+1=k := ⟨_,rfl⟩
                    have w3:IntKind.i64.wrap ((j:Int)+1)=(j':Int) := by rw [IntWalk.i64_in] <;> omega
                    obtain ⟨q,q1,q2,_,_⟩ := (hri.m σ2).at hz (ρ := σ2) fun _ _=>rfl
                    have hzb := hxb z (List.mem_of_getElem? hz)
                    have e8:Int.tmod z.f0 8=z.f0 % 8 := Int.tmod_eq_emod_of_nonneg hzb.1
                    have e9:Int.tmod z.f1 9=z.f1 % 9 := Int.tmod_eq_emod_of_nonneg hzb.2.1
                    have fin2:∀ (w:AVal) (ac':List S25) (ρ':St),Out s.next ρ' w ac'→σ2.next≤ρ'.next→(∀ k,k<s.next→ρ'.mem.get k=σ2.mem.get k)→ac'.length≤6→ac'.length≤j'→Bnd ac' →
                        ∃ mm,mm<x.f1.length - j∧RiJr2 hv xr raw last x.f1 h i σ.next σ'.next s mm [(1,.bool raw),(4,.ptr (σ.next+1) 0),(5,.ptr (σ.next+1+1) 0),(6,u64 last),(8,.ptr σ'.next 0),(9,w),(19,hv),(20,i64 h.length),(21,i64 i),(57,xr),(58,i64 x.f1.length),(59,i64 j')] ρ' := by
                      intro w ac' ρ' e1 e2 e3 e4 e5 e6
                      exact ⟨x.f1.length - j',by omega,j',w,ac',rfl,by omega,e4,e5,e6,by omega,fun k hk=>(e3 k hk).trans (hg2 k hk),e1,rfl⟩
                    by_cases c7:(j:Int)<6
                    · have app:∀ (y:S25) (M:Mem),(0≤y.f0∧0≤y.f1∧y.f1≤18446744073709551615)→(∀ k,k<σ2.next→M.get k=σ2.mem.get k)→∃ w ρ',evalV ⟨M.set (σ2.next+1) (.cells 2 [u64 y.f0,u64 y.f1]),σ2.next+1+1⟩ (.append 2 16 av (.sl (σ2.next+1) 0 1 1 true))=some (w,ρ')∧∃ mm,mm<x.f1.length - j∧RiJr2 hv xr raw last x.f1 h i σ.next σ'.next s mm [(1,.bool raw),(4,.ptr (σ.next+1) 0),(5,.ptr (σ.next+1+1) 0),(6,u64 last),(8,.ptr σ'.next 0),(9,w),(19,hv),(20,i64 h.length),(21,i64 i),(57,xr),(58,i64 x.f1.length),(59,i64 j')] ρ' := by
                        intro y M hy hM
                        have hav':Out s.next ⟨M.set (σ2.next+1) (.cells 2 [u64 y.f0,u64 y.f1]),σ2.next+1+1⟩ av ac := by
                          rcases hav with hav | ⟨o,k1,k2,k3,k4,k5⟩
                          · exact .inl hav
                          · exact .inr ⟨o,k1,k2,k3,by show o<σ2.next+1+1; omega,by show (M.set _ _).get o=_; rw [Mem.get_set_ne _ _ (by omega),hM o k4]; exact k5⟩
                        obtain ⟨w,ρ',f1,f2,f3,f4⟩ := out_app (b := σ2.next+1) (x := y.f0) (y := y.f1) hav' (by omega) (by simp) (by show s.next≤σ2.next+1+1; omega)
                        refine ⟨w,ρ',f1,fin2 w _ ρ' f2 (by rw [f3]; simp; omega) (fun k hk=>?_) (by simp; omega) (by simp; omega) fun t ht=>?_⟩
                        · rw [f4 k hk]
                          simp [show ¬ k=σ2.next+1 by omega]
                          exact hM k (by omega)
                        · rcases List.mem_append.1 ht with ht | ht
                          · exact hab2 t ht
                          · rw [List.mem_singleton.1 ht]; exact hy
                      cases raw with
                      | true =>
                        obtain ⟨w,ρ',f1,f2⟩ := app z ((σ2.mem.set σ2.next (.cells 2 [.int .u64 0,.int .u64 0])).set σ2.next (.cells 2 [u64 z.f0,u64 z.f1])) hzb fun k hk=>by simp [show ¬ k=σ2.next by omega]
                        simp [lk_cons,hlt2,↓q1,↓q2,storeL,c7,fillL,repL,↓f1,w3]
                        exact f2
                      | false =>
                        obtain ⟨w,ρ',f1,f2⟩ := app ⟨z.f0 % 8,z.f1 % 9⟩ (((σ2.mem.set σ2.next (.cells 2 [.int .u64 0,.int .u64 0])).set σ2.next (.cells 2 [u64 z.f0,u64 z.f1])).set σ2.next (.cells 2 [u64 (z.f0 % 8),u64 (z.f1 % 9)])) (by simp only; omega) fun k hk=>by simp [show ¬ k=σ2.next by omega]
                        simp [lk_cons,hlt2,↓q1,↓q2,storeL,c7,fillL,repL,e8,e9,↓f1,w3]
                        exact f2
                    · have keep:∀ M:Mem,(∀ k,k<σ2.next→M.get k=σ2.mem.get k)→∃ mm,mm<x.f1.length - j∧RiJr2 hv xr raw last x.f1 h i σ.next σ'.next s mm [(1,.bool raw),(4,.ptr (σ.next+1) 0),(5,.ptr (σ.next+1+1) 0),(6,u64 last),(8,.ptr σ'.next 0),(9,av),(19,hv),(20,i64 h.length),(21,i64 i),(57,xr),(58,i64 x.f1.length),(59,i64 j')] ⟨M,σ2.next+1⟩ := fun M hM =>
                        fin2 av ac ⟨M,σ2.next+1⟩ (by
                          rcases hav with hav | ⟨o,k1,k2,k3,k4,k5⟩
                          · exact .inl hav
                          · exact .inr ⟨o,k1,k2,k3,by show o<σ2.next+1; omega,(hM o k4).trans k5⟩) (by simp) (fun k hk=>hM k (by omega)) ha6 (by omega) hab2
                      cases raw with
                      | true =>
                        simp [lk_cons,hlt2,↓q1,↓q2,storeL,c7,fillL,repL,w3]
                        exact keep _ fun k hk=>by simp [show ¬ k=σ2.next by omega]
                      | false =>
                        simp [lk_cons,hlt2,↓q1,↓q2,storeL,c7,fillL,repL,w3]
                        exact keep _ fun k hk=>by simp [show ¬ k=σ2.next by omega]
                  · have:j=x.f1.length := by omega
                    subst this
                    simp [lk_cons]
                    exact ⟨av,ac,hav,ha6,hab2,hn2,hg2,rfl⟩
              · rintro rg2 s3 ⟨av,ac,hav,ha6,hab2,hn3,hg3,t1,t4,t5,t6,t8,t9,t19,t20,t21⟩
                have n8 := (hg3 _ (show σ'.next<s.next by omega)).trans hs8
                have n2 := (hg3 _ (show σ.next+1+1<s.next by omega)).trans s2
                have pos:∀ x∈acc,x.f0<L := fun y hy=>by
                  have := hlast y hy
                  by_cases c2:L≤last
                  · have h0 := hnot.2 c2 (by
                      have := List.length_pos_of_mem hy
                      omega)
                    rw [h0] at hy; cases hy
                  · omega
                have y2:∀ k:Nat,k<σ'.next→s3.mem.get k=σ'.mem.get k := fun k hk=>(hg3 k (by omega)).trans (hsg k hk)
                -- behind the document's Set
                have after:∀ (y:List S25) (bn:Nat) (r:List S25),r=rset ac y→y.length≤1→(∀ z∈y,0≤z.f0∧0≤z.f1)→(∀ n,InP r n→L=ml→me≤n)→r≠[]→COk ml me (acc++[⟨L,r⟩])∧r.length≤14 := by
                  intro y bn r hr hy1 hy2 hin hne
                  obtain ⟨e1,e2,e3,_⟩ := rset_spec hab2 hy2
                  rw [← hr] at e1 e2 e3
                  refine ⟨⟨hok_snoc hC.1 pos (by show -1<L; omega) e1 hne,fun t ht=>?_,fun K n hK=>?_⟩,by omega⟩
                  · rcases List.mem_append.1 ht with ht | ht
                    · exact hC.2.1 t ht
                    · rw [List.mem_singleton.1 ht]; exact hL.2
                  · rw [of_snoc K ⟨L,r⟩ acc pos] at hK
                    by_cases hKL:L=K
                    · rw [if_pos hKL] at hK
                      by_cases hm2:L=ml
                      · exact .inr ⟨by omega,hin n hK hm2⟩
                      · exact .inl (by omega)
                    · rw [if_neg hKL] at hK
                      exact hC.2.2 K n hK
                have last3:∀ (y:List S25) (r:List S25) (vv:AVal) (ρ0:St),r=rset ac y→y.length≤1→(∀ z∈y,0≤z.f0∧0≤z.f1)→(∀ n,InP r n→L=ml→me≤n)→r≠[]→RgI vv r→σ'.next≤ρ0.next→(∀ k,k<σ'.next→ρ0.mem.get k=σ'.mem.get k) →
                    ∃ w ρ',evalV ⟨ρ0.mem.set ρ0.next (.cells 2 [u64 L,vv]),ρ0.next+1⟩ (.append 2 32 ov (.sl ρ0.next 0 1 1 true))=some (w,ρ')∧w.one=true∧cellsOf w=[w]∧ρ'.mem.get (σ.next+1+1)=some (.cells 3 [u64 ml,u64 me,ov])∧(∀ k,k<σ'.next→(k<σ.next+1+1+1∨σ'.next≤k)→ρ'.mem.get k=σ'.mem.get k)∧(σ'.next<ρ0.next→ρ'.mem.get σ'.next=ρ0.mem.get σ'.next) ∧
                    ∃ mm,mm<h.length - i∧RiJr hv raw ml me h σ mm [(1,.bool raw),(4,.ptr (σ.next+1) 0),(5,.ptr (σ.next+1+1) 0),(6,u64 L),(19,hv),(20,i64 h.length),(21,i64 k)] ⟨ρ'.mem.set (σ.next+1+1) (.cells 3 [u64 ml,u64 me,w]),ρ'.next⟩ := by
                  intro y r vv ρ0 hr hy1 hy2 hin hne hvv hρ hρm
                  obtain ⟨hco,hr14⟩ := after y 0 r hr hy1 hy2 hin hne
                  obtain ⟨w,ρ',f1,f2,f3,f4⟩ := hout_app (b := ρ0.next) (L := L) (rv := vv) (r := r) (ρ0 := σ') (ρ := ⟨ρ0.mem.set ρ0.next (.cells 2 [u64 L,vv]),ρ0.next+1⟩) ho (by show σ'.next≤ρ0.next+1; omega) (fun k _ hk=>by simp [show ¬ k=ρ0.next by omega]; exact hρm k hk) (by omega) (by simp) (.inl hvv) hn
                  have f5:∀ k,k<σ.next+1+1+1→ρ'.mem.get k=σ'.mem.get k := fun k hk=>by
                    rw [f4 k (by show k<ρ0.next+1; omega) (.inl hk)]
                    simp [show ¬ k=ρ0.next by omega]
                    exact hρm k (by omega)
                  refine ⟨w,ρ',f1,f2.one.1,f2.one.2,(f5 _ (by omega)).trans m2,fun k _ hk=>?_,fun hlt3=>?_,?_⟩
                  · rcases hk with hk | hk
                    · exact f5 k hk
                    · omega
                  · rw [f4 _ (by show σ'.next<ρ0.next+1; omega) (.inr (Nat.le_refl _))]
                    simp [show ¬ σ'.next=ρ0.next by omega]
                  · refine fin L w (acc++[⟨L,r⟩]) _ ⟨hco,by simp; omega,by simp; omega,fun t ht=>?_,fun t ht=>?_,by omega⟩ (f2.frame (σ2 := ⟨ρ'.mem.set (σ.next+1+1) (.cells 3 [u64 ml,u64 me,w]),ρ'.next⟩) (Nat.le_refl _) fun k hk _=>by simp [show ¬ k=σ.next+1+1 by omega]) (by show σ'.next≤ρ'.next; rw [f3]; show _≤ρ0.next+1+1; omega) (fun k hk=>by simp [show ¬ k=σ.next+1+1 by omega]; exact f5 k (by omega)) (by simp)
                    · rcases List.mem_append.1 ht with ht | ht
                      · exact hrl t ht
                      · rw [List.mem_singleton.1 ht]; exact hr14
                    · rcases List.mem_append.1 ht with ht | ht
                      · have := pos t ht; omega
                      · rw [List.mem_singleton.1 ht]; exact Int.le_refl _
                have x1:¬ σ'.next=s3.next := by omega
                have x2:¬ σ.next+1+1=s3.next := by omega
                by_cases cL:ml<L
                · have hy2:∀ z∈([]:List S25),0≤z.f0∧0≤z.f1 := fun z hz=>absurd hz List.not_mem_nil
                  simp [lk_cons,t1,t4,t5,t6,t8,t9,t19,t20,t21,n8,n2,fillL,storeL,repL,cL,x1,x2]
                  refine rgset_c (y := []) (hav.set (.cells 2 [u64 0,u64 me])).rgm (.inl (.inl ⟨rfl,rfl⟩)) (by simp; omega) hab2 hy2 _ fun sv hsv=>?_
                  have sl := (hsv.m σ).len
                  have v1 := hsv.one.1
                  have v2 := hsv.one.2
                  obtain ⟨r,hr⟩:∃ r,r=rset ac [] := ⟨_,rfl⟩
                  rw [← hr] at hsv sl
                  by_cases hr0:r=[]
                  · have c0:¬ 0<r.length := by rw [hr0]; simp
                    simp [lk_cons,↓sl,c0,w1]
                    exact fin last ov acc ⟨s3.mem.set s3.next (.cells 2 [u64 0,u64 me]),s3.next+1⟩ ⟨hC,by omega,ho7,hrl,hlast,hl0⟩ (ho.frame (by show σ'.next≤s3.next+1; omega) fun a _ hb=>by simp [show ¬ a=s3.next by omega]; exact y2 a hb) (by show σ'.next≤s3.next+1; omega) (fun a ha=>by simp [show ¬ a=s3.next by omega]; exact y2 a (by omega)) (by simp [x2]; exact n2)
                  · have c0:0<r.length := List.length_pos_iff.2 hr0
                    obtain ⟨w,ρ',f1,g1',g2',f2,f3,f4,f5⟩ := last3 [] r sv ⟨s3.mem.set s3.next (.cells 2 [u64 0,u64 me]),s3.next+1⟩ hr (by simp) hy2 (fun n _ e=>by omega) hr0 hsv (by show σ'.next≤s3.next+1; omega) (fun k hk=>by simp [show ¬ k=s3.next by omega]; exact y2 k hk)
                    have b8:ρ'.mem.get σ'.next=some (.cells 2 [u64 L,xr]) := by
                      rw [f4 (by show σ'.next<s3.next+1; omega)]
                      simp [x1]; exact n8
                    simp [lk_cons,↓sl,c0,w1,x1,x2,n8,n2,v1,v2,fillL,storeL,repL,↓f1,f2,g1',g2',b8,show ¬ σ'.next=σ.next+1+1 by omega,show ¬ σ'.next=s3.next+1 by omega]
                    exact f5
                · have hy2:∀ z∈([⟨0,me⟩]:List S25),0≤z.f0∧0≤z.f1 := fun z hz=>by rw [List.mem_singleton.1 hz]; exact ⟨Int.le_refl _,hme.1⟩
                  simp [lk_cons,t1,t4,t5,t6,t8,t9,t19,t20,t21,n8,n2,fillL,storeL,repL,cL,x1,x2]
                  refine rgset_c (y := [⟨0,me⟩]) (hav.set (.cells 2 [u64 0,u64 me])).rgm (.inr ⟨s3.next,0,1,true,[u64 0,u64 me],rfl,by simp,by simp,by simp,by simp,by simp [rc]⟩) (by simp; omega) hab2 hy2 _ fun sv hsv=>?_
                  have sl := (hsv.m σ).len
                  have v1 := hsv.one.1
                  have v2 := hsv.one.2
                  obtain ⟨r,hr⟩:∃ r,r=rset ac [⟨0,me⟩] := ⟨_,rfl⟩
                  rw [← hr] at hsv sl
                  by_cases hr0:r=[]
                  · have c0:¬ 0<r.length := by rw [hr0]; simp
                    simp [lk_cons,↓sl,c0,w1]
                    exact fin last ov acc ⟨s3.mem.set s3.next (.cells 2 [u64 0,u64 me]),s3.next+1⟩ ⟨hC,by omega,ho7,hrl,hlast,hl0⟩ (ho.frame (by show σ'.next≤s3.next+1; omega) fun a _ hb=>by simp [show ¬ a=s3.next by omega]; exact y2 a hb) (by show σ'.next≤s3.next+1; omega) (fun a ha=>by simp [show ¬ a=s3.next by omega]; exact y2 a (by omega)) (by simp [x2]; exact n2)
                  · have c0:0<r.length := List.length_pos_iff.2 hr0
                    obtain ⟨w,ρ',f1,g1',g2',f2,f3,f4,f5⟩ := last3 [⟨0,me⟩] r sv ⟨s3.mem.set s3.next (.cells 2 [u64 0,u64 me]),s3.next+1⟩ hr (by simp) hy2 (fun n hn e=>by
                      obtain ⟨k1,k2,_,_⟩ := rset_spec hab2 hy2
                      rw [← hr] at k1 k2
                      have h3 := ((k2 n).1 hn).2
                      have h4 := can_in k1.1 hn
                      have h5:¬ (0≤n∧n<me) := fun h'=>h3 ⟨⟨0,me⟩,List.mem_singleton.2 rfl,h'⟩
                      omega) hr0 hsv (by show σ'.next≤s3.next+1; omega) (fun k hk=>by simp [show ¬ k=s3.next by omega]; exact y2 k hk)
                    have b8:ρ'.mem.get σ'.next=some (.cells 2 [u64 L,xr]) := by
                      rw [f4 (by show σ'.next<s3.next+1; omega)]
                      simp [x1]; exact n8
                    simp [lk_cons,↓sl,c0,w1,x1,x2,n8,n2,v1,v2,fillL,storeL,repL,↓f1,f2,g1',g2',b8,show ¬ σ'.next=σ.next+1+1 by omega,show ¬ σ'.next=s3.next+1 by omega]
                    exact f5
    · have:i=h.length := by omega
      subst this
      simp [lk_cons,m1,m2,z1,z2,z3,storeL,o1,o2]
      exact done σ' (Nat.le_refl _) fun _ _=>rfl
end Go.Proofs.YticefdfhcahlfaaGreatDoor.AM


namespace Go.Proofs.YticefdfhcahlfaaGreatDoor.AM
open Go.RowKit
set_option maxRecDepth 100000
set_option linter.unusedVariables false
set_option linter.unusedSimpArgs false
def RgW (σ:St) (v:AVal) (l:List S25):Prop := RgI v l∨∃ a o c t vals,v=.sl a o l.length c t∧a<σ.next∧σ.mem.get a=some (.cells 2 vals)∧o+l.length*2≤vals.length∧(vals.drop o).take (l.length*2)=rc l
theorem RgI.w {v:AVal} {l:List S25} (h:RgI v l) (σ:St):RgW σ v l := .inl h
theorem RgN.w {lo hi:Nat} {σ:St} {v:AVal} {l:List S25} (h:RgN lo hi σ.mem v l) (hh:hi≤σ.next):RgW σ v l := by
  rcases h with h | ⟨b,c,t,h1,h2,h3,h4⟩
  · exact .inl h
  · refine .inr ⟨b,0,c,t,rc l,h1,by omega,h4,by rw [rc_len]; omega,?_⟩
    rw [List.drop_zero,List.take_of_length_le (by rw [rc_len]; exact Nat.le_refl _)]
theorem RgW.len {σ:St} {v:AVal} {l:List S25} (h:RgW σ v l) (ρ:St):evalV ρ (.len 1 v)=some (i64 l.length,ρ) := by
  rcases h with (⟨rfl,rfl⟩ | ⟨t,rfl⟩) | ⟨a,o,c,t,vals,rfl,_⟩ <;> simp
theorem RgW.one {σ:St} {v:AVal} {l:List S25} (h:RgW σ v l):v.one=true∧cellsOf v=[v] := by
  rcases h with (⟨rfl,rfl⟩ | ⟨t,rfl⟩) | ⟨a,o,c,t,vals,rfl,_⟩ <;> simp
theorem RgW.frame {σ σ':St} {v:AVal} {l:List S25} (h:RgW σ v l) (hn:σ.next≤σ'.next) (hm:∀ a,a<σ.next→σ'.mem.get a=σ.mem.get a):RgW σ' v l := by
  rcases h with h | ⟨a,o,c,t,vals,h1,h3,h4,h5,h6⟩
  · exact .inl h
  · exact .inr ⟨a,o,c,t,vals,h1,by omega,(hm a h3).trans h4,h5,h6⟩
theorem RgW.at {σ:St} {v:AVal} {l:List S25} (hv:RgW σ v l) {i:Nat} {x:S25} (hx:l[i]?=some x) {ρ:St} (hm:∀ a,a<σ.next→ρ.mem.get a=σ.mem.get a) :
    ∃ p,evalV ρ (.idxAddr 2 v (i64 i))=some (p,ρ)∧evalV ρ (.ldn 2 p)=some (.agg [u64 x.f0,u64 x.f1],ρ)∧(∃ q,evalV ρ (.fieldAddr 0 p)=some (q,ρ)∧evalV ρ (.ld1 q)=some (u64 x.f0,ρ))∧∃ q,evalV ρ (.fieldAddr 1 p)=some (q,ρ)∧evalV ρ (.ld1 q)=some (u64 x.f1,ρ) := by
  have hi := (List.getElem?_eq_some_iff.1 hx).1
  rcases hv with (⟨rfl,rfl⟩ | ⟨t,rfl⟩) | ⟨a,o,c,t,vals,rfl,c3,c4,c5,c6⟩
  · simp at hx
  · have e1 := rc_get hx
    exact ⟨.iptr [u64 x.f0,u64 x.f1],by simp [hi,e1],by simp,⟨.iptr [u64 x.f0,u64 x.f1],by simp,by simp⟩,⟨.iptr [u64 x.f1],by simp,by simp⟩⟩
  · obtain ⟨e1,e2,e3,e4⟩ := sl_get c5 c6 hx
    have ga := (hm a c3).trans c4
    exact ⟨.ptr a (o+i*2),by simp [hi],by simp [ga,e3,e4],⟨.ptr a (o+i*2),by simp,by simp [ga,e1]⟩,⟨.ptr a (o+i*2+1),by simp,by simp [ga,e2]⟩⟩
theorem HCM.get {lo hi:Nat} {m:Mem}:∀ {cs:List AVal} {xs:List Hd} {i:Nat} {x:Hd},HCM lo hi m cs xs→xs[i]?=some x→∃ r,RgN lo hi m r x.f1∧(cs.drop (i*2)).take 2=[u64 x.f0,r]∧cs[i*2]?=some (u64 x.f0)∧cs[i*2+1]?=some r
  | a :: b :: cs,y :: xs,0,x,h,hx=>by
    simp at hx; subst hx
    exact ⟨b,h.2.1,by simp [h.1],by simp [h.1],by simp⟩
  | a :: b :: cs,y :: xs,i+1,x,h,hx=>by
    obtain ⟨r,h1,h2,h3,h4⟩ := h.2.2.get (i := i) (by simpa using hx)
    have e:(i+1)*2=i*2+1+1 := by omega
    exact ⟨r,h1,by rw [e]; simpa using h2,by rw [e]; simpa using h3,by rw [e]; simpa using h4⟩
  | [],[],_,_,_,hx=>by simp at hx
  | [],_ :: _,_,_,h,_=>h.elim
  | [_],_,_,_,h,_=>by cases ‹List Hd› <;> exact h.elim
  | _ :: _ :: _,[],_,_,h,_=>h.elim
def HR (σ:St) (v:AVal) (h:List Hd):Prop := HI v h∨∃ lo,HOut lo σ v h
theorem HR.len {σ:St} {v:AVal} {h:List Hd} (hh:HR σ v h) (ρ:St):evalV ρ (.len 1 v)=some (i64 h.length,ρ) := by
  rcases hh with hh | ⟨lo,⟨rfl,rfl⟩ | ⟨o,cs,rfl,_⟩⟩
  · exact hh.len ρ
  · simp
  · simp
theorem HR.one {σ:St} {v:AVal} {h:List Hd} (hh:HR σ v h):v.one=true∧cellsOf v=[v] := by
  rcases hh with hh | ⟨lo,hh⟩
  · exact hh.one
  · exact hh.one
theorem HR.frame {σ σ':St} {v:AVal} {h:List Hd} (hh:HR σ v h) (hn:σ.next≤σ'.next) (hm:∀ a,a<σ.next→σ'.mem.get a=σ.mem.get a):HR σ' v h := by
  rcases hh with hh | ⟨lo,hh⟩
  · exact .inl hh
  · exact .inr ⟨lo,hh.frame hn fun a _ ha=>hm a ha⟩
theorem HR.at {σ:St} {v:AVal} {h:List Hd} (hh:HR σ v h) {i:Nat} {x:Hd} (hx:h[i]?=some x) {ρ:St} (hm:∀ a,a<σ.next→ρ.mem.get a=σ.mem.get a) :
    ∃ p r,RgW σ r x.f1∧evalV ρ (.idxAddr 2 v (i64 i))=some (p,ρ)∧evalV ρ (.ldn 2 p)=some (.agg [u64 x.f0,r],ρ)∧(∃ q,evalV ρ (.fieldAddr 0 p)=some (q,ρ)∧evalV ρ (.ld1 q)=some (u64 x.f0,ρ))∧∃ q,evalV ρ (.fieldAddr 1 p)=some (q,ρ)∧evalV ρ (.ld1 q)=some (r,ρ) := by
  rcases hh with hh | ⟨lo,⟨rfl,rfl⟩ | ⟨o,cs,rfl,h2,h3,h4,h5,h6⟩⟩
  · obtain ⟨p,r,h1,h2,h3,h4,h5⟩ := hh.at hx ρ
    exact ⟨p,r,h1.w σ,h2,h3,h4,h5⟩
  · simp at hx
  · obtain ⟨r,hr,e1,e2,e3⟩ := h6.get hx
    have hi := (List.getElem?_eq_some_iff.1 hx).1
    have hlen := h6.len
    have hb:i*2+2≤cs.length := by omega
    have ga := (hm o h4).trans h5
    exact ⟨.ptr o (i*2),r,hr.w (by omega),by simp [hi],by simp [ga,e1,hb],⟨.ptr o (i*2),by simp,by simp [ga,e2]⟩,⟨.ptr o (i*2+1),by simp,by simp [ga,e3]⟩⟩
end Go.Proofs.YticefdfhcahlfaaGreatDoor.AM
