import Derived.Test.YtaafajaadfgaoaaGreatCx10
import Derived.Test.YtaafajaadfgaoaaGreatCx2
import Derived.Test.YtaafajaadfgaoaaGreatCx7
set_option linter.unusedSimpArgs false
set_option linter.unusedVariables false
set_option maxRecDepth 100000
set_option maxHeartbeats 60000000
namespace Go.Proofs.YtaafajaadfgaoaaGreat
structure Opd where
 k : Int
 h : Int
 i : Int
 n : Int
 c : Int
 v : Int
 t : Int
def ZT (n : Int) : List Int := List.replicate n.toNat 0
def Z2 : List Ob → Int → Option Nat
 | [], _ => none
 | o :: r, h => if o.h = h then some 0 else (Z2 r h).map (· + 1)
def Z4 (os : List Ob) (to : Int) : Bool := decide (to = 0) || os.any fun o => decide (o.h = to)
def zfP : List Bl → Int → Option Bl
 | [], _ => none
 | x :: r, n => match zfP r n with
  | none => if n ≤ x.o then some x else none
  | some y => if n ≤ x.o ∧ x.o ≤ y.o then some x else some y
def zd4 (h t : Int) : Int := if t = h then 0 else t
def zf9 (h : Int) (o : Ob) : Ob := { o with ls := o.ls.map (zd4 h) }
def zhe (h p o : Int) (ws ls : List Int) : Ob := ⟨h, p, o, none, ws, 0, none, ls, 0⟩
def zeE (x : Hv) (b : Bl) (n : Int) (ws ls : List Int) : Hv := { x with os := x.os ++ [zhe x.nx b.p n ws ls], fs := zcO x.fs b n, nx := x.nx + 1 }
def zeF (x : Hv) (i : Nat) (g : Ob) : Hv :=
 { x with os := (x.os.eraseIdx i).map (zf9 g.h), fs := zaE x.od x.fs (Z3 g), t0 := zd4 g.h x.t0, t1 := zd4 g.h x.t1, t2 := zd4 g.h x.t2, t3 := zd4 g.h x.t3 }
def zgs (x : Hv) (i : Nat) (o : Ob) (k : Nat) (v : Int) : Hv := { x with os := x.os.set i { o with ws := o.ws.set k v } }
def zlr (x : Hv) (i : Nat) (o : Ob) (k : Nat) (v : Int) : Hv := { x with os := x.os.set i { o with ls := o.ls.set k v } }
def zop (x : Hv) (k : Nat) (v : Int) : Hv := match k with
 | 0 => { x with t0 := v }
 | 1 => { x with t1 := v }
 | 2 => { x with t2 := v }
 | _ => { x with t3 := v }
def zdA (x : Hv) (o : Opd) : Hv × Int × Int :=
 if Zk o.n o.c < 0 then (x, 53, 0) else if 1000000 < x.nx then (x, 2, 0) else match zfP x.fs (Zk o.n o.c) with
  | none => (x, 50, 0)
  | some b => (zeE x b (Zk o.n o.c) (ZT o.n) (ZT o.c), 0, x.nx)
def zoo (o : Opd) (b : Ob) : List Int := if o.k = 4 ∨ o.k = 7 then b.ls else b.ws
def atC (x : Hv) (o : Opd) : Hv × Int × Int := match Z2 x.os o.h with
 | none => (x, 51, 0)
 | some i => match x.os[i]? with
  | none => (x, 51, 0)
  | some b => if o.k = 2 then (zeF x i b, 0, 0) else if o.i < 0 ∨ ((zoo o b).length : Int) ≤ o.i then (x, 52, 0) else if o.k = 3 then (zgs x i b o.i.toNat o.v, 0, 0)
   else if o.k = 4 then (if Z4 x.os o.t then (zlr x i b o.i.toNat o.t, 0, 0) else (x, 51, 0)) else (x, 0, (zoo o b).getD o.i.toNat 0)
def zsv (x : Hv) (o : Opd) : Hv × Int × Int :=
 if o.i < 0 ∨ 3 < o.i then (x, 52, 0) else if o.k = 8 then (x, 0, (tops x).getD o.i.toNat 0) else if Z4 x.os o.t then (zop x o.i.toNat o.t, 0, 0) else (x, 51, 0)
def doC (x : Hv) (o : Opd) : Hv × Int × Int :=
 if o.k = 1 then zdA x o else if o.k = 2 ∨ o.k = 3 ∨ o.k = 4 ∨ o.k = 6 ∨ o.k = 7 then atC x o else if o.k = 5 ∨ o.k = 8 then zsv x o else (x, 54, 0)
theorem zea {os : List Ob} {t : Int} : Z4 os t = true ↔ Zd os t := by
 unfold Z4 Zd
 rw [Bool.or_eq_true, List.any_eq_true]
 simp
theorem zpq (os : List Ob) (t : Int) : Z4 os t = zas os t := by
 rw [Bool.eq_iff_iff, zea, zaF]
theorem zlC {os : List Ob} {h : Int} : Z2 os h = none ↔ ∀ o ∈ os, o.h ≠ h := by
 induction os with
 | nil => simp [Z2]
 | cons o r ih =>
  unfold Z2
  by_cases hq : o.h = h
  ·simp [hq]
  ·simp [hq, ih]
theorem zee {os : List Ob} {h : Int} : ∀ {i : Nat}, Z2 os h = some i → ∃ o, os[i]? = some o ∧ o.h = h ∧ ∀ j q, j < i → os[j]? = some q → q.h ≠ h := by
 induction os with
 | nil => intro i hi; cases hi
 | cons o r ih =>
  intro i hi
  unfold Z2 at hi
  by_cases hq : o.h = h
  ·rw [if_pos hq] at hi; cases hi
   exact ⟨o, rfl, hq, fun j q hj => by omega⟩
  ·rw [if_neg hq] at hi
   cases hr : Z2 r h with
   | none => rw [hr] at hi; cases hi
   | some j =>
    rw [hr] at hi
    simp only [Option.map_some, Option.some.injEq] at hi
    subst hi
    obtain ⟨q, h1, h2, h3⟩ := ih hr
    refine ⟨q, by simpa using h1, h2, fun k q' hk hq' => ?_⟩
    cases k with
    | zero => simp at hq'; subst hq'; exact hq
    | succ k => exact h3 k q' (by omega) (by simpa using hq')
theorem zic {os : List Ob} {h : Int} {k : Nat} (hs : zac os) (hk : AtO os h k) : Z2 os h = if zcG os h k = true then some k else none := by
 obtain ⟨h1, h2, h3⟩ := hk
 cases hp : Z2 os h with
 | none =>
  rw [if_neg]
  intro hb
  unfold zcG at hb
  split at hb
  ·rename_i y hy
   exact zlC.1 hp y (List.mem_of_getElem? hy) (by simpa using hb)
  ·cases hb
 | some i =>
  obtain ⟨o, ho, hoh, hfirst⟩ := zee hp
  have hik : k ≤ i := Nat.le_of_not_lt fun hlt => by have := h2 i o ho hlt; omega
  by_cases hki : k = i
  ·subst hki
   rw [if_pos]
   unfold zcG; rw [ho]; simpa using hoh
  ·exfalso
   have hlt : k < i := by omega
   have hil := (List.getElem?_eq_some_iff.1 ho).1
   have hkk := List.getElem?_eq_getElem (l := os) (i := k) (by omega)
   have := h3 k _ hkk (Nat.le_refl _)
   have := hs k i _ _ hlt hkk ho
   omega
theorem zd0 {l : List Bl} {n : Int} : zfP l n = none ↔ ZW l n = false := by
 induction l with
 | nil => simp [zfP, ZW]
 | cons x r ih =>
  have e : ZW (x :: r) n = (decide (n ≤ x.o) || ZW r n) := by simp [ZW]
  rw [e]
  unfold zfP
  cases hr : zfP r n with
  | none => rw [ih.1 hr]; by_cases h : n ≤ x.o <;> simp [h]
  | some y =>
   have hg : ZW r n = true := by
    cases hq : ZW r n with
    | true => rfl
    | false => rw [ih.2 hq] at hr; cases hr
   rw [hg]
   simp only [Bool.or_true]
   split <;> simp
theorem ze3 {l : List Bl} {n : Int} (hd : zdW l) : ∀ {b : Bl}, zfP l n = some b → zer n l b := by
 induction l with
 | nil => intro b h; cases h
 | cons x r ih =>
  intro b h
  obtain ⟨d1, d2⟩ := List.pairwise_cons.1 hd
  unfold zfP at h
  cases hr : zfP r n with
  | none =>
   rw [hr] at h
   by_cases hx : n ≤ x.o
   ·simp only [hx, if_true] at h
    cases h
    refine ⟨by simp, hx, fun y hy hny => ?_⟩
    rcases List.mem_cons.1 hy with rfl | hy
    ·unfold LtB; omega
    ·exfalso
     have := zd0.1 hr
     unfold ZW at this
     rw [List.any_eq_false] at this
     exact this y hy (by simpa using hny)
   ·simp only [hx, if_false] at h
    cases h
  | some y =>
   rw [hr] at h
   have hy := ih d2 hr
   simp only at h
   split at h
   ·rename_i hc
    cases h
    refine ⟨by simp, hc.1, fun z hz hnz => ?_⟩
    rcases List.mem_cons.1 hz with rfl | hz
    ·unfold LtB; omega
    ·have h1 := hy.least z hz hnz
     have h2 := d1 z hz
     have h3 := zL x.o
     unfold LtB at h1 ⊢
     omega
   ·rename_i hc
    cases h
    refine ⟨by simp [hy.mem], hy.great, fun z hz hnz => ?_⟩
    rcases List.mem_cons.1 hz with rfl | hz
    ·unfold LtB; omega
    ·exact hy.least z hz hnz
def zfK (o : Ob) : Int × Int × Int × Nat × Nat := (o.h, o.p, o.o, o.ws.length, o.ls.length)
def zdX (l k : List Ob) : Prop := l.map zfK = k.map zfK
theorem zdX.get {l k : List Ob} (h : zdX l k) {i : Nat} {b : Ob} (hb : k[i]? = some b) : ∃ a, l[i]? = some a ∧ zfK a = zfK b := by
 have h1 : (k.map zfK)[i]? = some (zfK b) := by rw [List.getElem?_map, hb]; rfl
 rw [← h, List.getElem?_map] at h1
 cases ha : l[i]? with
 | none => rw [ha] at h1; cases h1
 | some a => rw [ha] at h1; injection h1 with h1; exact ⟨a, rfl, h1⟩
theorem zdX.mem {l k : List Ob} (h : zdX l k) {b : Ob} (hb : b ∈ k) : ∃ a ∈ l, zfK a = zfK b := by
 obtain ⟨i, hi, rfl⟩ := List.getElem_of_mem hb
 obtain ⟨a, ha, hs⟩ := h.get (List.getElem?_eq_getElem hi)
 exact ⟨a, List.mem_of_getElem? ha, hs⟩
theorem zdX.symm {l k : List Ob} (h : zdX l k) : zdX k l := Eq.symm h
theorem zdX.leads {l k : List Ob} (h : zdX l k) {t : Int} (ht : Zd l t) : Zd k t := by
 rcases ht with ht | ⟨o, ho, rfl⟩
 ·exact .inl ht
 ·obtain ⟨a, ha, hs⟩ := h.symm.mem ho
  unfold zfK at hs
  injection hs with hs
  exact .inr ⟨a, ha, hs⟩
theorem zdX.rise {l k : List Ob} {nx : Int} (h : zdX l k) (hr : zeX nx l) : zeX nx k := fun i o ho => by
 obtain ⟨a, ha, hs⟩ := h.get ho
 obtain ⟨h1, h2, h3⟩ := hr i a ha
 unfold zfK at hs
 injection hs with hs
 rw [← hs]
 refine ⟨h1, h2, fun j q hj hq => ?_⟩
 obtain ⟨b, hb, hs2⟩ := h.get hq
 unfold zfK at hs2
 injection hs2 with hs2
 rw [← hs2]
 exact h3 j b hj hb
theorem zdX.bls {l k : List Ob} (h : zdX l k) : l.map Z3 = k.map Z3 := by
 have : Z3 = (fun s : Int × Int × Int × Nat × Nat => (⟨s.2.1, s.2.2.1⟩ : Bl)) ∘ zfK := rfl
 rw [this, ← List.map_map, ← List.map_map, show l.map zfK = k.map zfK from h]
theorem zdX.len {l k : List Ob} (h : zdX l k) : l.length = k.length := by
 have := congrArg List.length (show l.map zfK = k.map zfK from h)
 simpa using this
theorem zdX.need {l k : List Ob} {od : Int} (h : zdX l k) (hn : zeW od l) : zeW od k := fun o ho => by
 obtain ⟨a, ha, hs⟩ := h.mem ho
 obtain ⟨h1, h2⟩ := hn a ha
 unfold zfK at hs
 injection hs with s1 s2
 injection s2 with s2 s3
 injection s3 with s3 s4
 injection s4 with s4 s5
 unfold Z3 at h2 ⊢
 rw [← s2, ← s3, ← s4, ← s5]
 exact ⟨h1, h2⟩
theorem zeg {x : Hv} (hx : zJ x) {os : List Ob} {a b c d : Int} (h : zdX x.os os) (hl : zf4 os) (ht : ∀ t ∈ [a, b, c, d], Zd os t) : zJ { x with os := os, t0 := a, t1 := b, t2 := c, t3 := d } := by
 have hb : x.fs ++ os.map Z3 = zbY x := by unfold zbY; rw [h.bls]
 exact ⟨hx.free, hx.lo, hx.hi, by rw [← h.len]; exact hx.len, h.rise hx.rise, h.need hx.need, by unfold zbY; simp only; rw [hb]; exact hx.apart, hl, ht, by unfold zbY; simp only; rw [hb]; exact hx.words⟩
theorem zdX.set {l : List Ob} {i : Nat} {a b : Ob} (ha : l[i]? = some a) (h : zfK a = zfK b) : zdX l (l.set i b) := by
 unfold zdX
 rw [List.map_set, ← h, zay (by rw [List.getElem?_map, ha]; rfl)]
theorem zgf {l : List Ob} {i : Nat} {b o : Ob} (h : o ∈ l.set i b) : o ∈ l ∨ o = b := List.mem_or_eq_of_mem_set h
theorem zjx {x : Hv} (hx : zJ x) {i : Nat} {o : Ob} (ho : x.os[i]? = some o) (k : Nat) (v : Int) : zJ (zgs x i o k v) := by
 have hlk : zdX x.os (x.os.set i { o with ws := o.ws.set k v }) := zdX.set ho (by simp [zfK])
 refine zeg hx hlk (fun q hq t ht => hlk.leads ?_) (fun t ht => hlk.leads (hx.tops t ht))
 rcases zgf hq with h | h
 ·exact hx.links q h t ht
 ·subst h; exact hx.links o (List.mem_of_getElem? ho) t ht
theorem zlI {x : Hv} (hx : zJ x) {i : Nat} {o : Ob} (ho : x.os[i]? = some o) (k : Nat) {v : Int} (hv : Z4 x.os v = true) : zJ (zlr x i o k v) := by
 have hlk : zdX x.os (x.os.set i { o with ls := o.ls.set k v }) := zdX.set ho (by simp [zfK])
 refine zeg hx hlk (fun q hq t ht => hlk.leads ?_) (fun t ht => hlk.leads (hx.tops t ht))
 rcases zgf hq with h | h
 ·exact hx.links q h t ht
 ·subst h
  rcases List.mem_or_eq_of_mem_set ht with h | h
  ·exact hx.links o (List.mem_of_getElem? ho) t h
  ·subst h; exact zea.1 hv
theorem znQ {x : Hv} (hx : zJ x) (k : Nat) {v : Int} (hv : Z4 x.os v = true) : zJ (zop x k v) := by
 have h0 := zea.1 hv
 have ht := hx.tops
 unfold tops at ht
 simp only [List.mem_cons, List.not_mem_nil, or_false, forall_eq_or_imp, forall_eq] at ht
 obtain ⟨q0, q1, q2, q3⟩ := ht
 have key : ∀ a b c d : Int, Zd x.os a → Zd x.os b → Zd x.os c → Zd x.os d → zJ { x with t0 := a, t1 := b, t2 := c, t3 := d } := fun a b c d ha hb hc hd =>
  zeg hx (os := x.os) rfl hx.links (by simp only [List.mem_cons, List.not_mem_nil, or_false, forall_eq_or_imp, forall_eq]; exact ⟨ha, hb, hc, hd⟩)
 unfold zop
 split
 ·exact key v x.t1 x.t2 x.t3 h0 q1 q2 q3
 ·exact key x.t0 v x.t2 x.t3 q0 h0 q2 q3
 ·exact key x.t0 x.t1 v x.t3 q0 q1 h0 q3
 ·exact key x.t0 x.t1 x.t2 v q0 q1 q2 h0
theorem zhT {od : Int} : ∀ (n : Nat) {l : List Bl} {b : Bl}, l.Nodup → 0 ≤ b.o → zba (zcF od n l b).1 + pw (zcF od n l b).2.o = zba l + pw b.o
 | 0, _, _, _, _ => rfl
 | n + 1, l, b, hn, hb => by
  by_cases hc : b.o < od ∧ ZY b ∈ l
  ·rw [zj8 hc.1 hc.2, zhT n (hn.sublist (zbv _ _)) (by unfold zak; simp only; omega)]
   have h1 := zcb (zcT hn hc.2)
   rw [ZH] at h1
   have h2 : (ZY b).o = b.o := by unfold ZY; split <;> rfl
   have h3 : (zak b).o = b.o + 1 := rfl
   rw [h3, zaV hb]
   rw [h2] at h1
   omega
  ·rw [zj9 hc]
theorem zlg {od : Int} {fs : List Bl} {b : Bl} (hc : Can od fs) (hb : 0 ≤ b.o) : zba (zaE od fs b) = zba fs + pw b.o := by
 unfold zaE
 rw [zis]
 have := zhT (od := od) (od - b.o).toNat (l := fs) (b := b) hc.disj.sorted.nodup hb
 omega
theorem zaT {a b : Bl} : zaA a b ↔ ∃ w, InW a w ∧ InW b w := by
 unfold zaA InW
 have h1 := zL a.o
 have h2 := zL b.o
 constructor
 ·intro h
  rcases Int.le_total a.p b.p with h3 | h3
  ·exact ⟨b.p, by omega, by omega⟩
  ·exact ⟨a.p, by omega, by omega⟩
 ·rintro ⟨w, h3, h4⟩; omega
theorem zdW.aparts {l : List Bl} (h : zdW l) : zaH l := List.Pairwise.imp (fun {a b} hab hm => by unfold zaA at hm; omega) h
theorem zkK {l k : List Bl} (h : zaH (l ++ k)) {a b : Bl} (ha : a ∈ l) (hb : b ∈ k) : ¬ zaA a b := by
 unfold zaH at h
 rw [List.pairwise_append] at h
 exact h.2.2 a ha b hb
theorem zJ.give {x : Hv} (hx : zJ x) {i : Nat} {g : Ob} (hg : x.os[i]? = some g) : zct x.od g.p g.o = true ∧ za6 x.fs g.p g.o = false := by
 have hm := List.mem_of_getElem? hg
 refine ⟨by unfold zct; exact decide_eq_true (hx.need g hm).2, ?_⟩
 cases hq : za6 x.fs g.p g.o with
 | false => rfl
 | true =>
  obtain ⟨w, ⟨f, hf, h1⟩, h2⟩ := znn.1 hq
  exact absurd (zaT.2 ⟨w, h1, h2⟩) (zkK hx.apart hf (List.mem_map_of_mem (f := Z3) hm))
theorem zlH {x : Hv} (hx : zJ x) {i : Nat} {g : Ob} (hg : x.os[i]? = some g) : zJ (zeF x i g) := by
 obtain ⟨h3, h8, hcan⟩ := zcJ hx.free
 have hmem := List.mem_of_getElem? hg
 obtain ⟨hmay, hno⟩ := hx.give hg
 have hga := zmV hcan hmay hno
 obtain ⟨gc, gv⟩ := zmW h8 hcan hga
 have hsub : (x.os.eraseIdx i).Sublist x.os := List.eraseIdx_sublist x.os i
 have hlk : zdX (x.os.eraseIdx i) ((x.os.eraseIdx i).map (zf9 g.h)) := by
  unfold zdX; rw [List.map_map]; apply List.map_congr_left; intro o _; simp [zfK, zf9]
 have hperm : x.os.Perm (g :: x.os.eraseIdx i) := by
  obtain ⟨hlt, rfl⟩ := List.getElem?_eq_some_iff.1 hg
  rw [List.eraseIdx_eq_take_drop_succ]
  conv => lhs; rw [← List.take_append_drop i x.os, List.drop_eq_getElem_cons hlt]
  exact List.perm_middle
 have hap : zaH (x.fs ++ (Z3 g :: (x.os.eraseIdx i).map Z3)) := (zaH.perm (List.Perm.append_left _ (hperm.map Z3))).1 hx.apart
 have hcut : ∀ t, Zd x.os t → Zd ((x.os.eraseIdx i).map (zf9 g.h)) (zd4 g.h t) := fun t ht => by
  unfold zd4
  split
  ·exact .inl rfl
  ·rename_i hne
   rcases ht with ht | ⟨o, ho, rfl⟩
   ·exact .inl ht
   ·refine hlk.leads (.inr ⟨o, ?_, rfl⟩)
    obtain ⟨j, hj, rfl⟩ := List.getElem_of_mem ho
    refine List.mem_eraseIdx_iff_getElem?.2 ⟨j, fun hji => ?_, List.getElem?_eq_getElem hj⟩
    subst hji
    rw [List.getElem?_eq_getElem hj] at hg
    injection hg with hg
    exact hne (by rw [hg])
 refine ⟨zhv h3 h8 gc, hx.lo, hx.hi, ?_, hlk.rise ?_, hlk.need (fun o ho => hx.need o (hsub.subset ho)), ?_, ?_, ?_, ?_⟩
 ·unfold zeF; simp only; rw [List.length_map]; have := hsub.length_le; have := hx.len; omega
 ·intro j o ho
  rw [List.getElem?_eraseIdx] at ho
  have key : ∀ (j : Nat) o, (if j < i then x.os[j]? else x.os[j + 1]?) = some o → ∃ j', x.os[j']? = some o ∧ ∀ (k : Nat) q, k < j → (if k < i then x.os[k]? else x.os[k + 1]?) = some q → ∃ k', k' < j' ∧ x.os[k']? = some q := fun j o ho => by
   split at ho
   ·refine ⟨j, ho, fun k q hk hq => ⟨k, hk, ?_⟩⟩
    rw [if_pos (by omega)] at hq; exact hq
   ·refine ⟨j + 1, ho, fun k q hk hq => ?_⟩
    split at hq
    ·exact ⟨k, by omega, hq⟩
    ·exact ⟨k + 1, by omega, hq⟩
  obtain ⟨j', hj', hk'⟩ := key j o ho
  obtain ⟨a1, a2, a3⟩ := hx.rise j' o hj'
  refine ⟨a1, a2, fun k q hk hq => ?_⟩
  rw [List.getElem?_eraseIdx] at hq
  obtain ⟨k', hlt, hq'⟩ := hk' k q hk hq
  exact a3 k' q hlt hq'
 ·show zaH (zaE x.od x.fs (Z3 g) ++ ((x.os.eraseIdx i).map (zf9 g.h)).map Z3)
  rw [← hlk.bls]
  unfold zaH at hap ⊢
  rw [List.pairwise_append] at hap ⊢
  obtain ⟨p1, p2, p3⟩ := hap
  obtain ⟨p4, p5⟩ := List.pairwise_cons.1 p2
  refine ⟨gc.disj.aparts, p5, fun a ha b hb hm => ?_⟩
  obtain ⟨w, w1, w2⟩ := zaT.1 hm
  rcases (gv w).1 ⟨a, ha, w1⟩ with ⟨f, hf, w3⟩ | w3
  ·exact p3 f hf b (by simp only [List.mem_cons]; exact .inr hb) (zaT.2 ⟨w, w3, w2⟩)
  ·exact p4 b hb (zaT.2 ⟨w, w3, w2⟩)
 ·intro o ho t ht
  obtain ⟨q, hq, rfl⟩ := List.mem_map.1 ho
  obtain ⟨t', ht', rfl⟩ := List.mem_map.1 ht
  exact hcut t' (hx.links q (hsub.subset hq) t' ht')
 ·intro t ht
  have h := hx.tops
  unfold tops at h ht
  simp only [zeF, List.mem_cons, List.not_mem_nil, or_false] at h ht
  rcases ht with rfl | rfl | rfl | rfl
  ·exact hcut _ (h _ (.inl rfl))
  ·exact hcut _ (h _ (.inr (.inl rfl)))
  ·exact hcut _ (h _ (.inr (.inr (.inl rfl))))
  ·exact hcut _ (h _ (.inr (.inr (.inr rfl))))
 ·show zba (zaE x.od x.fs (Z3 g) ++ ((x.os.eraseIdx i).map (zf9 g.h)).map Z3) = pw x.od
  rw [← hlk.bls, zaW, zlg (b := Z3 g) hcan hga.may.1]
  have h1 := hx.words
  unfold zbY at h1
  rw [zaW, zcb (hperm.map Z3), List.map_cons, ZH] at h1
  omega
theorem zrM (l : List Bl) : (l.length : Int) ≤ zba l := by
 induction l with
 | nil => simp [zba]
 | cons b l ih => rw [ZH, List.length_cons]; have := zL b.o; omega
theorem zc1 {a b : Int} (h : 0 ≤ Zk a b) : 0 ≤ a ∧ a ≤ 32 ∧ 0 ≤ b ∧ b ≤ 16 := by
 unfold Zk at h
 split at h
 ·rename_i h'; exact h'
 ·omega
theorem zlG {x : Hv} (hx : zJ x) {b : Bl} {n c : Int} (h0 : 0 ≤ Zk n c) (hnx : x.nx ≤ 1000000) (hb : zer (Zk n c) x.fs b) : zJ (zeE x b (Zk n c) (ZT n) (ZT c)) := by
 obtain ⟨h3, h8, hcan⟩ := zcJ hx.free
 have hi := zn6 h8 hcan hb.mem h0 hb.great
 obtain ⟨n1, n2, n3, n4⟩ := zc1 h0
 have hap : zaH (zcO x.fs b (Zk n c) ++ (x.os ++ [zhe x.nx b.p (Zk n c) (ZT n) (ZT c)]).map Z3) := by
  have h := hx.apart
  unfold zaH zbY at h
  unfold zaH
  rw [List.map_append]
  rw [List.pairwise_append] at h ⊢
  obtain ⟨p1, p2, p3⟩ := h
  have hold : ∀ w, cov x.fs w → ∀ y ∈ x.os.map Z3, ¬ InW y w := fun w ⟨f, hf, hw⟩ y hy h2 => p3 f hf y hy (zaT.2 ⟨w, hw, h2⟩)
  refine ⟨hi.lv.1.aparts, ?_, fun u hu v hv hm => ?_⟩
  ·rw [List.pairwise_append]
   refine ⟨p2, by simp, fun u hu v hv hm => ?_⟩
   simp only [List.map_cons, List.map_nil, List.mem_singleton] at hv
   subst hv
   obtain ⟨w, w1, w2⟩ := zaT.1 hm
   exact hold w ((hi.cov w).2 (.inr w2)) u hu w1
  ·obtain ⟨w, w1, w2⟩ := zaT.1 hm
   rcases List.mem_append.1 hv with hv | hv
   ·exact hold w ((hi.cov w).2 (.inl ⟨u, hu, w1⟩)) v hv w2
   ·simp only [List.map_cons, List.map_nil, List.mem_singleton] at hv
    subst hv
    have := hi.lv.2 u hu
    unfold InW at w1 w2
    simp only [Z3, zhe] at w2
    omega
 have hsum : zba (zcO x.fs b (Zk n c) ++ (x.os ++ [zhe x.nx b.p (Zk n c) (ZT n) (ZT c)]).map Z3) = pw x.od := by
  have h := hx.words
  unfold zbY at h
  have h2 := hi.sum
  rw [zaW] at h ⊢
  rw [List.map_append, zaW]
  simp only [List.map_cons, List.map_nil, ZH, zqa, Z3, zhe]
  omega
 have hle : ∀ t, Zd x.os t → Zd (x.os ++ [zhe x.nx b.p (Zk n c) (ZT n) (ZT c)]) t := fun t ht => by
  rcases ht with ht | ⟨o, ho, hh⟩
  ·exact .inl ht
  ·exact .inr ⟨o, List.mem_append_left _ ho, hh⟩
 refine ⟨zhv h3 h8 ⟨hi.lv.1, hi.may, hi.alone⟩, by have := hx.lo; simp only [zeE]; omega, by simp only [zeE]; omega, ?_, ?_, ?_, hap, ?_, fun t ht => hle t (hx.tops t ht), hsum⟩
 ·have h1 := zrM (zcO x.fs b (Zk n c) ++ (x.os ++ [zhe x.nx b.p (Zk n c) (ZT n) (ZT c)]).map Z3)
  rw [hsum] at h1
  have h2 := zcz h8
  simp only [zeE, List.length_append, List.length_map] at h1 ⊢
  omega
 ·intro j o ho
  simp only [zeE] at ho ⊢
  rw [List.getElem?_append] at ho
  split at ho
  ·rename_i hj
   obtain ⟨a1, a2, a3⟩ := hx.rise j o ho
   refine ⟨a1, by omega, fun k q hk hq => ?_⟩
   rw [List.getElem?_append_left (by omega)] at hq
   exact a3 k q hk hq
  ·rename_i hj
   have hj0 : j - x.os.length = 0 := by
    have := (List.getElem?_eq_some_iff.1 ho).1
    simp only [z0g, z0h] at this; omega
   rw [hj0] at ho
   simp only [List.getElem?_cons_zero, Option.some.injEq] at ho
   subst ho
   have hlo := hx.lo
   refine ⟨hlo, by simp only [zhe]; omega, fun k q hk hq => ?_⟩
   rw [List.getElem?_append_left (by omega)] at hq
   exact (hx.rise k q hq).2.1
 ·intro o ho
  simp only [zeE] at ho ⊢
  rcases List.mem_append.1 ho with ho | ho
  ·exact hx.need o ho
  ·rw [List.mem_singleton] at ho
   subst ho
   refine ⟨?_, hi.here⟩
   simp only [zhe, ZT, List.length_replicate]
   rw [Int.toNat_of_nonneg n1, Int.toNat_of_nonneg n3]
 ·intro o ho t ht
  simp only [zeE] at ho ⊢
  rcases List.mem_append.1 ho with ho | ho
  ·exact hle t (hx.links o ho t ht)
  ·rw [List.mem_singleton] at ho
   subst ho
   simp only [zhe, ZT] at ht
   exact .inl (List.eq_of_mem_replicate ht)
theorem zmB {x : Hv} (hx : zJ x) (o : Opd) : zJ (doC x o).1 := by
 unfold doC
 split
 ·unfold zdA
  split
  ·exact hx
  ·rename_i hn
   split
   ·exact hx
   ·rename_i hnx
    split
    ·exact hx
    ·rename_i b hb
     exact zlG hx (by omega) (by omega) (ze3 (zcJ hx.free).2.2.disj hb)
 ·split
  ·unfold atC
   split
   ·exact hx
   ·rename_i i hi
    split
    ·exact hx
    ·rename_i b hb
     split
     ·exact zlH hx hb
     ·split
      ·exact hx
      ·split
       ·exact zjx hx hb _ _
       ·split
        ·split
         ·rename_i hl; exact zlI hx hb _ hl
         ·exact hx
        ·exact hx
  ·split
   ·unfold zsv
    split
    ·exact hx
    ·split
     ·exact hx
     ·split
      ·rename_i hl; exact znQ hx _ hl
      ·exact hx
   ·exact hx
open Go.RowKit
def ObR (x : Ob) (R : List Blk) : Prop := ∃ Rw Rl, R = Rw ++ Rl ∧ zA 3 1 (.slice x.wa x.ws.length x.wc) x.ws.length (x.ws.flatMap iV) Rw ∧ zA 3 1 (.slice x.la x.ls.length x.lc) x.ls.length (x.ls.flatMap iV) Rl
inductive zeM : List Ob → List Blk → Prop
 | nil : zeM [] []
 | cons {x : Ob} {l : List Ob} {R M : List Blk} : ObR x R → zeM l M → zeM (x :: l) (R ++ M)
theorem zeM.at_ {l : List Ob} {M : List Blk} (h : zeM l M) : ∀ {i : Nat} {x : Ob}, l[i]? = some x →
  ∃ M1 R M2, M = M1 ++ (R ++ M2) ∧ ObR x R ∧ (∀ y R', ObR y R' → zeM (l.set i y) (M1 ++ (R' ++ M2))) ∧ zeM (l.eraseIdx i) (M1 ++ M2) := by
 induction h with
 | nil => intro i x hx; simp at hx
 | @cons y l R M hR hM ih =>
  intro i x hx
  cases i with
  | zero =>
   simp at hx
   subst hx
   exact ⟨[], R, M, rfl, hR, fun z R' hz => (zeM.cons hz hM : zeM (z :: l) (R' ++ M)), hM⟩
  | succ i =>
   obtain ⟨M1, R1, M2, rfl, h1, h2, h3⟩ := ih (by simpa using hx)
   exact ⟨R ++ M1, R1, M2, by rw [List.append_assoc], h1, fun z R' hz => by rw [List.append_assoc]; exact .cons hR (h2 z R' hz), by rw [List.append_assoc]; exact .cons hR h3⟩
theorem zeM.snoc {l : List Ob} {M R : List Blk} {x : Ob} (h : zeM l M) (hx : ObR x R) : zeM (l ++ [x]) (M ++ R) := by
 induction h with
 | nil => simpa using zeM.cons hx zeM.nil
 | @cons y l R' M hR hM ih => rw [List.cons_append, List.append_assoc]; exact .cons hR ih
theorem zA.keptS {e : TypeId} {c n : Nat} {a : Option Addr} {k : Nat} {xs : List Value} {R : List Blk} (h : zA e c (.slice a n k) n xs R) : ZK R fun w => zm w a xs := by
 obtain ⟨a', k', hv, hk⟩ := h.kept
 injection hv with h1 h2 h3
 subst h1
 exact hk
theorem ObR.kept {x : Ob} {R : List Blk} (h : ObR x R) : ZK R fun w => x.Is w := by
 obtain ⟨Rw, Rl, rfl, h1, h2⟩ := h
 exact h1.keptS.and h2.keptS
theorem zeM.kept {l : List Ob} {M : List Blk} (h : zeM l M) : ZK M fun w => ∀ o ∈ l, o.Is w := by
 induction h with
 | nil => exact ZK.none_ (fun w o ho => by cases ho) _
 | @cons y l R M hR hM ih =>
  refine (hR.kept.and ih).mono (fun p hp => hp) (fun w ⟨h1, h2⟩ o ho => ?_)
  rcases List.mem_cons.1 ho with rfl | ho
  ·exact h1
  ·exact h2 o ho
structure HvR (x : Hv) (RO RF M : List Blk) : Prop where
 objs : zA 126 5 (.slice x.oa x.os.length x.oc) x.os.length (x.os.flatMap obV) RO
 free : zA 124 2 (.slice x.fa x.fs.length x.fc) x.fs.length (x.fs.flatMap blV) RF
 rows : zeM x.os M
theorem HvR.kept {x : Hv} {RO RF M : List Blk} (h : HvR x RO RF M) : ZK (RO ++ (RF ++ M)) fun w => x.Is w :=
 (h.objs.keptS.and (h.free.keptS.and h.rows.kept)).mono (fun _ hp => hp) fun _ ⟨h1, h2, h3⟩ => ⟨h1, h3, h2⟩
def zQ (B : Nat) (w0 w : World) (b : Nat) (x : Hv) (K : List Blk) : Prop := ∃ RO RF M, HvR x RO RF M ∧ Hp B w0 w (⟨b, hvL x, 113, 8⟩ :: (RO ++ (RF ++ (M ++ K))))
theorem HvR.is {x : Hv} {RO RF M K L : List Blk} (h : HvR x RO RF M) {B : Nat} {w0 w : World} (hp : Hp B w0 w (L ++ (RO ++ (RF ++ (M ++ K))))) : x.Is w :=
 h.kept.at hp (fun p hm => by simp only [List.mem_append] at hm ⊢; rcases hm with hm | hm | hm <;> simp [hm])
theorem zA.own {e : TypeId} {c n : Nat} {a : Option Addr} {k : Nat} {xs : List Value} {R : List Blk} (h : zA e c (.slice a n k) n xs R) (hn : 0 < n) : ∃ g, a = some ⟨g, 0, none⟩ ∧ n ≤ k ∧ k ≤ maxLen ∧ R = [⟨g, xs, e, k * c⟩] ∧ xs.length = n * c := by
 obtain ⟨hl, ⟨h0, _⟩ | ⟨g, cap, hv, h1, h2, hr⟩⟩ := h
 ·omega
 ·injection hv with v1 v2 v3
  subst v1 v3
  exact ⟨g, rfl, h1, h2, hr, hl⟩
theorem Hp.sublist {B : Nat} {w0 w : World} {L L' : List Blk} (hp : Hp B w0 w L) (h : L'.Sublist L) : Hp B w0 w L' :=
 ⟨hp.below, hp.size, (h.map _).nodup hp.nodup, fun p hpL => hp.own p (h.subset hpL)⟩
end Go.Proofs.YtaafajaadfgaoaaGreat
