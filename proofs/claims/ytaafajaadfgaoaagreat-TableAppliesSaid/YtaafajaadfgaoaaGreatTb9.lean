import Derived.Test.YtaafajaadfgaoaaGreatTb8
import Derived.Test.YtaafajaadfgaoaaGreatTb2
import Derived.Test.YtaafajaadfgaoaaGreatTb5
set_option linter.unusedSimpArgs false
set_option linter.unusedVariables false
set_option maxRecDepth 100000
set_option maxHeartbeats 60000000
namespace Go.Proofs.YtaafajaadfgaoaaGreat
structure Opd where
 k : Int
 h : Int
 i : Int
 n : Int
 c : Int
 v : Int
 t : Int
def ZY (n : Int) : List Int := List.replicate n.toNat 0
def Z0 : List Ob → Int → Option Nat
 | [], _ => none
 | o :: r, h => if o.h = h then some 0 else (Z0 r h).map (· + 1)
def ZQ (os : List Ob) (to : Int) : Bool := decide (to = 0) || os.any fun o => decide (o.h = to)
def zeN : List Bl → Int → Option Bl
 | [], _ => none
 | x :: r, n => match zeN r n with
  | none => if n ≤ x.o then some x else none
  | some y => if n ≤ x.o ∧ x.o ≤ y.o then some x else some y
def zaZ (h t : Int) : Int := if t = h then 0 else t
def zfk (h : Int) (o : Ob) : Ob := { o with ls := o.ls.map (zaZ h) }
def zip (h p o : Int) (ws ls : List Int) : Ob := ⟨h, p, o, none, ws, 0, none, ls, 0⟩
def zeO (x : Hv) (b : Bl) (n : Int) (ws ls : List Int) : Hv := { x with os := x.os ++ [zip x.nx b.p n ws ls], fs := za3 x.fs b n, nx := x.nx + 1 }
def zdl (x : Hv) (i : Nat) (g : Ob) : Hv :=
 { x with os := (x.os.eraseIdx i).map (zfk g.h), fs := zal x.od x.fs (zaD g), t0 := zaZ g.h x.t0, t1 := zaZ g.h x.t1, t2 := zaZ g.h x.t2, t3 := zaZ g.h x.t3 }
def zfi (x : Hv) (i : Nat) (o : Ob) (k : Nat) (v : Int) : Hv := { x with os := x.os.set i { o with ws := o.ws.set k v } }
def zim (x : Hv) (i : Nat) (o : Ob) (k : Nat) (v : Int) : Hv := { x with os := x.os.set i { o with ls := o.ls.set k v } }
def zmE (x : Hv) (k : Nat) (v : Int) : Hv := match k with
 | 0 => { x with t0 := v }
 | 1 => { x with t1 := v }
 | 2 => { x with t2 := v }
 | _ => { x with t3 := v }
def zbm (x : Hv) (o : Opd) : Hv × Int × Int :=
 if Zy o.n o.c < 0 then (x, 53, 0) else if 1000000 < x.nx then (x, 2, 0) else match zeN x.fs (Zy o.n o.c) with
  | none => (x, 50, 0)
  | some b => (zeO x b (Zy o.n o.c) (ZY o.n) (ZY o.c), 0, x.nx)
def zj1 (o : Opd) (b : Ob) : List Int := if o.k = 4 ∨ o.k = 7 then b.ls else b.ws
def atC (x : Hv) (o : Opd) : Hv × Int × Int := match Z0 x.os o.h with
 | none => (x, 51, 0)
 | some i => match x.os[i]? with
  | none => (x, 51, 0)
  | some b => if o.k = 2 then (zdl x i b, 0, 0) else if o.i < 0 ∨ ((zj1 o b).length : Int) ≤ o.i then (x, 52, 0) else if o.k = 3 then (zfi x i b o.i.toNat o.v, 0, 0)
   else if o.k = 4 then (if ZQ x.os o.t then (zim x i b o.i.toNat o.t, 0, 0) else (x, 51, 0)) else (x, 0, (zj1 o b).getD o.i.toNat 0)
def zj8 (x : Hv) (o : Opd) : Hv × Int × Int :=
 if o.i < 0 ∨ 3 < o.i then (x, 52, 0) else if o.k = 8 then (x, 0, (tops x).getD o.i.toNat 0) else if ZQ x.os o.t then (zmE x o.i.toNat o.t, 0, 0) else (x, 51, 0)
def doC (x : Hv) (o : Opd) : Hv × Int × Int :=
 if o.k = 1 then zbm x o else if o.k = 2 ∨ o.k = 3 ∨ o.k = 4 ∨ o.k = 6 ∨ o.k = 7 then atC x o else if o.k = 5 ∨ o.k = 8 then zj8 x o else (x, 54, 0)
theorem zd3 {os : List Ob} {t : Int} : ZQ os t = true ↔ Zw os t := by
 unfold ZQ Zw
 rw [Bool.or_eq_true, List.any_eq_true]
 simp
theorem zdI (os : List Ob) (t : Int) : ZQ os t = zaA os t := by
 rw [Bool.eq_iff_iff, zd3, zaL]
theorem zd6 {os : List Ob} {h : Int} : Z0 os h = none ↔ ∀ o ∈ os, o.h ≠ h := by
 induction os with
 | nil => simp [Z0]
 | cons o r ih =>
  unfold Z0
  by_cases hq : o.h = h
  ·simp [hq]
  ·simp [hq, ih]
theorem zc1 {os : List Ob} {h : Int} : ∀ {i : Nat}, Z0 os h = some i → ∃ o, os[i]? = some o ∧ o.h = h ∧ ∀ j q, j < i → os[j]? = some q → q.h ≠ h := by
 induction os with
 | nil => intro i hi; cases hi
 | cons o r ih =>
  intro i hi
  unfold Z0 at hi
  by_cases hq : o.h = h
  ·rw [if_pos hq] at hi; cases hi
   exact ⟨o, rfl, hq, fun j q hj => by omega⟩
  ·rw [if_neg hq] at hi
   cases hr : Z0 r h with
   | none => rw [hr] at hi; cases hi
   | some j =>
    rw [hr] at hi
    simp only [Option.map_some, Option.some.injEq] at hi
    subst hi
    obtain ⟨q, h1, h2, h3⟩ := ih hr
    refine ⟨q, by simpa using h1, h2, fun k q' hk hq' => ?_⟩
    cases k with
    | zero => simp at hq'; subst hq'; exact hq
    | succ k => exact h3 k q' (by omega) (by simpa using hq')
theorem zhp {os : List Ob} {h : Int} {k : Nat} (hs : zaq os) (hk : AtO os h k) : Z0 os h = if zcM os h k = true then some k else none := by
 obtain ⟨h1, h2, h3⟩ := hk
 cases hp : Z0 os h with
 | none =>
  rw [if_neg]
  intro hb
  unfold zcM at hb
  split at hb
  ·rename_i y hy
   exact zd6.1 hp y (List.mem_of_getElem? hy) (by simpa using hb)
  ·cases hb
 | some i =>
  obtain ⟨o, ho, hoh, hfirst⟩ := zc1 hp
  have hik : k ≤ i := Nat.le_of_not_lt fun hlt => by have := h2 i o ho hlt; omega
  by_cases hki : k = i
  ·subst hki
   rw [if_pos]
   unfold zcM; rw [ho]; simpa using hoh
  ·exfalso
   have hlt : k < i := by omega
   have hil := (List.getElem?_eq_some_iff.1 ho).1
   have hkk := List.getElem?_eq_getElem (l := os) (i := k) (by omega)
   have := h3 k _ hkk (Nat.le_refl _)
   have := hs k i _ _ hlt hkk ho
   omega
theorem zb0 {l : List Bl} {n : Int} : zeN l n = none ↔ ZD l n = false := by
 induction l with
 | nil => simp [zeN, ZD]
 | cons x r ih =>
  have e : ZD (x :: r) n = (decide (n ≤ x.o) || ZD r n) := by simp [ZD]
  rw [e]
  unfold zeN
  cases hr : zeN r n with
  | none => rw [ih.1 hr]; by_cases h : n ≤ x.o <;> simp [h]
  | some y =>
   have hg : ZD r n = true := by
    cases hq : ZD r n with
    | true => rfl
    | false => rw [ih.2 hq] at hr; cases hr
   rw [hg]
   simp only [Bool.or_true]
   split <;> simp
theorem zdk {l : List Bl} {n : Int} (hd : zdW l) : ∀ {b : Bl}, zeN l n = some b → zcC n l b := by
 induction l with
 | nil => intro b h; cases h
 | cons x r ih =>
  intro b h
  obtain ⟨d1, d2⟩ := List.pairwise_cons.1 hd
  unfold zeN at h
  cases hr : zeN r n with
  | none =>
   rw [hr] at h
   by_cases hx : n ≤ x.o
   ·simp only [hx, if_true] at h
    cases h
    refine ⟨by simp, hx, fun y hy hny => ?_⟩
    rcases List.mem_cons.1 hy with rfl | hy
    ·unfold LtB; omega
    ·exfalso
     have := zb0.1 hr
     unfold ZD at this
     rw [List.any_eq_false] at this
     exact this y hy (by simpa using hny)
   ·simp only [hx, if_false] at h
    cases h
  | some y =>
   rw [hr] at h
   have hy := ih d2 hr
   simp only at h
   split at h
   ·rename_i hc
    cases h
    refine ⟨by simp, hc.1, fun z hz hnz => ?_⟩
    rcases List.mem_cons.1 hz with rfl | hz
    ·unfold LtB; omega
    ·have h1 := hy.least z hz hnz
     have h2 := d1 z hz
     have h3 := z7 x.o
     unfold LtB at h1 ⊢
     omega
   ·rename_i hc
    cases h
    refine ⟨by simp [hy.mem], hy.great, fun z hz hnz => ?_⟩
    rcases List.mem_cons.1 hz with rfl | hz
    ·unfold LtB; omega
    ·exact hy.least z hz hnz
def zfl (o : Ob) : Int × Int × Int × Nat × Nat := (o.h, o.p, o.o, o.ws.length, o.ls.length)
def zdX (l k : List Ob) : Prop := l.map zfl = k.map zfl
theorem zdX.get {l k : List Ob} (h : zdX l k) {i : Nat} {b : Ob} (hb : k[i]? = some b) : ∃ a, l[i]? = some a ∧ zfl a = zfl b := by
 have h1 : (k.map zfl)[i]? = some (zfl b) := by rw [List.getElem?_map, hb]; rfl
 rw [← h, List.getElem?_map] at h1
 cases ha : l[i]? with
 | none => rw [ha] at h1; cases h1
 | some a => rw [ha] at h1; injection h1 with h1; exact ⟨a, rfl, h1⟩
theorem zdX.mem {l k : List Ob} (h : zdX l k) {b : Ob} (hb : b ∈ k) : ∃ a ∈ l, zfl a = zfl b := by
 obtain ⟨i, hi, rfl⟩ := List.getElem_of_mem hb
 obtain ⟨a, ha, hs⟩ := h.get (List.getElem?_eq_getElem hi)
 exact ⟨a, List.mem_of_getElem? ha, hs⟩
theorem zdX.symm {l k : List Ob} (h : zdX l k) : zdX k l := Eq.symm h
theorem zdX.leads {l k : List Ob} (h : zdX l k) {t : Int} (ht : Zw l t) : Zw k t := by
 rcases ht with ht | ⟨o, ho, rfl⟩
 ·exact .inl ht
 ·obtain ⟨a, ha, hs⟩ := h.symm.mem ho
  unfold zfl at hs
  injection hs with hs
  exact .inr ⟨a, ha, hs⟩
theorem zdX.rise {l k : List Ob} {nx : Int} (h : zdX l k) (hr : zeH nx l) : zeH nx k := fun i o ho => by
 obtain ⟨a, ha, hs⟩ := h.get ho
 obtain ⟨h1, h2, h3⟩ := hr i a ha
 unfold zfl at hs
 injection hs with hs
 rw [← hs]
 refine ⟨h1, h2, fun j q hj hq => ?_⟩
 obtain ⟨b, hb, hs2⟩ := h.get hq
 unfold zfl at hs2
 injection hs2 with hs2
 rw [← hs2]
 exact h3 j b hj hb
theorem zdX.bls {l k : List Ob} (h : zdX l k) : l.map zaD = k.map zaD := by
 have : zaD = (fun s : Int × Int × Int × Nat × Nat => (⟨s.2.1, s.2.2.1⟩ : Bl)) ∘ zfl := rfl
 rw [this, ← List.map_map, ← List.map_map, show l.map zfl = k.map zfl from h]
theorem zdX.len {l k : List Ob} (h : zdX l k) : l.length = k.length := by
 have := congrArg List.length (show l.map zfl = k.map zfl from h)
 simpa using this
theorem zdX.need {l k : List Ob} {od : Int} (h : zdX l k) (hn : zeG od l) : zeG od k := fun o ho => by
 obtain ⟨a, ha, hs⟩ := h.mem ho
 obtain ⟨h1, h2⟩ := hn a ha
 unfold zfl at hs
 injection hs with s1 s2
 injection s2 with s2 s3
 injection s3 with s3 s4
 injection s4 with s4 s5
 unfold zaD at h2 ⊢
 rw [← s2, ← s3, ← s4, ← s5]
 exact ⟨h1, h2⟩
theorem zd7 {x : Hv} (hx : zQ x) {os : List Ob} {a b c d : Int} (h : zdX x.os os) (hl : zfC os) (ht : ∀ t ∈ [a, b, c, d], Zw os t) : zQ { x with os := os, t0 := a, t1 := b, t2 := c, t3 := d } := by
 have hb : x.fs ++ os.map zaD = zdi x := by unfold zdi; rw [h.bls]
 exact ⟨hx.free, hx.lo, hx.hi, by rw [← h.len]; exact hx.len, h.rise hx.rise, h.need hx.need, by unfold zdi; simp only; rw [hb]; exact hx.apart, hl, ht, by unfold zdi; simp only; rw [hb]; exact hx.words⟩
theorem zdX.set {l : List Ob} {i : Nat} {a b : Ob} (ha : l[i]? = some a) (h : zfl a = zfl b) : zdX l (l.set i b) := by
 unfold zdX
 rw [List.map_set, ← h, ZH (by rw [List.getElem?_map, ha]; rfl)]
theorem zfU {l : List Ob} {i : Nat} {b o : Ob} (h : o ∈ l.set i b) : o ∈ l ∨ o = b := List.mem_or_eq_of_mem_set h
theorem ziv {x : Hv} (hx : zQ x) {i : Nat} {o : Ob} (ho : x.os[i]? = some o) (k : Nat) (v : Int) : zQ (zfi x i o k v) := by
 have hlk : zdX x.os (x.os.set i { o with ws := o.ws.set k v }) := zdX.set ho (by simp [zfl])
 refine zd7 hx hlk (fun q hq t ht => hlk.leads ?_) (fun t ht => hlk.leads (hx.tops t ht))
 rcases zfU hq with h | h
 ·exact hx.links q h t ht
 ·subst h; exact hx.links o (List.mem_of_getElem? ho) t ht
theorem zj0 {x : Hv} (hx : zQ x) {i : Nat} {o : Ob} (ho : x.os[i]? = some o) (k : Nat) {v : Int} (hv : ZQ x.os v = true) : zQ (zim x i o k v) := by
 have hlk : zdX x.os (x.os.set i { o with ls := o.ls.set k v }) := zdX.set ho (by simp [zfl])
 refine zd7 hx hlk (fun q hq t ht => hlk.leads ?_) (fun t ht => hlk.leads (hx.tops t ht))
 rcases zfU hq with h | h
 ·exact hx.links q h t ht
 ·subst h
  rcases List.mem_or_eq_of_mem_set ht with h | h
  ·exact hx.links o (List.mem_of_getElem? ho) t h
  ·subst h; exact zd3.1 hv
theorem zlk {x : Hv} (hx : zQ x) (k : Nat) {v : Int} (hv : ZQ x.os v = true) : zQ (zmE x k v) := by
 have h0 := zd3.1 hv
 have ht := hx.tops
 unfold tops at ht
 simp only [List.mem_cons, List.not_mem_nil, or_false, forall_eq_or_imp, forall_eq] at ht
 obtain ⟨q0, q1, q2, q3⟩ := ht
 have key : ∀ a b c d : Int, Zw x.os a → Zw x.os b → Zw x.os c → Zw x.os d → zQ { x with t0 := a, t1 := b, t2 := c, t3 := d } := fun a b c d ha hb hc hd =>
  zd7 hx (os := x.os) rfl hx.links (by simp only [List.mem_cons, List.not_mem_nil, or_false, forall_eq_or_imp, forall_eq]; exact ⟨ha, hb, hc, hd⟩)
 unfold zmE
 split
 ·exact key v x.t1 x.t2 x.t3 h0 q1 q2 q3
 ·exact key x.t0 v x.t2 x.t3 q0 h0 q2 q3
 ·exact key x.t0 x.t1 v x.t3 q0 q1 h0 q3
 ·exact key x.t0 x.t1 x.t2 v q0 q1 q2 h0
theorem zhk {od : Int} : ∀ (n : Nat) {l : List Bl} {b : Bl}, l.Nodup → 0 ≤ b.o → zbD (zcL od n l b).1 + pw (zcL od n l b).2.o = zbD l + pw b.o
 | 0, _, _, _, _ => rfl
 | n + 1, l, b, hn, hb => by
  by_cases hc : b.o < od ∧ ZW b ∈ l
  ·rw [zi1 hc.1 hc.2, zhk n (hn.sublist (zaJ _ _)) (by unfold zaC; simp only; omega)]
   have h1 := zcb (zcT hn hc.2)
   rw [Z1] at h1
   have h2 : (ZW b).o = b.o := by unfold ZW; split <;> rfl
   have h3 : (zaC b).o = b.o + 1 := rfl
   rw [h3, zbB hb]
   rw [h2] at h1
   omega
  ·rw [zgr hc]
theorem zjJ {od : Int} {fs : List Bl} {b : Bl} (hc : Can od fs) (hb : 0 ≤ b.o) : zbD (zal od fs b) = zbD fs + pw b.o := by
 unfold zal
 rw [zhx]
 have := zhk (od := od) (od - b.o).toNat (l := fs) (b := b) hc.disj.sorted.nodup hb
 omega
theorem za8 {a b : Bl} : zaw a b ↔ ∃ w, InW a w ∧ InW b w := by
 unfold zaw InW
 have h1 := z7 a.o
 have h2 := z7 b.o
 constructor
 ·intro h
  rcases Int.le_total a.p b.p with h3 | h3
  ·exact ⟨b.p, by omega, by omega⟩
  ·exact ⟨a.p, by omega, by omega⟩
 ·rintro ⟨w, h3, h4⟩; omega
theorem zdW.aparts {l : List Bl} (h : zdW l) : zaR l := List.Pairwise.imp (fun {a b} hab hm => by unfold zaw at hm; omega) h
theorem zjm {l k : List Bl} (h : zaR (l ++ k)) {a b : Bl} (ha : a ∈ l) (hb : b ∈ k) : ¬ zaw a b := by
 unfold zaR at h
 rw [List.pairwise_append] at h
 exact h.2.2 a ha b hb
theorem zQ.give {x : Hv} (hx : zQ x) {i : Nat} {g : Ob} (hg : x.os[i]? = some g) : zcj x.od g.p g.o = true ∧ zan x.fs g.p g.o = false := by
 have hm := List.mem_of_getElem? hg
 refine ⟨by unfold zcj; exact decide_eq_true (hx.need g hm).2, ?_⟩
 cases hq : zan x.fs g.p g.o with
 | false => rfl
 | true =>
  obtain ⟨w, ⟨f, hf, h1⟩, h2⟩ := zk0.1 hq
  exact absurd (za8.2 ⟨w, h1, h2⟩) (zjm hx.apart hf (List.mem_map_of_mem (f := zaD) hm))
theorem zjZ {x : Hv} (hx : zQ x) {i : Nat} {g : Ob} (hg : x.os[i]? = some g) : zQ (zdl x i g) := by
 obtain ⟨h3, h8, hcan⟩ := zca hx.free
 have hmem := List.mem_of_getElem? hg
 obtain ⟨hmay, hno⟩ := hx.give hg
 have hga := zkH hcan hmay hno
 obtain ⟨gc, gv⟩ := zkI h8 hcan hga
 have hsub : (x.os.eraseIdx i).Sublist x.os := List.eraseIdx_sublist x.os i
 have hlk : zdX (x.os.eraseIdx i) ((x.os.eraseIdx i).map (zfk g.h)) := by
  unfold zdX; rw [List.map_map]; apply List.map_congr_left; intro o _; simp [zfl, zfk]
 have hperm : x.os.Perm (g :: x.os.eraseIdx i) := by
  obtain ⟨hlt, rfl⟩ := List.getElem?_eq_some_iff.1 hg
  rw [List.eraseIdx_eq_take_drop_succ]
  conv => lhs; rw [← List.take_append_drop i x.os, List.drop_eq_getElem_cons hlt]
  exact List.perm_middle
 have hap : zaR (x.fs ++ (zaD g :: (x.os.eraseIdx i).map zaD)) := (zaR.perm (List.Perm.append_left _ (hperm.map zaD))).1 hx.apart
 have hcut : ∀ t, Zw x.os t → Zw ((x.os.eraseIdx i).map (zfk g.h)) (zaZ g.h t) := fun t ht => by
  unfold zaZ
  split
  ·exact .inl rfl
  ·rename_i hne
   rcases ht with ht | ⟨o, ho, rfl⟩
   ·exact .inl ht
   ·refine hlk.leads (.inr ⟨o, ?_, rfl⟩)
    obtain ⟨j, hj, rfl⟩ := List.getElem_of_mem ho
    refine List.mem_eraseIdx_iff_getElem?.2 ⟨j, fun hji => ?_, List.getElem?_eq_getElem hj⟩
    subst hji
    rw [List.getElem?_eq_getElem hj] at hg
    injection hg with hg
    exact hne (by rw [hg])
 refine ⟨zg4 h3 h8 gc, hx.lo, hx.hi, ?_, hlk.rise ?_, hlk.need (fun o ho => hx.need o (hsub.subset ho)), ?_, ?_, ?_, ?_⟩
 ·unfold zdl; simp only; rw [List.length_map]; have := hsub.length_le; have := hx.len; omega
 ·intro j o ho
  rw [List.getElem?_eraseIdx] at ho
  have key : ∀ (j : Nat) o, (if j < i then x.os[j]? else x.os[j + 1]?) = some o → ∃ j', x.os[j']? = some o ∧ ∀ (k : Nat) q, k < j → (if k < i then x.os[k]? else x.os[k + 1]?) = some q → ∃ k', k' < j' ∧ x.os[k']? = some q := fun j o ho => by
   split at ho
   ·refine ⟨j, ho, fun k q hk hq => ⟨k, hk, ?_⟩⟩
    rw [if_pos (by omega)] at hq; exact hq
   ·refine ⟨j + 1, ho, fun k q hk hq => ?_⟩
    split at hq
    ·exact ⟨k, by omega, hq⟩
    ·exact ⟨k + 1, by omega, hq⟩
  obtain ⟨j', hj', hk'⟩ := key j o ho
  obtain ⟨a1, a2, a3⟩ := hx.rise j' o hj'
  refine ⟨a1, a2, fun k q hk hq => ?_⟩
  rw [List.getElem?_eraseIdx] at hq
  obtain ⟨k', hlt, hq'⟩ := hk' k q hk hq
  exact a3 k' q hlt hq'
 ·show zaR (zal x.od x.fs (zaD g) ++ ((x.os.eraseIdx i).map (zfk g.h)).map zaD)
  rw [← hlk.bls]
  unfold zaR at hap ⊢
  rw [List.pairwise_append] at hap ⊢
  obtain ⟨p1, p2, p3⟩ := hap
  obtain ⟨p4, p5⟩ := List.pairwise_cons.1 p2
  refine ⟨gc.disj.aparts, p5, fun a ha b hb hm => ?_⟩
  obtain ⟨w, w1, w2⟩ := za8.1 hm
  rcases (gv w).1 ⟨a, ha, w1⟩ with ⟨f, hf, w3⟩ | w3
  ·exact p3 f hf b (by simp only [List.mem_cons]; exact .inr hb) (za8.2 ⟨w, w3, w2⟩)
  ·exact p4 b hb (za8.2 ⟨w, w3, w2⟩)
 ·intro o ho t ht
  obtain ⟨q, hq, rfl⟩ := List.mem_map.1 ho
  obtain ⟨t', ht', rfl⟩ := List.mem_map.1 ht
  exact hcut t' (hx.links q (hsub.subset hq) t' ht')
 ·intro t ht
  have h := hx.tops
  unfold tops at h ht
  simp only [zdl, List.mem_cons, List.not_mem_nil, or_false] at h ht
  rcases ht with rfl | rfl | rfl | rfl
  ·exact hcut _ (h _ (.inl rfl))
  ·exact hcut _ (h _ (.inr (.inl rfl)))
  ·exact hcut _ (h _ (.inr (.inr (.inl rfl))))
  ·exact hcut _ (h _ (.inr (.inr (.inr rfl))))
 ·show zbD (zal x.od x.fs (zaD g) ++ ((x.os.eraseIdx i).map (zfk g.h)).map zaD) = pw x.od
  rw [← hlk.bls, zbE, zjJ (b := zaD g) hcan hga.may.1]
  have h1 := hx.words
  unfold zdi at h1
  rw [zbE, zcb (hperm.map zaD), List.map_cons, Z1] at h1
  omega
theorem znB (l : List Bl) : (l.length : Int) ≤ zbD l := by
 induction l with
 | nil => simp [zbD]
 | cons b l ih => rw [Z1, List.length_cons]; have := z7 b.o; omega
theorem zeB {a b : Int} (h : 0 ≤ Zy a b) : 0 ≤ a ∧ a ≤ 32 ∧ 0 ≤ b ∧ b ≤ 16 := by
 unfold Zy at h
 split at h
 ·rename_i h'; exact h'
 ·omega
theorem zjY {x : Hv} (hx : zQ x) {b : Bl} {n c : Int} (h0 : 0 ≤ Zy n c) (hnx : x.nx ≤ 1000000) (hb : zcC (Zy n c) x.fs b) : zQ (zeO x b (Zy n c) (ZY n) (ZY c)) := by
 obtain ⟨h3, h8, hcan⟩ := zca hx.free
 have hi := zlz h8 hcan hb.mem h0 hb.great
 obtain ⟨n1, n2, n3, n4⟩ := zeB h0
 have hap : zaR (za3 x.fs b (Zy n c) ++ (x.os ++ [zip x.nx b.p (Zy n c) (ZY n) (ZY c)]).map zaD) := by
  have h := hx.apart
  unfold zaR zdi at h
  unfold zaR
  rw [List.map_append]
  rw [List.pairwise_append] at h ⊢
  obtain ⟨p1, p2, p3⟩ := h
  have hold : ∀ w, cov x.fs w → ∀ y ∈ x.os.map zaD, ¬ InW y w := fun w ⟨f, hf, hw⟩ y hy h2 => p3 f hf y hy (za8.2 ⟨w, hw, h2⟩)
  refine ⟨hi.lv.1.aparts, ?_, fun u hu v hv hm => ?_⟩
  ·rw [List.pairwise_append]
   refine ⟨p2, by simp, fun u hu v hv hm => ?_⟩
   simp only [List.map_cons, List.map_nil, List.mem_singleton] at hv
   subst hv
   obtain ⟨w, w1, w2⟩ := za8.1 hm
   exact hold w ((hi.cov w).2 (.inr w2)) u hu w1
  ·obtain ⟨w, w1, w2⟩ := za8.1 hm
   rcases List.mem_append.1 hv with hv | hv
   ·exact hold w ((hi.cov w).2 (.inl ⟨u, hu, w1⟩)) v hv w2
   ·simp only [List.map_cons, List.map_nil, List.mem_singleton] at hv
    subst hv
    have := hi.lv.2 u hu
    unfold InW at w1 w2
    simp only [zaD, zip] at w2
    omega
 have hsum : zbD (za3 x.fs b (Zy n c) ++ (x.os ++ [zip x.nx b.p (Zy n c) (ZY n) (ZY c)]).map zaD) = pw x.od := by
  have h := hx.words
  unfold zdi at h
  have h2 := hi.sum
  rw [zbE] at h ⊢
  rw [List.map_append, zbE]
  simp only [List.map_cons, List.map_nil, Z1, zmz, zaD, zip]
  omega
 have hle : ∀ t, Zw x.os t → Zw (x.os ++ [zip x.nx b.p (Zy n c) (ZY n) (ZY c)]) t := fun t ht => by
  rcases ht with ht | ⟨o, ho, hh⟩
  ·exact .inl ht
  ·exact .inr ⟨o, List.mem_append_left _ ho, hh⟩
 refine ⟨zg4 h3 h8 ⟨hi.lv.1, hi.may, hi.alone⟩, by have := hx.lo; simp only [zeO]; omega, by simp only [zeO]; omega, ?_, ?_, ?_, hap, ?_, fun t ht => hle t (hx.tops t ht), hsum⟩
 ·have h1 := znB (za3 x.fs b (Zy n c) ++ (x.os ++ [zip x.nx b.p (Zy n c) (ZY n) (ZY c)]).map zaD)
  rw [hsum] at h1
  have h2 := zdN h8
  simp only [zeO, List.length_append, List.length_map] at h1 ⊢
  omega
 ·intro j o ho
  simp only [zeO] at ho ⊢
  rw [List.getElem?_append] at ho
  split at ho
  ·rename_i hj
   obtain ⟨a1, a2, a3⟩ := hx.rise j o ho
   refine ⟨a1, by omega, fun k q hk hq => ?_⟩
   rw [List.getElem?_append_left (by omega)] at hq
   exact a3 k q hk hq
  ·rename_i hj
   have hj0 : j - x.os.length = 0 := by
    have := (List.getElem?_eq_some_iff.1 ho).1
    simp only [z0g, z0h] at this; omega
   rw [hj0] at ho
   simp only [List.getElem?_cons_zero, Option.some.injEq] at ho
   subst ho
   have hlo := hx.lo
   refine ⟨hlo, by simp only [zip]; omega, fun k q hk hq => ?_⟩
   rw [List.getElem?_append_left (by omega)] at hq
   exact (hx.rise k q hq).2.1
 ·intro o ho
  simp only [zeO] at ho ⊢
  rcases List.mem_append.1 ho with ho | ho
  ·exact hx.need o ho
  ·rw [List.mem_singleton] at ho
   subst ho
   refine ⟨?_, hi.here⟩
   simp only [zip, ZY, List.length_replicate]
   rw [Int.toNat_of_nonneg n1, Int.toNat_of_nonneg n3]
 ·intro o ho t ht
  simp only [zeO] at ho ⊢
  rcases List.mem_append.1 ho with ho | ho
  ·exact hle t (hx.links o ho t ht)
  ·rw [List.mem_singleton] at ho
   subst ho
   simp only [zip, ZY] at ht
   exact .inl (List.eq_of_mem_replicate ht)
theorem zkz {x : Hv} (hx : zQ x) (o : Opd) : zQ (doC x o).1 := by
 unfold doC
 split
 ·unfold zbm
  split
  ·exact hx
  ·rename_i hn
   split
   ·exact hx
   ·rename_i hnx
    split
    ·exact hx
    ·rename_i b hb
     exact zjY hx (by omega) (by omega) (zdk (zca hx.free).2.2.disj hb)
 ·split
  ·unfold atC
   split
   ·exact hx
   ·rename_i i hi
    split
    ·exact hx
    ·rename_i b hb
     split
     ·exact zjZ hx hb
     ·split
      ·exact hx
      ·split
       ·exact ziv hx hb _ _
       ·split
        ·split
         ·rename_i hl; exact zj0 hx hb _ hl
         ·exact hx
        ·exact hx
  ·split
   ·unfold zj8
    split
    ·exact hx
    ·split
     ·exact hx
     ·split
      ·rename_i hl; exact zlk hx _ hl
      ·exact hx
   ·exact hx
open Go.RowKit
def ObR (x : Ob) (R : List Blk) : Prop := ∃ Rw Rl, R = Rw ++ Rl ∧ zH 3 1 (.slice x.wa x.ws.length x.wc) x.ws.length (x.ws.flatMap iV) Rw ∧ zH 3 1 (.slice x.la x.ls.length x.lc) x.ls.length (x.ls.flatMap iV) Rl
inductive zdZ : List Ob → List Blk → Prop
 | nil : zdZ [] []
 | cons {x : Ob} {l : List Ob} {R M : List Blk} : ObR x R → zdZ l M → zdZ (x :: l) (R ++ M)
theorem zdZ.at_ {l : List Ob} {M : List Blk} (h : zdZ l M) : ∀ {i : Nat} {x : Ob}, l[i]? = some x →
  ∃ M1 R M2, M = M1 ++ (R ++ M2) ∧ ObR x R ∧ (∀ y R', ObR y R' → zdZ (l.set i y) (M1 ++ (R' ++ M2))) ∧ zdZ (l.eraseIdx i) (M1 ++ M2) := by
 induction h with
 | nil => intro i x hx; simp at hx
 | @cons y l R M hR hM ih =>
  intro i x hx
  cases i with
  | zero =>
   simp at hx
   subst hx
   exact ⟨[], R, M, rfl, hR, fun z R' hz => (zdZ.cons hz hM : zdZ (z :: l) (R' ++ M)), hM⟩
  | succ i =>
   obtain ⟨M1, R1, M2, rfl, h1, h2, h3⟩ := ih (by simpa using hx)
   exact ⟨R ++ M1, R1, M2, by rw [List.append_assoc], h1, fun z R' hz => by rw [List.append_assoc]; exact .cons hR (h2 z R' hz), by rw [List.append_assoc]; exact .cons hR h3⟩
theorem zdZ.snoc {l : List Ob} {M R : List Blk} {x : Ob} (h : zdZ l M) (hx : ObR x R) : zdZ (l ++ [x]) (M ++ R) := by
 induction h with
 | nil => simpa using zdZ.cons hx zdZ.nil
 | @cons y l R' M hR hM ih => rw [List.cons_append, List.append_assoc]; exact .cons hR ih
theorem zH.keptS {e : TypeId} {c n : Nat} {a : Option Addr} {k : Nat} {xs : List Value} {R : List Blk} (h : zH e c (.slice a n k) n xs R) : ZC R fun w => zD w a xs := by
 obtain ⟨a', k', hv, hk⟩ := h.kept
 injection hv with h1 h2 h3
 subst h1
 exact hk
theorem ObR.kept {x : Ob} {R : List Blk} (h : ObR x R) : ZC R fun w => x.Is w := by
 obtain ⟨Rw, Rl, rfl, h1, h2⟩ := h
 exact h1.keptS.and h2.keptS
theorem zdZ.kept {l : List Ob} {M : List Blk} (h : zdZ l M) : ZC M fun w => ∀ o ∈ l, o.Is w := by
 induction h with
 | nil => exact ZC.none_ (fun w o ho => by cases ho) _
 | @cons y l R M hR hM ih =>
  refine (hR.kept.and ih).mono (fun p hp => hp) (fun w ⟨h1, h2⟩ o ho => ?_)
  rcases List.mem_cons.1 ho with rfl | ho
  ·exact h1
  ·exact h2 o ho
structure HvR (x : Hv) (RO RF M : List Blk) : Prop where
 objs : zH 126 5 (.slice x.oa x.os.length x.oc) x.os.length (x.os.flatMap obV) RO
 free : zH 124 2 (.slice x.fa x.fs.length x.fc) x.fs.length (x.fs.flatMap blV) RF
 rows : zdZ x.os M
theorem HvR.kept {x : Hv} {RO RF M : List Blk} (h : HvR x RO RF M) : ZC (RO ++ (RF ++ M)) fun w => x.Is w :=
 (h.objs.keptS.and (h.free.keptS.and h.rows.kept)).mono (fun _ hp => hp) fun _ ⟨h1, h2, h3⟩ => ⟨h1, h3, h2⟩
def zZ (B : Nat) (w0 w : World) (b : Nat) (x : Hv) (K : List Blk) : Prop := ∃ RO RF M, HvR x RO RF M ∧ Hp B w0 w (⟨b, hvL x, 113, 8⟩ :: (RO ++ (RF ++ (M ++ K))))
theorem HvR.is {x : Hv} {RO RF M K L : List Blk} (h : HvR x RO RF M) {B : Nat} {w0 w : World} (hp : Hp B w0 w (L ++ (RO ++ (RF ++ (M ++ K))))) : x.Is w :=
 h.kept.at hp (fun p hm => by simp only [List.mem_append] at hm ⊢; rcases hm with hm | hm | hm <;> simp [hm])
theorem zH.own {e : TypeId} {c n : Nat} {a : Option Addr} {k : Nat} {xs : List Value} {R : List Blk} (h : zH e c (.slice a n k) n xs R) (hn : 0 < n) : ∃ g, a = some ⟨g, 0, none⟩ ∧ n ≤ k ∧ k ≤ maxLen ∧ R = [⟨g, xs, e, k * c⟩] ∧ xs.length = n * c := by
 obtain ⟨hl, ⟨h0, _⟩ | ⟨g, cap, hv, h1, h2, hr⟩⟩ := h
 ·omega
 ·injection hv with v1 v2 v3
  subst v1 v3
  exact ⟨g, rfl, h1, h2, hr, hl⟩
theorem Hp.sublist {B : Nat} {w0 w : World} {L L' : List Blk} (hp : Hp B w0 w L) (h : L'.Sublist L) : Hp B w0 w L' :=
 ⟨hp.below, hp.size, (h.map _).nodup hp.nodup, fun p hpL => hp.own p (h.subset hpL)⟩
end Go.Proofs.YtaafajaadfgaoaaGreat
