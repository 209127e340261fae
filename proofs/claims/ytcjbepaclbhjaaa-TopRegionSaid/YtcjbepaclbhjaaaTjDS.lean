import Derived.Test.YtcjbepaclbhjaaaTjQG
import Derived.Test.YtcjbepaclbhjaaaTjQC
/- What an operation makes of a heap: the plain answer, and that it leaves a right heap right. No program in sight. -/
set_option linter.unusedSimpArgs false
set_option linter.unusedVariables false
namespace Go.Proofs.Ytcjbepaclbhjaaa
structure Opd where
  k : Int
  h : Int
  i : Int
  n : Int
  c : Int
  v : Int
  t : Int
def opdL (o : Opd) : List Value := [.int .i64 o.k, .int .i64 o.h, .int .i64 o.i, .int .i64 o.n, .int .i64 o.c, .int .i64 o.v, .int .i64 o.t]
def zerosI (n : Int) : List Int := List.replicate n.toNat 0
def placeO : List Ob → Int → Option Nat
  | [], _ => none
  | o :: r, h => if o.h = h then some 0 else (placeO r h).map (· + 1)
def leadsC (os : List Ob) (to : Int) : Bool := decide (to = 0) || os.any fun o => decide (o.h = to)
def bestB : List Bl → Int → Option Bl
  | [], _ => none
  | x :: r, n => match bestB r n with
    | none => if n ≤ x.o then some x else none
    | some y => if n ≤ x.o ∧ x.o ≤ y.o then some x else some y
def cutI (h t : Int) : Int := if t = h then 0 else t
def cutO (h : Int) (o : Ob) : Ob := { o with ls := o.ls.map (cutI h) }
def mkOb (h p o : Int) (ws ls : List Int) : Ob := ⟨h, p, o, none, ws, 0, none, ls, 0⟩
def bornH (x : Hv) (b : Bl) (n : Int) (ws ls : List Int) : Hv := { x with os := x.os ++ [mkOb x.nx b.p n ws ls], fs := takenL x.fs b n, nx := x.nx + 1 }
def freeH (x : Hv) (i : Nat) (g : Ob) : Hv :=
  { x with os := (x.os.eraseIdx i).map (cutO g.h), fs := givenL x.od x.fs (obBl g), t0 := cutI g.h x.t0, t1 := cutI g.h x.t1, t2 := cutI g.h x.t2, t3 := cutI g.h x.t3 }
def writeH (x : Hv) (i : Nat) (o : Ob) (k : Nat) (v : Int) : Hv := { x with os := x.os.set i { o with ws := o.ws.set k v } }
def linkH (x : Hv) (i : Nat) (o : Ob) (k : Nat) (v : Int) : Hv := { x with os := x.os.set i { o with ls := o.ls.set k v } }
def topH (x : Hv) (k : Nat) (v : Int) : Hv := match k with
  | 0 => { x with t0 := v }
  | 1 => { x with t1 := v }
  | 2 => { x with t2 := v }
  | _ => { x with t3 := v }
def allocC (x : Hv) (o : Opd) : Hv × Int × Int :=
  if needI o.n o.c < 0 then (x, 53, 0) else if 1000000 < x.nx then (x, 2, 0) else match bestB x.fs (needI o.n o.c) with
    | none => (x, 50, 0)
    | some b => (bornH x b (needI o.n o.c) (zerosI o.n) (zerosI o.c), 0, x.nx)
def rowC (o : Opd) (b : Ob) : List Int := if o.k = 4 ∨ o.k = 7 then b.ls else b.ws
def atC (x : Hv) (o : Opd) : Hv × Int × Int := match placeO x.os o.h with
  | none => (x, 51, 0)
  | some i => match x.os[i]? with
    | none => (x, 51, 0)
    | some b => if o.k = 2 then (freeH x i b, 0, 0) else if o.i < 0 ∨ ((rowC o b).length : Int) ≤ o.i then (x, 52, 0) else if o.k = 3 then (writeH x i b o.i.toNat o.v, 0, 0)
      else if o.k = 4 then (if leadsC x.os o.t then (linkH x i b o.i.toNat o.t, 0, 0) else (x, 51, 0)) else (x, 0, (rowC o b).getD o.i.toNat 0)
def topC (x : Hv) (o : Opd) : Hv × Int × Int :=
  if o.i < 0 ∨ 3 < o.i then (x, 52, 0) else if o.k = 8 then (x, 0, (tops x).getD o.i.toNat 0) else if leadsC x.os o.t then (topH x o.i.toNat o.t, 0, 0) else (x, 51, 0)
def doC (x : Hv) (o : Opd) : Hv × Int × Int :=
  if o.k = 1 then allocC x o else if o.k = 2 ∨ o.k = 3 ∨ o.k = 4 ∨ o.k = 6 ∨ o.k = 7 then atC x o else if o.k = 5 ∨ o.k = 8 then topC x o else (x, 54, 0)
theorem leadsC_iff {os : List Ob} {t : Int} : leadsC os t = true ↔ leadsP os t := by
  unfold leadsC leadsP
  rw [Bool.or_eq_true, List.any_eq_true]
  simp
theorem leadsC_B (os : List Ob) (t : Int) : leadsC os t = leadsB os t := by
  rw [Bool.eq_iff_iff, leadsC_iff, leadsB_iff]
theorem place_none {os : List Ob} {h : Int} : placeO os h = none ↔ ∀ o ∈ os, o.h ≠ h := by
  induction os with
  | nil => simp [placeO]
  | cons o r ih =>
    unfold placeO
    by_cases hq : o.h = h
    · simp [hq]
    · simp [hq, ih]
theorem place_some {os : List Ob} {h : Int} : ∀ {i : Nat}, placeO os h = some i → ∃ o, os[i]? = some o ∧ o.h = h ∧ ∀ j q, j < i → os[j]? = some q → q.h ≠ h := by
  induction os with
  | nil => intro i hi; cases hi
  | cons o r ih =>
    intro i hi
    unfold placeO at hi
    by_cases hq : o.h = h
    · rw [if_pos hq] at hi; cases hi
      exact ⟨o, rfl, hq, fun j q hj => by omega⟩
    · rw [if_neg hq] at hi
      cases hr : placeO r h with
      | none => rw [hr] at hi; cases hi
      | some j =>
        rw [hr] at hi
        simp only [Option.map_some, Option.some.injEq] at hi
        subst hi
        obtain ⟨q, h1, h2, h3⟩ := ih hr
        refine ⟨q, by simpa using h1, h2, fun k q' hk hq' => ?_⟩
        cases k with
        | zero => simp at hq'; subst hq'; exact hq
        | succ k => exact h3 k q' (by omega) (by simpa using hq')
theorem place_has {os : List Ob} {h : Int} {k : Nat} (hs : SortedO os) (hk : AtO os h k) : placeO os h = if hasBO os h k = true then some k else none := by
  obtain ⟨h1, h2, h3⟩ := hk
  cases hp : placeO os h with
  | none =>
    rw [if_neg]
    intro hb
    unfold hasBO at hb
    split at hb
    · rename_i y hy
      exact place_none.1 hp y (List.mem_of_getElem? hy) (by simpa using hb)
    · cases hb
  | some i =>
    obtain ⟨o, ho, hoh, hfirst⟩ := place_some hp
    have hik : k ≤ i := Nat.le_of_not_lt fun hlt => by have := h2 i o ho hlt; omega
    by_cases hki : k = i
    · subst hki
      rw [if_pos]
      unfold hasBO; rw [ho]; simpa using hoh
    · exfalso
      have hlt : k < i := by omega
      have hil := (List.getElem?_eq_some_iff.1 ho).1
      have hkk := List.getElem?_eq_getElem (l := os) (i := k) (by omega)
      have := h3 k _ hkk (Nat.le_refl _)
      have := hs k i _ _ hlt hkk ho
      omega
theorem bestB_none {l : List Bl} {n : Int} : bestB l n = none ↔ greatB l n = false := by
  induction l with
  | nil => simp [bestB, greatB]
  | cons x r ih =>
    have e : greatB (x :: r) n = (decide (n ≤ x.o) || greatB r n) := by simp [greatB]
    rw [e]
    unfold bestB
    cases hr : bestB r n with
    | none => rw [ih.1 hr]; by_cases h : n ≤ x.o <;> simp [h]
    | some y =>
      have hg : greatB r n = true := by
        cases hq : greatB r n with
        | true => rfl
        | false => rw [ih.2 hq] at hr; cases hr
      rw [hg]
      simp only [Bool.or_true]
      split <;> simp
theorem bestB_least {l : List Bl} {n : Int} (hd : Disj l) : ∀ {b : Bl}, bestB l n = some b → LeastT n l b := by
  induction l with
  | nil => intro b h; cases h
  | cons x r ih =>
    intro b h
    obtain ⟨d1, d2⟩ := List.pairwise_cons.1 hd
    unfold bestB at h
    cases hr : bestB r n with
    | none =>
      rw [hr] at h
      by_cases hx : n ≤ x.o
      · simp only [hx, if_true] at h
        cases h
        refine ⟨by simp, hx, fun y hy hny => ?_⟩
        rcases List.mem_cons.1 hy with rfl | hy
        · unfold LtB; omega
        · exfalso
          have := bestB_none.1 hr
          unfold greatB at this
          rw [List.any_eq_false] at this
          exact this y hy (by simpa using hny)
      · simp only [hx, if_false] at h
        cases h
    | some y =>
      rw [hr] at h
      have hy := ih d2 hr
      simp only at h
      split at h
      · rename_i hc
        cases h
        refine ⟨by simp, hc.1, fun z hz hnz => ?_⟩
        rcases List.mem_cons.1 hz with rfl | hz
        · unfold LtB; omega
        · have h1 := hy.least z hz hnz
          have h2 := d1 z hz
          have h3 := pw_pos x.o
          unfold LtB at h1 ⊢
          omega
      · rename_i hc
        cases h
        refine ⟨by simp [hy.mem], hy.great, fun z hz hnz => ?_⟩
        rcases List.mem_cons.1 hz with rfl | hz
        · unfold LtB; omega
        · exact hy.least z hz hnz
def sigO (o : Ob) : Int × Int × Int × Nat × Nat := (o.h, o.p, o.o, o.ws.length, o.ls.length)
def Like (l k : List Ob) : Prop := l.map sigO = k.map sigO
theorem Like.get {l k : List Ob} (h : Like l k) {i : Nat} {b : Ob} (hb : k[i]? = some b) : ∃ a, l[i]? = some a ∧ sigO a = sigO b := by
  have h1 : (k.map sigO)[i]? = some (sigO b) := by rw [List.getElem?_map, hb]; rfl
  rw [← h, List.getElem?_map] at h1
  cases ha : l[i]? with
  | none => rw [ha] at h1; cases h1
  | some a => rw [ha] at h1; injection h1 with h1; exact ⟨a, rfl, h1⟩
theorem Like.mem {l k : List Ob} (h : Like l k) {b : Ob} (hb : b ∈ k) : ∃ a ∈ l, sigO a = sigO b := by
  obtain ⟨i, hi, rfl⟩ := List.getElem_of_mem hb
  obtain ⟨a, ha, hs⟩ := h.get (List.getElem?_eq_getElem hi)
  exact ⟨a, List.mem_of_getElem? ha, hs⟩
theorem Like.symm {l k : List Ob} (h : Like l k) : Like k l := Eq.symm h
theorem Like.leads {l k : List Ob} (h : Like l k) {t : Int} (ht : leadsP l t) : leadsP k t := by
  rcases ht with ht | ⟨o, ho, rfl⟩
  · exact .inl ht
  · obtain ⟨a, ha, hs⟩ := h.symm.mem ho
    unfold sigO at hs
    injection hs with hs
    exact .inr ⟨a, ha, hs⟩
theorem Like.rise {l k : List Ob} {nx : Int} (h : Like l k) (hr : HRise nx l) : HRise nx k := fun i o ho => by
  obtain ⟨a, ha, hs⟩ := h.get ho
  obtain ⟨h1, h2, h3⟩ := hr i a ha
  unfold sigO at hs
  injection hs with hs
  rw [← hs]
  refine ⟨h1, h2, fun j q hj hq => ?_⟩
  obtain ⟨b, hb, hs2⟩ := h.get hq
  unfold sigO at hs2
  injection hs2 with hs2
  rw [← hs2]
  exact h3 j b hj hb
theorem Like.bls {l k : List Ob} (h : Like l k) : l.map obBl = k.map obBl := by
  have : obBl = (fun s : Int × Int × Int × Nat × Nat => (⟨s.2.1, s.2.2.1⟩ : Bl)) ∘ sigO := rfl
  rw [this, ← List.map_map, ← List.map_map, show l.map sigO = k.map sigO from h]
theorem Like.len {l k : List Ob} (h : Like l k) : l.length = k.length := by
  have := congrArg List.length (show l.map sigO = k.map sigO from h)
  simpa using this
theorem Like.need {l k : List Ob} {od : Int} (h : Like l k) (hn : HNeed od l) : HNeed od k := fun o ho => by
  obtain ⟨a, ha, hs⟩ := h.mem ho
  obtain ⟨h1, h2⟩ := hn a ha
  unfold sigO at hs
  injection hs with s1 s2
  injection s2 with s2 s3
  injection s3 with s3 s4
  injection s4 with s4 s5
  unfold obBl at h2 ⊢
  rw [← s2, ← s3, ← s4, ← s5]
  exact ⟨h1, h2⟩
theorem right_like {x : Hv} (hx : HRight x) {os : List Ob} {a b c d : Int} (h : Like x.os os) (hl : HLinks os) (ht : ∀ t ∈ [a, b, c, d], leadsP os t) : HRight { x with os := os, t0 := a, t1 := b, t2 := c, t3 := d } := by
  have hb : x.fs ++ os.map obBl = allBl x := by unfold allBl; rw [h.bls]
  exact ⟨hx.free, hx.lo, hx.hi, by rw [← h.len]; exact hx.len, h.rise hx.rise, h.need hx.need, by unfold allBl; simp only; rw [hb]; exact hx.apart, hl, ht, by unfold allBl; simp only; rw [hb]; exact hx.words⟩
theorem Like.set {l : List Ob} {i : Nat} {a b : Ob} (ha : l[i]? = some a) (h : sigO a = sigO b) : Like l (l.set i b) := by
  unfold Like
  rw [List.map_set, ← h, set_same (by rw [List.getElem?_map, ha]; rfl)]
theorem mem_set_or {l : List Ob} {i : Nat} {b o : Ob} (h : o ∈ l.set i b) : o ∈ l ∨ o = b := List.mem_or_eq_of_mem_set h
theorem right_write {x : Hv} (hx : HRight x) {i : Nat} {o : Ob} (ho : x.os[i]? = some o) (k : Nat) (v : Int) : HRight (writeH x i o k v) := by
  have hlk : Like x.os (x.os.set i { o with ws := o.ws.set k v }) := Like.set ho (by simp [sigO])
  refine right_like hx hlk (fun q hq t ht => hlk.leads ?_) (fun t ht => hlk.leads (hx.tops t ht))
  rcases mem_set_or hq with h | h
  · exact hx.links q h t ht
  · subst h; exact hx.links o (List.mem_of_getElem? ho) t ht
theorem right_link {x : Hv} (hx : HRight x) {i : Nat} {o : Ob} (ho : x.os[i]? = some o) (k : Nat) {v : Int} (hv : leadsC x.os v = true) : HRight (linkH x i o k v) := by
  have hlk : Like x.os (x.os.set i { o with ls := o.ls.set k v }) := Like.set ho (by simp [sigO])
  refine right_like hx hlk (fun q hq t ht => hlk.leads ?_) (fun t ht => hlk.leads (hx.tops t ht))
  rcases mem_set_or hq with h | h
  · exact hx.links q h t ht
  · subst h
    rcases List.mem_or_eq_of_mem_set ht with h | h
    · exact hx.links o (List.mem_of_getElem? ho) t h
    · subst h; exact leadsC_iff.1 hv
theorem right_top {x : Hv} (hx : HRight x) (k : Nat) {v : Int} (hv : leadsC x.os v = true) : HRight (topH x k v) := by
  have h0 := leadsC_iff.1 hv
  have ht := hx.tops
  unfold tops at ht
  simp only [List.mem_cons, List.not_mem_nil, or_false, forall_eq_or_imp, forall_eq] at ht
  obtain ⟨q0, q1, q2, q3⟩ := ht
  have key : ∀ a b c d : Int, leadsP x.os a → leadsP x.os b → leadsP x.os c → leadsP x.os d → HRight { x with t0 := a, t1 := b, t2 := c, t3 := d } := fun a b c d ha hb hc hd =>
    right_like hx (os := x.os) rfl hx.links (by simp only [List.mem_cons, List.not_mem_nil, or_false, forall_eq_or_imp, forall_eq]; exact ⟨ha, hb, hc, hd⟩)
  unfold topH
  split
  · exact key v x.t1 x.t2 x.t3 h0 q1 q2 q3
  · exact key x.t0 v x.t2 x.t3 q0 h0 q2 q3
  · exact key x.t0 x.t1 v x.t3 q0 q1 h0 q3
  · exact key x.t0 x.t1 x.t2 v q0 q1 q2 h0
theorem given_sum {od : Int} : ∀ (n : Nat) {l : List Bl} {b : Bl}, l.Nodup → 0 ≤ b.o → sumB (giveF od n l b).1 + pw (giveF od n l b).2.o = sumB l + pw b.o
  | 0, _, _, _, _ => rfl
  | n + 1, l, b, hn, hb => by
    by_cases hc : b.o < od ∧ twinP b ∈ l
    · rw [giveF_go hc.1 hc.2, given_sum n (hn.sublist (without_sub _ _)) (by unfold mergeB; simp only; omega)]
      have h1 := sumB_perm (without_perm hn hc.2)
      rw [sumB_cons] at h1
      have h2 : (twinP b).o = b.o := by unfold twinP; split <;> rfl
      have h3 : (mergeB b).o = b.o + 1 := rfl
      rw [h3, pw_succ hb]
      rw [h2] at h1
      omega
    · rw [giveF_no hc]
theorem givenL_sum {od : Int} {fs : List Bl} {b : Bl} (hc : Can od fs) (hb : 0 ≤ b.o) : sumB (givenL od fs b) = sumB fs + pw b.o := by
  unfold givenL
  rw [sum_withL]
  have := given_sum (od := od) (od - b.o).toNat (l := fs) (b := b) hc.disj.sorted.nodup hb
  omega
theorem meet_words {a b : Bl} : MeetP a b ↔ ∃ w, InW a w ∧ InW b w := by
  unfold MeetP InW
  have h1 := pw_pos a.o
  have h2 := pw_pos b.o
  constructor
  · intro h
    rcases Int.le_total a.p b.p with h3 | h3
    · exact ⟨b.p, by omega, by omega⟩
    · exact ⟨a.p, by omega, by omega⟩
  · rintro ⟨w, h3, h4⟩; omega
theorem Disj.aparts {l : List Bl} (h : Disj l) : Apart l := List.Pairwise.imp (fun {a b} hab hm => by unfold MeetP at hm; omega) h
theorem apart_meet {l k : List Bl} (h : Apart (l ++ k)) {a b : Bl} (ha : a ∈ l) (hb : b ∈ k) : ¬ MeetP a b := by
  unfold Apart at h
  rw [List.pairwise_append] at h
  exact h.2.2 a ha b hb
theorem HRight.give {x : Hv} (hx : HRight x) {i : Nat} {g : Ob} (hg : x.os[i]? = some g) : mayB x.od g.p g.o = true ∧ meetsB x.fs g.p g.o = false := by
  have hm := List.mem_of_getElem? hg
  refine ⟨by unfold mayB; exact decide_eq_true (hx.need g hm).2, ?_⟩
  cases hq : meetsB x.fs g.p g.o with
  | false => rfl
  | true =>
    obtain ⟨w, ⟨f, hf, h1⟩, h2⟩ := meets_iff.1 hq
    exact absurd (meet_words.2 ⟨w, h1, h2⟩) (apart_meet hx.apart hf (List.mem_map_of_mem (f := obBl) hm))
theorem right_free {x : Hv} (hx : HRight x) {i : Nat} {g : Ob} (hg : x.os[i]? = some g) : HRight (freeH x i g) := by
  obtain ⟨h3, h8, hcan⟩ := right_can hx.free
  have hmem := List.mem_of_getElem? hg
  obtain ⟨hmay, hno⟩ := hx.give hg
  have hga := giveAt_of hcan hmay hno
  obtain ⟨gc, gv⟩ := given_can h8 hcan hga
  have hsub : (x.os.eraseIdx i).Sublist x.os := List.eraseIdx_sublist x.os i
  have hlk : Like (x.os.eraseIdx i) ((x.os.eraseIdx i).map (cutO g.h)) := by
    unfold Like; rw [List.map_map]; apply List.map_congr_left; intro o _; simp [sigO, cutO]
  have hperm : x.os.Perm (g :: x.os.eraseIdx i) := by
    obtain ⟨hlt, rfl⟩ := List.getElem?_eq_some_iff.1 hg
    rw [List.eraseIdx_eq_take_drop_succ]
    conv => lhs; rw [← List.take_append_drop i x.os, List.drop_eq_getElem_cons hlt]
    exact List.perm_middle
  have hap : Apart (x.fs ++ (obBl g :: (x.os.eraseIdx i).map obBl)) := (Apart.perm (List.Perm.append_left _ (hperm.map obBl))).1 hx.apart
  have hcut : ∀ t, leadsP x.os t → leadsP ((x.os.eraseIdx i).map (cutO g.h)) (cutI g.h t) := fun t ht => by
    unfold cutI
    split
    · exact .inl rfl
    · rename_i hne
      rcases ht with ht | ⟨o, ho, rfl⟩
      · exact .inl ht
      · refine hlk.leads (.inr ⟨o, ?_, rfl⟩)
        obtain ⟨j, hj, rfl⟩ := List.getElem_of_mem ho
        refine List.mem_eraseIdx_iff_getElem?.2 ⟨j, fun hji => ?_, List.getElem?_eq_getElem hj⟩
        subst hji
        rw [List.getElem?_eq_getElem hj] at hg
        injection hg with hg
        exact hne (by rw [hg])
  refine ⟨can_right h3 h8 gc, hx.lo, hx.hi, ?_, hlk.rise ?_, hlk.need (fun o ho => hx.need o (hsub.subset ho)), ?_, ?_, ?_, ?_⟩
  · unfold freeH; simp only; rw [List.length_map]; have := hsub.length_le; have := hx.len; omega
  · intro j o ho
    rw [List.getElem?_eraseIdx] at ho
    have key : ∀ (j : Nat) o, (if j < i then x.os[j]? else x.os[j + 1]?) = some o → ∃ j', x.os[j']? = some o ∧ ∀ (k : Nat) q, k < j → (if k < i then x.os[k]? else x.os[k + 1]?) = some q → ∃ k', k' < j' ∧ x.os[k']? = some q := fun j o ho => by
      split at ho
      · refine ⟨j, ho, fun k q hk hq => ⟨k, hk, ?_⟩⟩
        rw [if_pos (by omega)] at hq; exact hq
      · refine ⟨j + 1, ho, fun k q hk hq => ?_⟩
        split at hq
        · exact ⟨k, by omega, hq⟩
        · exact ⟨k + 1, by omega, hq⟩
    obtain ⟨j', hj', hk'⟩ := key j o ho
    obtain ⟨a1, a2, a3⟩ := hx.rise j' o hj'
    refine ⟨a1, a2, fun k q hk hq => ?_⟩
    rw [List.getElem?_eraseIdx] at hq
    obtain ⟨k', hlt, hq'⟩ := hk' k q hk hq
    exact a3 k' q hlt hq'
  · show Apart (givenL x.od x.fs (obBl g) ++ ((x.os.eraseIdx i).map (cutO g.h)).map obBl)
    rw [← hlk.bls]
    unfold Apart at hap ⊢
    rw [List.pairwise_append] at hap ⊢
    obtain ⟨p1, p2, p3⟩ := hap
    obtain ⟨p4, p5⟩ := List.pairwise_cons.1 p2
    refine ⟨gc.disj.aparts, p5, fun a ha b hb hm => ?_⟩
    obtain ⟨w, w1, w2⟩ := meet_words.1 hm
    rcases (gv w).1 ⟨a, ha, w1⟩ with ⟨f, hf, w3⟩ | w3
    · exact p3 f hf b (by simp only [List.mem_cons]; exact .inr hb) (meet_words.2 ⟨w, w3, w2⟩)
    · exact p4 b hb (meet_words.2 ⟨w, w3, w2⟩)
  · intro o ho t ht
    obtain ⟨q, hq, rfl⟩ := List.mem_map.1 ho
    obtain ⟨t', ht', rfl⟩ := List.mem_map.1 ht
    exact hcut t' (hx.links q (hsub.subset hq) t' ht')
  · intro t ht
    have h := hx.tops
    unfold tops at h ht
    simp only [freeH, List.mem_cons, List.not_mem_nil, or_false] at h ht
    rcases ht with rfl | rfl | rfl | rfl
    · exact hcut _ (h _ (.inl rfl))
    · exact hcut _ (h _ (.inr (.inl rfl)))
    · exact hcut _ (h _ (.inr (.inr (.inl rfl))))
    · exact hcut _ (h _ (.inr (.inr (.inr rfl))))
  · show sumB (givenL x.od x.fs (obBl g) ++ ((x.os.eraseIdx i).map (cutO g.h)).map obBl) = pw x.od
    rw [← hlk.bls, sumB_append, givenL_sum (b := obBl g) hcan hga.may.1]
    have h1 := hx.words
    unfold allBl at h1
    rw [sumB_append, sumB_perm (hperm.map obBl), List.map_cons, sumB_cons] at h1
    omega
theorem len_sum (l : List Bl) : (l.length : Int) ≤ sumB l := by
  induction l with
  | nil => simp [sumB]
  | cons b l ih => rw [sumB_cons, List.length_cons]; have := pw_pos b.o; omega
theorem needI_ok {a b : Int} (h : 0 ≤ needI a b) : 0 ≤ a ∧ a ≤ 32 ∧ 0 ≤ b ∧ b ≤ 16 := by
  unfold needI at h
  split at h
  · rename_i h'; exact h'
  · omega
theorem right_born {x : Hv} (hx : HRight x) {b : Bl} {n c : Int} (h0 : 0 ≤ needI n c) (hnx : x.nx ≤ 1000000) (hb : LeastT (needI n c) x.fs b) : HRight (bornH x b (needI n c) (zerosI n) (zerosI c)) := by
  obtain ⟨h3, h8, hcan⟩ := right_can hx.free
  have hi := taken_inv h8 hcan hb.mem h0 hb.great
  obtain ⟨n1, n2, n3, n4⟩ := needI_ok h0
  have hap : Apart (takenL x.fs b (needI n c) ++ (x.os ++ [mkOb x.nx b.p (needI n c) (zerosI n) (zerosI c)]).map obBl) := by
    have h := hx.apart
    unfold Apart allBl at h
    unfold Apart
    rw [List.map_append]
    rw [List.pairwise_append] at h ⊢
    obtain ⟨p1, p2, p3⟩ := h
    have hold : ∀ w, cov x.fs w → ∀ y ∈ x.os.map obBl, ¬ InW y w := fun w ⟨f, hf, hw⟩ y hy h2 => p3 f hf y hy (meet_words.2 ⟨w, hw, h2⟩)
    refine ⟨hi.lv.1.aparts, ?_, fun u hu v hv hm => ?_⟩
    · rw [List.pairwise_append]
      refine ⟨p2, by simp, fun u hu v hv hm => ?_⟩
      simp only [List.map_cons, List.map_nil, List.mem_singleton] at hv
      subst hv
      obtain ⟨w, w1, w2⟩ := meet_words.1 hm
      exact hold w ((hi.cov w).2 (.inr w2)) u hu w1
    · obtain ⟨w, w1, w2⟩ := meet_words.1 hm
      rcases List.mem_append.1 hv with hv | hv
      · exact hold w ((hi.cov w).2 (.inl ⟨u, hu, w1⟩)) v hv w2
      · simp only [List.map_cons, List.map_nil, List.mem_singleton] at hv
        subst hv
        have := hi.lv.2 u hu
        unfold InW at w1 w2
        simp only [obBl, mkOb] at w2
        omega
  have hsum : sumB (takenL x.fs b (needI n c) ++ (x.os ++ [mkOb x.nx b.p (needI n c) (zerosI n) (zerosI c)]).map obBl) = pw x.od := by
    have h := hx.words
    unfold allBl at h
    have h2 := hi.sum
    rw [sumB_append] at h ⊢
    rw [List.map_append, sumB_append]
    simp only [List.map_cons, List.map_nil, sumB_cons, sumB_nil, obBl, mkOb]
    omega
  have hle : ∀ t, leadsP x.os t → leadsP (x.os ++ [mkOb x.nx b.p (needI n c) (zerosI n) (zerosI c)]) t := fun t ht => by
    rcases ht with ht | ⟨o, ho, hh⟩
    · exact .inl ht
    · exact .inr ⟨o, List.mem_append_left _ ho, hh⟩
  refine ⟨can_right h3 h8 ⟨hi.lv.1, hi.may, hi.alone⟩, by have := hx.lo; simp only [bornH]; omega, by simp only [bornH]; omega, ?_, ?_, ?_, hap, ?_, fun t ht => hle t (hx.tops t ht), hsum⟩
  · have h1 := len_sum (takenL x.fs b (needI n c) ++ (x.os ++ [mkOb x.nx b.p (needI n c) (zerosI n) (zerosI c)]).map obBl)
    rw [hsum] at h1
    have h2 := pw_le h8
    simp only [bornH, List.length_append, List.length_map] at h1 ⊢
    omega
  · intro j o ho
    simp only [bornH] at ho ⊢
    rw [List.getElem?_append] at ho
    split at ho
    · rename_i hj
      obtain ⟨a1, a2, a3⟩ := hx.rise j o ho
      refine ⟨a1, by omega, fun k q hk hq => ?_⟩
      rw [List.getElem?_append_left (by omega)] at hq
      exact a3 k q hk hq
    · rename_i hj
      have hj0 : j - x.os.length = 0 := by
        have := (List.getElem?_eq_some_iff.1 ho).1
        simp only [List.length_cons, List.length_nil] at this; omega
      rw [hj0] at ho
      simp only [List.getElem?_cons_zero, Option.some.injEq] at ho
      subst ho
      have hlo := hx.lo
      refine ⟨hlo, by simp only [mkOb]; omega, fun k q hk hq => ?_⟩
      rw [List.getElem?_append_left (by omega)] at hq
      exact (hx.rise k q hq).2.1
  · intro o ho
    simp only [bornH] at ho ⊢
    rcases List.mem_append.1 ho with ho | ho
    · exact hx.need o ho
    · rw [List.mem_singleton] at ho
      subst ho
      refine ⟨?_, hi.here⟩
      simp only [mkOb, zerosI, List.length_replicate]
      rw [Int.toNat_of_nonneg n1, Int.toNat_of_nonneg n3]
  · intro o ho t ht
    simp only [bornH] at ho ⊢
    rcases List.mem_append.1 ho with ho | ho
    · exact hle t (hx.links o ho t ht)
    · rw [List.mem_singleton] at ho
      subst ho
      simp only [mkOb, zerosI] at ht
      exact .inl (List.eq_of_mem_replicate ht)
theorem doC_right {x : Hv} (hx : HRight x) (o : Opd) : HRight (doC x o).1 := by
  unfold doC
  split
  · unfold allocC
    split
    · exact hx
    · rename_i hn
      split
      · exact hx
      · rename_i hnx
        split
        · exact hx
        · rename_i b hb
          exact right_born hx (by omega) (by omega) (bestB_least (right_can hx.free).2.2.disj hb)
  · split
    · unfold atC
      split
      · exact hx
      · rename_i i hi
        split
        · exact hx
        · rename_i b hb
          split
          · exact right_free hx hb
          · split
            · exact hx
            · split
              · exact right_write hx hb _ _
              · split
                · split
                  · rename_i hl; exact right_link hx hb _ hl
                  · exact hx
                · exact hx
    · split
      · unfold topC
        split
        · exact hx
        · split
          · exact hx
          · split
            · rename_i hl; exact right_top hx _ hl
            · exact hx
      · exact hx
end Go.Proofs.Ytcjbepaclbhjaaa
