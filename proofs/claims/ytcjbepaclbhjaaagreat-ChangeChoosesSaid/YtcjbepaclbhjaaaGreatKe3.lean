/- Parts of the proof. -/
import Derived.Test.YtcjbepaclbhjaaaGreatKe1
import Derived.Test.YtcjbepaclbhjaaaGreatKe0
import Derived.Test.YtcjbepaclbhjaaaGreatKe2
import Derived.Deep.LoopGhost
open List renaming set_cons_zero → zSet, set_cons_succ → sSet
/- Texts merged: heap:HSpec heap:HTypes heap:HInts heap:HOwn heap:HSame heap:HBig heap:HFlat heap:HNew heap:HDecH heap:KSpec heap:KNeed heap:KBs heap:KFind heap:KWays. -/
set_option linter.unusedSimpArgs false
set_option linter.unusedVariables false
namespace Go.Proofs.YtcjbepaclbhjaaaGreat
open Go.RowKit
structure Hv where
  od : Int
  oa : Option Addr
  os : List Ob
  oc : Nat
  nx : Int
  t0 : Int
  t1 : Int
  t2 : Int
  t3 : Int
  fa : Option Addr
  fs : List Bl
  fc : Nat
def hvL (x : Hv) : List Value := [.int .i64 x.od, .slice x.oa x.os.length x.oc, .int .i64 x.nx, .int .i64 x.t0, .int .i64 x.t1, .int .i64 x.t2, .int .i64 x.t3, .slice x.fa x.fs.length x.fc]
def Hv.Is (w : World) (x : Hv) : Prop := RowIs w x.oa (x.os.flatMap obV) ∧ (∀ o ∈ x.os, o.Is w) ∧ RowIs w x.fa (x.fs.flatMap blV)
def ObsSm (l k : List Ob) : Prop := l.length = k.length ∧ ∀ (i : Nat) a b, l[i]? = some a → k[i]? = some b → a.Sm b
structure Hv.Sm (x y : Hv) : Prop where
  od : x.od = y.od
  nx : x.nx = y.nx
  t0 : x.t0 = y.t0
  t1 : x.t1 = y.t1
  t2 : x.t2 = y.t2
  t3 : x.t3 = y.t3
  os : ObsSm x.os y.os
  fs : x.fs = y.fs
def ObsSmall (l : List Ob) : Prop := l.length ≤ 600 ∧ ∀ o ∈ l, o.ws.length ≤ 5000 ∧ o.ls.length ≤ 5000
def Hv.Small (x : Hv) : Prop := ObsSmall x.os ∧ x.fs.length ≤ 600
theorem ObsSm.refl (l : List Ob) : ObsSm l l := ⟨rfl, fun i a b h1 h2 => by rw [h1] at h2; injection h2 with h2; subst h2; exact Ob.Sm.rfl_ _⟩
theorem ObsSm.symm {l k : List Ob} (h : ObsSm l k) : ObsSm k l := ⟨h.1.symm, fun i a b h1 h2 => (h.2 i b a h2 h1).symm⟩
theorem Hv.Sm.refl (x : Hv) : x.Sm x := ⟨rfl, rfl, rfl, rfl, rfl, rfl, ObsSm.refl _, rfl⟩
theorem Hv.Sm.symm {x y : Hv} (h : x.Sm y) : y.Sm x := ⟨h.od.symm, h.nx.symm, h.t0.symm, h.t1.symm, h.t2.symm, h.t3.symm, h.os.symm, h.fs.symm⟩
theorem Hv.Is.below {w w' : World} {x : Hv} (h : x.Is w) (hb : Below w.heap.size w w') : x.Is w' := ⟨h.1.below hb, fun o ho => (h.2.1 o ho).below hb, h.2.2.below hb⟩
theorem ObsSm.snoc {l k : List Ob} {n : Nat} {x y : Ob} (hx : l[n]? = some x) (hy : x.Sm y) (hk : k.length = n) (h : ∀ (i : Nat) a b, l[i]? = some a → k[i]? = some b → a.Sm b) :
    ∀ (i : Nat) a b, l[i]? = some a → (k ++ [y])[i]? = some b → a.Sm b := by
  intro i a b h1 h2
  rcases Nat.lt_or_ge i k.length with hi | hi
  · rw [List.getElem?_append_left hi] at h2
    exact h i a b h1 h2
  · rw [List.getElem?_append_right hi] at h2
    rcases Nat.lt_or_ge (i - k.length) 1 with h3 | h3
    · have : i = n := by omega
      subst this
      rw [hk, Nat.sub_self] at h2
      simp at h2
      subst h2
      rw [hx] at h1
      injection h1 with h1
      subst h1
      exact hy
    · rw [List.getElem?_eq_none (by simpa using h3)] at h2
      cases h2
theorem obs_snoc (k : List Ob) (y : Ob) : (k ++ [y]).flatMap obV = k.flatMap obV ++ obV y := by simp [List.flatMap_append]
theorem Ob.Sm.trans {x y z : Ob} (h : x.Sm y) (k : y.Sm z) : x.Sm z := by
  obtain ⟨h1, h2, h3, h4, h5⟩ := h
  obtain ⟨k1, k2, k3, k4, k5⟩ := k
  exact ⟨h1.trans k1, h2.trans k2, h3.trans k3, h4.trans k4, h5.trans k5⟩
theorem ObsSm.trans {l k m : List Ob} (h : ObsSm l k) (h' : ObsSm k m) : ObsSm l m := ⟨h.1.trans h'.1, fun i a c h1 h2 => by
  obtain ⟨hlt, _⟩ := List.getElem?_eq_some_iff.1 h1
  have hb := List.getElem?_eq_getElem (l := k) (i := i) (by have := h.1; omega)
  exact (h.2 i _ _ h1 hb).trans (h'.2 i _ _ hb h2)⟩
theorem Hv.Sm.trans {x y z : Hv} (h : x.Sm y) (k : y.Sm z) : x.Sm z := ⟨h.od.trans k.od, h.nx.trans k.nx, h.t0.trans k.t0, h.t1.trans k.t1, h.t2.trans k.t2, h.t3.trans k.t3, h.os.trans k.os, h.fs.trans k.fs⟩
theorem Hv.Small.sm {x y : Hv} (h : x.Small) (k : x.Sm y) : y.Small := by
  obtain ⟨⟨h1, h2⟩, h3⟩ := h
  refine ⟨⟨by rw [← k.os.1]; exact h1, fun o ho => ?_⟩, by rw [← k.fs]; exact h3⟩
  obtain ⟨i, hi, rfl⟩ := List.getElem_of_mem ho
  have ha := List.getElem?_eq_getElem (l := x.os) (i := i) (by have := k.os.1; omega)
  obtain ⟨_, _, _, h4, h5⟩ := k.os.2 i _ _ ha (List.getElem?_eq_getElem hi)
  rw [← h4, ← h5]
  exact h2 _ (List.getElem_mem _)
structure Rw where
  c : Int
  s : Int
  e : Int
  v : Int
  deriving DecidableEq
def rwV (x : Rw) : List Value := [.int .i64 x.c, .int .i64 x.s, .int .i64 x.e, .int .i64 x.v]
theorem rwV_len (x : Rw) : (rwV x).length = 4 := rfl
structure Sv where
  hv : Hv
  ra : Option Addr
  rs : List Rw
  rc : Nat
def svL (x : Sv) : List Value := hvL x.hv ++ [.slice x.ra x.rs.length x.rc]
def Sv.Is (w : World) (x : Sv) : Prop := x.hv.Is w ∧ RowIs w x.ra (x.rs.flatMap rwV)
def Sv.Sm (x y : Sv) : Prop := x.hv.Sm y.hv ∧ x.rs = y.rs
def Sv.Small (x : Sv) : Prop := x.hv.Small ∧ x.rs.length ≤ 1000
theorem Sv.Sm.symm {x y : Sv} (h : x.Sm y) : y.Sm x := ⟨h.1.symm, h.2.symm⟩
theorem Sv.Sm.trans {x y z : Sv} (h : x.Sm y) (k : y.Sm z) : x.Sm z := ⟨h.1.trans k.1, h.2.trans k.2⟩
theorem Sv.Small.sm {x y : Sv} (h : x.Small) (k : x.Sm y) : y.Small := ⟨h.1.sm k.1, by rw [← k.2]; exact h.2⟩
theorem Sv.Is.below {w w' : World} {x : Sv} (h : x.Is w) (hb : Below w.heap.size w w') : x.Is w' := ⟨h.1.below hb, h.2.below hb⟩
end Go.Proofs.YtcjbepaclbhjaaaGreat
namespace Go.Proofs.YtcjbepaclbhjaaaGreat
open Go.RowKit
--@optional
theorem info152 : (Tryz.prog.info? 152).map (fun i => (i.zero, i.size, i.bytes)) = some (some (.agg #[.int .i64 0, .int .i64 0, .int .i64 0, .slice none 0 0, .slice none 0 0]), 5, 72) := by kernel_rfl
theorem info3 : (Tryz.prog.info? 3).map (fun i => (i.zero, i.size, i.bytes)) = some (some (.int .i64 0), 1, 8) := by kernel_rfl
theorem info121 : (Tryz.prog.info? 121).map (fun i => (i.zero, i.size, i.bytes)) = some (some (.agg #[.int .i64 0, .int .i64 0, .int .i64 0, .int .i64 0]), 4, 32) := by kernel_rfl
end Go.Proofs.YtcjbepaclbhjaaaGreat
namespace Go.Proofs.YtcjbepaclbhjaaaGreat
open Go.RowKit
theorem ints_one (l : List Int) : (l.flatMap iV).all (·.oneCell') = true := by
  rw [List.all_eq_true]; intro u hu; obtain ⟨x, _, hx⟩ := List.mem_flatMap.1 hu; simp [iV] at hx; subst hx; rfl
end Go.Proofs.YtcjbepaclbhjaaaGreat
namespace Go.Proofs.YtcjbepaclbhjaaaGreat
open Go.RowKit
end Go.Proofs.YtcjbepaclbhjaaaGreat
namespace Go.Proofs.YtcjbepaclbhjaaaGreat
open Go.RowKit
end Go.Proofs.YtcjbepaclbhjaaaGreat
namespace Go.Proofs.YtcjbepaclbhjaaaGreat
open Go.RowKit
end Go.Proofs.YtcjbepaclbhjaaaGreat
namespace Go.Proofs.YtcjbepaclbhjaaaGreat
open Go.RowKit
end Go.Proofs.YtcjbepaclbhjaaaGreat
namespace Go.Proofs.YtcjbepaclbhjaaaGreat
open Go.RowKit
def zeroHv : Hv := ⟨0, none, [], 0, 0, 0, 0, 0, 0, none, [], 0⟩
def oneHv (o : Int) : Hv := ⟨o, none, [], 0, 1, 0, 0, 0, 0, none, [⟨0, o⟩], 0⟩
def NewPostH (w : World) (s : Hv) (c : Int) (e : Ending) (w' : World) : Prop := ∃ y R, e = .returned (.tuple #[.agg (hvL y).toArray, .int .i64 c]) ∧ y.Sm s ∧ Kept R (fun w => y.Is w) ∧ Hp w.heap.size w w' R
def NewPostS (w : World) (s : Hv) (c : Int) (e : Ending) (w' : World) : Prop := ∃ y R, e = .returned (.tuple #[.agg (svL y).toArray, .int .i64 c]) ∧ y.Sm ⟨s, none, [], 0⟩ ∧ Kept R (fun w => y.Is w) ∧ Hp w.heap.size w w' R
theorem is_one (b : Nat) (o : Int) (t n : Nat) : Kept [⟨b, [.int .i64 0, .int .i64 o], t, n⟩] fun w => Hv.Is w ⟨o, none, [], 0, 1, 0, 0, 0, 0, some ⟨b, 0, none⟩, [⟨0, o⟩], 1⟩ :=
  fun B w0 w' L hpx hm => ⟨RowIs.nil _ _, (fun o ho => by cases ho), Kept.row b _ t n B w0 w' L hpx hm⟩
theorem one_sm (o : Int) (b : Nat) : Hv.Sm ⟨o, none, [], 0, 1, 0, 0, 0, 0, some ⟨b, 0, none⟩, [⟨0, o⟩], 1⟩ (oneHv o) := ⟨rfl, rfl, rfl, rfl, rfl, rfl, ObsSm.refl _, rfl⟩
set_option maxRecDepth 100000 in
set_option maxHeartbeats 4000000 in
theorem newh119_yes (o : Int) (h : regionB o = true) (w : World) : Calls Tryz.prog 119 #[.int .i64 o] w (NewPostH w (oneHv o) 0) := by
  have hp := Hp.start w
  have K := Lib.hid (all127_yes o h)
  go_enter Tryz.func119, Tryz.ntmps119
  go_wp2_with (first | (go_at_call 127; (with_reducible refine (K.out _).mono ?_); rintro e w1 ⟨b9, rfl, hf, hb⟩; replace hp := hp.adopt hb hf; clear hb hf) | go_skip | (first | (refine hA0 ?_; clear hp; intro b w1 hp) | refine hL2 ?_ | (refine hS1 ?_; clear hp; intro w1 hp)))
  exact bodyPost_ret (results_many (rs := [.cell 2 83, .tmp 3]) Tryz.results119 (.cell rfl (hp.loadAgg agg83 at1 0 _ (by rfl) (by rfl)) (.tmp rfl .nil))) rfl ⟨_, _, rfl, one_sm o b9, is_one b9 o 150 2, (hp.reorder (List.Perm.swap _ _ _)).tail⟩
end Go.Proofs.YtcjbepaclbhjaaaGreat
namespace Go.Proofs.YtcjbepaclbhjaaaGreat
open Go.RowKit Go.ChangeShapes Go.WideShapes Go.ChangeAt Go.Deep
section
variable {H : Type} {enc : TypeId × Value → H} {w : World} {base : Nat} {spare : Nat → Bool} {held : Bool} {cs : List Value}
end
end Go.Proofs.YtcjbepaclbhjaaaGreat
namespace Go.Proofs.YtcjbepaclbhjaaaGreat
def needN (n : Int) : Int := if n < 1 then 0 else if n < 2 then 1 else if n < 4 then 2 else if n < 8 then 3 else if n < 16 then 4 else if n < 32 then 5 else 6
def needI (w l : Int) : Int := if 0 ≤ w ∧ w ≤ 32 ∧ 0 ≤ l ∧ l ≤ 16 then needN (w + l) else -1
theorem needN_is {n k : Int} (h0 : 0 ≤ k) (h6 : k ≤ 6) (hn : n < 64) (hlow : k = 0 ∨ pw (k - 1) ≤ n) (hup : n < pw k) : needN n = k := by
  have hc : k = 0 ∨ k = 1 ∨ k = 2 ∨ k = 3 ∨ k = 4 ∨ k = 5 ∨ k = 6 := by omega
  unfold needN
  rcases hc with rfl | rfl | rfl | rfl | rfl | rfl | rfl
  all_goals simp [pw] at hlow hup
  all_goals (repeat' split)
  all_goals omega
theorem needI_range (w l : Int) : -1 ≤ needI w l ∧ needI w l ≤ 6 := by
  unfold needI needN
  (repeat' split) <;> omega
def leadsP (os : List Ob) (to : Int) : Prop := to = 0 ∨ ∃ o ∈ os, o.h = to
open Classical in
noncomputable def leadsB (os : List Ob) (to : Int) : Bool := decide (leadsP os to)
def obBl (o : Ob) : Bl := ⟨o.p, o.o⟩
def allBl (x : Hv) : List Bl := x.fs ++ x.os.map obBl
def MeetP (a b : Bl) : Prop := a.p < b.p + pw b.o ∧ b.p < a.p + pw a.o
instance (a b : Bl) : Decidable (MeetP a b) := by unfold MeetP; infer_instance
theorem MeetP.symm {a b : Bl} (h : MeetP a b) : MeetP b a := ⟨h.2, h.1⟩
def sumB (l : List Bl) : Int := (l.map fun b => pw b.o).sum
theorem sumB_cons (b : Bl) (l : List Bl) : sumB (b :: l) = pw b.o + sumB l := by simp [sumB]
theorem sumB_append (l k : List Bl) : sumB (l ++ k) = sumB l + sumB k := by simp [sumB]
theorem sumB_perm {l k : List Bl} (h : l.Perm k) : sumB l = sumB k := by
  induction h with
  | nil => rfl
  | cons x _ ih => rw [sumB_cons, sumB_cons, ih]
  | swap x y l => simp only [sumB_cons]; omega
  | trans _ _ h1 h2 => rw [h1, h2]
theorem sumB_nonneg (l : List Bl) : 0 ≤ sumB l := by
  induction l with
  | nil => simp [sumB]
  | cons b l ih => rw [sumB_cons]; have := pw_pos b.o; omega
def HRise (nx : Int) (os : List Ob) : Prop := ∀ (i : Nat) o, os[i]? = some o → 1 ≤ o.h ∧ o.h < nx ∧ ∀ (k : Nat) q, k < i → os[k]? = some q → q.h < o.h
def HNeed (od : Int) (os : List Ob) : Prop := ∀ o ∈ os, needI o.ws.length o.ls.length = o.o ∧ MayP od (obBl o)
def Apart (l : List Bl) : Prop := l.Pairwise fun a b => ¬ MeetP a b
def HLinks (os : List Ob) : Prop := ∀ o ∈ os, ∀ t ∈ o.ls, leadsP os t
def tops (x : Hv) : List Int := [x.t0, x.t1, x.t2, x.t3]
structure HRight (x : Hv) : Prop where
  free : rightB x.od x.fs = true
  lo : 1 ≤ x.nx
  hi : x.nx ≤ 1000001
  len : x.os.length ≤ 256
  rise : HRise x.nx x.os
  need : HNeed x.od x.os
  apart : Apart (allBl x)
  links : HLinks x.os
  tops : ∀ t ∈ tops x, leadsP x.os t
  words : sumB (allBl x) = pw x.od
open Classical in
noncomputable def hrightB (x : Hv) : Bool := decide (HRight x)
def Tl (E : Int) : Int → List Bl → Prop
  | a, [] => a = E
  | a, b :: r => b.p = a ∧ Tl E (a + pw b.o) r
theorem Tl.facts {E : Int} : ∀ {l : List Bl} {a : Int}, Tl E a l → a ≤ E ∧ (∀ b ∈ l, a ≤ b.p ∧ b.p + pw b.o ≤ E) ∧ Apart l ∧ sumB l = E - a := by
  intro l
  induction l with
  | nil => intro a h; simp [Tl] at h; subst h; exact ⟨Int.le_refl _, by simp, List.Pairwise.nil, by simp [sumB]⟩
  | cons b r ih =>
    intro a h
    obtain ⟨rfl, h2⟩ := h
    obtain ⟨h3, h4, h5, h6⟩ := ih h2
    have h7 := pw_pos b.o
    refine ⟨by omega, ?_, List.pairwise_cons.2 ⟨fun c hc hm => ?_, h5⟩, by rw [sumB_cons]; omega⟩
    · intro c hc
      rcases List.mem_cons.1 hc with rfl | hc
      · exact ⟨Int.le_refl _, h3⟩
      · have := h4 c hc; exact ⟨by omega, this.2⟩
    · have := (h4 c hc).1
      have := hm.2
      omega
theorem sum_le {E : Int} : ∀ {l : List Bl} {a : Int}, a ≤ E → l.Pairwise (fun x y => x.p ≤ y.p) → Apart l → (∀ b ∈ l, a ≤ b.p ∧ b.p + pw b.o ≤ E) → sumB l ≤ E - a := by
  intro l
  induction l with
  | nil => intro a h _ _ _; simp [sumB]; omega
  | cons b r ih =>
    intro a h hs ha hb
    rw [sumB_cons]
    obtain ⟨s1, s2⟩ := List.pairwise_cons.1 hs
    obtain ⟨a1, a2⟩ := List.pairwise_cons.1 ha
    have hbb := hb b (by simp)
    have := ih (a := b.p + pw b.o) hbb.2 s2 a2 (fun c hc => by
      have h1 := s1 c hc
      have h2 := a1 c hc
      have h3 := pw_pos c.o
      have h4 := (hb c (by simp [hc])).2
      refine ⟨?_, h4⟩
      by_cases h5 : c.p < b.p + pw b.o
      · exact absurd ⟨by omega, h5⟩ h2
      · omega)
    omega
theorem Tl.of {E : Int} : ∀ {l : List Bl} {a : Int}, l.Pairwise (fun x y => x.p ≤ y.p) → Apart l → (∀ b ∈ l, a ≤ b.p ∧ b.p + pw b.o ≤ E) → sumB l = E - a → Tl E a l := by
  intro l
  induction l with
  | nil => intro a _ _ _ h; simp [sumB] at h; simp [Tl]; omega
  | cons b r ih =>
    intro a hs ha hb hsum
    rw [sumB_cons] at hsum
    obtain ⟨s1, s2⟩ := List.pairwise_cons.1 hs
    obtain ⟨a1, a2⟩ := List.pairwise_cons.1 ha
    have hbb := hb b (by simp)
    have hr : ∀ c ∈ r, b.p + pw b.o ≤ c.p ∧ c.p + pw c.o ≤ E := fun c hc => by
      have h1 := s1 c hc
      have h2 := a1 c hc
      have h3 := pw_pos c.o
      have h4 := (hb c (by simp [hc])).2
      refine ⟨?_, h4⟩
      by_cases h5 : c.p < b.p + pw b.o
      · exact absurd ⟨by omega, h5⟩ h2
      · omega
    have h6 := sum_le hbb.2 s2 a2 hr
    have h7 : b.p = a := by omega
    exact ⟨h7, ih s2 a2 (fun c hc => by have := hr c hc; exact ⟨by omega, this.2⟩) (by omega)⟩
theorem Apart.perm {l k : List Bl} (h : l.Perm k) : Apart l ↔ Apart k := h.pairwise_iff (fun hab hba => hab hba.symm)
def HNeed' (od : Int) (os : List Ob) : Prop := ∀ o ∈ os, needI o.ws.length o.ls.length = o.o ∧ 0 ≤ o.o ∧ o.o ≤ od ∧ 0 ≤ o.p ∧ o.p ≤ pw od ∧ o.p % pw o.o = 0
theorem HNeed.weak {od : Int} {os : List Ob} (h : HNeed od os) : HNeed' od os := fun o ho => by
  obtain ⟨h1, h2, h3, h4, h5, h6⟩ := h o ho
  simp only [obBl] at h2 h3 h4 h5 h6
  have := pw_pos o.o
  exact ⟨h1, h2, h3, h4, by omega, h6⟩
theorem tile_iff {od : Int} {os : List Ob} {fs s : List Bl} (hf : Good od fs) (hs : s.Perm (fs ++ os.map obBl)) (hso : s.Pairwise fun x y => x.p ≤ y.p) (hn : HNeed' od os) :
    Tl (pw od) 0 s ↔ HNeed od os ∧ Apart (fs ++ os.map obBl) ∧ sumB (fs ++ os.map obBl) = pw od := by
  constructor
  · intro h
    obtain ⟨_, h2, h3, h4⟩ := h.facts
    refine ⟨fun o ho => ?_, (Apart.perm hs).1 h3, by rw [← sumB_perm hs, h4]; omega⟩
    obtain ⟨n1, n2, n3, n4, _, n6⟩ := hn o ho
    have := h2 (obBl o) (hs.mem_iff.2 (List.mem_append_right _ (List.mem_map_of_mem ho)))
    simp only [obBl] at this
    exact ⟨n1, n2, n3, n4, by simp only [obBl]; omega, n6⟩
  · rintro ⟨h1, h2, h3⟩
    refine Tl.of hso ((Apart.perm hs).2 h2) (fun b hb => ?_) (by rw [sumB_perm hs, h3]; omega)
    rcases List.mem_append.1 (hs.mem_iff.1 hb) with hb | hb
    · obtain ⟨i, hi, rfl⟩ := List.getElem_of_mem hb
      have hm := (hf i _ (List.getElem?_eq_getElem hi)).1
      exact ⟨hm.2.2.1, hm.end_le⟩
    · obtain ⟨o, ho, rfl⟩ := List.mem_map.1 hb
      have hm := (h1 o ho).2
      exact ⟨hm.2.2.1, hm.end_le⟩
theorem HRise.step {nx : Int} {os : List Ob} (h : HRise nx os) : ∀ (i j : Nat) a b, i < j → os[i]? = some a → os[j]? = some b → a.h < b.h :=
  fun i j a b hij ha hb => (h j b hb).2.2 i a hij ha
end Go.Proofs.YtcjbepaclbhjaaaGreat
namespace Go.Proofs.YtcjbepaclbhjaaaGreat
open Go.RowKit
def inB (n lo hi : Int) : Bool := decide (lo ≤ n) && decide (n ≤ hi)
theorem within132 (n lo hi : Int) (w : World) : Calls Tryz.prog 132 #[.int .i64 n, .int .i64 lo, .int .i64 hi] w fun e w' => e = .returned (.bool (inB n lo hi)) ∧ w = w' := by
  go_enter Tryz.func132, Tryz.ntmps132
  go_wp2
  all_goals go_ret
  all_goals refine ⟨ret_bool ?_, rfl⟩
  all_goals (simp [inB, *] <;> omega)
theorem need_bad {w l : Int} (h : inB w 0 32 = false ∨ inB l 0 16 = false) : needI w l = -1 := by
  unfold needI inB at *
  rw [if_neg]
  rintro ⟨h1, h2, h3, h4⟩
  simp [h1, h2, h3, h4] at h
theorem need_ok {w l : Int} (h : inB w 0 32 = true) (h' : inB l 0 16 = true) : 0 ≤ w ∧ w ≤ 32 ∧ 0 ≤ l ∧ l ≤ 16 ∧ needI w l = needN (w + l) := by
  simp [inB] at h h'
  refine ⟨h.1, h.2, h'.1, h'.2, ?_⟩
  unfold needI
  rw [if_pos ⟨h.1, h.2, h'.1, h'.2⟩]
set_option maxRecDepth 100000 in
set_option maxHeartbeats 4000000 in
theorem need135 (n m : Int) (w : World) : Calls Tryz.prog 135 #[.int .i64 n, .int .i64 m] w fun e w' => e = .returned (.int .i64 (needI n m)) ∧ w = w' := by
  have k1 := within132 n 0 32
  have k2 := within132 m 0 16
  cases h1 : inB n 0 32 with
  | false =>
    rw [need_bad (.inl h1)]
    rw [h1] at k1
    have K1 := Lib.hid k1; have K2 := Lib.hid k2
    clear k1 k2 h1
    go_enter Tryz.func135, Tryz.ntmps135
    go_wp2_with (go_at_call 132; (first | (with_reducible refine (K1.out _).mono ?_) | (with_reducible refine (K2.out _).mono ?_)); rintro e w' ⟨rfl, rfl⟩)
    go_ret
    exact ⟨rfl, rfl⟩
  | true =>
    cases h2 : inB m 0 16 with
    | false =>
      rw [need_bad (.inr h2)]
      rw [h1] at k1; rw [h2] at k2
      have K1 := Lib.hid k1; have K2 := Lib.hid k2
      clear k1 k2 h1 h2
      go_enter Tryz.func135, Tryz.ntmps135
      go_wp2_with (go_at_call 132; (first | (with_reducible refine (K1.out _).mono ?_) | (with_reducible refine (K2.out _).mono ?_)); rintro e w' ⟨rfl, rfl⟩)
      go_ret
      exact ⟨rfl, rfl⟩
    | true =>
      obtain ⟨n0, n1, m0, m1, he⟩ := need_ok h1 h2
      rw [he]
      rw [h1] at k1; rw [h2] at k2
      have K1 := Lib.hid k1; have K2 := Lib.hid k2
      have e1 : wrap64 (n + m) = n + m := IntWalk.wrap64_in _ ⟨by omega, by omega⟩
      clear k1 k2 h1 h2 he
      go_enter Tryz.func135, Tryz.ntmps135
      go_wp2_with (go_at_call 132; (first | (with_reducible refine (K1.out _).mono ?_) | (with_reducible refine (K2.out _).mono ?_)); rintro e w' ⟨rfl, rfl⟩)
      go_loop [5] (fun i => ∃ k : Int, 0 ≤ k ∧ k ≤ 6 ∧ i = .int .i64 k ∧ RowKit.Hid (k = 0 ∨ pw (k - 1) ≤ n + m)) (fun i => (6 - intOf i).toNat)
      case atStart => exact ⟨0, by omega, by omega, rfl, Lib.hid (.inl rfl)⟩
      case round =>
        obtain ⟨k, h0, h6, rfl, HL⟩ := hrel
        by_cases hlt : pw k ≤ n + m
        · have hk : k < 6 := by
            by_cases h : k = 6
            · subst h; rw [show pw 6 = 64 by decide] at hlt; omega
            · omega
          have e2 : decide (pw k ≤ n + m) = true := decide_eq_true hlt
          have e3 : wrap64 (k + 1) = k + 1 := IntWalk.wrap64_in _ ⟨by omega, by omega⟩
          have HLT := Lib.hid hlt
          clear hlt
          go_wp2_with (go_at_call 133; (with_reducible refine (words133 _ (by omega) (by omega) _).mono ?_); rintro e w' ⟨rfl, rfl⟩)
          go_round
          case rel => exact ⟨k + 1, by omega, by omega, rfl, Lib.hid (.inr (by rw [Int.add_sub_cancel]; exact HLT.out))⟩
          case measure => simp [intOf]; omega
        · have e2 : decide (pw k ≤ n + m) = false := decide_eq_false hlt
          have HLT := Lib.hid hlt
          clear hlt
          go_wp2_with (go_at_call 133; (with_reducible refine (words133 _ (by omega) (by omega) _).mono ?_); rintro e w' ⟨rfl, rfl⟩)
          go_ret
          exact ⟨ret_int (needN_is h0 h6 (by omega) HL.out (by have := HLT.out; omega)).symm, rfl⟩
set_option maxRecDepth 100000 in
set_option maxHeartbeats 4000000 in
theorem need141 (n m : Int) (w : World) : Calls Tryz.prog 141 #[.int .i64 n, .int .i64 m] w fun e w' => e = .returned (.int .i64 (needI n m)) ∧ w = w' := by
  by_cases hb : 0 ≤ n ∧ n ≤ 32 ∧ 0 ≤ m ∧ m ≤ 16
  · have he : needI n m = needN (n + m) := by unfold needI; rw [if_pos hb]
    rw [he]
    obtain ⟨n0, n1, m0, m1⟩ := hb
    have e0 : wrap64 (1 + n) = 1 + n := IntWalk.wrap64_in _ ⟨by omega, by omega⟩
    have e1 : wrap64 (1 + n + m) = 1 + n + m := IntWalk.wrap64_in _ ⟨by omega, by omega⟩
    clear he
    go_enter Tryz.func141, Tryz.ntmps141
    go_wp2
    go_loop [5] (fun i => ∃ k : Int, 0 ≤ k ∧ k ≤ 6 ∧ i = .int .i64 k ∧ RowKit.Hid (k = 0 ∨ pw (k - 1) ≤ n + m)) (fun i => (6 - intOf i).toNat)
    case atStart => exact ⟨0, by omega, by omega, rfl, Lib.hid (.inl rfl)⟩
    case round =>
      obtain ⟨k, h0, h6, rfl, HL⟩ := hrel
      by_cases hlt : pw k < 1 + n + m
      · have hk : k < 6 := by
          by_cases h : k = 6
          · subst h; rw [show pw 6 = 64 by decide] at hlt; omega
          · omega
        have e2 : decide (pw k < 1 + n + m) = true := decide_eq_true hlt
        have e3 : wrap64 (k + 1) = k + 1 := IntWalk.wrap64_in _ ⟨by omega, by omega⟩
        have HLT := Lib.hid hlt
        clear hlt
        go_wp2_with (go_at_call 142; (with_reducible refine (size142 _ (by omega) _).mono ?_); rintro e w' ⟨rfl, rfl⟩)
        go_round
        case rel => exact ⟨k + 1, by omega, by omega, rfl, Lib.hid (.inr (by rw [Int.add_sub_cancel]; have := HLT.out; omega))⟩
        case measure => simp [intOf]; omega
      · have e2 : decide (pw k < 1 + n + m) = false := decide_eq_false hlt
        have HLT := Lib.hid hlt
        clear hlt
        go_wp2_with (go_at_call 142; (with_reducible refine (size142 _ (by omega) _).mono ?_); rintro e w' ⟨rfl, rfl⟩)
        go_ret
        exact ⟨ret_int (needN_is h0 h6 (by omega) HL.out (by have := HLT.out; omega)).symm, rfl⟩
  · have he : needI n m = -1 := by unfold needI; rw [if_neg hb]
    rw [he]
    have hw : n < 0 ∨ (¬ n < 0 ∧ 32 < n) ∨ (¬ n < 0 ∧ ¬ 32 < n ∧ m < 0) ∨ (¬ n < 0 ∧ ¬ 32 < n ∧ ¬ m < 0 ∧ 16 < m) := by omega
    clear he hb
    rcases hw with h1 | ⟨h1, h2⟩ | ⟨h1, h2, h3⟩ | ⟨h1, h2, h3, h4⟩
    all_goals
      go_enter Tryz.func141, Tryz.ntmps141
      go_wp2
      go_ret
      exact ⟨rfl, rfl⟩
end Go.Proofs.YtcjbepaclbhjaaaGreat
namespace Go.Proofs.YtcjbepaclbhjaaaGreat
open Go.RowKit
theorem fc182 (x : Ob) (t : Int) (w : World) : Calls Tryz.prog 182 #[.agg #[.int .i64 x.h, .int .i64 x.p, .int .i64 x.o, .slice x.wa x.ws.length x.wc, .slice x.la x.ls.length x.lc], .int .i64 t] w fun e w' => e = .returned (.int .i64 (cmpI x.h t)) ∧ Below w.heap.size w w' := by
  have hp := Hp.start w
  go_enter Tryz.func182, Tryz.ntmps182
  go_wp2_with (first | (go_at_call 76; (with_reducible refine (cmp76 _ _ _).mono ?_); rintro e w' ⟨rfl, rfl⟩) | go_skip | (first | (refine hA1 ?_; clear hp; intro b w1 hp) | refine hL2 ?_ | (refine hS1 ?_; clear hp; intro w1 hp)))
  go_ret
  exact ⟨rfl, hp.below⟩
def AtO (l : List Ob) (t : Int) (k : Nat) : Prop := k ≤ l.length ∧ (∀ (j : Nat) y, l[j]? = some y → j < k → y.h < t) ∧ (∀ (j : Nat) y, l[j]? = some y → k ≤ j → t ≤ y.h)
def SortedO (l : List Ob) : Prop := ∀ (i j : Nat) x y, i < j → l[i]? = some x → l[j]? = some y → x.h < y.h
def hasBO (l : List Ob) (t : Int) (k : Nat) : Bool := match l[k]? with
  | some y => decide (y.h = t)
  | none => false
theorem at_exO {l : List Ob} (hs : SortedO l) (t : Int) : ∃ k, AtO l t k := by
  let P : Nat → Prop := fun k => ∀ (j : Nat) y, l[j]? = some y → k ≤ j → t ≤ y.h
  have hP : P l.length := fun j y hj hk => by have := (List.getElem?_eq_some_iff.1 hj).1; omega
  have least : ∀ m, P m → ∃ k, P k ∧ k ≤ m ∧ ∀ k', k' < k → ¬ P k' := by
    intro m
    induction m using Nat.strongRecOn with
    | _ m ih =>
      intro hm
      by_cases h : ∃ m', m' < m ∧ P m'
      · obtain ⟨m', h1, h2⟩ := h
        obtain ⟨k, hk, hle, hno⟩ := ih m' h1 h2
        exact ⟨k, hk, by omega, hno⟩
      · exact ⟨m, hm, Nat.le_refl _, fun k' hk' hp => h ⟨k', hk', hp⟩⟩
  obtain ⟨k, hk, hle, hno⟩ := least _ hP
  refine ⟨k, hle, fun j y hj hjk => ?_, hk⟩
  have hn := hno (k - 1) (by omega)
  obtain ⟨j0, hn⟩ := Classical.not_forall.1 hn
  obtain ⟨y0, hn⟩ := Classical.not_forall.1 hn
  obtain ⟨hy0, hn⟩ := Classical.not_forall.1 hn
  obtain ⟨hk0, hn⟩ := Classical.not_forall.1 hn
  have hj0 : j0 = k - 1 := by
    rcases Nat.lt_or_ge j0 k with h | h
    · omega
    · exact absurd (hk j0 y0 hy0 h) hn
  subst hj0
  rcases Nat.lt_or_ge j (k - 1) with h | h
  · have := hs j (k - 1) y y0 h hj hy0; omega
  · have : j = k - 1 := by omega
    subst this
    rw [hj] at hy0; injection hy0 with hy0; subst hy0; omega
set_option maxRecDepth 100000 in
set_option maxHeartbeats 4000000 in
theorem bs181 (l : List Ob) (a : Option Addr) (c : Nat) (hl : l.length ≤ 1000) (t : Int) (k : Nat) (hk : AtO l t k) (w : World) (ha : RowIs w a (l.flatMap obV)) :
    Calls Tryz.prog 181 #[.slice a l.length c, .int .i64 t, .func (.func 182) #[] #[]] w fun e w' => e = .returned (.tuple #[.int .i64 k, .bool (hasBO l t k)]) ∧ Below w.heap.size w w' := by
  have hp := Hp.start w
  have HA := Lib.hid ha
  have HK := Lib.hid hk
  clear ha hk
  go_enter Tryz.func181, Tryz.ntmps181
  go_wp2_with (first | go_skip | (first | (refine hA2 ?_; clear hp; intro b w1 hp) | refine hL3 ?_ | (refine hS1 ?_; clear hp; intro w1 hp)) | go_skip)
  go_loopg [9, 10] l.length (fun g i j wr => ∃ x y : Nat, i = .int .i64 x ∧ j = .int .i64 y ∧ x ≤ y ∧ y ≤ l.length ∧ g + x = y ∧ RowKit.Hid (x ≤ k ∧ k ≤ y) ∧ Hp w.heap.size w wr [])
  case atStart => exact ⟨0, l.length, rfl, rfl, by omega, by omega, by omega, Lib.hid ⟨by omega, HK.out.1⟩, hp⟩
  case round =>
    clear hp
    obtain ⟨x, y, rfl, rfl, hxy, hyl, hg, HXY, hp⟩ := hrel
    by_cases hlt : x < y
    · obtain ⟨h, hh⟩ : ∃ h, h = (x + y) / 2 := ⟨_, rfl⟩
      have hxh : x ≤ h := by omega
      have hhy : h < y := by omega
      obtain ⟨bq, off, rfl, hx⟩ := HA.out.elems 5 obV_len (by omega) (by omega)
      have hj := List.getElem?_eq_getElem (l := l) (i := h) (by omega)
      replace hx := hx h _ hj
      generalize l[h]'(by omega) = z at hx hj
      have e1 : (x : Int) < (y : Int) := by omega
      have e2 : ((x : Int) + (y : Int)) / 2 = (h : Int) := by omega
      have e3 : (0 : Int) ≤ (h : Int) := by omega
      have e4 : (h : Int) < (l.length : Int) := by omega
      have HJ := Lib.hid hj
      obtain ⟨yh, yp, yo, ywa, yws, ywc, yla, yls, ylc⟩ := z
      simp only [obV] at hx
      have HX := Lib.hid hx
      have HHH := Lib.hid hh
      clear hx hj hh
      by_cases hc : yh < t
      · have HCM : RowKit.Hid (cmpI yh t = -1) := Lib.hid (by unfold cmpI; rw [if_pos hc])
        have HC := Lib.hid hc
        clear hc
        go_wp2_with (first | (go_at_call 182; (with_reducible refine (fc182 ⟨yh, yp, yo, ywa, yws, ywc, yla, yls, ylc⟩ t _).mono ?_); rintro e w1 ⟨rfl, hb⟩; replace hp := hp.call hb; clear hb; rw [HCM.out]) | go_skip | (first | (refine hA2 ?_; clear hp; intro b w1 hp) | refine hL3 ?_ | (refine hS1 ?_; clear hp; intro w1 hp)))
        go_roundg (y - (h + 1))
        case measure => have := HHH.out; omega
        case rel =>
          refine ⟨h + 1, y, by go_num, rfl, by omega, hyl, by omega, Lib.hid ⟨?_, HXY.out.2⟩, hp⟩
          rcases Nat.lt_or_ge h k with h1 | h1
          · omega
          · have h2 : t ≤ yh := HK.out.2.2 h _ HJ.out h1
            have h3 := HC.out
            omega
      · obtain ⟨cv, hcv, hc0⟩ : ∃ cv : Int, cmpI yh t = cv ∧ 0 ≤ cv := by
          unfold cmpI; rw [if_neg hc]
          split
          · exact ⟨1, rfl, by omega⟩
          · exact ⟨0, rfl, by omega⟩
        have HCM := Lib.hid hcv
        have HC := Lib.hid hc
        have hc1 : decide (cv < 0) = false := by simp; omega
        clear hc hcv
        go_wp2_with (first | (go_at_call 182; (with_reducible refine (fc182 ⟨yh, yp, yo, ywa, yws, ywc, yla, yls, ylc⟩ t _).mono ?_); rintro e w1 ⟨rfl, hb⟩; replace hp := hp.call hb; clear hb; rw [HCM.out]) | go_skip | (first | (refine hA2 ?_; clear hp; intro b w1 hp) | refine hL3 ?_ | (refine hS1 ?_; clear hp; intro w1 hp)))
        go_roundg (h - x)
        case measure => have := HHH.out; omega
        case rel =>
          refine ⟨x, h, rfl, rfl, by omega, by omega, by omega, Lib.hid ⟨HXY.out.1, ?_⟩, hp⟩
          rcases Nat.lt_or_ge h k with h1 | h1
          · have h2 : yh < t := HK.out.2.1 h _ HJ.out h1
            have h3 := HC.out
            omega
          · exact h1
    · have hxk : x = k := by have := HXY.out; omega
      have hyk : y = k := by have := HXY.out; omega
      subst hxk
      subst hyk
      have e0 : decide ((y : Int) < (y : Int)) = false := by simp
      by_cases hkl : y < l.length
      · obtain ⟨bq, off, rfl, hx⟩ := HA.out.elems 5 obV_len (by omega) (by omega)
        have hj := List.getElem?_eq_getElem hkl
        replace hx := hx y _ hj
        generalize l[y] = z at hx hj
        have e3 : (0 : Int) ≤ (y : Int) := by omega
        have e4 : (y : Int) < (l.length : Int) := by omega
        obtain ⟨yh, yp, yo, ywa, yws, ywc, yla, yls, ylc⟩ := z
        simp only [obV] at hx
        have HX := Lib.hid hx
        have hge := HK.out.2.2 y _ hj (Nat.le_refl _)
        simp only at hge
        by_cases hc : yh = t
        · have HB : RowKit.Hid (hasBO l t y = true) := Lib.hid (by unfold hasBO; rw [hj]; simp [hc])
          have HCM : RowKit.Hid (cmpI yh t = 0) := Lib.hid (by unfold cmpI; rw [if_neg (by omega), if_neg (by omega)])
          clear hx hj hge hc
          go_wp2_with (first | (go_at_call 182; (with_reducible refine (fc182 ⟨yh, yp, yo, ywa, yws, ywc, yla, yls, ylc⟩ t _).mono ?_); rintro e w1 ⟨rfl, hb⟩; replace hp := hp.call hb; clear hb; rw [HCM.out]) | go_skip | (first | (refine hA2 ?_; clear hp; intro b w1 hp) | refine hL3 ?_ | (refine hS1 ?_; clear hp; intro w1 hp)))
          go_ret2
          exact ⟨by rw [HB.out]; rfl, hp.below⟩
        · have HB : RowKit.Hid (hasBO l t y = false) := Lib.hid (by unfold hasBO; rw [hj]; simp [hc])
          have HCM : RowKit.Hid (cmpI yh t = 1) := Lib.hid (by unfold cmpI; rw [if_neg (by omega), if_pos (by omega)])
          clear hx hj hge hc
          go_wp2_with (first | (go_at_call 182; (with_reducible refine (fc182 ⟨yh, yp, yo, ywa, yws, ywc, yla, yls, ylc⟩ t _).mono ?_); rintro e w1 ⟨rfl, hb⟩; replace hp := hp.call hb; clear hb; rw [HCM.out]) | go_skip | (first | (refine hA2 ?_; clear hp; intro b w1 hp) | refine hL3 ?_ | (refine hS1 ?_; clear hp; intro w1 hp)))
          go_ret2
          exact ⟨by rw [HB.out]; rfl, hp.below⟩
      · have e4 : decide ((y : Int) < (l.length : Int)) = false := by simp; omega
        have HB : RowKit.Hid (hasBO l t y = false) := Lib.hid (by unfold hasBO; rw [List.getElem?_eq_none (by omega)])
        go_wp2_with (first | go_skip | (first | (refine hA2 ?_; clear hp; intro b w1 hp) | refine hL3 ?_ | (refine hS1 ?_; clear hp; intro w1 hp)) | go_skip)
        go_ret2
        exact ⟨by rw [HB.out]; rfl, hp.below⟩
end Go.Proofs.YtcjbepaclbhjaaaGreat
namespace Go.Proofs.YtcjbepaclbhjaaaGreat
open Go.RowKit
theorem has_iff {l : List Ob} (hs : SortedO l) {t : Int} {k : Nat} (hk : AtO l t k) : hasBO l t k = true ↔ ∃ o ∈ l, o.h = t := by
  constructor
  · intro h
    unfold hasBO at h
    split at h
    · rename_i y hy
      exact ⟨y, List.mem_of_getElem? hy, by simpa using h⟩
    · cases h
  · rintro ⟨o, ho, rfl⟩
    obtain ⟨j, hj, rfl⟩ := List.getElem_of_mem ho
    have hjj := List.getElem?_eq_getElem hj
    have h1 : ¬ j < k := fun h => by have := hk.2.1 j _ hjj h; omega
    have hkl : k < l.length := by omega
    have hkk := List.getElem?_eq_getElem hkl
    have h2 := hk.2.2 k _ hkk (Nat.le_refl _)
    unfold hasBO
    rw [hkk]
    simp only [decide_eq_true_eq]
    rcases Nat.lt_or_ge k j with h | h
    · have := hs k j _ _ h hkk hjj; omega
    · have : j = k := by omega
      subst this; rfl
theorem leads_has {l : List Ob} (hs : SortedO l) {t : Int} {k : Nat} (hk : AtO l t k) (h0 : t ≠ 0) : hasBO l t k = leadsB l t := by
  rw [Bool.eq_iff_iff, has_iff hs hk]
  simp [leadsB, leadsP, h0]
theorem leads_zero (l : List Ob) : leadsB l 0 = true := by simp [leadsB, leadsP]
def FindPostH (w : World) (l : List Ob) (t : Int) (e : Ending) (w' : World) : Prop := ∃ k : Nat, e = .returned (.tuple #[.int .i64 k, .bool (hasBO l t k)]) ∧ AtO l t k ∧ Below w.heap.size w w'
set_option maxRecDepth 100000 in
set_option maxHeartbeats 4000000 in
theorem find163 (l : List Ob) (a : Option Addr) (c : Nat) (hl : l.length ≤ 1000) (hs : SortedO l) (t : Int) (w : World) (ha : RowIs w a (l.flatMap obV)) :
    Calls Tryz.prog 163 #[.slice a l.length c, .int .i64 t] w (FindPostH w l t) := by
  obtain ⟨k, hk⟩ := at_exO hs t
  have hp := Hp.start w
  have HA := Lib.hid ha
  have HK := Lib.hid hk
  clear ha hk
  go_enter Tryz.func163, Tryz.ntmps163
  go_wp2_with (first | (go_at_call 181; (with_reducible refine (bs181 l a c hl t k HK.out _ (HA.out.below hp.below)).mono ?_); rintro e w1 ⟨rfl, hb⟩; replace hp := hp.call hb; clear hb) | go_skip | (first | (refine hA2 ?_; clear hp; intro b w1 hp) | refine hL0 ?_ | (refine hS0 ?_; clear hp; intro w1 hp)))
  go_ret2
  exact ⟨k, rfl, HK.out, hp.below⟩
set_option maxRecDepth 100000 in
set_option maxHeartbeats 4000000 in
theorem leads139 (l : List Ob) (a : Option Addr) (c : Nat) (hl : l.length ≤ 1000) (hs : SortedO l) (t : Int) (w : World) (ha : RowIs w a (l.flatMap obV)) :
    Calls Tryz.prog 139 #[.slice a l.length c, .int .i64 t] w fun e w' => e = .returned (.bool (leadsB l t)) ∧ Below w.heap.size w w' := by
  have hp := Hp.start w
  have HA := Lib.hid ha
  have HS := Lib.hid hs
  clear ha hs
  by_cases h0 : t = 0
  · subst h0
    go_enter Tryz.func139, Tryz.ntmps139
    go_wp2_with (first | (go_at_call 163; (with_reducible refine (find163 l a c hl HS.out 0 _ (HA.out.below hp.below)).mono ?_); rintro e w1 ⟨k, rfl, hk, hb⟩; replace hp := hp.call hb; clear hb hk) | go_skip | (first | (refine hA2 ?_; clear hp; intro b w1 hp) | refine hL0 ?_ | (refine hS0 ?_; clear hp; intro w1 hp)))
    go_ret
    exact ⟨ret_bool (leads_zero l).symm, hp.below⟩
  · have HN := Lib.hid h0
    have e0 : (t == 0) = false := by simpa using h0
    clear h0
    go_enter Tryz.func139, Tryz.ntmps139
    go_wp2_with (first | (go_at_call 163; (with_reducible refine (find163 l a c hl HS.out t _ (HA.out.below hp.below)).mono ?_); rintro e w1 ⟨k, rfl, hk, hb⟩; replace hp := hp.call hb; have HK := Lib.hid hk; clear hb hk) | go_skip | (first | (refine hA2 ?_; clear hp; intro b w1 hp) | refine hL0 ?_ | (refine hS0 ?_; clear hp; intro w1 hp)))
    go_ret
    exact ⟨ret_bool (leads_has HS.out HK.out HN.out), hp.below⟩
set_option maxRecDepth 100000 in
set_option maxHeartbeats 4000000 in
theorem lost138 (l : List Ob) (a : Option Addr) (c : Nat) (hl : l.length ≤ 1000) (hs : SortedO l) (t : Int) (b : Nat) (w : World) (hb : b < w.heap.size) (hc : w.cell? ⟨b, 1, none⟩ = some (.slice a l.length c)) (ha : RowIs w a (l.flatMap obV)) :
    Calls Tryz.prog 138 #[.int .i64 t, .pointer (some ⟨b, 0, none⟩)] w fun e w' => e = .returned (.bool (!leadsB l t)) ∧ Below w.heap.size w w' := by
  have hp := Hp.start w
  have HA := Lib.hid ha
  have HC := Lib.hid hc
  have HS := Lib.hid hs
  clear ha hc hs
  go_enter Tryz.func138, Tryz.ntmps138
  go_wp2_with (first | (go_at_call 139; (with_reducible refine (leads139 l a c hl HS.out t _ (HA.out.below hp.below)).mono ?_); rintro e w1 ⟨rfl, hb⟩; replace hp := hp.call hb; clear hb) | go_skip | (first | (refine hA2 ?_; clear hp; intro b w1 hp) | refine hL0 ?_ | (refine hS0 ?_; clear hp; intro w1 hp)) | (refine hL4 ?_))
  go_ret
  exact ⟨rfl, hp.below⟩
open Classical in
noncomputable def lostB (os : List Ob) (l : List Int) : Bool := decide (∃ t ∈ l, ¬ leadsP os t)
theorem leadsB_iff {os : List Ob} {t : Int} : leadsB os t = true ↔ leadsP os t := by simp [leadsB]
theorem lostB_iff {os : List Ob} {l : List Int} : lostB os l = true ↔ ∃ t ∈ l, ¬ leadsP os t := by simp [lostB]
def IdxPostL (w : World) (os : List Ob) (l : List Int) (e : Ending) (w' : World) : Prop := ∃ r : Int, e = .returned (.int .i64 r) ∧ decide (0 ≤ r) = lostB os l ∧ Below w.heap.size w w'
set_option maxRecDepth 100000 in
set_option maxHeartbeats 4000000 in
theorem idx164 (os : List Ob) (oa : Option Addr) (oc : Nat) (hol : os.length ≤ 1000) (hs : SortedO os) (b : Nat) (l : List Int) (a : Option Addr) (c : Nat) (hl : l.length ≤ 2000000) (w : World) (hb : b < w.heap.size) (hc : w.cell? ⟨b, 1, none⟩ = some (.slice oa os.length oc)) (hoa : RowIs w oa (os.flatMap obV)) (ha : RowIs w a (l.flatMap iV)) : Calls Tryz.prog 164 #[.slice a l.length c, .func (.func 138) #[] #[.pointer (some ⟨b, 0, none⟩)]] w (IdxPostL w os l) := by
  have hp := Hp.start w
  have HA := Lib.hid ha
  have HOA := Lib.hid hoa
  have HC := Lib.hid hc
  have HS := Lib.hid hs
  clear ha hc hs hoa
  go_enter Tryz.func164, Tryz.ntmps164
  go_wp2_with (first | go_skip | (first | (refine hA2 ?_; clear hp; intro b w1 hp) | refine hL5 ?_ | (refine hS0 ?_; clear hp; intro w1 hp)))
  go_loopg [8] l.length (fun k i wr => ∃ j : Nat, k + j = l.length ∧ i = .int .i64 j ∧ RowKit.Hid (∀ (i : Nat) y, i < j → l[i]? = some y → leadsP os y) ∧ Hp w.heap.size w wr [])
  case atStart => exact ⟨0, by omega, rfl, Lib.hid (fun i y h => by omega), hp⟩
  case round =>
    clear hp
    obtain ⟨j, hkj, rfl, HY, hp⟩ := hrel
    by_cases hlt : j < l.length
    · obtain ⟨bq, off, rfl, hx⟩ := HA.out.elems 1 iV_len (by omega) (by omega)
      have hj := List.getElem?_eq_getElem hlt
      replace hx := hx j _ hj
      have HJ := Lib.hid hj
      clear hj
      generalize l[j] = t at hx HJ
      simp only [iV, Nat.mul_one] at hx
      have HX := Lib.hid hx
      clear hx
      have e1 : (0 : Int) ≤ (j : Int) := by omega
      have e2 : (j : Int) < (l.length : Int) := by omega
      by_cases hle : leadsP os t
      · have HXC : RowKit.Hid ((!leadsB os t) = false) := Lib.hid (by rw [leadsB_iff.2 hle]; rfl)
        go_wp2_with (first | (go_at_call 138; (with_reducible refine (lost138 os oa oc hol HS.out t b _ (by have := hp.below.size; omega) ((hp.below.cell (p := ⟨b, 1, none⟩) hb).trans HC.out) (HOA.out.below hp.below)).mono ?_); rintro e w1 ⟨rfl, hb1⟩; replace hp := hp.call hb1; clear hb1; rw [HXC.out]) | go_skip | (first | (refine hA2 ?_; clear hp; intro b w1 hp) | refine hL5 ?_ | (refine hS0 ?_; clear hp; intro w1 hp)))
        go_roundg (gk - 1)
        case measure => omega
        case rel =>
          refine ⟨j + 1, by omega, by go_num, Lib.hid (fun i y hi hy => ?_), hp⟩
          rcases Nat.lt_or_ge i j with h | h
          · exact HY.out i y h hy
          · have : i = j := by omega
            subst this
            rw [HJ.out] at hy; injection hy with hy; subst hy; exact hle
      · have HXC : RowKit.Hid ((!leadsB os t) = true) := Lib.hid (by
          cases hq : leadsB os t with
          | false => rfl
          | true => exact absurd (leadsB_iff.1 hq) hle)
        go_wp2_with (first | (go_at_call 138; (with_reducible refine (lost138 os oa oc hol HS.out t b _ (by have := hp.below.size; omega) ((hp.below.cell (p := ⟨b, 1, none⟩) hb).trans HC.out) (HOA.out.below hp.below)).mono ?_); rintro e w1 ⟨rfl, hb1⟩; replace hp := hp.call hb1; clear hb1; rw [HXC.out]) | go_skip | (first | (refine hA2 ?_; clear hp; intro b w1 hp) | refine hL5 ?_ | (refine hS0 ?_; clear hp; intro w1 hp)))
        go_ret
        refine ⟨(j : Int), rfl, ?_, hp.below⟩
        rw [lostB_iff.2 ⟨t, List.mem_of_getElem? HJ.out, hle⟩]
        simp
    · have e2 : decide ((j : Int) < (l.length : Int)) = false := by simp; omega
      go_wp2_with fail
      go_ret
      refine ⟨-1, rfl, ?_, hp.below⟩
      have : lostB os l = false := by
        cases hq : lostB os l with
        | false => rfl
        | true =>
          obtain ⟨t, ht, hn⟩ := lostB_iff.1 hq
          obtain ⟨i, hi, rfl⟩ := List.getElem_of_mem ht
          exact absurd (HY.out i _ (by omega) (List.getElem?_eq_getElem hi)) hn
      rw [this]
      decide
set_option maxRecDepth 100000 in
set_option maxHeartbeats 4000000 in
theorem contains140 (os : List Ob) (oa : Option Addr) (oc : Nat) (hol : os.length ≤ 1000) (hs : SortedO os) (b : Nat) (l : List Int) (a : Option Addr) (c : Nat) (hl : l.length ≤ 2000000) (w : World) (hb : b < w.heap.size) (hc : w.cell? ⟨b, 1, none⟩ = some (.slice oa os.length oc)) (hoa : RowIs w oa (os.flatMap obV)) (ha : RowIs w a (l.flatMap iV)) : Calls Tryz.prog 140 #[.slice a l.length c, .func (.func 138) #[] #[.pointer (some ⟨b, 0, none⟩)]] w fun e w' => e = .returned (.bool (lostB os l)) ∧ Below w.heap.size w w' := by
  have hp := Hp.start w
  have HA := Lib.hid ha
  have HOA := Lib.hid hoa
  have HC := Lib.hid hc
  have HS := Lib.hid hs
  clear ha hc hs hoa
  go_enter Tryz.func140, Tryz.ntmps140
  go_wp2_with (first | (go_at_call 164; (with_reducible refine (idx164 os oa oc hol HS.out b l a c hl _ (by have := hp.below.size; omega) ((hp.below.cell (p := ⟨b, 1, none⟩) hb).trans HC.out) (HOA.out.below hp.below) (HA.out.below hp.below)).mono ?_); rintro e w1 ⟨r, rfl, hr, hb1⟩; replace hp := hp.call hb1; have HR := Lib.hid hr; clear hb1 hr) | go_skip | (first | (refine hA2 ?_; clear hp; intro b w1 hp) | refine hL5 ?_ | (refine hS0 ?_; clear hp; intro w1 hp)))
  go_ret
  exact ⟨ret_bool HR.out, hp.below⟩
end Go.Proofs.YtcjbepaclbhjaaaGreat
namespace Go.Proofs.YtcjbepaclbhjaaaGreat
open Go.RowKit
theorem rightB_good {od : Int} {fs : List Bl} (h : rightB od fs = true) : 3 ≤ od ∧ od ≤ 8 ∧ Good od fs := by
  unfold rightB regionB at h
  simp only [Bool.and_eq_true, decide_eq_true_eq] at h
  exact ⟨h.1.1, h.1.2, h.2⟩
theorem hright_no {x : Hv} (h : ¬ HRight x) : hrightB x = false := by simp [hrightB, h]
theorem hright_yes {x : Hv} (h : HRight x) : hrightB x = true := by simp [hrightB, h]
theorem chk1_ways (x : Hv) :
    (errI (rightB x.od x.fs) = 1 ∧ hrightB x = false) ∨ (errI (rightB x.od x.fs) = 0 ∧ inB x.nx 1 1000001 = false ∧ hrightB x = false) ∨
    (errI (rightB x.od x.fs) = 0 ∧ inB x.nx 1 1000001 = true ∧ decide ((256 : Int) < (x.os.length : Int)) = true ∧ hrightB x = false) ∨
    (errI (rightB x.od x.fs) = 0 ∧ inB x.nx 1 1000001 = true ∧ decide ((256 : Int) < (x.os.length : Int)) = false ∧ rightB x.od x.fs = true ∧ 1 ≤ x.nx ∧ x.nx ≤ 1000001 ∧ x.os.length ≤ 256) := by
  cases h1 : rightB x.od x.fs with
  | false => left; exact ⟨rfl, hright_no fun h => by rw [h.free] at h1; cases h1⟩
  | true =>
    right
    cases h2 : inB x.nx 1 1000001 with
    | false => left; exact ⟨rfl, rfl, hright_no fun h => by have a := h.lo; have b := h.hi; simp [inB] at h2; omega⟩
    | true =>
      right
      by_cases h3 : (256 : Int) < (x.os.length : Int)
      · left; exact ⟨rfl, rfl, decide_eq_true h3, hright_no fun h => by have := h.len; omega⟩
      · right
        simp [inB] at h2
        exact ⟨rfl, rfl, decide_eq_false h3, rfl, h2.1, h2.2, by omega⟩
def RiseTo (nx : Int) (os : List Ob) (j : Nat) (la : Int) : Prop :=
  (j = 0 → la = 0) ∧ (0 < j → ∃ o, os[j - 1]? = some o ∧ o.h = la) ∧ ∀ (i : Nat) o, i < j → os[i]? = some o → 1 ≤ o.h ∧ o.h < nx ∧ o.h ≤ la ∧ ∀ (k : Nat) q, k < i → os[k]? = some q → q.h < o.h
theorem RiseTo.start (nx : Int) (os : List Ob) : RiseTo nx os 0 0 := ⟨fun _ => rfl, fun h => by omega, fun i o h => by omega⟩
theorem RiseTo.fail {nx : Int} {os : List Ob} {j : Nat} {la : Int} {x : Ob} (h : RiseTo nx os j la) (hx : os[j]? = some x) (hb : x.h ≤ la ∨ nx ≤ x.h) : ¬ HRise nx os := by
  intro hr
  obtain ⟨r1, r2, r3⟩ := hr j x hx
  rcases hb with hb | hb
  · rcases Nat.eq_zero_or_pos j with h0 | h0
    · have := h.1 h0; omega
    · obtain ⟨o, ho, he⟩ := h.2.1 h0
      have := r3 (j - 1) o (by omega) ho
      omega
  · omega
theorem RiseTo.step {nx : Int} {os : List Ob} {j : Nat} {la : Int} {x : Ob} (h : RiseTo nx os j la) (hx : os[j]? = some x) (h1 : ¬ x.h ≤ la) (h2 : ¬ nx ≤ x.h) : RiseTo nx os (j + 1) x.h := by
  have hla : 0 ≤ la := by
    rcases Nat.eq_zero_or_pos j with h0 | h0
    · have := h.1 h0; omega
    · obtain ⟨o, ho, he⟩ := h.2.1 h0
      have := h.2.2 (j - 1) o (by omega) ho; omega
  refine ⟨fun h => by omega, fun _ => ⟨x, by simpa using hx, rfl⟩, fun i o hi ho => ?_⟩
  by_cases hij : i = j
  · subst hij
    rw [hx] at ho; injection ho with ho; subst ho
    refine ⟨by omega, by omega, by omega, fun k q hk hq => ?_⟩
    have := (h.2.2 k q hk hq).2.2.1; omega
  · obtain ⟨a, b, c, d⟩ := h.2.2 i o (by omega) ho
    exact ⟨a, b, by omega, d⟩
theorem RiseTo.done {nx : Int} {os : List Ob} {j : Nat} {la : Int} (h : RiseTo nx os j la) (hj : os.length = j) : HRise nx os := fun i o ho => by
  have := (List.getElem?_eq_some_iff.1 ho).1
  obtain ⟨a, b, _, d⟩ := h.2.2 i o (by omega) ho
  exact ⟨a, b, d⟩
theorem chk2_ways {od : Int} (h3 : 3 ≤ od) (h8 : od ≤ 8) {os : List Ob} {q : Nat} {x : Ob} (hx : os[q]? = some x) (hn : HNeed' od (os.take q)) {r : Bool} (hr : ¬ HNeed od os → r = false) :
    (∃ nn : Int, needI x.ws.length x.ls.length = nn ∧ (nn == x.o) = false ∧ (nn != x.o) = true ∧ r = false) ∨
    (needI x.ws.length x.ls.length = x.o ∧ inB x.o 0 od = false ∧ r = false) ∨
    (needI x.ws.length x.ls.length = x.o ∧ inB x.o 0 od = true ∧ 0 ≤ od ∧ od ≤ 8 ∧ inB x.p 0 (pw od) = false ∧ r = false) ∨
    (needI x.ws.length x.ls.length = x.o ∧ inB x.o 0 od = true ∧ 0 ≤ od ∧ od ≤ 8 ∧ inB x.p 0 (pw od) = true ∧ 0 ≤ x.o ∧ x.o ≤ 8 ∧ x.p.tmod (pw x.o) = x.p % pw x.o ∧ pw x.o ≠ 0 ∧ (x.p % pw x.o == 0) = false ∧ (x.p % pw x.o != 0) = true ∧ r = false) ∨
    (needI x.ws.length x.ls.length = x.o ∧ inB x.o 0 od = true ∧ 0 ≤ od ∧ od ≤ 8 ∧ inB x.p 0 (pw od) = true ∧ 0 ≤ x.o ∧ x.o ≤ 8 ∧ x.p.tmod (pw x.o) = x.p % pw x.o ∧ pw x.o ≠ 0 ∧ (x.p % pw x.o == 0) = true ∧ (x.p % pw x.o != 0) = false ∧ HNeed' od (os.take (q + 1))) := by
  have hm : x ∈ os := List.mem_of_getElem? hx
  by_cases h1 : needI x.ws.length x.ls.length = x.o
  · right
    cases h2 : inB x.o 0 od with
    | false =>
      left
      refine ⟨h1, rfl, hr fun h => ?_⟩
      have := (h x hm).2
      obtain ⟨a, b, _⟩ := this
      simp only [obBl] at a b
      simp [inB] at h2; omega
    | true =>
      right
      have h2' := h2
      simp [inB] at h2'
      cases h4 : inB x.p 0 (pw od) with
      | false =>
        left
        refine ⟨h1, rfl, by omega, h8, rfl, hr fun h => ?_⟩
        obtain ⟨_, _, a, b, _⟩ := (h x hm).2
        simp only [obBl] at a b
        have := pw_pos x.o
        simp [inB] at h4; omega
      | true =>
        right
        have h4' := h4
        simp [inB] at h4'
        have hp := pw_pos x.o
        have ht := Int.tmod_eq_emod_of_nonneg (b := pw x.o) h4'.1
        by_cases h5 : x.p % pw x.o = 0
        · right
          refine ⟨h1, rfl, by omega, h8, rfl, h2'.1, by omega, ht, by omega, by simp [h5], by simp [h5], fun o ho => ?_⟩
          rw [List.take_add_one, hx] at ho
          rcases List.mem_append.1 ho with ho | ho
          · exact hn o ho
          · simp at ho
            subst ho
            exact ⟨h1, h2'.1, h2'.2, h4'.1, h4'.2, h5⟩
        · left
          refine ⟨h1, rfl, by omega, h8, rfl, h2'.1, by omega, ht, by omega, by simp [h5], by simp [h5], hr fun h => ?_⟩
          obtain ⟨_, _, _, _, a⟩ := (h x hm).2
          simp only [obBl] at a
          exact h5 a
  · left
    exact ⟨_, rfl, by simp [h1], by simp [h1], hr fun h => h1 (h x hm).1⟩
def TileAt (E : Int) (s : List Bl) (j : Nat) (en : Int) : Prop := 0 ≤ en ∧ en ≤ 512 ∧ (Tl E 0 s ↔ Tl E en (s.drop j))
def InR (s : List Bl) : Prop := ∀ b ∈ s, 0 ≤ b.p ∧ b.p ≤ 256 ∧ 0 ≤ b.o ∧ b.o ≤ 8
theorem TileAt.start (E : Int) (s : List Bl) : TileAt E s 0 0 := ⟨by omega, by omega, by rw [List.drop_zero]⟩
theorem TileAt.fail {E : Int} {s : List Bl} {j : Nat} {en : Int} {b : Bl} (h : TileAt E s j en) (hb : s[j]? = some b) (hne : b.p ≠ en) : ¬ Tl E 0 s := by
  rw [h.2.2, List.drop_eq_getElem_cons (List.getElem?_eq_some_iff.1 hb).1, (List.getElem?_eq_some_iff.1 hb).2]
  exact fun h => hne h.1
theorem TileAt.step {E : Int} {s : List Bl} {j : Nat} {b : Bl} (hs : InR s) (h : TileAt E s j b.p) (hb : s[j]? = some b) : TileAt E s (j + 1) (b.p + pw b.o) ∧ wrap64 (b.p + pw b.o) = b.p + pw b.o := by
  obtain ⟨h1, h2, h3, h4⟩ := hs b (List.mem_of_getElem? hb)
  have h5 := pw_le h4
  have h6 := pw_pos b.o
  refine ⟨⟨by omega, by omega, ?_⟩, IntWalk.wrap64_in _ ⟨by omega, by omega⟩⟩
  rw [h.2.2, List.drop_eq_getElem_cons (List.getElem?_eq_some_iff.1 hb).1, (List.getElem?_eq_some_iff.1 hb).2]
  exact ⟨fun h => h.2, fun h => ⟨rfl, h⟩⟩
theorem TileAt.done {E : Int} {s : List Bl} {j : Nat} {en : Int} (h : TileAt E s j en) (hj : s.length = j) : Tl E 0 s ↔ en = E := by
  rw [h.2.2, List.drop_eq_nil_of_le (by omega)]
  exact Iff.rfl
theorem inR_of {od : Int} {os : List Ob} {fs s : List Bl} (h8 : od ≤ 8) (hf : Good od fs) (hs : s.Perm (fs ++ os.map obBl)) (hn : HNeed' od os) : InR s := by
  intro b hb
  have hpw := pw_le h8
  rcases List.mem_append.1 (hs.mem_iff.1 hb) with hb | hb
  · obtain ⟨i, hi, rfl⟩ := List.getElem_of_mem hb
    obtain ⟨a, b, c, d, _⟩ := (hf i _ (List.getElem?_eq_getElem hi)).1
    have := pw_pos fs[i].o
    exact ⟨c, by omega, a, by omega⟩
  · obtain ⟨o, ho, rfl⟩ := List.mem_map.1 hb
    obtain ⟨_, a, b, c, d, _⟩ := hn o ho
    simp only [obBl]
    exact ⟨c, by omega, a, by omega⟩
def allLinks (os : List Ob) : List Int := os.flatMap (·.ls)
theorem allLinks_snoc (os : List Ob) (x : Ob) : allLinks (os ++ [x]) = allLinks os ++ x.ls := by simp [allLinks]
theorem need_len {w l : Nat} {o : Int} (h : needI w l = o) (h0 : 0 ≤ o) : l ≤ 16 := by
  unfold needI at h
  split at h
  · omega
  · omega
theorem obs_map_snoc (fs : List Bl) (os : List Ob) (x : Ob) : (fs ++ (os ++ [x]).map obBl).flatMap blV = (fs ++ os.map obBl).flatMap blV ++ [.int .i64 x.p, .int .i64 x.o] := by
  rw [List.map_append, ← List.append_assoc, List.flatMap_append]; rfl
theorem hlinks_iff {os : List Ob} : HLinks os ↔ ∀ t ∈ allLinks os, leadsP os t := by
  unfold HLinks allLinks
  constructor
  · intro h t ht
    obtain ⟨o, ho, ht⟩ := List.mem_flatMap.1 ht
    exact h o ho t ht
  · intro h o ho t ht
    exact h t (List.mem_flatMap.2 ⟨o, ho, ht⟩)
theorem right_of {x : Hv} {s : List Bl} (h1 : rightB x.od x.fs = true) (h2 : 1 ≤ x.nx) (h3 : x.nx ≤ 1000001) (h4 : x.os.length ≤ 256) (h5 : HRise x.nx x.os) (h6 : HNeed' x.od x.os)
    (hs : s.Perm (x.fs ++ x.os.map obBl)) (hso : s.Pairwise fun a b => a.p ≤ b.p) : HRight x ↔ Tl (pw x.od) 0 s ∧ (∀ t ∈ allLinks x.os, leadsP x.os t) ∧ ∀ t ∈ tops x, leadsP x.os t := by
  obtain ⟨_, _, hg⟩ := rightB_good h1
  rw [tile_iff hg hs hso h6]
  constructor
  · intro h
    exact ⟨⟨h.need, h.apart, h.words⟩, hlinks_iff.1 h.links, h.tops⟩
  · rintro ⟨⟨a, b, c⟩, d, e⟩
    exact ⟨h1, h2, h3, h4, h5, a, b, hlinks_iff.2 d, e, c⟩
end Go.Proofs.YtcjbepaclbhjaaaGreat
