import Derived.Test.YtjcbpfbifbfkcaaGreatTx0
import Derived.Test.YtjcbpfbifbfkcaaGreatTx1
import Derived.Deep.LoopGhost
set_option linter.unusedSimpArgs false
set_option linter.unusedVariables false
set_option maxRecDepth 100000
set_option maxHeartbeats 60000000
namespace Go.Proofs.YtjcbpfbifbfkcaaGreat
open Go.RowKit
structure Hv where
 od : Int
 oa : Option Addr
 os : List Ob
 oc : Nat
 nx : Int
 t0 : Int
 t1 : Int
 t2 : Int
 t3 : Int
 fa : Option Addr
 fs : List Bl
 fc : Nat
def hvL (x : Hv) : List Value := [.int .i64 x.od, .slice x.oa x.os.length x.oc, .int .i64 x.nx, .int .i64 x.t0, .int .i64 x.t1, .int .i64 x.t2, .int .i64 x.t3, .slice x.fa x.fs.length x.fc]
def Hv.Is (w : World) (x : Hv) : Prop := zm w x.oa (x.os.flatMap obV) ∧ (∀ o ∈ x.os, o.Is w) ∧ zm w x.fa (x.fs.flatMap blV)
def ZO (l k : List Ob) : Prop := l.length = k.length ∧ ∀ (i : Nat) a b, l[i]? = some a → k[i]? = some b → a.Sm b
structure Hv.Sm (x y : Hv) : Prop where
 od : x.od = y.od
 nx : x.nx = y.nx
 t0 : x.t0 = y.t0
 t1 : x.t1 = y.t1
 t2 : x.t2 = y.t2
 t3 : x.t3 = y.t3
 os : ZO x.os y.os
 fs : x.fs = y.fs
def zge (l : List Ob) : Prop := l.length ≤ 600 ∧ ∀ o ∈ l, o.ws.length ≤ 5000 ∧ o.ls.length ≤ 5000
def Hv.Small (x : Hv) : Prop := zge x.os ∧ x.fs.length ≤ 600
theorem ZO.refl (l : List Ob) : ZO l l := ⟨rfl, fun i a b h1 h2 => by rw [h1] at h2; injection h2 with h2; subst h2; exact Ob.Sm.rfl_ _⟩
theorem ZO.symm {l k : List Ob} (h : ZO l k) : ZO k l := ⟨h.1.symm, fun i a b h1 h2 => (h.2 i b a h2 h1).symm⟩
theorem Hv.Sm.refl (x : Hv) : x.Sm x := ⟨rfl, rfl, rfl, rfl, rfl, rfl, ZO.refl _, rfl⟩
theorem Hv.Sm.symm {x y : Hv} (h : x.Sm y) : y.Sm x := ⟨h.od.symm, h.nx.symm, h.t0.symm, h.t1.symm, h.t2.symm, h.t3.symm, h.os.symm, h.fs.symm⟩
theorem Hv.Is.below {w w' : World} {x : Hv} (h : x.Is w) (hb : Below w.heap.size w w') : x.Is w' := ⟨h.1.below hb, fun o ho => (h.2.1 o ho).below hb, h.2.2.below hb⟩
theorem ZO.snoc {l k : List Ob} {n : Nat} {x y : Ob} (hx : l[n]? = some x) (hy : x.Sm y) (hk : k.length = n) (h : ∀ (i : Nat) a b, l[i]? = some a → k[i]? = some b → a.Sm b) :
  ∀ (i : Nat) a b, l[i]? = some a → (k ++ [y])[i]? = some b → a.Sm b := by
 intro i a b h1 h2
 rcases Nat.lt_or_ge i k.length with hi | hi
 ·rw [List.getElem?_append_left hi] at h2
  exact h i a b h1 h2
 ·rw [List.getElem?_append_right hi] at h2
  rcases Nat.lt_or_ge (i - k.length) 1 with h3 | h3
  ·have : i = n := by omega
   subst this
   rw [hk, Nat.sub_self] at h2
   simp at h2
   subst h2
   rw [hx] at h1
   injection h1 with h1
   subst h1
   exact hy
  ·rw [List.getElem?_eq_none (by simpa using h3)] at h2
   cases h2
theorem zjD (k : List Ob) (y : Ob) : (k ++ [y]).flatMap obV = k.flatMap obV ++ obV y := by simp [List.flatMap_append]
theorem Ob.Sm.trans {x y z : Ob} (h : x.Sm y) (k : y.Sm z) : x.Sm z := by
 obtain ⟨h1, h2, h3, h4, h5⟩ := h
 obtain ⟨k1, k2, k3, k4, k5⟩ := k
 exact ⟨h1.trans k1, h2.trans k2, h3.trans k3, h4.trans k4, h5.trans k5⟩
theorem ZO.trans {l k m : List Ob} (h : ZO l k) (h' : ZO k m) : ZO l m := ⟨h.1.trans h'.1, fun i a c h1 h2 => by
 obtain ⟨hlt, _⟩ := List.getElem?_eq_some_iff.1 h1
 have hb := List.getElem?_eq_getElem (l := k) (i := i) (by have := h.1; omega)
 exact (h.2 i _ _ h1 hb).trans (h'.2 i _ _ hb h2)⟩
theorem Hv.Sm.trans {x y z : Hv} (h : x.Sm y) (k : y.Sm z) : x.Sm z := ⟨h.od.trans k.od, h.nx.trans k.nx, h.t0.trans k.t0, h.t1.trans k.t1, h.t2.trans k.t2, h.t3.trans k.t3, h.os.trans k.os, h.fs.trans k.fs⟩
theorem Hv.Small.sm {x y : Hv} (h : x.Small) (k : x.Sm y) : y.Small := by
 obtain ⟨⟨h1, h2⟩, h3⟩ := h
 refine ⟨⟨by rw [← k.os.1]; exact h1, fun o ho => ?_⟩, by rw [← k.fs]; exact h3⟩
 obtain ⟨i, hi, rfl⟩ := List.getElem_of_mem ho
 have ha := List.getElem?_eq_getElem (l := x.os) (i := i) (by have := k.os.1; omega)
 obtain ⟨_, _, _, h4, h5⟩ := k.os.2 i _ _ ha (List.getElem?_eq_getElem hi)
 rw [← h4, ← h5]
 exact h2 _ (List.getElem_mem _)
structure Rw where
 c : Int
 s : Int
 e : Int
 v : Int
 deriving DecidableEq
def rwV (x : Rw) : List Value := [.int .i64 x.c, .int .i64 x.s, .int .i64 x.e, .int .i64 x.v]
theorem zh8 (x : Rw) : (rwV x).length = 4 := rfl
structure Sv where
 hv : Hv
 ra : Option Addr
 rs : List Rw
 rc : Nat
def svL (x : Sv) : List Value := hvL x.hv ++ [.slice x.ra x.rs.length x.rc]
def Sv.Is (w : World) (x : Sv) : Prop := x.hv.Is w ∧ zm w x.ra (x.rs.flatMap rwV)
def Sv.Sm (x y : Sv) : Prop := x.hv.Sm y.hv ∧ x.rs = y.rs
def Sv.Small (x : Sv) : Prop := x.hv.Small ∧ x.rs.length ≤ 1000
theorem Sv.Sm.symm {x y : Sv} (h : x.Sm y) : y.Sm x := ⟨h.1.symm, h.2.symm⟩
theorem Sv.Sm.trans {x y z : Sv} (h : x.Sm y) (k : y.Sm z) : x.Sm z := ⟨h.1.trans k.1, h.2.trans k.2⟩
theorem Sv.Small.sm {x y : Sv} (h : x.Small) (k : x.Sm y) : y.Small := ⟨h.1.sm k.1, by rw [← k.2]; exact h.2⟩
theorem Sv.Is.below {w w' : World} {x : Sv} (h : x.Is w) (hb : Below w.heap.size w w') : x.Is w' := ⟨h.1.below hb, h.2.below hb⟩
open Go.RowKit
--@optional
theorem zG : Z6 Tryz.prog 148 5 = true := by kernel_rfl
theorem zN : Z6 Tryz.prog 64 8 = true := by kernel_rfl
theorem ZH : Z6 Tryz.prog 67 9 = true := by kernel_rfl
theorem zY : Z6 Tryz.prog 141 4 = true := by kernel_rfl
theorem zmN : Z6 Tryz.prog 61 4 = true := by kernel_rfl
theorem zdh : zx Tryz.prog 120 = true := by kernel_rfl
theorem zba : zx Tryz.prog 60 = true := by kernel_rfl
theorem zdd : zx Tryz.prog 62 = true := by kernel_rfl
theorem zaN : zx Tryz.prog 65 = true := by kernel_rfl
theorem Za : zbz Tryz.prog 148 = some ([.int .i64 0, .int .i64 0, .int .i64 0, .slice none 0 0, .slice none 0 0], 5) := by kernel_rfl
theorem ZK : zbz Tryz.prog 64 = some ([.int .i64 0, .slice none 0 0, .int .i64 0, .int .i64 0, .int .i64 0, .int .i64 0, .int .i64 0, .slice none 0 0], 8) := by kernel_rfl
theorem Zi : zbz Tryz.prog 67 = some ([.int .i64 0, .slice none 0 0, .int .i64 0, .int .i64 0, .int .i64 0, .int .i64 0, .int .i64 0, .slice none 0 0, .slice none 0 0], 9) := by kernel_rfl
theorem Zr : zbz Tryz.prog 141 = some ([.int .i64 0, .int .i64 0, .int .i64 0, .int .i64 0], 4) := by kernel_rfl
theorem zkc : (Tryz.prog.info? 148).map (fun i => (i.zero, i.size, i.bytes)) = some (some (.agg #[.int .i64 0, .int .i64 0, .int .i64 0, .slice none 0 0, .slice none 0 0]), 5, 72) := by kernel_rfl
theorem zj4 : (Tryz.prog.info? 3).map (fun i => (i.zero, i.size, i.bytes)) = some (some (.int .i64 0), 1, 8) := by kernel_rfl
theorem zkt : (Tryz.prog.info? 141).map (fun i => (i.zero, i.size, i.bytes)) = some (some (.agg #[.int .i64 0, .int .i64 0, .int .i64 0, .int .i64 0]), 4, 32) := by kernel_rfl
open Go.RowKit
theorem zi8 (l : List Int) : (l.flatMap iV).all (·.oneCell') = true := by
 rw [List.all_eq_true]; intro u hu; obtain ⟨x, _, hx⟩ := List.mem_flatMap.1 hu; simp [iV] at hx; subst hx; rfl
open Go.RowKit
open Go.RowKit
open Go.RowKit
open Go.RowKit
open Go.RowKit
theorem zmq {ty : TypeId} (h : zx Tryz.prog ty = true := by with_reducible first | exact zn | exact Zy | exact zba | exact zdd | exact zX) : zx Tryz.prog ty = true := h
def zaY : Hv := ⟨0, none, [], 0, 0, 0, 0, 0, 0, none, [], 0⟩
def zby (o : Int) : Hv := ⟨o, none, [], 0, 1, 0, 0, 0, 0, none, [⟨0, o⟩], 0⟩
def zjs (w : World) (s : Hv) (c : Int) (e : Ending) (w' : World) : Prop := ∃ y R, e = .returned (.tuple #[.agg (hvL y).toArray, .int .i64 c]) ∧ y.Sm s ∧ zaa R (fun w => y.Is w) ∧ Hp w.heap.size w w' R
def ziM (w : World) (s : Hv) (c : Int) (e : Ending) (w' : World) : Prop := ∃ y R, e = .returned (.tuple #[.agg (svL y).toArray, .int .i64 c]) ∧ y.Sm ⟨s, none, [], 0⟩ ∧ zaa R (fun w => y.Is w) ∧ Hp w.heap.size w w' R
theorem zlq (b : Nat) (o : Int) (t n : Nat) : zaa [⟨b, [.int .i64 0, .int .i64 o], t, n⟩] fun w => Hv.Is w ⟨o, none, [], 0, 1, 0, 0, 0, 0, some ⟨b, 0, none⟩, [⟨0, o⟩], 1⟩ :=
 fun B w0 w' L hpx hm => ⟨zm.nil _ _, (fun o ho => by cases ho), zaa.row b _ t n B w0 w' L hpx hm⟩
theorem zlC (o : Int) (b : Nat) : Hv.Sm ⟨o, none, [], 0, 1, 0, 0, 0, 0, some ⟨b, 0, none⟩, [⟨0, o⟩], 1⟩ (zby o) := ⟨rfl, rfl, rfl, rfl, rfl, rfl, ZO.refl _, rfl⟩
theorem zgx (o : Int) (h : Zd o = true) (w : World) : Calls Tryz.prog 93 #[.int .i64 o] w (zjs w (zby o) 0) := by
 have hp := Hp.start w
 have K := z0j (zdX o h)
 go_enter Tryz.func93, Tryz.ntmps93
 go_wp2_with (first | (go_at_call 158; (with_reducible refine (K.out _).mono ?_); rintro e w1 ⟨b9, rfl, hf, hb⟩; replace hp := hp.adopt hb hf; clear hb hf) | go_skip | ((first | ((refine zf _ rfl ?_); refine lZ hp rfl ZK ?_; clear hp; intro b w1 hp) | ((refine zd _ _ _ rfl ?_); (first | refine sA hp rfl (za rfl) (za rfl) zN zW ?_ | refine sG hp rfl (za rfl) (za rfl) zN zW ?_); clear hp; intro w1 hp; simp only [spl, z0a, z0b] at hp)); simp only [zc, zb, z0b, z0a]))
 exact bodyPost_ret (zu (rs := [.cell 2 64, .tmp 3]) Tryz.results93 (.cell rfl (hp.loadAgg zN at1 0 _ (by rfl) (by rfl)) (.tmp rfl .nil))) rfl ⟨_, _, rfl, zlC o b9, zlq b9 o 146 2, (hp.reorder (List.Perm.swap _ _ _)).tail⟩
open Go.RowKit Go.ChangeShapes Go.WideShapes Go.ChangeAt Go.Deep
section
variable {H : Type} {enc : TypeId × Value → H} {w : World} {base : Nat} {spare : Nat → Bool} {held : Bool} {cs : List Value}
end
def zfG (n : Int) : Int := if n < 1 then 0 else if n < 2 then 1 else if n < 4 then 2 else if n < 8 then 3 else if n < 16 then 4 else if n < 32 then 5 else 6
def zaf (w l : Int) : Int := if 0 ≤ w ∧ w ≤ 32 ∧ 0 ≤ l ∧ l ≤ 16 then zfG (w + l) else -1
theorem zjm {n k : Int} (h0 : 0 ≤ k) (h6 : k ≤ 6) (hn : n < 64) (hlow : k = 0 ∨ pw (k - 1) ≤ n) (hup : n < pw k) : zfG n = k := by
 have hc : k = 0 ∨ k = 1 ∨ k = 2 ∨ k = 3 ∨ k = 4 ∨ k = 5 ∨ k = 6 := by omega
 unfold zfG
 rcases hc with rfl | rfl | rfl | rfl | rfl | rfl | rfl
 all_goals simp [pw] at hlow hup
 all_goals (repeat' split)
 all_goals omega
theorem zfq (w l : Int) : -1 ≤ zaf w l ∧ zaf w l ≤ 6 := by
 unfold zaf zfG
 (repeat' split) <;> omega
def Z3 (os : List Ob) (to : Int) : Prop := to = 0 ∨ ∃ o ∈ os, o.h = to
open Classical in
noncomputable def zbh (os : List Ob) (to : Int) : Bool := decide (Z3 os to)
def zav (o : Ob) : Bl := ⟨o.p, o.o⟩
def zc4 (x : Hv) : List Bl := x.fs ++ x.os.map zav
def zbK (a b : Bl) : Prop := a.p < b.p + pw b.o ∧ b.p < a.p + pw a.o
instance (a b : Bl) : Decidable (zbK a b) := by unfold zbK; infer_instance
theorem zbK.symm {a b : Bl} (h : zbK a b) : zbK b a := ⟨h.2, h.1⟩
def zb2 (l : List Bl) : Int := (l.map fun b => pw b.o).sum
theorem ZT (b : Bl) (l : List Bl) : zb2 (b :: l) = pw b.o + zb2 l := by simp [zb2]
theorem zfO (l k : List Bl) : zb2 (l ++ k) = zb2 l + zb2 k := by simp [zb2]
theorem zbY {l k : List Bl} (h : l.Perm k) : zb2 l = zb2 k := by
 induction h with
 | nil => rfl
 | cons x _ ih => rw [ZT, ZT, ih]
 | swap x y l => simp only [ZT]; omega
 | trans _ _ h1 h2 => rw [h1, h2]
theorem zfs (l : List Bl) : 0 ≤ zb2 l := by
 induction l with
 | nil => simp [zb2]
 | cons b l ih => rw [ZT]; have := zK b.o; omega
def zer (nx : Int) (os : List Ob) : Prop := ∀ (i : Nat) o, os[i]? = some o → 1 ≤ o.h ∧ o.h < nx ∧ ∀ (k : Nat) q, k < i → os[k]? = some q → q.h < o.h
def zfo (od : Int) (os : List Ob) : Prop := ∀ o ∈ os, zaf o.ws.length o.ls.length = o.o ∧ za4 od (zav o)
def zcF (l : List Bl) : Prop := l.Pairwise fun a b => ¬ zbK a b
def zhe (os : List Ob) : Prop := ∀ o ∈ os, ∀ t ∈ o.ls, Z3 os t
def tops (x : Hv) : List Int := [x.t0, x.t1, x.t2, x.t3]
structure ZF (x : Hv) : Prop where
 free : Zp x.od x.fs = true
 lo : 1 ≤ x.nx
 hi : x.nx ≤ 1000001
 len : x.os.length ≤ 256
 rise : zer x.nx x.os
 need : zfo x.od x.os
 apart : zcF (zc4 x)
 links : zhe x.os
 tops : ∀ t ∈ tops x, Z3 x.os t
 words : zb2 (zc4 x) = pw x.od
open Classical in
noncomputable def Zn (x : Hv) : Bool := decide (ZF x)
def Tl (E : Int) : Int → List Bl → Prop
 | a, [] => a = E
 | a, b :: r => b.p = a ∧ Tl E (a + pw b.o) r
theorem Tl.facts {E : Int} : ∀ {l : List Bl} {a : Int}, Tl E a l → a ≤ E ∧ (∀ b ∈ l, a ≤ b.p ∧ b.p + pw b.o ≤ E) ∧ zcF l ∧ zb2 l = E - a := by
 intro l
 induction l with
 | nil => intro a h; simp [Tl] at h; subst h; exact ⟨Int.le_refl _, by simp, List.Pairwise.nil, by simp [zb2]⟩
 | cons b r ih =>
  intro a h
  obtain ⟨rfl, h2⟩ := h
  obtain ⟨h3, h4, h5, h6⟩ := ih h2
  have h7 := zK b.o
  refine ⟨by omega, ?_, List.pairwise_cons.2 ⟨fun c hc hm => ?_, h5⟩, by rw [ZT]; omega⟩
  ·intro c hc
   rcases List.mem_cons.1 hc with rfl | hc
   ·exact ⟨Int.le_refl _, h3⟩
   ·have := h4 c hc; exact ⟨by omega, this.2⟩
  ·have := (h4 c hc).1
   have := hm.2
   omega
theorem zlX {E : Int} : ∀ {l : List Bl} {a : Int}, a ≤ E → l.Pairwise (fun x y => x.p ≤ y.p) → zcF l → (∀ b ∈ l, a ≤ b.p ∧ b.p + pw b.o ≤ E) → zb2 l ≤ E - a := by
 intro l
 induction l with
 | nil => intro a h _ _ _; simp [zb2]; omega
 | cons b r ih =>
  intro a h hs ha hb
  rw [ZT]
  obtain ⟨s1, s2⟩ := List.pairwise_cons.1 hs
  obtain ⟨a1, a2⟩ := List.pairwise_cons.1 ha
  have hbb := hb b (by simp)
  have := ih (a := b.p + pw b.o) hbb.2 s2 a2 (fun c hc => by
   have h1 := s1 c hc
   have h2 := a1 c hc
   have h3 := zK c.o
   have h4 := (hb c (by simp [hc])).2
   refine ⟨?_, h4⟩
   by_cases h5 : c.p < b.p + pw b.o
   ·exact absurd ⟨by omega, h5⟩ h2
   ·omega)
  omega
theorem Tl.of {E : Int} : ∀ {l : List Bl} {a : Int}, l.Pairwise (fun x y => x.p ≤ y.p) → zcF l → (∀ b ∈ l, a ≤ b.p ∧ b.p + pw b.o ≤ E) → zb2 l = E - a → Tl E a l := by
 intro l
 induction l with
 | nil => intro a _ _ _ h; simp [zb2] at h; simp [Tl]; omega
 | cons b r ih =>
  intro a hs ha hb hsum
  rw [ZT] at hsum
  obtain ⟨s1, s2⟩ := List.pairwise_cons.1 hs
  obtain ⟨a1, a2⟩ := List.pairwise_cons.1 ha
  have hbb := hb b (by simp)
  have hr : ∀ c ∈ r, b.p + pw b.o ≤ c.p ∧ c.p + pw c.o ≤ E := fun c hc => by
   have h1 := s1 c hc
   have h2 := a1 c hc
   have h3 := zK c.o
   have h4 := (hb c (by simp [hc])).2
   refine ⟨?_, h4⟩
   by_cases h5 : c.p < b.p + pw b.o
   ·exact absurd ⟨by omega, h5⟩ h2
   ·omega
  have h6 := zlX hbb.2 s2 a2 hr
  have h7 : b.p = a := by omega
  exact ⟨h7, ih s2 a2 (fun c hc => by have := hr c hc; exact ⟨by omega, this.2⟩) (by omega)⟩
theorem zcF.perm {l k : List Bl} (h : l.Perm k) : zcF l ↔ zcF k := h.pairwise_iff (fun hab hba => hab hba.symm)
def zcB (od : Int) (os : List Ob) : Prop := ∀ o ∈ os, zaf o.ws.length o.ls.length = o.o ∧ 0 ≤ o.o ∧ o.o ≤ od ∧ 0 ≤ o.p ∧ o.p ≤ pw od ∧ o.p % pw o.o = 0
theorem zfo.weak {od : Int} {os : List Ob} (h : zfo od os) : zcB od os := fun o ho => by
 obtain ⟨h1, h2, h3, h4, h5, h6⟩ := h o ho
 simp only [zav] at h2 h3 h4 h5 h6
 have := zK o.o
 exact ⟨h1, h2, h3, h4, by omega, h6⟩
theorem zf6 {od : Int} {os : List Ob} {fs s : List Bl} (hf : zbB od fs) (hs : s.Perm (fs ++ os.map zav)) (hso : s.Pairwise fun x y => x.p ≤ y.p) (hn : zcB od os) :
  Tl (pw od) 0 s ↔ zfo od os ∧ zcF (fs ++ os.map zav) ∧ zb2 (fs ++ os.map zav) = pw od := by
 constructor
 ·intro h
  obtain ⟨_, h2, h3, h4⟩ := h.facts
  refine ⟨fun o ho => ?_, (zcF.perm hs).1 h3, by rw [← zbY hs, h4]; omega⟩
  obtain ⟨n1, n2, n3, n4, _, n6⟩ := hn o ho
  have := h2 (zav o) (hs.mem_iff.2 (List.mem_append_right _ (List.mem_map_of_mem ho)))
  simp only [zav] at this
  exact ⟨n1, n2, n3, n4, by simp only [zav]; omega, n6⟩
 ·rintro ⟨h1, h2, h3⟩
  refine Tl.of hso ((zcF.perm hs).2 h2) (fun b hb => ?_) (by rw [zbY hs, h3]; omega)
  rcases List.mem_append.1 (hs.mem_iff.1 hb) with hb | hb
  ·obtain ⟨i, hi, rfl⟩ := List.getElem_of_mem hb
   have hm := (hf i _ (List.getElem?_eq_getElem hi)).1
   exact ⟨hm.2.2.1, hm.end_le⟩
  ·obtain ⟨o, ho, rfl⟩ := List.mem_map.1 hb
   have hm := (h1 o ho).2
   exact ⟨hm.2.2.1, hm.end_le⟩
theorem zer.step {nx : Int} {os : List Ob} (h : zer nx os) : ∀ (i j : Nat) a b, i < j → os[i]? = some a → os[j]? = some b → a.h < b.h :=
 fun i j a b hij ha hb => (h j b hb).2.2 i a hij ha
open Go.RowKit
def inB (n lo hi : Int) : Bool := decide (lo ≤ n) && decide (n ≤ hi)
theorem zcf (n lo hi : Int) (w : World) : Calls Tryz.prog 141 #[.int .i64 n, .int .i64 lo, .int .i64 hi] w fun e w' => e = .returned (.bool (inB n lo hi)) ∧ w = w' := by
 go_enter Tryz.func141, Tryz.ntmps141
 go_wp2
 all_goals go_ret
 all_goals refine ⟨ZP ?_, rfl⟩
 all_goals (simp [inB, *] <;> omega)
theorem zfV {w l : Int} (h : inB w 0 32 = false ∨ inB l 0 16 = false) : zaf w l = -1 := by
 unfold zaf inB at *
 rw [if_neg]
 rintro ⟨h1, h2, h3, h4⟩
 simp [h1, h2, h3, h4] at h
theorem zkE {w l : Int} (h : inB w 0 32 = true) (h' : inB l 0 16 = true) : 0 ≤ w ∧ w ≤ 32 ∧ 0 ≤ l ∧ l ≤ 16 ∧ zaf w l = zfG (w + l) := by
 simp [inB] at h h'
 refine ⟨h.1, h.2, h'.1, h'.2, ?_⟩
 unfold zaf
 rw [if_pos ⟨h.1, h.2, h'.1, h'.2⟩]
theorem za3 (n m : Int) (w : World) : Calls Tryz.prog 144 #[.int .i64 n, .int .i64 m] w fun e w' => e = .returned (.int .i64 (zaf n m)) ∧ w = w' := by
 have k1 := zcf n 0 32
 have k2 := zcf m 0 16
 cases h1 : inB n 0 32 with
 | false =>
  rw [zfV (.inl h1)]
  rw [h1] at k1
  have K1 := z0j k1; have K2 := z0j k2
  clear k1 k2 h1
  go_enter Tryz.func144, Tryz.ntmps144
  go_wp2_with (go_at_call 141; (first | (with_reducible refine (K1.out _).mono ?_) | (with_reducible refine (K2.out _).mono ?_)); rintro e w' ⟨rfl, rfl⟩)
  go_ret
  exact ⟨rfl, rfl⟩
 | true =>
  cases h2 : inB m 0 16 with
  | false =>
   rw [zfV (.inr h2)]
   rw [h1] at k1; rw [h2] at k2
   have K1 := z0j k1; have K2 := z0j k2
   clear k1 k2 h1 h2
   go_enter Tryz.func144, Tryz.ntmps144
   go_wp2_with (go_at_call 141; (first | (with_reducible refine (K1.out _).mono ?_) | (with_reducible refine (K2.out _).mono ?_)); rintro e w' ⟨rfl, rfl⟩)
   go_ret
   exact ⟨rfl, rfl⟩
  | true =>
   obtain ⟨n0, n1, m0, m1, he⟩ := zkE h1 h2
   rw [he]
   rw [h1] at k1; rw [h2] at k2
   have K1 := z0j k1; have K2 := z0j k2
   have e1 : wrap64 (n + m) = n + m := IntWalk.wrap64_in _ ⟨by omega, by omega⟩
   clear k1 k2 h1 h2 he
   go_enter Tryz.func144, Tryz.ntmps144
   go_wp2_with (go_at_call 141; (first | (with_reducible refine (K1.out _).mono ?_) | (with_reducible refine (K2.out _).mono ?_)); rintro e w' ⟨rfl, rfl⟩)
   go_loop [5] (fun i => ∃ k : Int, 0 ≤ k ∧ k ≤ 6 ∧ i = .int .i64 k ∧ Hid (k = 0 ∨ pw (k - 1) ≤ n + m)) (fun i => (6 - intOf i).toNat)
   case atStart => exact ⟨0, by omega, by omega, rfl, z0j (.inl rfl)⟩
   case round =>
    obtain ⟨k, h0, h6, rfl, HL⟩ := hrel
    by_cases hlt : pw k ≤ n + m
    ·have hk : k < 6 := by
      by_cases h : k = 6
      ·subst h; rw [show pw 6 = 64 by decide] at hlt; omega
      ·omega
     have e2 : decide (pw k ≤ n + m) = true := decide_eq_true hlt
     have e3 : wrap64 (k + 1) = k + 1 := IntWalk.wrap64_in _ ⟨by omega, by omega⟩
     have HLT := z0j hlt
     clear hlt
     go_wp2_with (go_at_call 142; (with_reducible refine (ZB _ (by omega) (by omega) _).mono ?_); rintro e w' ⟨rfl, rfl⟩)
     go_round
     case rel => exact ⟨k + 1, by omega, by omega, rfl, z0j (.inr (by rw [Int.add_sub_cancel]; exact HLT.out))⟩
     case measure => simp [intOf]; omega
    ·have e2 : decide (pw k ≤ n + m) = false := decide_eq_false hlt
     have HLT := z0j hlt
     clear hlt
     go_wp2_with (go_at_call 142; (with_reducible refine (ZB _ (by omega) (by omega) _).mono ?_); rintro e w' ⟨rfl, rfl⟩)
     go_ret
     exact ⟨zdr (zjm h0 h6 (by omega) HL.out (by have := HLT.out; omega)).symm, rfl⟩
open Go.RowKit
theorem zmG {ty : TypeId} (h : zx Tryz.prog ty = true := by with_reducible first | exact zn | exact Zy | exact zba) : zx Tryz.prog ty = true := h
theorem zi6 (x : Ob) (t : Int) (w : World) : Calls Tryz.prog 235 #[.agg #[.int .i64 x.h, .int .i64 x.p, .int .i64 x.o, .slice x.wa x.ws.length x.wc, .slice x.la x.ls.length x.lc], .int .i64 t] w fun e w' => e = .returned (.int .i64 (zfg x.h t)) ∧ Below w.heap.size w w' := by
 have hp := Hp.start w
 go_enter Tryz.func235, Tryz.ntmps235
 go_wp2_with (first | (go_at_call 112; (with_reducible refine (zj0 _ _ _).mono ?_); rintro e w' ⟨rfl, rfl⟩) | go_skip | ((first | ((refine zg _ _ rfl ?_); refine lB hp rfl (za rfl) rfl ?_; clear hp; intro b w1 hp) | ((refine ze _ _ rfl ?_); refine lO hp rfl (za rfl) zn zW ?_)); simp only [zc, zb, z0b, z0a]))
 go_ret
 exact ⟨rfl, hp.below⟩
def AtO (l : List Ob) (t : Int) (k : Nat) : Prop := k ≤ l.length ∧ (∀ (j : Nat) y, l[j]? = some y → j < k → y.h < t) ∧ (∀ (j : Nat) y, l[j]? = some y → k ≤ j → t ≤ y.h)
def zaE (l : List Ob) : Prop := ∀ (i j : Nat) x y, i < j → l[i]? = some x → l[j]? = some y → x.h < y.h
def zcI (l : List Ob) (t : Int) (k : Nat) : Bool := match l[k]? with
 | some y => decide (y.h = t)
 | none => false
theorem zlS {l : List Ob} (hs : zaE l) (t : Int) : ∃ k, AtO l t k := by
 let P : Nat → Prop := fun k => ∀ (j : Nat) y, l[j]? = some y → k ≤ j → t ≤ y.h
 have hP : P l.length := fun j y hj hk => by have := (List.getElem?_eq_some_iff.1 hj).1; omega
 have least : ∀ m, P m → ∃ k, P k ∧ k ≤ m ∧ ∀ k', k' < k → ¬ P k' := by
  intro m
  induction m using Nat.strongRecOn with
  | _ m ih =>
   intro hm
   by_cases h : ∃ m', m' < m ∧ P m'
   ·obtain ⟨m', h1, h2⟩ := h
    obtain ⟨k, hk, hle, hno⟩ := ih m' h1 h2
    exact ⟨k, hk, by omega, hno⟩
   ·exact ⟨m, hm, Nat.le_refl _, fun k' hk' hp => h ⟨k', hk', hp⟩⟩
 obtain ⟨k, hk, hle, hno⟩ := least _ hP
 refine ⟨k, hle, fun j y hj hjk => ?_, hk⟩
 have hn := hno (k - 1) (by omega)
 obtain ⟨j0, hn⟩ := Classical.not_forall.1 hn
 obtain ⟨y0, hn⟩ := Classical.not_forall.1 hn
 obtain ⟨hy0, hn⟩ := Classical.not_forall.1 hn
 obtain ⟨hk0, hn⟩ := Classical.not_forall.1 hn
 have hj0 : j0 = k - 1 := by
  rcases Nat.lt_or_ge j0 k with h | h
  ·omega
  ·exact absurd (hk j0 y0 hy0 h) hn
 subst hj0
 rcases Nat.lt_or_ge j (k - 1) with h | h
 ·have := hs j (k - 1) y y0 h hj hy0; omega
 ·have : j = k - 1 := by omega
  subst this
  rw [hj] at hy0; injection hy0 with hy0; subst hy0; omega
theorem zmj (l : List Ob) (a : Option Addr) (c : Nat) (hl : l.length ≤ 1000) (t : Int) (k : Nat) (hk : AtO l t k) (w : World) (ha : zm w a (l.flatMap obV)) :
  Calls Tryz.prog 234 #[.slice a l.length c, .int .i64 t, .func (.func 235) #[] #[]] w fun e w' => e = .returned (.tuple #[.int .i64 k, .bool (zcI l t k)]) ∧ Below w.heap.size w w' := by
 have hp := Hp.start w
 have HA := z0j ha
 have HK := z0j hk
 clear ha hk
 go_enter Tryz.func234, Tryz.ntmps234
 go_wp2_with (first | go_skip | (((refine ze _ _ rfl ?_); first | refine lA hp rfl (za rfl) zG zW ?_ | refine lR hp rfl (za rfl) zG HX.out ?_); simp only [zc, zb, z0b, z0a]) | go_skip)
 go_loopg [9, 10] l.length (fun g i j wr => ∃ x y : Nat, i = .int .i64 x ∧ j = .int .i64 y ∧ x ≤ y ∧ y ≤ l.length ∧ g + x = y ∧ Hid (x ≤ k ∧ k ≤ y) ∧ Hp w.heap.size w wr [])
 case atStart => exact ⟨0, l.length, rfl, rfl, by omega, by omega, by omega, z0j ⟨by omega, HK.out.1⟩, hp⟩
 case round =>
  clear hp
  obtain ⟨x, y, rfl, rfl, hxy, hyl, hg, HXY, hp⟩ := hrel
  by_cases hlt : x < y
  ·obtain ⟨h, hh⟩ : ∃ h, h = (x + y) / 2 := ⟨_, rfl⟩
   have hxh : x ≤ h := by omega
   have hhy : h < y := by omega
   obtain ⟨bq, off, rfl, hx⟩ := HA.out.elems 5 zcy (by omega) (by omega)
   have hj := List.getElem?_eq_getElem (l := l) (i := h) (by omega)
   replace hx := hx h _ hj
   generalize l[h]'(by omega) = z at hx hj
   have e1 : (x : Int) < (y : Int) := by omega
   have e2 : ((x : Int) + (y : Int)) / 2 = (h : Int) := by omega
   have e3 : (0 : Int) ≤ (h : Int) := by omega
   have e4 : (h : Int) < (l.length : Int) := by omega
   have HJ := z0j hj
   obtain ⟨yh, yp, yo, ywa, yws, ywc, yla, yls, ylc⟩ := z
   simp only [obV] at hx
   have HX := z0j hx
   have HHH := z0j hh
   clear hx hj hh
   by_cases hc : yh < t
   ·have HCM : Hid (zfg yh t = -1) := z0j (by unfold zfg; rw [if_pos hc])
    have HC := z0j hc
    clear hc
    go_wp2_with (first | (go_at_call 235; (with_reducible refine (zi6 ⟨yh, yp, yo, ywa, yws, ywc, yla, yls, ylc⟩ t _).mono ?_); rintro e w1 ⟨rfl, hb⟩; replace hp := hp.call hb; clear hb; rw [HCM.out]) | go_skip | (((refine ze _ _ rfl ?_); first | refine lA hp rfl (za rfl) zG zW ?_ | refine lR hp rfl (za rfl) zG HX.out ?_); simp only [zc, zb, z0b, z0a]))
    go_roundg (y - (h + 1))
    case measure => have := HHH.out; omega
    case rel =>
     refine ⟨h + 1, y, by go_num, rfl, by omega, hyl, by omega, z0j ⟨?_, HXY.out.2⟩, hp⟩
     rcases Nat.lt_or_ge h k with h1 | h1
     ·omega
     ·have h2 : t ≤ yh := HK.out.2.2 h _ HJ.out h1
      have h3 := HC.out
      omega
   ·obtain ⟨cv, hcv, hc0⟩ : ∃ cv : Int, zfg yh t = cv ∧ 0 ≤ cv := by
     unfold zfg; rw [if_neg hc]
     split
     ·exact ⟨1, rfl, by omega⟩
     ·exact ⟨0, rfl, by omega⟩
    have HCM := z0j hcv
    have HC := z0j hc
    have hc1 : decide (cv < 0) = false := by simp; omega
    clear hc hcv
    go_wp2_with (first | (go_at_call 235; (with_reducible refine (zi6 ⟨yh, yp, yo, ywa, yws, ywc, yla, yls, ylc⟩ t _).mono ?_); rintro e w1 ⟨rfl, hb⟩; replace hp := hp.call hb; clear hb; rw [HCM.out]) | go_skip | (((refine ze _ _ rfl ?_); first | refine lA hp rfl (za rfl) zG zW ?_ | refine lR hp rfl (za rfl) zG HX.out ?_); simp only [zc, zb, z0b, z0a]))
    go_roundg (h - x)
    case measure => have := HHH.out; omega
    case rel =>
     refine ⟨x, h, rfl, rfl, by omega, by omega, by omega, z0j ⟨HXY.out.1, ?_⟩, hp⟩
     rcases Nat.lt_or_ge h k with h1 | h1
     ·have h2 : yh < t := HK.out.2.1 h _ HJ.out h1
      have h3 := HC.out
      omega
     ·exact h1
  ·have hxk : x = k := by have := HXY.out; omega
   have hyk : y = k := by have := HXY.out; omega
   subst hxk
   subst hyk
   have e0 : decide ((y : Int) < (y : Int)) = false := by simp
   by_cases hkl : y < l.length
   ·obtain ⟨bq, off, rfl, hx⟩ := HA.out.elems 5 zcy (by omega) (by omega)
    have hj := List.getElem?_eq_getElem hkl
    replace hx := hx y _ hj
    generalize l[y] = z at hx hj
    have e3 : (0 : Int) ≤ (y : Int) := by omega
    have e4 : (y : Int) < (l.length : Int) := by omega
    obtain ⟨yh, yp, yo, ywa, yws, ywc, yla, yls, ylc⟩ := z
    simp only [obV] at hx
    have HX := z0j hx
    have hge := HK.out.2.2 y _ hj (Nat.le_refl _)
    simp only at hge
    by_cases hc : yh = t
    ·have HB : Hid (zcI l t y = true) := z0j (by unfold zcI; rw [hj]; simp [hc])
     have HCM : Hid (zfg yh t = 0) := z0j (by unfold zfg; rw [if_neg (by omega), if_neg (by omega)])
     clear hx hj hge hc
     go_wp2_with (first | (go_at_call 235; (with_reducible refine (zi6 ⟨yh, yp, yo, ywa, yws, ywc, yla, yls, ylc⟩ t _).mono ?_); rintro e w1 ⟨rfl, hb⟩; replace hp := hp.call hb; clear hb; rw [HCM.out]) | go_skip | (((refine ze _ _ rfl ?_); first | refine lA hp rfl (za rfl) zG zW ?_ | refine lR hp rfl (za rfl) zG HX.out ?_); simp only [zc, zb, z0b, z0a]))
     go_ret2
     exact ⟨by rw [HB.out]; rfl, hp.below⟩
    ·have HB : Hid (zcI l t y = false) := z0j (by unfold zcI; rw [hj]; simp [hc])
     have HCM : Hid (zfg yh t = 1) := z0j (by unfold zfg; rw [if_neg (by omega), if_pos (by omega)])
     clear hx hj hge hc
     go_wp2_with (first | (go_at_call 235; (with_reducible refine (zi6 ⟨yh, yp, yo, ywa, yws, ywc, yla, yls, ylc⟩ t _).mono ?_); rintro e w1 ⟨rfl, hb⟩; replace hp := hp.call hb; clear hb; rw [HCM.out]) | go_skip | (((refine ze _ _ rfl ?_); first | refine lA hp rfl (za rfl) zG zW ?_ | refine lR hp rfl (za rfl) zG HX.out ?_); simp only [zc, zb, z0b, z0a]))
     go_ret2
     exact ⟨by rw [HB.out]; rfl, hp.below⟩
   ·have e4 : decide ((y : Int) < (l.length : Int)) = false := by simp; omega
    have HB : Hid (zcI l t y = false) := z0j (by unfold zcI; rw [List.getElem?_eq_none (by omega)])
    go_wp2_with (first | go_skip | (((refine ze _ _ rfl ?_); first | refine lA hp rfl (za rfl) zG zW ?_ | refine lR hp rfl (za rfl) zG HX.out ?_); simp only [zc, zb, z0b, z0a]) | go_skip)
    go_ret2
    exact ⟨by rw [HB.out]; rfl, hp.below⟩
open Go.RowKit
theorem zl7 {ty : TypeId} (h : zx Tryz.prog ty = true := by with_reducible first | exact zn | exact Zy | exact zba) : zx Tryz.prog ty = true := h
theorem zl5 {ty : TypeId} (h : zx Tryz.prog ty = true := by with_reducible first | exact zn | exact Zy | exact zdh) : zx Tryz.prog ty = true := h
theorem zkb {l : List Ob} (hs : zaE l) {t : Int} {k : Nat} (hk : AtO l t k) : zcI l t k = true ↔ ∃ o ∈ l, o.h = t := by
 constructor
 ·intro h
  unfold zcI at h
  split at h
  ·rename_i y hy
   exact ⟨y, List.mem_of_getElem? hy, by simpa using h⟩
  ·cases h
 ·rintro ⟨o, ho, rfl⟩
  obtain ⟨j, hj, rfl⟩ := List.getElem_of_mem ho
  have hjj := List.getElem?_eq_getElem hj
  have h1 : ¬ j < k := fun h => by have := hk.2.1 j _ hjj h; omega
  have hkl : k < l.length := by omega
  have hkk := List.getElem?_eq_getElem hkl
  have h2 := hk.2.2 k _ hkk (Nat.le_refl _)
  unfold zcI
  rw [hkk]
  simp only [decide_eq_true_eq]
  rcases Nat.lt_or_ge k j with h | h
  ·have := hs k j _ _ h hkk hjj; omega
  ·have : j = k := by omega
   subst this; rfl
theorem zhq {l : List Ob} (hs : zaE l) {t : Int} {k : Nat} (hk : AtO l t k) (h0 : t ≠ 0) : zcI l t k = zbh l t := by
 rw [Bool.eq_iff_iff, zkb hs hk]
 simp [zbh, Z3, h0]
theorem zgy (l : List Ob) : zbh l 0 = true := by simp [zbh, Z3]
def zhi (w : World) (l : List Ob) (t : Int) (e : Ending) (w' : World) : Prop := ∃ k : Nat, e = .returned (.tuple #[.int .i64 k, .bool (zcI l t k)]) ∧ AtO l t k ∧ Below w.heap.size w w'
theorem zhv (l : List Ob) (a : Option Addr) (c : Nat) (hl : l.length ≤ 1000) (hs : zaE l) (t : Int) (w : World) (ha : zm w a (l.flatMap obV)) :
  Calls Tryz.prog 193 #[.slice a l.length c, .int .i64 t] w (zhi w l t) := by
 obtain ⟨k, hk⟩ := zlS hs t
 have hp := Hp.start w
 have HA := z0j ha
 have HK := z0j hk
 clear ha hk
 go_enter Tryz.func193, Tryz.ntmps193
 go_wp2_with (first | (go_at_call 234; (with_reducible refine (zmj l a c hl t k HK.out _ (HA.out.below hp.below)).mono ?_); rintro e w1 ⟨rfl, hb⟩; replace hp := hp.call hb; clear hb) | go_skip)
 go_ret2
 exact ⟨k, rfl, HK.out, hp.below⟩
theorem ziG (l : List Ob) (a : Option Addr) (c : Nat) (hl : l.length ≤ 1000) (hs : zaE l) (t : Int) (w : World) (ha : zm w a (l.flatMap obV)) :
  Calls Tryz.prog 148 #[.slice a l.length c, .int .i64 t] w fun e w' => e = .returned (.bool (zbh l t)) ∧ Below w.heap.size w w' := by
 have hp := Hp.start w
 have HA := z0j ha
 have HS := z0j hs
 clear ha hs
 by_cases h0 : t = 0
 ·subst h0
  go_enter Tryz.func148, Tryz.ntmps148
  go_wp2_with (first | (go_at_call 193; (with_reducible refine (zhv l a c hl HS.out 0 _ (HA.out.below hp.below)).mono ?_); rintro e w1 ⟨k, rfl, hk, hb⟩; replace hp := hp.call hb; clear hb hk) | go_skip)
  go_ret
  exact ⟨ZP (zgy l).symm, hp.below⟩
 ·have HN := z0j h0
  have e0 : (t == 0) = false := by simpa using h0
  clear h0
  go_enter Tryz.func148, Tryz.ntmps148
  go_wp2_with (first | (go_at_call 193; (with_reducible refine (zhv l a c hl HS.out t _ (HA.out.below hp.below)).mono ?_); rintro e w1 ⟨k, rfl, hk, hb⟩; replace hp := hp.call hb; have HK := z0j hk; clear hb hk) | go_skip)
  go_ret
  exact ⟨ZP (zhq HS.out HK.out HN.out), hp.below⟩
theorem zhf (l : List Ob) (a : Option Addr) (c : Nat) (hl : l.length ≤ 1000) (hs : zaE l) (t : Int) (b : Nat) (w : World) (hb : b < w.heap.size) (hc : w.cell? ⟨b, 1, none⟩ = some (.slice a l.length c)) (ha : zm w a (l.flatMap obV)) :
  Calls Tryz.prog 147 #[.int .i64 t, .pointer (some ⟨b, 0, none⟩)] w fun e w' => e = .returned (.bool (!zbh l t)) ∧ Below w.heap.size w w' := by
 have hp := Hp.start w
 have HA := z0j ha
 have HC := z0j hc
 have HS := z0j hs
 clear ha hc hs
 go_enter Tryz.func147, Tryz.ntmps147
 go_wp2_with (first | (go_at_call 148; (with_reducible refine (ziG l a c hl HS.out t _ (HA.out.below hp.below)).mono ?_); rintro e w1 ⟨rfl, hb⟩; replace hp := hp.call hb; clear hb) | go_skip | (((refine ze _ _ rfl ?_); refine lO hp rfl (za rfl) zba aa5 ?_); simp only [zc, zb, z0b, z0a]) | ((refine ze 60 _ rfl ?_); refine zH hp _ _ rfl (zdq rfl) _ _ (za rfl) zba _ HC.out ?_; simp only [zc, zb, z0b, z0a]))
 go_ret
 exact ⟨rfl, hp.below⟩
open Classical in
noncomputable def zce (os : List Ob) (l : List Int) : Bool := decide (∃ t ∈ l, ¬ Z3 os t)
theorem zdK {os : List Ob} {t : Int} : zbh os t = true ↔ Z3 os t := by simp [zbh]
theorem za1 {os : List Ob} {l : List Int} : zce os l = true ↔ ∃ t ∈ l, ¬ Z3 os t := by simp [zce]
def ziw (w : World) (os : List Ob) (l : List Int) (e : Ending) (w' : World) : Prop := ∃ r : Int, e = .returned (.int .i64 r) ∧ decide (0 ≤ r) = zce os l ∧ Below w.heap.size w w'
theorem zlu (os : List Ob) (oa : Option Addr) (oc : Nat) (hol : os.length ≤ 1000) (hs : zaE os) (b : Nat) (l : List Int) (a : Option Addr) (c : Nat) (hl : l.length ≤ 2000000) (w : World) (hb : b < w.heap.size) (hc : w.cell? ⟨b, 1, none⟩ = some (.slice oa os.length oc)) (hoa : zm w oa (os.flatMap obV)) (ha : zm w a (l.flatMap iV)) : Calls Tryz.prog 194 #[.slice a l.length c, .func (.func 147) #[] #[.pointer (some ⟨b, 0, none⟩)]] w (ziw w os l) := by
 have hp := Hp.start w
 have HA := z0j ha
 have HOA := z0j hoa
 have HC := z0j hc
 have HS := z0j hs
 clear ha hc hs hoa
 go_enter Tryz.func194, Tryz.ntmps194
 go_wp2_with (first | go_skip | (((refine ze _ _ rfl ?_); first | refine lO hp rfl (za rfl) zn aa5 ?_ | first | refine lRO hp rfl (za rfl) zn (HX.out 0 _ rfl) ?_); simp only [zc, zb, z0b, z0a]))
 go_loopg [8] l.length (fun k i wr => ∃ j : Nat, k + j = l.length ∧ i = .int .i64 j ∧ Hid (∀ (i : Nat) y, i < j → l[i]? = some y → Z3 os y) ∧ Hp w.heap.size w wr [])
 case atStart => exact ⟨0, by omega, rfl, z0j (fun i y h => by omega), hp⟩
 case round =>
  clear hp
  obtain ⟨j, hkj, rfl, HY, hp⟩ := hrel
  by_cases hlt : j < l.length
  ·obtain ⟨bq, off, rfl, hx⟩ := HA.out.elems 1 zf4 (by omega) (by omega)
   have hj := List.getElem?_eq_getElem hlt
   replace hx := hx j _ hj
   have HJ := z0j hj
   clear hj
   generalize l[j] = t at hx HJ
   simp only [iV, Nat.mul_one] at hx
   have HX := z0j hx
   clear hx
   have e1 : (0 : Int) ≤ (j : Int) := by omega
   have e2 : (j : Int) < (l.length : Int) := by omega
   by_cases hle : Z3 os t
   ·have HXC : Hid ((!zbh os t) = false) := z0j (by rw [zdK.2 hle]; rfl)
    go_wp2_with (first | (go_at_call 147; (with_reducible refine (zhf os oa oc hol HS.out t b _ (by have := hp.below.size; omega) ((hp.below.cell (p := ⟨b, 1, none⟩) hb).trans HC.out) (HOA.out.below hp.below)).mono ?_); rintro e w1 ⟨rfl, hb1⟩; replace hp := hp.call hb1; clear hb1; rw [HXC.out]) | go_skip | (((refine ze _ _ rfl ?_); first | refine lO hp rfl (za rfl) zn aa5 ?_ | first | refine lRO hp rfl (za rfl) zn (HX.out 0 _ rfl) ?_); simp only [zc, zb, z0b, z0a]))
    go_roundg (gk - 1)
    case measure => omega
    case rel =>
     refine ⟨j + 1, by omega, by go_num, z0j (fun i y hi hy => ?_), hp⟩
     rcases Nat.lt_or_ge i j with h | h
     ·exact HY.out i y h hy
     ·have : i = j := by omega
      subst this
      rw [HJ.out] at hy; injection hy with hy; subst hy; exact hle
   ·have HXC : Hid ((!zbh os t) = true) := z0j (by
     cases hq : zbh os t with
     | false => rfl
     | true => exact absurd (zdK.1 hq) hle)
    go_wp2_with (first | (go_at_call 147; (with_reducible refine (zhf os oa oc hol HS.out t b _ (by have := hp.below.size; omega) ((hp.below.cell (p := ⟨b, 1, none⟩) hb).trans HC.out) (HOA.out.below hp.below)).mono ?_); rintro e w1 ⟨rfl, hb1⟩; replace hp := hp.call hb1; clear hb1; rw [HXC.out]) | go_skip | (((refine ze _ _ rfl ?_); first | refine lO hp rfl (za rfl) zn aa5 ?_ | first | refine lRO hp rfl (za rfl) zn (HX.out 0 _ rfl) ?_); simp only [zc, zb, z0b, z0a]))
    go_ret
    refine ⟨(j : Int), rfl, ?_, hp.below⟩
    rw [za1.2 ⟨t, List.mem_of_getElem? HJ.out, hle⟩]
    simp
  ·have e2 : decide ((j : Int) < (l.length : Int)) = false := by simp; omega
   go_wp2_with fail
   go_ret
   refine ⟨-1, rfl, ?_, hp.below⟩
   have : zce os l = false := by
    cases hq : zce os l with
    | false => rfl
    | true =>
     obtain ⟨t, ht, hn⟩ := za1.1 hq
     obtain ⟨i, hi, rfl⟩ := List.getElem_of_mem ht
     exact absurd (HY.out i _ (by omega) (List.getElem?_eq_getElem hi)) hn
   rw [this]
   decide
theorem zc1 (os : List Ob) (oa : Option Addr) (oc : Nat) (hol : os.length ≤ 1000) (hs : zaE os) (b : Nat) (l : List Int) (a : Option Addr) (c : Nat) (hl : l.length ≤ 2000000) (w : World) (hb : b < w.heap.size) (hc : w.cell? ⟨b, 1, none⟩ = some (.slice oa os.length oc)) (hoa : zm w oa (os.flatMap obV)) (ha : zm w a (l.flatMap iV)) : Calls Tryz.prog 149 #[.slice a l.length c, .func (.func 147) #[] #[.pointer (some ⟨b, 0, none⟩)]] w fun e w' => e = .returned (.bool (zce os l)) ∧ Below w.heap.size w w' := by
 have hp := Hp.start w
 have HA := z0j ha
 have HOA := z0j hoa
 have HC := z0j hc
 have HS := z0j hs
 clear ha hc hs hoa
 go_enter Tryz.func149, Tryz.ntmps149
 go_wp2_with (first | (go_at_call 194; (with_reducible refine (zlu os oa oc hol HS.out b l a c hl _ (by have := hp.below.size; omega) ((hp.below.cell (p := ⟨b, 1, none⟩) hb).trans HC.out) (HOA.out.below hp.below) (HA.out.below hp.below)).mono ?_); rintro e w1 ⟨r, rfl, hr, hb1⟩; replace hp := hp.call hb1; have HR := z0j hr; clear hb1 hr) | go_skip)
 go_ret
 exact ⟨ZP HR.out, hp.below⟩
open Go.RowKit
theorem zc8 {od : Int} {fs : List Bl} (h : Zp od fs = true) : 3 ≤ od ∧ od ≤ 8 ∧ zbB od fs := by
 unfold Zp Zd at h
 simp only [Bool.and_eq_true, decide_eq_true_eq] at h
 exact ⟨h.1.1, h.1.2, h.2⟩
theorem zci {x : Hv} (h : ¬ ZF x) : Zn x = false := by simp [Zn, h]
theorem zaZ {x : Hv} (h : ZF x) : Zn x = true := by simp [Zn, h]
theorem zim (x : Hv) :
  (zg6 (Zp x.od x.fs) = 1 ∧ Zn x = false) ∨ (zg6 (Zp x.od x.fs) = 0 ∧ inB x.nx 1 1000001 = false ∧ Zn x = false) ∨
  (zg6 (Zp x.od x.fs) = 0 ∧ inB x.nx 1 1000001 = true ∧ decide ((256 : Int) < (x.os.length : Int)) = true ∧ Zn x = false) ∨
  (zg6 (Zp x.od x.fs) = 0 ∧ inB x.nx 1 1000001 = true ∧ decide ((256 : Int) < (x.os.length : Int)) = false ∧ Zp x.od x.fs = true ∧ 1 ≤ x.nx ∧ x.nx ≤ 1000001 ∧ x.os.length ≤ 256) := by
 cases h1 : Zp x.od x.fs with
 | false => left; exact ⟨rfl, zci fun h => by rw [h.free] at h1; cases h1⟩
 | true =>
  right
  cases h2 : inB x.nx 1 1000001 with
  | false => left; exact ⟨rfl, rfl, zci fun h => by have a := h.lo; have b := h.hi; simp [inB] at h2; omega⟩
  | true =>
   right
   by_cases h3 : (256 : Int) < (x.os.length : Int)
   ·left; exact ⟨rfl, rfl, decide_eq_true h3, zci fun h => by have := h.len; omega⟩
   ·right
    simp [inB] at h2
    exact ⟨rfl, rfl, decide_eq_false h3, rfl, h2.1, h2.2, by omega⟩
def zbj (nx : Int) (os : List Ob) (j : Nat) (la : Int) : Prop :=
 (j = 0 → la = 0) ∧ (0 < j → ∃ o, os[j - 1]? = some o ∧ o.h = la) ∧ ∀ (i : Nat) o, i < j → os[i]? = some o → 1 ≤ o.h ∧ o.h < nx ∧ o.h ≤ la ∧ ∀ (k : Nat) q, k < i → os[k]? = some q → q.h < o.h
theorem zbj.start (nx : Int) (os : List Ob) : zbj nx os 0 0 := ⟨fun _ => rfl, fun h => by omega, fun i o h => by omega⟩
theorem zbj.fail {nx : Int} {os : List Ob} {j : Nat} {la : Int} {x : Ob} (h : zbj nx os j la) (hx : os[j]? = some x) (hb : x.h ≤ la ∨ nx ≤ x.h) : ¬ zer nx os := by
 intro hr
 obtain ⟨r1, r2, r3⟩ := hr j x hx
 rcases hb with hb | hb
 ·rcases Nat.eq_zero_or_pos j with h0 | h0
  ·have := h.1 h0; omega
  ·obtain ⟨o, ho, he⟩ := h.2.1 h0
   have := r3 (j - 1) o (by omega) ho
   omega
 ·omega
theorem zbj.step {nx : Int} {os : List Ob} {j : Nat} {la : Int} {x : Ob} (h : zbj nx os j la) (hx : os[j]? = some x) (h1 : ¬ x.h ≤ la) (h2 : ¬ nx ≤ x.h) : zbj nx os (j + 1) x.h := by
 have hla : 0 ≤ la := by
  rcases Nat.eq_zero_or_pos j with h0 | h0
  ·have := h.1 h0; omega
  ·obtain ⟨o, ho, he⟩ := h.2.1 h0
   have := h.2.2 (j - 1) o (by omega) ho; omega
 refine ⟨fun h => by omega, fun _ => ⟨x, by simpa using hx, rfl⟩, fun i o hi ho => ?_⟩
 by_cases hij : i = j
 ·subst hij
  rw [hx] at ho; injection ho with ho; subst ho
  refine ⟨by omega, by omega, by omega, fun k q hk hq => ?_⟩
  have := (h.2.2 k q hk hq).2.2.1; omega
 ·obtain ⟨a, b, c, d⟩ := h.2.2 i o (by omega) ho
  exact ⟨a, b, by omega, d⟩
theorem zbj.done {nx : Int} {os : List Ob} {j : Nat} {la : Int} (h : zbj nx os j la) (hj : os.length = j) : zer nx os := fun i o ho => by
 have := (List.getElem?_eq_some_iff.1 ho).1
 obtain ⟨a, b, _, d⟩ := h.2.2 i o (by omega) ho
 exact ⟨a, b, d⟩
theorem zhB {od : Int} (h3 : 3 ≤ od) (h8 : od ≤ 8) {os : List Ob} {q : Nat} {x : Ob} (hx : os[q]? = some x) (hn : zcB od (os.take q)) {r : Bool} (hr : ¬ zfo od os → r = false) :
  (∃ nn : Int, zaf x.ws.length x.ls.length = nn ∧ (nn == x.o) = false ∧ (nn != x.o) = true ∧ r = false) ∨
  (zaf x.ws.length x.ls.length = x.o ∧ inB x.o 0 od = false ∧ r = false) ∨
  (zaf x.ws.length x.ls.length = x.o ∧ inB x.o 0 od = true ∧ 0 ≤ od ∧ od ≤ 8 ∧ inB x.p 0 (pw od) = false ∧ r = false) ∨
  (zaf x.ws.length x.ls.length = x.o ∧ inB x.o 0 od = true ∧ 0 ≤ od ∧ od ≤ 8 ∧ inB x.p 0 (pw od) = true ∧ 0 ≤ x.o ∧ x.o ≤ 8 ∧ x.p.tmod (pw x.o) = x.p % pw x.o ∧ pw x.o ≠ 0 ∧ (x.p % pw x.o == 0) = false ∧ (x.p % pw x.o != 0) = true ∧ r = false) ∨
  (zaf x.ws.length x.ls.length = x.o ∧ inB x.o 0 od = true ∧ 0 ≤ od ∧ od ≤ 8 ∧ inB x.p 0 (pw od) = true ∧ 0 ≤ x.o ∧ x.o ≤ 8 ∧ x.p.tmod (pw x.o) = x.p % pw x.o ∧ pw x.o ≠ 0 ∧ (x.p % pw x.o == 0) = true ∧ (x.p % pw x.o != 0) = false ∧ zcB od (os.take (q + 1))) := by
 have hm : x ∈ os := List.mem_of_getElem? hx
 by_cases h1 : zaf x.ws.length x.ls.length = x.o
 ·right
  cases h2 : inB x.o 0 od with
  | false =>
   left
   refine ⟨h1, rfl, hr fun h => ?_⟩
   have := (h x hm).2
   obtain ⟨a, b, _⟩ := this
   simp only [zav] at a b
   simp [inB] at h2; omega
  | true =>
   right
   have h2' := h2
   simp [inB] at h2'
   cases h4 : inB x.p 0 (pw od) with
   | false =>
    left
    refine ⟨h1, rfl, by omega, h8, rfl, hr fun h => ?_⟩
    obtain ⟨_, _, a, b, _⟩ := (h x hm).2
    simp only [zav] at a b
    have := zK x.o
    simp [inB] at h4; omega
   | true =>
    right
    have h4' := h4
    simp [inB] at h4'
    have hp := zK x.o
    have ht := Int.tmod_eq_emod_of_nonneg (b := pw x.o) h4'.1
    by_cases h5 : x.p % pw x.o = 0
    ·right
     refine ⟨h1, rfl, by omega, h8, rfl, h2'.1, by omega, ht, by omega, by simp [h5], by simp [h5], fun o ho => ?_⟩
     rw [List.take_add_one, hx] at ho
     rcases List.mem_append.1 ho with ho | ho
     ·exact hn o ho
     ·simp at ho
      subst ho
      exact ⟨h1, h2'.1, h2'.2, h4'.1, h4'.2, h5⟩
    ·left
     refine ⟨h1, rfl, by omega, h8, rfl, h2'.1, by omega, ht, by omega, by simp [h5], by simp [h5], hr fun h => ?_⟩
     obtain ⟨_, _, _, _, a⟩ := (h x hm).2
     simp only [zav] at a
     exact h5 a
 ·left
  exact ⟨_, rfl, by simp [h1], by simp [h1], hr fun h => h1 (h x hm).1⟩
def zbk (E : Int) (s : List Bl) (j : Nat) (en : Int) : Prop := 0 ≤ en ∧ en ≤ 512 ∧ (Tl E 0 s ↔ Tl E en (s.drop j))
def InR (s : List Bl) : Prop := ∀ b ∈ s, 0 ≤ b.p ∧ b.p ≤ 256 ∧ 0 ≤ b.o ∧ b.o ≤ 8
theorem zbk.start (E : Int) (s : List Bl) : zbk E s 0 0 := ⟨by omega, by omega, by rw [List.drop_zero]⟩
theorem zbk.fail {E : Int} {s : List Bl} {j : Nat} {en : Int} {b : Bl} (h : zbk E s j en) (hb : s[j]? = some b) (hne : b.p ≠ en) : ¬ Tl E 0 s := by
 rw [h.2.2, List.drop_eq_getElem_cons (List.getElem?_eq_some_iff.1 hb).1, (List.getElem?_eq_some_iff.1 hb).2]
 exact fun h => hne h.1
theorem zbk.step {E : Int} {s : List Bl} {j : Nat} {b : Bl} (hs : InR s) (h : zbk E s j b.p) (hb : s[j]? = some b) : zbk E s (j + 1) (b.p + pw b.o) ∧ wrap64 (b.p + pw b.o) = b.p + pw b.o := by
 obtain ⟨h1, h2, h3, h4⟩ := hs b (List.mem_of_getElem? hb)
 have h5 := zde h4
 have h6 := zK b.o
 refine ⟨⟨by omega, by omega, ?_⟩, IntWalk.wrap64_in _ ⟨by omega, by omega⟩⟩
 rw [h.2.2, List.drop_eq_getElem_cons (List.getElem?_eq_some_iff.1 hb).1, (List.getElem?_eq_some_iff.1 hb).2]
 exact ⟨fun h => h.2, fun h => ⟨rfl, h⟩⟩
theorem zbk.done {E : Int} {s : List Bl} {j : Nat} {en : Int} (h : zbk E s j en) (hj : s.length = j) : Tl E 0 s ↔ en = E := by
 rw [h.2.2, List.drop_eq_nil_of_le (by omega)]
 exact Iff.rfl
theorem zlN {od : Int} {os : List Ob} {fs s : List Bl} (h8 : od ≤ 8) (hf : zbB od fs) (hs : s.Perm (fs ++ os.map zav)) (hn : zcB od os) : InR s := by
 intro b hb
 have hpw := zde h8
 rcases List.mem_append.1 (hs.mem_iff.1 hb) with hb | hb
 ·obtain ⟨i, hi, rfl⟩ := List.getElem_of_mem hb
  obtain ⟨a, b, c, d, _⟩ := (hf i _ (List.getElem?_eq_getElem hi)).1
  have := zK fs[i].o
  exact ⟨c, by omega, a, by omega⟩
 ·obtain ⟨o, ho, rfl⟩ := List.mem_map.1 hb
  obtain ⟨_, a, b, c, d, _⟩ := hn o ho
  simp only [zav]
  exact ⟨c, by omega, a, by omega⟩
def z6 (os : List Ob) : List Int := os.flatMap (·.ls)
theorem zcg (os : List Ob) (x : Ob) : z6 (os ++ [x]) = z6 os ++ x.ls := by simp [z6]
theorem ziP {w l : Nat} {o : Int} (h : zaf w l = o) (h0 : 0 ≤ o) : l ≤ 16 := by
 unfold zaf at h
 split at h
 ·omega
 ·omega
theorem ze0 (fs : List Bl) (os : List Ob) (x : Ob) : (fs ++ (os ++ [x]).map zav).flatMap blV = (fs ++ os.map zav).flatMap blV ++ [.int .i64 x.p, .int .i64 x.o] := by
 rw [List.map_append, ← List.append_assoc, List.flatMap_append]; rfl
theorem zdZ {os : List Ob} : zhe os ↔ ∀ t ∈ z6 os, Z3 os t := by
 unfold zhe z6
 constructor
 ·intro h t ht
  obtain ⟨o, ho, ht⟩ := List.mem_flatMap.1 ht
  exact h o ho t ht
 ·intro h o ho t ht
  exact h t (List.mem_flatMap.2 ⟨o, ho, ht⟩)
theorem zi7 {x : Hv} {s : List Bl} (h1 : Zp x.od x.fs = true) (h2 : 1 ≤ x.nx) (h3 : x.nx ≤ 1000001) (h4 : x.os.length ≤ 256) (h5 : zer x.nx x.os) (h6 : zcB x.od x.os)
  (hs : s.Perm (x.fs ++ x.os.map zav)) (hso : s.Pairwise fun a b => a.p ≤ b.p) : ZF x ↔ Tl (pw x.od) 0 s ∧ (∀ t ∈ z6 x.os, Z3 x.os t) ∧ ∀ t ∈ tops x, Z3 x.os t := by
 obtain ⟨_, _, hg⟩ := zc8 h1
 rw [zf6 hg hs hso h6]
 constructor
 ·intro h
  exact ⟨⟨h.need, h.apart, h.words⟩, zdZ.1 h.links, h.tops⟩
 ·rintro ⟨⟨a, b, c⟩, d, e⟩
  exact ⟨h1, h2, h3, h4, h5, a, b, zdZ.2 d, e, c⟩
end Go.Proofs.YtjcbpfbifbfkcaaGreat
