import Derived.Test.YtjcbpfbifbfkcaaGreatTq0
import Derived.LoopTactic
import Derived.Lib.Hide
import Derived.Test.YtjcbpfbifbfkcaaGreatRows
import Derived.Deep.LoopGhost
set_option linter.unusedSimpArgs false
set_option linter.unusedVariables false
set_option maxRecDepth 100000
set_option maxHeartbeats 60000000
namespace Go.Proofs.YtjcbpfbifbfkcaaGreat
structure Bl where
  p : Int
  o : Int
  deriving DecidableEq
def blV (x : Bl) : List Value := [.int .i64 x.p, .int .i64 x.o]
theorem Zp (x : Bl) : (blV x).length = 2 := rfl
def pw (o : Int) : Int := (2 : Int) ^ o.toNat
theorem zV (o : Int) : 1 ≤ pw o := by
  unfold pw
  have := Int.pow_pos (n := 2) (m := o.toNat) (by omega)
  omega
theorem zcq {o : Int} (h0 : 0 ≤ o) (h8 : o ≤ 8) : o = 0 ∨ o = 1 ∨ o = 2 ∨ o = 3 ∨ o = 4 ∨ o = 5 ∨ o = 6 ∨ o = 7 ∨ o = 8 := by omega
theorem zdL {o : Int} (h8 : o ≤ 8) : pw o ≤ 256 := by
  rcases Int.le_total 0 o with h | h
  · rcases zcq h h8 with rfl | rfl | rfl | rfl | rfl | rfl | rfl | rfl | rfl <;> decide
  · have : o.toNat = 0 := by omega
    unfold pw; rw [this]; decide
theorem zbk {o : Int} (h : 0 ≤ o) : pw (o + 1) = 2 * pw o := by
  unfold pw
  have : (o + 1).toNat = o.toNat + 1 := by omega
  rw [this, Int.pow_succ]; omega
def zcm (order : Int) (x : Bl) : Prop := 0 ≤ x.o ∧ x.o ≤ order ∧ 0 ≤ x.p ∧ x.p ≤ pw order - pw x.o ∧ x.p % pw x.o = 0
instance (order : Int) (x : Bl) : Decidable (zcm order x) := by unfold zcm; infer_instance
def Z2 (x : Bl) : Bl := if x.p % (2 * pw x.o) = 0 then ⟨x.p + pw x.o, x.o⟩ else ⟨x.p - pw x.o, x.o⟩
def ztQ (order : Int) (x y : Bl) : Prop := x.p + pw x.o ≤ y.p ∧ ¬ (y.o < order ∧ Z2 y = x)
def zcZ (order : Int) (l : List Bl) : Prop := ∀ i y, l[i]? = some y → zcm order y ∧ ∀ (k : Nat) x, k < i → l[k]? = some x → ztQ order x y
def Zm (order : Int) : Bool := decide (3 ≤ order ∧ order ≤ 8)
open Classical in
noncomputable def Zc (order : Int) (l : List Bl) : Bool := Zm order && decide (zcZ order l)
theorem zcZ.take {order : Int} {l : List Bl} (h : zcZ order l) (n : Nat) : zcZ order (l.take n) := by
  intro i y hi
  rw [List.getElem?_take] at hi
  split at hi
  · obtain ⟨h1, h2⟩ := h i y hi
    refine ⟨h1, fun k x hk hx => ?_⟩
    rw [List.getElem?_take, if_pos (by omega)] at hx
    exact h2 k x hk hx
  · cases hi
theorem zcZ.nil (order : Int) : zcZ order [] := by intro i y h; simp at h
theorem zcZ.snoc {order : Int} {l : List Bl} {n : Nat} {y : Bl} (hy : l[n]? = some y) : zcZ order (l.take (n + 1)) ↔ zcZ order (l.take n) ∧ zcm order y ∧ ∀ (k : Nat) x, k < n → l[k]? = some x → ztQ order x y := by
  constructor
  · intro h
    refine ⟨?_, ?_⟩
    · have := h.take n
      rw [List.take_take, Nat.min_eq_left (by omega)] at this
      exact this
    · obtain ⟨h1, h2⟩ := h n y (by rw [List.getElem?_take, if_pos (by omega)]; exact hy)
      exact ⟨h1, fun k x hk hx => h2 k x hk (by rw [List.getElem?_take, if_pos (by omega)]; exact hx)⟩
  · rintro ⟨h1, h2, h3⟩ i z hi
    rw [List.getElem?_take] at hi
    split at hi
    · by_cases hin : i = n
      · subst hin
        rw [hy] at hi
        cases hi
        refine ⟨h2, fun k x hk hx => ?_⟩
        rw [List.getElem?_take] at hx
        split at hx
        · exact h3 k x hk hx
        · cases hx
      · obtain ⟨h4, h5⟩ := h1 i z (by rw [List.getElem?_take, if_pos (by omega)]; exact hi)
        refine ⟨h4, fun k x hk hx => h5 k x hk ?_⟩
        rw [List.getElem?_take] at hx ⊢
        rw [if_pos (by omega)] at hx
        rw [if_pos (by omega)]; exact hx
    · cases hi
theorem zcm.end_le {order : Int} {x : Bl} (h : zcm order x) : x.p + pw x.o ≤ pw order := by have := h.2.2.2.1; omega
theorem zcZ.long {order : Int} {l : List Bl} (h : zcZ order l) : ∀ (i : Nat) y, l[i]? = some y → (i : Int) ≤ y.p := by
  intro i
  induction i with
  | zero => intro y hy; have := (h 0 y hy).1.2.2.1; omega
  | succ i ih =>
    intro y hy
    have hlt : i + 1 < l.length := (List.getElem?_eq_some_iff.1 hy).1
    have hx : l[i]? = some l[i] := List.getElem?_eq_getElem (by omega)
    have h1 := ih _ hx
    have h2 := ((h (i + 1) y hy).2 i _ (by omega) hx).1
    have h3 := zV l[i].o
    omega
theorem zcZ.len {order : Int} {l : List Bl} (h : zcZ order l) (h0 : 3 ≤ order) : (l.length : Int) ≤ pw order := by
  rcases Nat.eq_zero_or_pos l.length with hl | hl
  · have := zV order; omega
  · have hx : l[l.length - 1]? = some l[l.length - 1] := List.getElem?_eq_getElem (by omega)
    have h1 := h.long _ _ hx
    have h2 := (h _ _ hx).1.end_le
    have h3 := zV l[l.length - 1].o
    omega
theorem zcZ.step {order : Int} {l : List Bl} {n : Nat} {y z : Bl} (hg : zcZ order (l.take (n + 1))) (hz : l[n]? = some z) (hm : zcm order y) (he : z.p + pw z.o ≤ y.p) (ht : ¬ (y.o < order ∧ Z2 y = z)) :
    ∀ (k : Nat) x, k < n + 1 → l[k]? = some x → ztQ order x y := by
  obtain ⟨_, _, h3⟩ := (zcZ.snoc hz).1 hg
  intro k x hk hx
  by_cases hkn : k = n
  · subst hkn
    rw [hz] at hx; cases hx
    exact ⟨he, ht⟩
  · have h4 := (h3 k x (by omega) hx).1
    have h5 := zV z.o
    have h7 := zV y.o
    refine ⟨by omega, ?_⟩
    rintro ⟨_, h6⟩
    subst h6
    unfold Z2 at h4
    split at h4 <;> simp only at h4 <;> omega
open Go.RowKit
theorem zw : ZM Tryz.prog 146 2 = true := by kernel_rfl
theorem zm : zF Tryz.prog 3 = true := by kernel_rfl
theorem Zt : zF Tryz.prog 4 = true := by kernel_rfl
theorem Za : zF Tryz.prog 42 = true := by kernel_rfl
theorem z6 : zaL Tryz.prog 146 = some ([.int .i64 0, .int .i64 0], 2) := by kernel_rfl
theorem zbD : (Tryz.prog.info? 146).map (fun i => (i.zero, i.size, i.bytes)) = some (some (.agg #[.int .i64 0, .int .i64 0]), 2, 16) := by kernel_rfl
theorem Zk {a b : Bool} (h : a = b) : Ending.returned (.bool a) = .returned (.bool b) := by rw [h]
theorem zcX {k : IntKind} {a b : Int} (h : a = b) : Ending.returned (.int k a) = .returned (.int k b) := by rw [h]
theorem pw8 : pw 8 = 256 := by decide
theorem zd6 (o : Int) (w : World) : Calls Tryz.prog 188 #[.int .i64 o] w fun e w' => e = .returned (.bool (Zm o)) ∧ w = w' := by
  go_enter Tryz.func188, Tryz.ntmps188
  go_wp2
  all_goals go_ret
  all_goals refine ⟨Zk ?_, rfl⟩
  all_goals simp [Zm]
  all_goals omega
theorem ZR (o : Int) (h0 : 0 ≤ o) (h8 : o ≤ 8) (w : World) : Calls Tryz.prog 142 #[.int .i64 o] w fun e w' => e = .returned (.int .i64 (pw o)) ∧ w = w' := by
  rcases zcq h0 h8 with rfl | rfl | rfl | rfl | rfl | rfl | rfl | rfl | rfl
  all_goals
    clear h0 h8
    go_enter Tryz.func142, Tryz.ntmps142
    go_wp2
    go_ret
    exact ⟨zcX (by decide), rfl⟩
open Go.RowKit
theorem zs7 {ty : TypeId} (h : zF Tryz.prog ty = true := by with_reducible first | exact zm | exact Zt | exact Za) : zF Tryz.prog ty = true := h
theorem zbb (l : List Bl) : (l.flatMap blV).length = l.length * 2 := Ze blV 2 Zp l
theorem zrz (l : List Bl) (a a' : Option Addr) (c c' : Nat) (hl : l.length ≤ 600) (w : World) (ha : zr w a (l.flatMap blV)) (ha' : zr w a' (l.flatMap blV)) :
    Calls Tryz.prog 95 #[.slice a l.length c, .slice a' l.length c'] w fun e w' => e = .returned (.bool true) ∧ Below w.heap.size w w' := by
  have hp := Hp.start w
  have HA := z0j ha
  have HA' := z0j ha'
  clear ha ha'
  go_enter Tryz.func95, Tryz.ntmps95
  go_wp2_with (first | go_skip | (((refine ze _ _ rfl ?_); refine lA hp rfl (za rfl) zw aa5 ?_); simp only [zc, zb, z0b, z0a]))
  go_loopg [5] l.length (fun k i wr => ∃ j : Nat, k + j = l.length ∧ i = .int .i64 j ∧ Hp w.heap.size w wr [])
  case atStart => exact ⟨0, by omega, rfl, hp⟩
  case round =>
    clear hp
    obtain ⟨j, hkj, rfl, hp⟩ := hrel
    by_cases hlt : j < l.length
    · obtain ⟨b, off, rfl, hx⟩ := HA.out.elems 2 Zp (by omega) (by omega)
      obtain ⟨b', off', rfl, hy⟩ := HA'.out.elems 2 Zp (by omega) (by omega)
      replace hx := hx j _ (List.getElem?_eq_getElem hlt)
      replace hy := hy j _ (List.getElem?_eq_getElem hlt)
      generalize l[j] = x at hx hy
      obtain ⟨p, o⟩ := x
      simp only [blV] at hx hy
      have HX := z0j hx
      have HY := z0j hy
      clear hx hy
      have e1 : (0 : Int) ≤ (j : Int) := by omega
      have e2 : (j : Int) < (l.length : Int) := by omega
      go_wp2_with (first | go_skip | (((refine ze _ _ rfl ?_); refine lA hp rfl (za rfl) zw aa5 ?_); simp only [zc, zb, z0b, z0a]))
      refine zh _ (zv.all hp.drew) [] [(0, true), (1, true), (2, true), (3, true), (4, true), (5, true), (6, true), (7, true), (8, true)] (by kernel_rfl) (by kernel_rfl) rfl (by kernel_rfl) (fun _ _ d _ _ h => by cases d <;> exact h) ?_
      replace hp := hp.drew
      repeat' (with_reducible refine zx ?_); first | (with_reducible refine zq ?_) | ((with_reducible refine zE ?_); refine zu rfl ?_; (first | ((with_reducible refine zT _ rfl ?_); refine tM rfl ?_) | ((with_reducible refine zW _ _ rfl ?_); first | refine tA rfl (za rfl) zw aa5 ?_ | refine tR rfl (za rfl) zw HX.out ?_ | refine tR rfl (za rfl) zw HY.out ?_) | refine tG (fun w _ => (by go_simp; try rfl)) ?_); try simp only [zc, zb, zj, zg, z0b, z0a, z0d, z0c, zl])
      go_wp2_with fail
      go_roundg (gk - 1)
      case measure => omega
      case rel => exact ⟨j + 1, by omega, by go_num, hp⟩
    · have e2 : decide ((j : Int) < (l.length : Int)) = false := by simp; omega
      go_wp2_with fail
      go_ret
      exact ⟨rfl, hp.below⟩
def zq5 (w : World) (order : Int) (e : Ending) (w' : World) : Prop := ∃ b, e = .returned (.tuple #[.slice (some ⟨b, 0, none⟩) 1 1, .int .i64 0]) ∧ zrb w w' ⟨b, [.int .i64 0, .int .i64 order], 146, 2⟩ ∧ Below w.heap.size w w'
theorem znb (o : Int) (h : Zm o = false) (w : World) : Calls Tryz.prog 158 #[.int .i64 o] w fun e w' => e = .returned (.tuple #[.slice none 0 0, .int .i64 1]) ∧ Below w.heap.size w w' := by
  have k := zd6 o
  rw [h] at k
  have K := z0j k
  clear k h
  go_enter Tryz.func158, Tryz.ntmps158
  go_wp2_with (go_at_call 188; refine (K.out _).mono ?_; rintro e w' ⟨rfl, rfl⟩)
  go_ret2
  exact ⟨rfl, Below.refl _ _⟩
theorem zgf (o : Int) (h : Zm o = true) (w : World) : Calls Tryz.prog 158 #[.int .i64 o] w (zq5 w o) := by
  have k := zd6 o
  rw [h] at k
  have K := z0j k
  clear k h
  have hp := Hp.start w
  go_enter Tryz.func158, Tryz.ntmps158
  go_wp2_with (first | (go_at_call 188; refine (K.out _).mono ?_; rintro e w' ⟨rfl, rfl⟩) | go_skip | (((refine zk _ _ _ rfl ?_); refine lS hp rfl (by intro w; go_simp; rfl) ?_; clear hp; intro b w1 hp; simp only [z0g, z0h, Nat.reduceAdd] at hp); simp only [zc, zb, z0b, z0a]))
  go_ret2
  exact ⟨_, rfl, hp.fresh at0, hp.below⟩
open Go.RowKit
theorem ztN {ty : TypeId} (h : zF Tryz.prog ty = true := by with_reducible first | exact zm | exact Zt | exact Za) : zF Tryz.prog ty = true := h
theorem zsf {p o : Int} (h0 : 0 ≤ p) (h1 : p ≤ 256) (h2 : 0 ≤ o) (h3 : o ≤ 8) : bits .and .i64 p (pw o - 1) = p % pw o := by
  have : ∀ (a : Fin 257) (b : Fin 9), bits .and .i64 (a.val : Int) (pw (b.val : Int) - 1) = (a.val : Int) % pw (b.val : Int) := by decide +kernel
  have := this ⟨p.toNat, by omega⟩ ⟨o.toNat, by omega⟩
  simpa [Int.toNat_of_nonneg h0, Int.toNat_of_nonneg h2] using this
def zeM (order p o : Int) : Bool := decide (zcm order ⟨p, o⟩)
theorem ztX (order p o : Int) (h8 : order ≤ 8) :
    (decide (0 ≤ o) = false ∧ zeM order p o = false) ∨ (0 ≤ o ∧ decide (o ≤ order) = false ∧ zeM order p o = false) ∨
    (0 ≤ o ∧ o ≤ order ∧ decide (0 ≤ p) = false ∧ zeM order p o = false) ∨
    (0 ≤ o ∧ o ≤ order ∧ 0 ≤ p ∧ decide (p ≤ pw order - pw o) = false ∧ wrap64 (pw order - pw o) = pw order - pw o ∧ zeM order p o = false) ∨
    (0 ≤ o ∧ o ≤ order ∧ 0 ≤ p ∧ p ≤ pw order - pw o ∧ wrap64 (pw order - pw o) = pw order - pw o ∧ wrap64 (pw o - 1) = pw o - 1 ∧ bits .and .i64 p (pw o - 1) = p % pw o ∧ zeM order p o = (p % pw o == 0)) := by
  have l1 := zdL (o := order) h8
  have l2 := zV o
  have l3 := zV order
  by_cases g1 : 0 ≤ o
  · by_cases g2 : o ≤ order
    · have l4 := zdL (o := o) (by omega)
      have w1 : wrap64 (pw order - pw o) = pw order - pw o := by unfold wrap64; omega
      have w2 : wrap64 (pw o - 1) = pw o - 1 := by unfold wrap64; omega
      by_cases g3 : 0 ≤ p
      · by_cases g4 : p ≤ pw order - pw o
        · refine .inr (.inr (.inr (.inr ⟨g1, g2, g3, g4, w1, w2, zsf g3 (by omega) g1 (by omega), ?_⟩)))
          rw [Bool.eq_iff_iff]; simp [zeM, zcm, g1, g2, g3, g4]
        · exact .inr (.inr (.inr (.inl ⟨g1, g2, g3, by simp [g4], w1, by simp [zeM, zcm, g4]⟩)))
      · exact .inr (.inr (.inl ⟨g1, g2, by simp [g3], by simp [zeM, zcm, g3]⟩))
    · exact .inr (.inl ⟨g1, by simp [g2], by simp [zeM, zcm, g2]⟩)
  · exact .inl ⟨by simp [g1], by simp [zeM, zcm, g1]⟩
theorem zp8 (order : Int) (h3 : 3 ≤ order) (h8 : order ≤ 8) (p o : Int) (w : World) :
    Calls Tryz.prog 189 #[.int .i64 order, .agg #[.int .i64 p, .int .i64 o]] w fun e w' => e = .returned (.bool (zeM order p o)) ∧ Below w.heap.size w w' := by
  have hp := Hp.start w
  have W9 := z0j (ztX order p o h8)
  go_enter Tryz.func189, Tryz.ntmps189
  go_wp2_with (first | go_skip | ((first | ((refine zi _ _ rfl ?_); refine lB hp rfl (za rfl) rfl ?_; clear hp; intro b w1 hp) | ((refine ze _ _ rfl ?_); refine lO hp rfl (za rfl) zm aa5 ?_)); simp only [zc, zb, z0b, z0a]))
  refine zh _ (zv.all hp.drew) [] [(0, true), (1, true), (2, true), (3, true), (4, true), (5, true), (6, true), (7, true), (8, true), (9, true), (10, true), (11, true), (12, true), (13, true), (14, true), (15, true), (16, true), (17, true), (19, true), (20, true), (18, false), (21, false), (22, true), (23, true), (24, true), (25, true), (26, true), (27, true), (28, true), (29, true), (30, false), (31, true), (32, true), (33, true), (34, true), (35, false)] (by kernel_rfl) (by kernel_rfl) rfl (by kernel_rfl) (fun _ _ d _ _ h => by cases d <;> exact h) ?_
  replace hp := hp.drew
  rcases W9.out with ⟨d1, r⟩ | ⟨d1, d2, r⟩ | ⟨d1, d2, d3, r⟩ | ⟨d1, d2, d3, d4, w1, r⟩ | ⟨d1, d2, d3, d4, w1, w2, w3, r⟩
  all_goals have R := z0j r
  all_goals clear r W9
  all_goals
    repeat' (with_reducible refine zx ?_); first | (with_reducible refine zq ?_) | ((with_reducible refine zE ?_); refine zu rfl ?_; (first | ((with_reducible refine zev _ _ rfl ?_); refine tS (by first | exact Z6 rfl rfl rfl rfl | exact Z7 rfl rfl rfl rfl) ?_) | ((with_reducible refine zT _ rfl ?_); refine tM rfl ?_) | ((with_reducible refine zW _ _ rfl ?_); refine tO rfl (za rfl) zm aa5 ?_) | refine tG (fun w _ => (by go_simp; try rfl)) ?_); try simp only [zc, zb, zj, zg, z0b, z0a, z0d, z0c, zl]) | (refine zC rfl (fun K hK => ?_); go_wp2_with (first | (go_at_call 142; refine (ZR _ (by omega) (by omega) _).mono ?_; rintro e w' ⟨rfl, rfl⟩) | go_skip); (refine hK.out _ _ (.inr (zgJ hp)) ?_); clear hK K; try simp only [zc, zb, zj, zg, z0b, z0a, z0d, z0c, zl])
  all_goals (go_wp2_with fail; go_ret; exact ⟨Zk (by rw [R.out]; try rfl), hp.below⟩)
open Go.RowKit
open Go.RowKit
theorem zs5 {ty : TypeId} (h : zF Tryz.prog ty = true := by with_reducible first | exact zm | exact Zt | exact Za) : zF Tryz.prog ty = true := h
def twP (p o : Int) : Int := (Z2 ⟨p, o⟩).p
theorem zbT (p o : Int) : Z2 ⟨p, o⟩ = ⟨twP p o, o⟩ := by unfold twP Z2; split <;> rfl
theorem zsb (p o : Int) : twP p o = if p % (2 * pw o) = 0 then p + pw o else p - pw o := by unfold twP Z2; split <;> rfl
theorem zrN {p o : Int} (h0 : 0 ≤ p) (h1 : p ≤ 256) (h2 : 0 ≤ o) (h3 : o ≤ 8) (h4 : p % pw o = 0) : bits .xor .i64 p (pw o) = twP p o := by
  have : ∀ (a : Fin 257) (b : Fin 9), (a.val : Int) % pw (b.val : Int) = 0 → bits .xor .i64 (a.val : Int) (pw (b.val : Int)) = twP (a.val : Int) (b.val : Int) := by decide +kernel
  have := this ⟨p.toNat, by omega⟩ ⟨o.toNat, by omega⟩
  simp only [Int.toNat_of_nonneg h0, Int.toNat_of_nonneg h2] at this
  exact this h4
theorem zi5 (p o : Int) (h0 : 0 ≤ p) (h1 : p ≤ 256) (h2 : 0 ≤ o) (h3 : o ≤ 8) (h4 : p % pw o = 0) (w : World) :
    Calls Tryz.prog 190 #[.agg #[.int .i64 p, .int .i64 o]] w fun e w' => e = .returned (.agg #[.int .i64 (twP p o), .int .i64 o]) ∧ Below w.heap.size w w' := by
  have hp := Hp.start w
  have hx := zrN h0 h1 h2 h3 h4
  clear h4
  go_enter Tryz.func190, Tryz.ntmps190
  go_wp2_with (first | go_skip | ((first | ((refine zf _ rfl ?_); refine lZ hp rfl z6 ?_; clear hp; intro b w1 hp) | ((refine zi _ _ rfl ?_); refine lB hp rfl (za rfl) rfl ?_; clear hp; intro b w1 hp) | ((refine ze _ _ rfl ?_); refine lO hp rfl (za rfl) zm aa5 ?_) | ((refine zd _ _ _ rfl ?_); (first | refine sA hp rfl (za rfl) (za rfl) zw aa5 ?_ | refine sG hp rfl (za rfl) (za rfl) zw aa5 ?_); clear hp; intro w1 hp; simp only [spl, z0a, z0b] at hp)); simp only [zc, zb, z0b, z0a]))
  refine zh [_] (zv.one hp.drew at1) [9] [(0, true), (1, true), (2, true), (3, true), (6, true), (7, true), (4, false), (5, true), (8, true), (9, false)] (by kernel_rfl) (by kernel_rfl) rfl (by kernel_rfl) (fun _ _ d _ _ h => by cases d <;> exact h) ?_
  replace hp := hp.drew
  repeat' (with_reducible refine zx ?_); first | (with_reducible refine zq ?_) | ((with_reducible refine zE ?_); refine zu rfl ?_; (first | ((with_reducible refine zW _ _ rfl ?_); refine tO rfl (za rfl) zm aa5 ?_) | refine tG (fun w _ => (by go_simp; try rfl)) ?_); try simp only [zc, zb, zj, zg, z0b, z0a, z0d, z0c, zl]) | (refine zC rfl (fun K hK => ?_); go_wp2_with (first | (go_at_call 142; refine (ZR _ (by omega) (by omega) _).mono ?_; rintro e w' ⟨rfl, rfl⟩) | go_skip | (((refine zd _ _ _ rfl ?_); (first | refine sA hp rfl (za rfl) (za rfl) zw aa5 ?_ | refine sG hp rfl (za rfl) (za rfl) zw aa5 ?_); clear hp; intro w1 hp; simp only [spl, z0a, z0b] at hp); simp only [zc, zb, z0b, z0a])); (first | refine hK.out _ _ (.inl rfl) ?_ | refine hK.out _ _ (.inr (zv.one hp aa5)) ?_); clear hK K; try simp only [zc, zb, zj, zg, z0b, z0a, z0d, z0c, zl])
  go_wp2_with fail
  exact bodyPost_ret (zA (rs := [.cell 2 146]) Tryz.results190 (.cell rfl (hp.loadAgg zw at0 0 _ (by rfl) (by rfl)) .nil)) rfl ⟨rfl, hp.below⟩
def zeo (p o q r : Int) : Bool := decide (p < q + pw r) && decide (q < p + pw o)
theorem ztG (p o q r : Int) (h0 : 0 ≤ p) (h1 : p ≤ 256) (h2 : 0 ≤ q) (h3 : q ≤ 256) (h4 : o ≤ 8) (h5 : r ≤ 8) :
    wrap64 (q + pw r) = q + pw r ∧ wrap64 (p + pw o) = p + pw o ∧ ((decide (p < q + pw r) = false ∧ zeo p o q r = false) ∨ (decide (p < q + pw r) = true ∧ zeo p o q r = decide (q < p + pw o))) := by
  have l1 := zV o
  have l2 := zdL h4
  have l3 := zV r
  have l4 := zdL h5
  refine ⟨by unfold wrap64; omega, by unfold wrap64; omega, ?_⟩
  unfold zeo
  cases decide (p < q + pw r) <;> simp
open Go.RowKit
theorem zrW {ty : TypeId} (h : zF Tryz.prog ty = true := by with_reducible first | exact zm | exact Zt | exact Za) : zF Tryz.prog ty = true := h
def zla (order : Int) (l : List Bl) (j : Nat) (e p o : Int) : Prop := zcZ order (l.take j) ∧ ((j = 0 ∧ e = 0 ∧ p = -1 ∧ o = 0) ∨ ∃ i z, j = i + 1 ∧ l[i]? = some z ∧ z.p = p ∧ z.o = o ∧ e = p + pw o)
def zfS (b : Bool) : Int := if b then 0 else 1
theorem zej {order : Int} {l : List Bl} (hr : Zm order = true) (h : zcZ order l) : Zc order l = true := by simp [Zc, hr, h]
theorem ze3 {order : Int} {l : List Bl} (h : ¬ zcZ order l) : Zc order l = false := by simp [Zc, h]
theorem zk3 {order : Int} {l : List Bl} (h : Zm order = false) : Zc order l = false := by simp [Zc, h]
theorem zeW {order p o : Int} (h : zeM order p o = true) : zcm order ⟨p, o⟩ := by simpa [zeM] using h
theorem zcR {order p o : Int} (h8 : order ≤ 8) (h : zcm order ⟨p, o⟩) : 0 ≤ p ∧ p ≤ 256 ∧ 0 ≤ o ∧ o ≤ 8 ∧ p % pw o = 0 ∧ p + pw o ≤ 256 := by
  obtain ⟨a, b, c, d, e⟩ := h
  simp only at a b c d e
  have := zdL h8
  have := zV o
  exact ⟨c, by omega, a, by omega, e, by omega⟩
theorem zgm {p o : Int} (h0 : 0 ≤ p) (h : p % pw o = 0) : 0 ≤ twP p o := by
  have := zV o
  rw [zsb]
  split
  · omega
  · rename_i hn
    by_cases hlt : p < pw o
    · rw [Int.emod_eq_of_lt h0 hlt] at h
      subst h
      exact absurd (by simp) hn
    · omega
theorem zo4 {order : Int} {l : List Bl} {j : Nat} {e lp lo p o : Int} (hr : Zm order = true) (h8 : order ≤ 8) (h : zla order l j e lp lo) (hx : l[j]? = some ⟨p, o⟩) :
    (zeM order p o = false ∧ Zc order l = false) ∨
    (zeM order p o = true ∧ decide (p < e) = true ∧ Zc order l = false) ∨
    (zeM order p o = true ∧ decide (p < e) = false ∧ decide (o < order) = false ∧ 0 ≤ o ∧ o ≤ 8 ∧ wrap64 (p + pw o) = p + pw o ∧ zla order l (j + 1) (p + pw o) p o) ∨
    (zeM order p o = true ∧ decide (p < e) = false ∧ decide (o < order) = true ∧ (0 ≤ p ∧ p ≤ 256 ∧ 0 ≤ o ∧ o ≤ 8 ∧ Hid (p % pw o = 0)) ∧ (lp == twP p o) = false ∧ wrap64 (p + pw o) = p + pw o ∧ zla order l (j + 1) (p + pw o) p o) ∨
    (zeM order p o = true ∧ decide (p < e) = false ∧ decide (o < order) = true ∧ (0 ≤ p ∧ p ≤ 256 ∧ 0 ≤ o ∧ o ≤ 8 ∧ Hid (p % pw o = 0)) ∧ (lp == twP p o) = true ∧ (lo == o) = false ∧ wrap64 (p + pw o) = p + pw o ∧ zla order l (j + 1) (p + pw o) p o) ∨
    (zeM order p o = true ∧ decide (p < e) = false ∧ decide (o < order) = true ∧ (0 ≤ p ∧ p ≤ 256 ∧ 0 ≤ o ∧ o ≤ 8 ∧ Hid (p % pw o = 0)) ∧ (lp == twP p o) = true ∧ (lo == o) = true ∧ decide (0 ≤ lp) = true ∧ Zc order l = false) := by
  obtain ⟨hg, hs⟩ := h
  cases hm : zeM order p o
  · left
    refine ⟨rfl, ze3 fun hG => ?_⟩
    have := (hG j _ hx).1
    simp [zeM, this] at hm
  right
  have hmay := zeW hm
  obtain ⟨f1, f2, f3, f4, f5, f6⟩ := zcR h8 hmay
  have f7 := zV o
  have hw : wrap64 (p + pw o) = p + pw o := by unfold wrap64; omega
  by_cases he : p < e
  · left
    refine ⟨rfl, by simp [he], ze3 fun hG => ?_⟩
    rcases hs with ⟨rfl, rfl, _⟩ | ⟨i, z, rfl, hz, rfl, rfl, rfl⟩
    · omega
    · have := ((hG (i + 1) _ hx).2 i z (by omega) hz).1
      simp only at this
      omega
  right
  have hnext : ¬ (o < order ∧ lp = twP p o ∧ lo = o) → zla order l (j + 1) (p + pw o) p o := by
    intro hno
    refine ⟨(zcZ.snoc hx).2 ⟨hg, hmay, ?_⟩, .inr ⟨j, _, rfl, hx, rfl, rfl, rfl⟩⟩
    rcases hs with ⟨rfl, _⟩ | ⟨i, z, rfl, hz, rfl, rfl, rfl⟩
    · intro k x hk; omega
    · refine zcZ.step hg hz hmay (by simp only; omega) ?_
      rintro ⟨h1, h2⟩
      rw [zbT] at h2
      refine hno ⟨h1, ?_, ?_⟩ <;> rw [← h2]
  by_cases ho : o < order
  · by_cases h1 : lp = twP p o
    · by_cases h2 : lo = o
      · right; right; right
        refine ⟨rfl, by simp; omega, by simp [ho], ⟨f1, f2, f3, f4, z0j f5⟩, by simp [h1], by simp [h2], ?_, ze3 fun hG => ?_⟩
        · have := zgm f1 f5
          simp [h1, this]
        · rcases hs with ⟨rfl, _, h3, _⟩ | ⟨i, z, rfl, hz, rfl, rfl, rfl⟩
          · have := zgm f1 f5
            omega
          · refine ((hG (i + 1) _ hx).2 i z (by omega) hz).2 ⟨ho, ?_⟩
            rw [zbT, ← h1]
            obtain ⟨zp, zo⟩ := z
            simp only at h2
            rw [h2]
      · right; right; left
        exact ⟨rfl, by simp; omega, by simp [ho], ⟨f1, f2, f3, f4, z0j f5⟩, by simp [h1], by simp [h2], hw, hnext fun h => h2 h.2.2⟩
    · right; left
      exact ⟨rfl, by simp; omega, by simp [ho], ⟨f1, f2, f3, f4, z0j f5⟩, by simp [h1], hw, hnext fun h => h1 h.2.1⟩
  · left
    exact ⟨rfl, by simp; omega, by simp; omega, f3, f4, hw, hnext fun h => ho h.1⟩
def zsH (order : Int) (l : List Bl) (w : World) (b6 k : Nat) (e i : Value) (wr : World) : Prop :=
  ∃ (j : Nat) (en lp lo : Int), k + j = l.length ∧ i = .int .i64 j ∧ e = .int .i64 en ∧ zla order l j en lp lo ∧ Hp w.heap.size w wr [⟨b6, [.int .i64 lp, .int .i64 lo], 146, 2⟩]
theorem zhP (order : Int) (h3 : 3 ≤ order) (h8 : order ≤ 8) (l : List Bl) (a : Option Addr) (c : Nat) (hl : l.length ≤ 600) (w : World) (ha : zr w a (l.flatMap blV)) :
    Calls Tryz.prog 140 #[.int .i64 order, .slice a l.length c] w fun e w' => e = .returned (.int .i64 (zfS (Zc order l))) ∧ Below w.heap.size w w' := by
  have hr : Zm order = true := by simp [Zm]; omega
  have K36 := z0j (zd6 order)
  rw [hr] at K36
  have HR := z0j hr
  clear hr
  have hp := Hp.start w
  have HA := z0j ha
  clear ha
  go_enter Tryz.func140, Tryz.ntmps140
  go_wp2_with (first | (go_at_call 188; refine (K36.out _).mono ?_; rintro e w' ⟨rfl, rfl⟩) | go_skip | ((first | ((refine zf _ rfl ?_); refine lZ hp rfl z6 ?_; clear hp; intro b w1 hp) | ((refine ze _ _ rfl ?_); first | refine lO hp rfl (za rfl) zm aa5 ?_ | refine lA hp rfl (za rfl) zw aa5 ?_) | ((refine zd _ _ _ rfl ?_); (first | refine sA hp rfl (za rfl) (za rfl) zw aa5 ?_ | refine sG hp rfl (za rfl) (za rfl) zw aa5 ?_); clear hp; intro w1 hp; simp only [spl, z0a, z0b] at hp)); simp only [zc, zb, z0b, z0a]))
  go_loopg [5, 15] l.length (fun k e i wr => zsH order l w b k e i wr)
  case atStart => exact ⟨0, 0, -1, 0, by omega, rfl, rfl, ⟨by simpa using zcZ.nil order, .inl ⟨rfl, rfl, rfl, rfl⟩⟩, hp⟩
  case round =>
    clear hp
    obtain ⟨j, en, lp, lo, hkj, rfl, rfl, hat, hp⟩ := hrel
    by_cases hlt : j < l.length
    · obtain ⟨bq, off, rfl, hx⟩ := HA.out.elems 2 Zp (by omega) (by omega)
      have hj := List.getElem?_eq_getElem hlt
      replace hx := hx j _ hj
      generalize l[j] = x at hx hj
      obtain ⟨p, o⟩ := x
      simp only [blV] at hx
      have HX := z0j hx
      have W9 := z0j (zo4 HR.out h8 hat hj)
      clear hx hj hat
      have e1 : (0 : Int) ≤ (j : Int) := by omega
      have e2 : (j : Int) < (l.length : Int) := by omega
      go_wp2_with (first | go_skip | ((first | ((refine zf _ rfl ?_); refine lZ hp rfl z6 ?_; clear hp; intro b w1 hp) | ((refine ze _ _ rfl ?_); first | refine lO hp rfl (za rfl) zm aa5 ?_ | refine lRO hp rfl (za rfl) zm (by first | exact HX.out 0 _ rfl | exact HX.out 1 _ rfl) ?_ | refine lA hp rfl (za rfl) zw aa5 ?_ | refine lR hp rfl (za rfl) zw HX.out ?_) | ((refine zd _ _ _ rfl ?_); (first | refine sA hp rfl (za rfl) (za rfl) zw aa5 ?_ | refine sG hp rfl (za rfl) (za rfl) zw aa5 ?_); clear hp; intro w1 hp; simp only [spl, z0a, z0b] at hp)); simp only [zc, zb, z0b, z0a]))
      refine zh _ (zv.all hp.drew) [] [(0, true), (1, true), (2, false), (3, true), (4, true), (5, true), (6, true), (7, true), (8, true), (9, true), (10, true), (11, true), (12, true), (13, true), (14, true), (15, true), (16, true), (17, true), (18, false), (19, true), (20, true), (21, true), (22, true), (23, true), (24, true), (25, true), (26, true)] (by kernel_rfl) (by kernel_rfl) rfl (by kernel_rfl) (fun _ _ d _ _ h => by cases d <;> exact h) ?_
      replace hp := hp.drew
      rcases W9.out with ⟨d1, r⟩ | ⟨d1, d2, r⟩ | ⟨d1, d2, d3, f0, f1, fw, r⟩ | ⟨d1, d2, d3, f, d4, fw, r⟩ | ⟨d1, d2, d3, f, d4, d5, fw, r⟩ | ⟨d1, d2, d3, f, d4, d5, d6, r⟩
      all_goals have R := z0j r
      all_goals clear r W9
      all_goals
        repeat' (with_reducible refine zx ?_); first | (with_reducible refine zq ?_) | ((with_reducible refine zE ?_); refine zu rfl ?_; (first | ((with_reducible refine zev _ _ rfl ?_); refine tS (by first | exact Z6 rfl rfl rfl rfl | exact Z7 rfl rfl rfl rfl) ?_) | ((with_reducible refine zT _ rfl ?_); refine tM rfl ?_) | ((with_reducible refine zW _ _ rfl ?_); first | refine tA rfl (za rfl) zw aa5 ?_ | refine tO rfl (za rfl) zm aa5 ?_) | refine tG (fun w _ => (by go_simp; try rfl)) ?_); try simp only [zc, zb, zj, zg, z0b, z0a, z0d, z0c, zl]) | (refine zC rfl (fun K hK => ?_); go_wp2_with (first | (go_at_call 189; refine (zp8 _ h3 h8 _ _ _).mono ?_; rintro e w1 ⟨rfl, hb⟩; rw [d1]; replace hp := hp.call hb; clear hb) | (go_at_call 190; refine (zi5 _ _ f.1 f.2.1 f.2.2.1 f.2.2.2.1 f.2.2.2.2.out _).mono ?_; rintro e w1 ⟨rfl, hb⟩; replace hp := hp.call hb; clear hb) | go_skip); (refine hK.out _ _ (.inr (zgJ hp)) ?_); clear hK K; try simp only [zc, zb, zj, zg, z0b, z0a, z0d, z0c, zl])
      all_goals first
        | (go_wp2_with fail
           go_ret
           exact ⟨zcX (by rw [R.out]; rfl), hp.below⟩)
        | (try obtain ⟨_, _, f0, f1, _⟩ := f
           go_wp2_with (first | go_skip | ((first | ((refine zf _ rfl ?_); refine lZ hp rfl z6 ?_; clear hp; intro b w1 hp) | ((refine ze _ _ rfl ?_); first | refine lO hp rfl (za rfl) zm aa5 ?_ | refine lA hp rfl (za rfl) zw aa5 ?_) | ((refine zd _ _ _ rfl ?_); (first | refine sA hp rfl (za rfl) (za rfl) zw aa5 ?_ | refine sG hp rfl (za rfl) (za rfl) zw aa5 ?_); clear hp; intro w1 hp; simp only [spl, z0a, z0b] at hp)); simp only [zc, zb, z0b, z0a]))
           refine zh [_, _] (zv.two hp.drew at0 at1) [8] [(0, true), (1, true), (2, true), (3, true), (6, true), (4, false), (5, true), (7, false), (8, false)] (by kernel_rfl) (by kernel_rfl) rfl (by kernel_rfl) (fun _ _ d _ _ h => by cases d <;> exact h) ?_
           replace hp := hp.drew
           repeat' (with_reducible refine zx ?_); first | (with_reducible refine zq ?_) | ((with_reducible refine zE ?_); refine zu rfl ?_; (first | ((with_reducible refine zW _ _ rfl ?_); first | refine tA rfl (za rfl) zw aa5 ?_ | refine tO rfl (za rfl) zm aa5 ?_) | refine tG (fun w _ => (by go_simp; try rfl)) ?_); try simp only [zc, zb, zj, zg, z0b, z0a, z0d, z0c, zl]) | (refine zC rfl (fun K hK => ?_); go_wp2_with (first | (go_at_call 142; refine (ZR _ (by omega) (by omega) _).mono ?_; rintro e w' ⟨rfl, rfl⟩) | go_skip | (((refine zd _ _ _ rfl ?_); (first | refine sA hp rfl (za rfl) (za rfl) zw aa5 ?_ | refine sG hp rfl (za rfl) (za rfl) zw aa5 ?_); clear hp; intro w1 hp; simp only [spl, z0a, z0b] at hp); simp only [zc, zb, z0b, z0a])); (first | refine hK.out _ _ (.inl rfl) ?_ | refine hK.out _ _ (.inr (zv.two hp aa5 aa5)) ?_); clear hK K; try simp only [zc, zb, zj, zg, z0b, z0a, z0d, z0c, zl])
           go_wp2_with fail
           go_roundg (gk - 1)
           case measure => omega
           case rel => exact ⟨j + 1, p + pw o, p, o, by omega, by go_num, by rw [fw], R.out, hp.tail⟩)
    · have e2 : decide ((j : Int) < (l.length : Int)) = false := by simp; omega
      have HG : Hid (Zc order l = true) := z0j (zej HR.out (by have := hat.1; rwa [List.take_of_length_le (by omega)] at this))
      clear hat
      go_wp2_with fail
      go_ret
      exact ⟨zcX (by rw [HG.out]; rfl), hp.below⟩
theorem zc8 (order : Int) (l : List Bl) (a : Option Addr) (c : Nat) (hl : l.length ≤ 600) (w : World) (ha : zr w a (l.flatMap blV)) :
    Calls Tryz.prog 140 #[.int .i64 order, .slice a l.length c] w fun e w' => e = .returned (.int .i64 (zfS (Zc order l))) ∧ Below w.heap.size w w' := by
  cases hr : Zm order
  · rw [zk3 hr]
    have K36 := z0j (zd6 order)
    rw [hr] at K36
    clear hr ha
    go_enter Tryz.func140, Tryz.ntmps140
    go_wp2_with (go_at_call 188; refine (K36.out _).mono ?_; rintro e w' ⟨rfl, rfl⟩)
    go_ret
    exact ⟨rfl, Below.refl _ _⟩
  · have := hr
    simp only [Zm, decide_eq_true_eq] at this
    exact zhP order this.1 this.2 l a c hl w ha
open Go.RowKit
theorem ztd {ty : TypeId} (h : zF Tryz.prog ty = true := by with_reducible first | exact zm | exact Zt | exact Za) : zF Tryz.prog ty = true := h
def Z0 (l : List Bl) (want : Int) : Bool := l.any fun x => decide (want ≤ x.o)
theorem zkS {l : List Bl} {want : Int} {j : Nat} {x : Bl} (h : l[j]? = some x) : Z0 (l.take (j + 1)) want = (Z0 (l.take j) want || decide (want ≤ x.o)) := by
  unfold Z0
  rw [List.take_add_one, h]
  simp [List.any_append]
theorem ziy {l : List Bl} {want : Int} {j : Nat} {x : Bl} (h : l[j]? = some x) (hw : want ≤ x.o) : Z0 l want = true := by
  unfold Z0
  exact List.any_eq_true.2 ⟨x, List.mem_of_getElem? h, by simp [hw]⟩
theorem zqo (p o want : Int) (b : Nat) (w : World) (hb : b < w.heap.size) (hc : w.cell? ⟨b, 0, none⟩ = some (.int .i64 want)) :
    Calls Tryz.prog 259 #[.agg #[.int .i64 p, .int .i64 o], .pointer (some ⟨b, 0, none⟩)] w fun e w' => e = .returned (.bool (decide (want ≤ o))) ∧ Below w.heap.size w w' := by
  have hp := Hp.start w
  have HC := z0j hc
  clear hc
  go_enter Tryz.func259, Tryz.ntmps259
  go_wp2_with (first | go_skip | ((first | ((refine zi _ _ rfl ?_); refine lB hp rfl (za rfl) rfl ?_; clear hp; intro b w1 hp) | ((refine ze _ _ rfl ?_); refine lO hp rfl (za rfl) zm aa5 ?_)); simp only [zc, zb, z0b, z0a]) | (refine zS hp _ _ rfl (zcu rfl) _ _ (za rfl) zm _ HC.out ?_; simp only [zc, zb, z0b, z0a]))
  go_ret
  exact ⟨rfl, hp.below⟩
def zl0 (w : World) (g : Bool) (e : Ending) (w' : World) : Prop := ∃ i : Int, e = .returned (.int .i64 i) ∧ decide (0 ≤ i) = g ∧ Below w.heap.size w w'
theorem zoD (l : List Bl) (a : Option Addr) (c : Nat) (hl : l.length ≤ 600) (want : Int) (bc : Nat) (w : World) (ha : zr w a (l.flatMap blV)) (hbc : bc < w.heap.size) (hcc : w.cell? ⟨bc, 0, none⟩ = some (.int .i64 want)) :
    Calls Tryz.prog 278 #[.slice a l.length c, .func (.func 259) #[] #[.pointer (some ⟨bc, 0, none⟩)]] w (zl0 w (Z0 l want)) := by
  have hp := Hp.start w
  have HA := z0j ha
  have HC := z0j hcc
  clear ha hcc
  go_enter Tryz.func278, Tryz.ntmps278
  go_wp2_with (first | go_skip | (((refine ze _ _ rfl ?_); refine lA hp rfl (za rfl) zw aa5 ?_); simp only [zc, zb, z0b, z0a]))
  go_loopg [8] l.length (fun k i wr => ∃ j : Nat, k + j = l.length ∧ i = .int .i64 j ∧ Z0 (l.take j) want = false ∧ Hp w.heap.size w wr [])
  case atStart => exact ⟨0, by omega, rfl, by simp [Z0], hp⟩
  case round =>
    clear hp
    obtain ⟨j, hkj, rfl, hg, hp⟩ := hrel
    by_cases hlt : j < l.length
    · obtain ⟨bq, off, rfl, hx⟩ := HA.out.elems 2 Zp (by omega) (by omega)
      have hj := List.getElem?_eq_getElem hlt
      replace hx := hx j _ hj
      generalize l[j] = x at hx hj
      obtain ⟨p, o⟩ := x
      simp only [blV] at hx
      have HX := z0j hx
      have HG := z0j hg
      have HJ := z0j hj
      clear hx hg hj
      have e1 : (0 : Int) ≤ (j : Int) := by omega
      have e2 : (j : Int) < (l.length : Int) := by omega
      go_wp2_with (first | (go_at_call 259; refine (zqo p o want bc _ (by have := hp.below.size; omega) ((hp.below.cell (p := ⟨bc, 0, none⟩) hbc).trans HC.out)).mono ?_; rintro e w1 ⟨rfl, hb⟩; replace hp := hp.call hb; clear hb) | go_skip | (((refine ze _ _ rfl ?_); first | refine lA hp rfl (za rfl) zw aa5 ?_ | refine lR hp rfl (za rfl) zw HX.out ?_); simp only [zc, zb, z0b, z0a]))
      · have hw : want ≤ o := by assumption
        go_ret
        exact ⟨j, rfl, by rw [ziy HJ.out hw]; simp, hp.below⟩
      · have hw : ¬ want ≤ o := by omega
        go_roundg (gk - 1)
        case measure => omega
        case rel => exact ⟨j + 1, by omega, by go_num, by rw [zkS HJ.out, HG.out]; simp [hw], hp⟩
    · have e2 : decide ((j : Int) < (l.length : Int)) = false := by simp; omega
      have HG := z0j hg
      clear hg
      go_wp2_with fail
      go_ret
      exact ⟨-1, rfl, by have := HG.out; rw [List.take_of_length_le (by omega)] at this; rw [this]; decide, hp.below⟩
theorem zjF (l : List Bl) (a : Option Addr) (c : Nat) (hl : l.length ≤ 600) (want : Int) (bc : Nat) (w : World) (ha : zr w a (l.flatMap blV)) (hbc : bc < w.heap.size) (hcc : w.cell? ⟨bc, 0, none⟩ = some (.int .i64 want)) :
    Calls Tryz.prog 258 #[.slice a l.length c, .func (.func 259) #[] #[.pointer (some ⟨bc, 0, none⟩)]] w fun e w' => e = .returned (.bool (Z0 l want)) ∧ Below w.heap.size w w' := by
  have hp := Hp.start w
  have K := z0j (zoD l a c hl want bc w ha hbc hcc)
  clear ha hcc
  go_enter Tryz.func258, Tryz.ntmps258
  go_wp2_with (go_at_call 278; refine K.out.mono ?_; rintro e w1 ⟨i, rfl, hi, hb⟩; replace hp := hp.call hb; have HI := z0j hi; clear hi hb)
  go_ret
  exact ⟨Zk HI.out, hp.below⟩
noncomputable def zfZ (order : Int) (l : List Bl) (want : Int) : Bool := Zc order l && decide (0 ≤ want) && decide (want ≤ order) && Z0 l want
theorem znp (order : Int) (l : List Bl) (a : Option Addr) (c : Nat) (hl : l.length ≤ 600) (want : Int) (w : World) (ha : zr w a (l.flatMap blV)) :
    Calls Tryz.prog 236 #[.int .i64 order, .slice a l.length c, .int .i64 want] w fun e w' => e = .returned (.bool (zfZ order l want)) ∧ Below w.heap.size w w' := by
  have hp := Hp.start w
  have HA := z0j ha
  clear ha
  have F : (Zc order l = false ∧ zfZ order l want = false) ∨ (Zc order l = true ∧ decide (0 ≤ want) = false ∧ zfZ order l want = false) ∨ (Zc order l = true ∧ decide (0 ≤ want) = true ∧ decide (want ≤ order) = false ∧ zfZ order l want = false) ∨ (Zc order l = true ∧ decide (0 ≤ want) = true ∧ decide (want ≤ order) = true ∧ zfZ order l want = Z0 l want) := by
    unfold zfZ
    cases Zc order l <;> cases decide (0 ≤ want) <;> cases decide (want ≤ order) <;> simp
  rcases F with ⟨hr, f⟩ | ⟨hr, h1, f⟩ | ⟨hr, h1, h2, f⟩ | ⟨hr, h1, h2, f⟩
  all_goals
    have R := z0j f
    clear f
    go_enter Tryz.func236, Tryz.ntmps236
    go_wp2_with (first | (go_at_call 140; refine (zc8 order l a c hl _ (HA.out.below hp.below)).mono ?_; rintro e w1 ⟨rfl, hb⟩; rw [hr]; simp only [zfS, if_true, Bool.false_eq_true, if_false]; replace hp := hp.call hb; clear hb) | (go_at_call 258; refine (zjF l a c hl want _ _ (HA.out.below hp.below) (hp.lt (Hp.mem at0)).2 (hp.cell at0 rfl)).mono ?_; rintro e w1 ⟨rfl, hb⟩; replace hp := hp.call hb; clear hb) | go_skip | ((first | ((refine zi _ _ rfl ?_); refine lB hp rfl (za rfl) rfl ?_; clear hp; intro b w1 hp) | ((refine ze _ _ rfl ?_); refine lO hp rfl (za rfl) zm aa5 ?_)); simp only [zc, zb, z0b, z0a]))
    go_ret
    exact ⟨Zk R.out.symm, hp.below⟩
open Go.RowKit
theorem zfy (l : List Bl) : (l.flatMap blV).all (·.oneCell') = true := by
  rw [List.all_eq_true]; intro u hu; obtain ⟨x, _, hx⟩ := List.mem_flatMap.1 hu; simp [blV] at hx; rcases hx with rfl | rfl <;> rfl
theorem zse (a : Int) (w : World) : Calls Tryz.prog 174 #[.int .i64 a] w fun e w' => e = .returned (.bool false) ∧ w = w' := by
  go_enter Tryz.func174, Tryz.ntmps174
  go_wp2
  go_ret
  exact ⟨rfl, rfl⟩
theorem zgq (a b : Int) (w : World) : Calls Tryz.prog 112 #[.int .i64 a, .int .i64 b] w fun e w' => e = .returned (.int .i64 (zcB a b)) ∧ w = w' := by
  go_enter Tryz.func112, Tryz.ntmps112
  go_wp2_with (go_at_call 174; (with_reducible refine (zse _ _).mono ?_); rintro e w' ⟨rfl, rfl⟩)
  all_goals go_ret
  all_goals refine ⟨zcX ?_, rfl⟩
  all_goals (simp [zcB, *])
  all_goals omega
theorem zml (d : Nat) (n c : Nat) (w : World) : (Op.equalIn (d + 1) 62 (.slice none n c) (.slice none 0 0)).run Tryz.prog w = .ok true w := by
  rw [Op.equalIn]; simp [Sem.run_bind, run_underlying Tryz.underlying62]
theorem zkH (d : Nat) (a : Addr) (n c : Nat) (w : World) : (Op.equalIn (d + 1) 62 (.slice (some a) n c) (.slice none 0 0)).run Tryz.prog w = .ok false w := by
  rw [Op.equalIn]; simp [Sem.run_bind, run_underlying Tryz.underlying62]
theorem zoC (n c : Nat) (w : World) : (binOp .eql 62 (.slice none n c) (.slice none 0 0)).run Tryz.prog w = .ok (.bool true) w := by
  have h : (Op.equalIn 10000 62 (.slice none n c) (.slice none 0 0)).run Tryz.prog w = .ok true w := zml 9999 n c w
  simp only [binOp]
  simp [Op.equal, Op.maxDepth, h]
theorem zl3 (a : Addr) (n c : Nat) (w : World) : (binOp .eql 62 (.slice (some a) n c) (.slice none 0 0)).run Tryz.prog w = .ok (.bool false) w := by
  have h : (Op.equalIn 10000 62 (.slice (some a) n c) (.slice none 0 0)).run Tryz.prog w = .ok false w := zkH 9999 a n c w
  simp only [binOp]
  simp [Op.equal, Op.maxDepth, h]
def ziY (w : World) (n : Nat) (xs : List Value) (e : Ending) (w' : World) : Prop := ∃ v R, e = .returned v ∧ zB 146 2 v n xs R ∧ Hp w.heap.size w w' R
theorem zgZ (a : Option Addr) (n c : Nat) (hn : n ≤ 2000) (xs : List Value) (hl : xs.length = n * 2) (h1 : xs.all (·.oneCell') = true) (w : World) (ha : zr w a xs) :
    Calls Tryz.prog 143 #[.slice a n c] w (ziY w n xs) := by
  obtain ⟨i0, hi0, hz0, hz1, hz2⟩ := info_parts zbD
  have hp := Hp.start w
  cases a with
  | none =>
    have hn0 : n = 0 := by
      rcases Nat.eq_zero_or_pos n with h | h
      · exact h
      · obtain ⟨b, off, he, _⟩ := ha.addr (by omega)
        cases he
    subst hn0
    have hx : xs = [] := List.eq_nil_of_length_eq_zero (by simpa using hl)
    subst hx
    clear ha hl h1
    have hq := zoC
    go_enter Tryz.func143, Tryz.ntmps143
    go_wp2
    go_ret
    exact ⟨_, [], rfl, zB.nil _ _, hp⟩
  | some a =>
    have HA := z0j ha
    have HL := z0j hl
    have H1 := z0j h1
    have sm1 : 0 + n ≤ maxLen := by unfold maxLen; omega
    have sm2 : (0 + n) * 16 ≤ 140737488355328 := by omega
    clear ha hl h1
    have hq := zl3
    go_enter Tryz.func143, Tryz.ntmps143
    go_wp2_with (first | ((refine zk _ _ _ rfl ?_); refine Zn hp _ _ _ rfl wy [] 146 (by intro w; go_simp; try rfl) ?_; clear hp; intro b w1 hp; simp only [zc, zb, z0b, z0a]) | ((refine zJ _ _ 62 rfl ?_); refine zR (K := []) (R := [⟨b, [], 146, 0 * 2⟩]) (M := []) hp _ _ _ rfl wy i0 _ 16 Tryz.underlying62 hi0 hz0 hz1 hz2 rfl (by decide) (za rfl) ⟨rfl, .inr ⟨b, 0, rfl, Nat.le_refl _, Nat.zero_le _, rfl⟩⟩ (some a) n c (za rfl) xs HL.out (HA.out.below hp.below) H1.out sm1 sm2 ?_; clear hp; intro v' R' w1 hR' hp; have HR' := z0j hR'; clear hR'; simp only [zc, zb, z0b, z0a]) | go_skip)
    go_ret
    exact ⟨v', R', rfl, by simpa using HR'.out, by simpa using hp⟩
open Go.RowKit
theorem ztS {ty : TypeId} (h : zF Tryz.prog ty = true := by with_reducible first | exact zm | exact Zt | exact Zj) : zF Tryz.prog ty = true := h
theorem zo2 (x : Bl) (t : Int) (w : World) : Calls Tryz.prog 269 #[.agg #[.int .i64 x.p, .int .i64 x.o], .int .i64 t] w fun e w' => e = .returned (.int .i64 (zcB x.p t)) ∧ Below w.heap.size w w' := by
  have hp := Hp.start w
  go_enter Tryz.func269, Tryz.ntmps269
  go_wp2_with (first | (go_at_call 112; (with_reducible refine (zgq _ _ _).mono ?_); rintro e w' ⟨rfl, rfl⟩) | go_skip | ((first | ((refine zi _ _ rfl ?_); refine lB hp rfl (za rfl) rfl ?_; clear hp; intro b w1 hp) | ((refine ze _ _ rfl ?_); refine lO hp rfl (za rfl) zm aa5 ?_)); simp only [zc, zb, z0b, z0a]))
  go_ret
  exact ⟨rfl, hp.below⟩
def AtB (l : List Bl) (t : Int) (k : Nat) : Prop := k ≤ l.length ∧ (∀ (j : Nat) y, l[j]? = some y → j < k → y.p < t) ∧ (∀ (j : Nat) y, l[j]? = some y → k ≤ j → t ≤ y.p)
def zhd (l : List Bl) : Prop := ∀ (i j : Nat) x y, i < j → l[i]? = some x → l[j]? = some y → x.p < y.p
def ziU (l : List Bl) (t : Int) (k : Nat) : Bool := match l[k]? with
  | some y => decide (y.p = t)
  | none => false
theorem zsy {l : List Bl} (hs : zhd l) (t : Int) : ∃ k, AtB l t k := by
  let P : Nat → Prop := fun k => ∀ (j : Nat) y, l[j]? = some y → k ≤ j → t ≤ y.p
  have hP : P l.length := fun j y hj hk => by have := (List.getElem?_eq_some_iff.1 hj).1; omega
  have least : ∀ m, P m → ∃ k, P k ∧ k ≤ m ∧ ∀ k', k' < k → ¬ P k' := by
    intro m
    induction m using Nat.strongRecOn with
    | _ m ih =>
      intro hm
      by_cases h : ∃ m', m' < m ∧ P m'
      · obtain ⟨m', h1, h2⟩ := h
        obtain ⟨k, hk, hle, hno⟩ := ih m' h1 h2
        exact ⟨k, hk, by omega, hno⟩
      · exact ⟨m, hm, Nat.le_refl _, fun k' hk' hp => h ⟨k', hk', hp⟩⟩
  obtain ⟨k, hk, hle, hno⟩ := least _ hP
  refine ⟨k, hle, fun j y hj hjk => ?_, hk⟩
  have hn := hno (k - 1) (by omega)
  obtain ⟨j0, hn⟩ := Classical.not_forall.1 hn
  obtain ⟨y0, hn⟩ := Classical.not_forall.1 hn
  obtain ⟨hy0, hn⟩ := Classical.not_forall.1 hn
  obtain ⟨hk0, hn⟩ := Classical.not_forall.1 hn
  have hj0 : j0 = k - 1 := by
    rcases Nat.lt_or_ge j0 k with h | h
    · omega
    · exact absurd (hk j0 y0 hy0 h) hn
  subst hj0
  rcases Nat.lt_or_ge j (k - 1) with h | h
  · have := hs j (k - 1) y y0 h hj hy0; omega
  · have : j = k - 1 := by omega
    subst this
    rw [hj] at hy0; injection hy0 with hy0; subst hy0; omega
theorem zrR (l : List Bl) (a : Option Addr) (c : Nat) (hl : l.length ≤ 1000) (t : Int) (k : Nat) (hk : AtB l t k) (w : World) (ha : zr w a (l.flatMap blV)) :
    Calls Tryz.prog 268 #[.slice a l.length c, .int .i64 t, .func (.func 269) #[] #[]] w fun e w' => e = .returned (.tuple #[.int .i64 k, .bool (ziU l t k)]) ∧ Below w.heap.size w w' := by
  have hp := Hp.start w
  have HA := z0j ha
  have HK := z0j hk
  clear ha hk
  go_enter Tryz.func268, Tryz.ntmps268
  go_wp2_with (first | go_skip | (((refine ze _ _ rfl ?_); first | refine lA hp rfl (za rfl) zw aa5 ?_ | refine lR hp rfl (za rfl) zw HX.out ?_); simp only [zc, zb, z0b, z0a]) | go_skip)
  go_loopg [9, 10] l.length (fun g i j wr => ∃ x y : Nat, i = .int .i64 x ∧ j = .int .i64 y ∧ x ≤ y ∧ y ≤ l.length ∧ g + x = y ∧ Hid (x ≤ k ∧ k ≤ y) ∧ Hp w.heap.size w wr [])
  case atStart => exact ⟨0, l.length, rfl, rfl, by omega, by omega, by omega, z0j ⟨by omega, HK.out.1⟩, hp⟩
  case round =>
    clear hp
    obtain ⟨x, y, rfl, rfl, hxy, hyl, hg, HXY, hp⟩ := hrel
    by_cases hlt : x < y
    · obtain ⟨h, hh⟩ : ∃ h, h = (x + y) / 2 := ⟨_, rfl⟩
      have hxh : x ≤ h := by omega
      have hhy : h < y := by omega
      obtain ⟨bq, off, rfl, hx⟩ := HA.out.elems 2 Zp (by omega) (by omega)
      have hj := List.getElem?_eq_getElem (l := l) (i := h) (by omega)
      replace hx := hx h _ hj
      generalize l[h]'(by omega) = z at hx hj
      have e1 : (x : Int) < (y : Int) := by omega
      have e2 : ((x : Int) + (y : Int)) / 2 = (h : Int) := by omega
      have e3 : (0 : Int) ≤ (h : Int) := by omega
      have e4 : (h : Int) < (l.length : Int) := by omega
      have HJ := z0j hj
      obtain ⟨yn, ym⟩ := z
      simp only [blV] at hx
      have HX := z0j hx
      have HHH := z0j hh
      clear hx hj hh
      by_cases hc : yn < t
      · have HCM : Hid (zcB yn t = -1) := z0j (by unfold zcB; rw [if_pos hc])
        have HC := z0j hc
        clear hc
        go_wp2_with (first | (go_at_call 269; (with_reducible refine (zo2 ⟨yn, ym⟩ t _).mono ?_); rintro e w1 ⟨rfl, hb⟩; replace hp := hp.call hb; clear hb; rw [HCM.out]) | go_skip | (((refine ze _ _ rfl ?_); first | refine lA hp rfl (za rfl) zw aa5 ?_ | refine lR hp rfl (za rfl) zw HX.out ?_); simp only [zc, zb, z0b, z0a]))
        go_roundg (y - (h + 1))
        case measure => have := HHH.out; omega
        case rel =>
          refine ⟨h + 1, y, by go_num, rfl, by omega, hyl, by omega, z0j ⟨?_, HXY.out.2⟩, hp⟩
          rcases Nat.lt_or_ge h k with h1 | h1
          · omega
          · have h2 : t ≤ yn := HK.out.2.2 h _ HJ.out h1
            have h3 := HC.out
            omega
      · obtain ⟨cv, hcv, hc0⟩ : ∃ cv : Int, zcB yn t = cv ∧ 0 ≤ cv := by
          unfold zcB; rw [if_neg hc]
          split
          · exact ⟨1, rfl, by omega⟩
          · exact ⟨0, rfl, by omega⟩
        have HCM := z0j hcv
        have HC := z0j hc
        have hc1 : decide (cv < 0) = false := by simp; omega
        clear hc hcv
        go_wp2_with (first | (go_at_call 269; (with_reducible refine (zo2 ⟨yn, ym⟩ t _).mono ?_); rintro e w1 ⟨rfl, hb⟩; replace hp := hp.call hb; clear hb; rw [HCM.out]) | go_skip | (((refine ze _ _ rfl ?_); first | refine lA hp rfl (za rfl) zw aa5 ?_ | refine lR hp rfl (za rfl) zw HX.out ?_); simp only [zc, zb, z0b, z0a]))
        go_roundg (h - x)
        case measure => have := HHH.out; omega
        case rel =>
          refine ⟨x, h, rfl, rfl, by omega, by omega, by omega, z0j ⟨HXY.out.1, ?_⟩, hp⟩
          rcases Nat.lt_or_ge h k with h1 | h1
          · have h2 : yn < t := HK.out.2.1 h _ HJ.out h1
            have h3 := HC.out
            omega
          · exact h1
    · have hxk : x = k := by have := HXY.out; omega
      have hyk : y = k := by have := HXY.out; omega
      subst hxk
      subst hyk
      have e0 : decide ((y : Int) < (y : Int)) = false := by simp
      by_cases hkl : y < l.length
      · obtain ⟨bq, off, rfl, hx⟩ := HA.out.elems 2 Zp (by omega) (by omega)
        have hj := List.getElem?_eq_getElem hkl
        replace hx := hx y _ hj
        generalize l[y] = z at hx hj
        have e3 : (0 : Int) ≤ (y : Int) := by omega
        have e4 : (y : Int) < (l.length : Int) := by omega
        obtain ⟨yn, ym⟩ := z
        simp only [blV] at hx
        have HX := z0j hx
        have hge := HK.out.2.2 y _ hj (Nat.le_refl _)
        simp only at hge
        by_cases hc : yn = t
        · have HB : Hid (ziU l t y = true) := z0j (by unfold ziU; rw [hj]; simp [hc])
          have HCM : Hid (zcB yn t = 0) := z0j (by unfold zcB; rw [if_neg (by omega), if_neg (by omega)])
          clear hx hj hge hc
          go_wp2_with (first | (go_at_call 269; (with_reducible refine (zo2 ⟨yn, ym⟩ t _).mono ?_); rintro e w1 ⟨rfl, hb⟩; replace hp := hp.call hb; clear hb; rw [HCM.out]) | go_skip | (((refine ze _ _ rfl ?_); first | refine lA hp rfl (za rfl) zw aa5 ?_ | refine lR hp rfl (za rfl) zw HX.out ?_); simp only [zc, zb, z0b, z0a]))
          go_ret2
          exact ⟨by rw [HB.out]; rfl, hp.below⟩
        · have HB : Hid (ziU l t y = false) := z0j (by unfold ziU; rw [hj]; simp [hc])
          have HCM : Hid (zcB yn t = 1) := z0j (by unfold zcB; rw [if_neg (by omega), if_pos (by omega)])
          clear hx hj hge hc
          go_wp2_with (first | (go_at_call 269; (with_reducible refine (zo2 ⟨yn, ym⟩ t _).mono ?_); rintro e w1 ⟨rfl, hb⟩; replace hp := hp.call hb; clear hb; rw [HCM.out]) | go_skip | (((refine ze _ _ rfl ?_); first | refine lA hp rfl (za rfl) zw aa5 ?_ | refine lR hp rfl (za rfl) zw HX.out ?_); simp only [zc, zb, z0b, z0a]))
          go_ret2
          exact ⟨by rw [HB.out]; rfl, hp.below⟩
      · have e4 : decide ((y : Int) < (l.length : Int)) = false := by simp; omega
        have HB : Hid (ziU l t y = false) := z0j (by unfold ziU; rw [List.getElem?_eq_none (by omega)])
        go_wp2_with (first | go_skip | (((refine ze _ _ rfl ?_); first | refine lA hp rfl (za rfl) zw aa5 ?_ | refine lR hp rfl (za rfl) zw HX.out ?_); simp only [zc, zb, z0b, z0a]) | go_skip)
        go_ret2
        exact ⟨by rw [HB.out]; rfl, hp.below⟩
open Go.RowKit
open Go.RowKit
def zpS (l : List Bl) (want : Int) (n : Nat) (i : Int) : Prop :=
  (i = -1 ∧ ∀ (k : Nat) x, k < n → l[k]? = some x → ¬ want ≤ x.o) ∨
  ∃ (k : Nat) (z : Bl), i = (k : Int) ∧ k < n ∧ l[k]? = some z ∧ want ≤ z.o ∧ ∀ (k' : Nat) x, k' < n → l[k']? = some x → want ≤ x.o → z.o ≤ x.o ∧ (x.o = z.o → k ≤ k')
theorem zpS.great {l : List Bl} {want i : Int} (h : zpS l want l.length i) : decide (0 ≤ i) = Z0 l want := by
  rcases h with ⟨rfl, h⟩ | ⟨k, z, rfl, hk, hz, hw, h⟩
  · have : Z0 l want = false := by
      unfold Z0
      rw [List.any_eq_false]
      intro x hx
      obtain ⟨k, hk, rfl⟩ := List.getElem_of_mem hx
      have := h k _ hk (List.getElem?_eq_getElem hk)
      simpa using this
    rw [this]; decide
  · rw [ziy hz hw]; simp
open Go.RowKit
end Go.Proofs.YtjcbpfbifbfkcaaGreat
