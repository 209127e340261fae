import Derived.Test.YtjcbpfbifbfkcaaGreatTv0
import Derived.LoopTactic
import Derived.Lib.Hide
import Derived.Test.YtjcbpfbifbfkcaaGreatRows
import Derived.Deep.LoopGhost
set_option linter.unusedSimpArgs false
set_option linter.unusedVariables false
set_option maxRecDepth 100000
set_option maxHeartbeats 60000000
namespace Go.Proofs.YtjcbpfbifbfkcaaGreat
structure Bl where
  p : Int
  o : Int
  deriving DecidableEq
def blV (x : Bl) : List Value := [.int .i64 x.p, .int .i64 x.o]
theorem za8 (x : Bl) : (blV x).length = 2 := rfl
def pw (o : Int) : Int := (2 : Int) ^ o.toNat
theorem zE (o : Int) : 1 ≤ pw o := by
  unfold pw
  have := Int.pow_pos (n := 2) (m := o.toNat) (by omega)
  omega
theorem zaT {o : Int} (h0 : 0 ≤ o) (h8 : o ≤ 8) : o = 0 ∨ o = 1 ∨ o = 2 ∨ o = 3 ∨ o = 4 ∨ o = 5 ∨ o = 6 ∨ o = 7 ∨ o = 8 := by omega
theorem zc5 {o : Int} (h8 : o ≤ 8) : pw o ≤ 256 := by
  rcases Int.le_total 0 o with h | h
  · rcases zaT h h8 with rfl | rfl | rfl | rfl | rfl | rfl | rfl | rfl | rfl <;> decide
  · have : o.toNat = 0 := by omega
    unfold pw; rw [this]; decide
theorem zav {o : Int} (h : 0 ≤ o) : pw (o + 1) = 2 * pw o := by
  unfold pw
  have : (o + 1).toNat = o.toNat + 1 := by omega
  rw [this, Int.pow_succ]; omega
def zaS (order : Int) (x : Bl) : Prop := 0 ≤ x.o ∧ x.o ≤ order ∧ 0 ≤ x.p ∧ x.p ≤ pw order - pw x.o ∧ x.p % pw x.o = 0
instance (order : Int) (x : Bl) : Decidable (zaS order x) := by unfold zaS; infer_instance
def ZP (x : Bl) : Bl := if x.p % (2 * pw x.o) = 0 then ⟨x.p + pw x.o, x.o⟩ else ⟨x.p - pw x.o, x.o⟩
def zlp (order : Int) (x y : Bl) : Prop := x.p + pw x.o ≤ y.p ∧ ¬ (y.o < order ∧ ZP y = x)
def zbi (order : Int) (l : List Bl) : Prop := ∀ i y, l[i]? = some y → zaS order y ∧ ∀ (k : Nat) x, k < i → l[k]? = some x → zlp order x y
def zW (order : Int) : Bool := decide (3 ≤ order ∧ order ≤ 8)
open Classical in
noncomputable def Zf (order : Int) (l : List Bl) : Bool := zW order && decide (zbi order l)
theorem zbi.take {order : Int} {l : List Bl} (h : zbi order l) (n : Nat) : zbi order (l.take n) := by
  intro i y hi
  rw [List.getElem?_take] at hi
  split at hi
  · obtain ⟨h1, h2⟩ := h i y hi
    refine ⟨h1, fun k x hk hx => ?_⟩
    rw [List.getElem?_take, if_pos (by omega)] at hx
    exact h2 k x hk hx
  · cases hi
theorem zbi.nil (order : Int) : zbi order [] := by intro i y h; simp at h
theorem zbi.snoc {order : Int} {l : List Bl} {n : Nat} {y : Bl} (hy : l[n]? = some y) : zbi order (l.take (n + 1)) ↔ zbi order (l.take n) ∧ zaS order y ∧ ∀ (k : Nat) x, k < n → l[k]? = some x → zlp order x y := by
  constructor
  · intro h
    refine ⟨?_, ?_⟩
    · have := h.take n
      rw [List.take_take, Nat.min_eq_left (by omega)] at this
      exact this
    · obtain ⟨h1, h2⟩ := h n y (by rw [List.getElem?_take, if_pos (by omega)]; exact hy)
      exact ⟨h1, fun k x hk hx => h2 k x hk (by rw [List.getElem?_take, if_pos (by omega)]; exact hx)⟩
  · rintro ⟨h1, h2, h3⟩ i z hi
    rw [List.getElem?_take] at hi
    split at hi
    · by_cases hin : i = n
      · subst hin
        rw [hy] at hi
        cases hi
        refine ⟨h2, fun k x hk hx => ?_⟩
        rw [List.getElem?_take] at hx
        split at hx
        · exact h3 k x hk hx
        · cases hx
      · obtain ⟨h4, h5⟩ := h1 i z (by rw [List.getElem?_take, if_pos (by omega)]; exact hi)
        refine ⟨h4, fun k x hk hx => h5 k x hk ?_⟩
        rw [List.getElem?_take] at hx ⊢
        rw [if_pos (by omega)] at hx
        rw [if_pos (by omega)]; exact hx
    · cases hi
theorem zaS.end_le {order : Int} {x : Bl} (h : zaS order x) : x.p + pw x.o ≤ pw order := by have := h.2.2.2.1; omega
theorem zbi.long {order : Int} {l : List Bl} (h : zbi order l) : ∀ (i : Nat) y, l[i]? = some y → (i : Int) ≤ y.p := by
  intro i
  induction i with
  | zero => intro y hy; have := (h 0 y hy).1.2.2.1; omega
  | succ i ih =>
    intro y hy
    have hlt : i + 1 < l.length := (List.getElem?_eq_some_iff.1 hy).1
    have hx : l[i]? = some l[i] := List.getElem?_eq_getElem (by omega)
    have h1 := ih _ hx
    have h2 := ((h (i + 1) y hy).2 i _ (by omega) hx).1
    have h3 := zE l[i].o
    omega
theorem zbi.len {order : Int} {l : List Bl} (h : zbi order l) (h0 : 3 ≤ order) : (l.length : Int) ≤ pw order := by
  rcases Nat.eq_zero_or_pos l.length with hl | hl
  · have := zE order; omega
  · have hx : l[l.length - 1]? = some l[l.length - 1] := List.getElem?_eq_getElem (by omega)
    have h1 := h.long _ _ hx
    have h2 := (h _ _ hx).1.end_le
    have h3 := zE l[l.length - 1].o
    omega
theorem zbi.step {order : Int} {l : List Bl} {n : Nat} {y z : Bl} (hg : zbi order (l.take (n + 1))) (hz : l[n]? = some z) (hm : zaS order y) (he : z.p + pw z.o ≤ y.p) (ht : ¬ (y.o < order ∧ ZP y = z)) :
    ∀ (k : Nat) x, k < n + 1 → l[k]? = some x → zlp order x y := by
  obtain ⟨_, _, h3⟩ := (zbi.snoc hz).1 hg
  intro k x hk hx
  by_cases hkn : k = n
  · subst hkn
    rw [hz] at hx; cases hx
    exact ⟨he, ht⟩
  · have h4 := (h3 k x (by omega) hx).1
    have h5 := zE z.o
    have h7 := zE y.o
    refine ⟨by omega, ?_⟩
    rintro ⟨_, h6⟩
    subst h6
    unfold ZP at h4
    split at h4 <;> simp only at h4 <;> omega
open Go.RowKit
theorem zJ : ZZ Tryz.prog 146 2 = true := by kernel_rfl
theorem zq : zv Tryz.prog 3 = true := by kernel_rfl
theorem ZF : zv Tryz.prog 4 = true := by kernel_rfl
theorem zV : zv Tryz.prog 42 = true := by kernel_rfl
theorem Zd : zbf Tryz.prog 146 = some ([.int .i64 0, .int .i64 0], 2) := by kernel_rfl
theorem zcB : (Tryz.prog.info? 146).map (fun i => (i.zero, i.size, i.bytes)) = some (some (.agg #[.int .i64 0, .int .i64 0]), 2, 16) := by kernel_rfl
theorem ZN {a b : Bool} (h : a = b) : Ending.returned (.bool a) = .returned (.bool b) := by rw [h]
theorem zc2 {k : IntKind} {a b : Int} (h : a = b) : Ending.returned (.int k a) = .returned (.int k b) := by rw [h]
theorem pw8 : pw 8 = 256 := by decide
theorem zbB (o : Int) (w : World) : Calls Tryz.prog 188 #[.int .i64 o] w fun e w' => e = .returned (.bool (zW o)) ∧ w = w' := by
  go_enter Tryz.func188, Tryz.ntmps188
  go_wp2
  all_goals go_ret
  all_goals refine ⟨ZN ?_, rfl⟩
  all_goals simp [zW]
  all_goals omega
theorem Zr (o : Int) (h0 : 0 ≤ o) (h8 : o ≤ 8) (w : World) : Calls Tryz.prog 142 #[.int .i64 o] w fun e w' => e = .returned (.int .i64 (pw o)) ∧ w = w' := by
  rcases zaT h0 h8 with rfl | rfl | rfl | rfl | rfl | rfl | rfl | rfl | rfl
  all_goals
    clear h0 h8
    go_enter Tryz.func142, Tryz.ntmps142
    go_wp2
    go_ret
    exact ⟨zc2 (by decide), rfl⟩
open Go.RowKit
theorem zlj {ty : TypeId} (h : zv Tryz.prog ty = true := by with_reducible first | exact zq | exact ZF | exact zV) : zv Tryz.prog ty = true := h
theorem zjv (l : List Bl) : (l.flatMap blV).length = l.length * 2 := Zv blV 2 za8 l
def zjT (w : World) (order : Int) (e : Ending) (w' : World) : Prop := ∃ b, e = .returned (.tuple #[.slice (some ⟨b, 0, none⟩) 1 1, .int .i64 0]) ∧ zjE w w' ⟨b, [.int .i64 0, .int .i64 order], 146, 2⟩ ∧ Below w.heap.size w w'
theorem zhy (o : Int) (h : zW o = false) (w : World) : Calls Tryz.prog 158 #[.int .i64 o] w fun e w' => e = .returned (.tuple #[.slice none 0 0, .int .i64 1]) ∧ Below w.heap.size w w' := by
  have k := zbB o
  rw [h] at k
  have K := z0j k
  clear k h
  go_enter Tryz.func158, Tryz.ntmps158
  go_wp2_with (go_at_call 188; refine (K.out _).mono ?_; rintro e w' ⟨rfl, rfl⟩)
  go_ret2
  exact ⟨rfl, Below.refl _ _⟩
theorem zdr (o : Int) (h : zW o = true) (w : World) : Calls Tryz.prog 158 #[.int .i64 o] w (zjT w o) := by
  have k := zbB o
  rw [h] at k
  have K := z0j k
  clear k h
  have hp := Hp.start w
  go_enter Tryz.func158, Tryz.ntmps158
  go_wp2_with (first | (go_at_call 188; refine (K.out _).mono ?_; rintro e w' ⟨rfl, rfl⟩) | go_skip | (((refine zg _ _ _ rfl ?_); refine lS hp rfl (by intro w; go_simp; rfl) ?_; clear hp; intro b w1 hp; simp only [z0g, z0h, Nat.reduceAdd] at hp); simp only [zc, zb, z0b, z0a]))
  go_ret2
  exact ⟨_, rfl, hp.fresh at0, hp.below⟩
open Go.RowKit
theorem zlq {ty : TypeId} (h : zv Tryz.prog ty = true := by with_reducible first | exact zq | exact ZF | exact zV) : zv Tryz.prog ty = true := h
theorem zkG {p o : Int} (h0 : 0 ≤ p) (h1 : p ≤ 256) (h2 : 0 ≤ o) (h3 : o ≤ 8) : bits .and .i64 p (pw o - 1) = p % pw o := by
  have : ∀ (a : Fin 257) (b : Fin 9), bits .and .i64 (a.val : Int) (pw (b.val : Int) - 1) = (a.val : Int) % pw (b.val : Int) := by decide +kernel
  have := this ⟨p.toNat, by omega⟩ ⟨o.toNat, by omega⟩
  simpa [Int.toNat_of_nonneg h0, Int.toNat_of_nonneg h2] using this
def zdf (order p o : Int) : Bool := decide (zaS order ⟨p, o⟩)
theorem zlT (order p o : Int) (h8 : order ≤ 8) :
    (decide (0 ≤ o) = false ∧ zdf order p o = false) ∨ (0 ≤ o ∧ decide (o ≤ order) = false ∧ zdf order p o = false) ∨
    (0 ≤ o ∧ o ≤ order ∧ decide (0 ≤ p) = false ∧ zdf order p o = false) ∨
    (0 ≤ o ∧ o ≤ order ∧ 0 ≤ p ∧ decide (p ≤ pw order - pw o) = false ∧ wrap64 (pw order - pw o) = pw order - pw o ∧ zdf order p o = false) ∨
    (0 ≤ o ∧ o ≤ order ∧ 0 ≤ p ∧ p ≤ pw order - pw o ∧ wrap64 (pw order - pw o) = pw order - pw o ∧ wrap64 (pw o - 1) = pw o - 1 ∧ bits .and .i64 p (pw o - 1) = p % pw o ∧ zdf order p o = (p % pw o == 0)) := by
  have l1 := zc5 (o := order) h8
  have l2 := zE o
  have l3 := zE order
  by_cases g1 : 0 ≤ o
  · by_cases g2 : o ≤ order
    · have l4 := zc5 (o := o) (by omega)
      have w1 : wrap64 (pw order - pw o) = pw order - pw o := by unfold wrap64; omega
      have w2 : wrap64 (pw o - 1) = pw o - 1 := by unfold wrap64; omega
      by_cases g3 : 0 ≤ p
      · by_cases g4 : p ≤ pw order - pw o
        · refine .inr (.inr (.inr (.inr ⟨g1, g2, g3, g4, w1, w2, zkG g3 (by omega) g1 (by omega), ?_⟩)))
          rw [Bool.eq_iff_iff]; simp [zdf, zaS, g1, g2, g3, g4]
        · exact .inr (.inr (.inr (.inl ⟨g1, g2, g3, by simp [g4], w1, by simp [zdf, zaS, g4]⟩)))
      · exact .inr (.inr (.inl ⟨g1, g2, by simp [g3], by simp [zdf, zaS, g3]⟩))
    · exact .inr (.inl ⟨g1, by simp [g2], by simp [zdf, zaS, g2]⟩)
  · exact .inl ⟨by simp [g1], by simp [zdf, zaS, g1]⟩
theorem zk8 (order : Int) (h3 : 3 ≤ order) (h8 : order ≤ 8) (p o : Int) (w : World) :
    Calls Tryz.prog 189 #[.int .i64 order, .agg #[.int .i64 p, .int .i64 o]] w fun e w' => e = .returned (.bool (zdf order p o)) ∧ Below w.heap.size w w' := by
  have hp := Hp.start w
  have W9 := z0j (zlT order p o h8)
  go_enter Tryz.func189, Tryz.ntmps189
  go_wp2_with (first | go_skip | ((first | ((refine zh _ _ rfl ?_); refine lB hp rfl (za rfl) rfl ?_; clear hp; intro b w1 hp) | ((refine ze _ _ rfl ?_); refine lO hp rfl (za rfl) zq aa5 ?_)); simp only [zc, zb, z0b, z0a]))
  refine zj _ (zA.all hp.drew) [] [(0, true), (1, true), (2, true), (3, true), (4, true), (5, true), (6, true), (7, true), (8, true), (9, true), (10, true), (11, true), (12, true), (13, true), (14, true), (15, true), (16, true), (17, true), (19, true), (20, true), (18, false), (21, false), (22, true), (23, true), (24, true), (25, true), (26, true), (27, true), (28, true), (29, true), (30, false), (31, true), (32, true), (33, true), (34, true), (35, false)] (by kernel_rfl) (by kernel_rfl) rfl (by kernel_rfl) (fun _ _ d _ _ h => by cases d <;> exact h) ?_
  replace hp := hp.drew
  rcases W9.out with ⟨d1, r⟩ | ⟨d1, d2, r⟩ | ⟨d1, d2, d3, r⟩ | ⟨d1, d2, d3, d4, w1, r⟩ | ⟨d1, d2, d3, d4, w1, w2, w3, r⟩
  all_goals have R := z0j r
  all_goals clear r W9
  all_goals
    repeat' (with_reducible refine zH ?_); first | (with_reducible refine zy ?_) | ((with_reducible refine zU ?_); refine zF rfl ?_; (first | ((with_reducible refine zca _ _ rfl ?_); refine tS (by first | exact Zp rfl rfl rfl rfl | exact Zq rfl rfl rfl rfl) ?_) | ((with_reducible refine Zy _ rfl ?_); refine tM rfl ?_) | ((with_reducible refine Zt _ _ rfl ?_); refine tO rfl (za rfl) zq aa5 ?_) | refine tG (fun w _ => (by go_simp; try rfl)) ?_); try simp only [zc, zb, zl, zi, z0b, z0a, z0d, z0c, zr]) | (refine Zh rfl (fun K hK => ?_); go_wp2_with (first | (go_at_call 142; refine (Zr _ (by omega) (by omega) _).mono ?_; rintro e w' ⟨rfl, rfl⟩) | go_skip); (refine hK.out _ _ (.inr (zgD hp)) ?_); clear hK K; try simp only [zc, zb, zl, zi, z0b, z0a, z0d, z0c, zr])
  all_goals (go_wp2_with fail; go_ret; exact ⟨ZN (by rw [R.out]; try rfl), hp.below⟩)
open Go.RowKit
open Go.RowKit
theorem zlk {ty : TypeId} (h : zv Tryz.prog ty = true := by with_reducible first | exact zq | exact ZF | exact zV) : zv Tryz.prog ty = true := h
def twP (p o : Int) : Int := (ZP ⟨p, o⟩).p
theorem zfG (p o : Int) : ZP ⟨p, o⟩ = ⟨twP p o, o⟩ := by unfold twP ZP; split <;> rfl
theorem zkk (p o : Int) : twP p o = if p % (2 * pw o) = 0 then p + pw o else p - pw o := by unfold twP ZP; split <;> rfl
theorem zlf {p o : Int} (h0 : 0 ≤ p) (h1 : p ≤ 256) (h2 : 0 ≤ o) (h3 : o ≤ 8) (h4 : p % pw o = 0) : bits .xor .i64 p (pw o) = twP p o := by
  have : ∀ (a : Fin 257) (b : Fin 9), (a.val : Int) % pw (b.val : Int) = 0 → bits .xor .i64 (a.val : Int) (pw (b.val : Int)) = twP (a.val : Int) (b.val : Int) := by decide +kernel
  have := this ⟨p.toNat, by omega⟩ ⟨o.toNat, by omega⟩
  simp only [Int.toNat_of_nonneg h0, Int.toNat_of_nonneg h2] at this
  exact this h4
theorem zjR (p o : Int) (h0 : 0 ≤ p) (h1 : p ≤ 256) (h2 : 0 ≤ o) (h3 : o ≤ 8) (h4 : p % pw o = 0) (w : World) :
    Calls Tryz.prog 190 #[.agg #[.int .i64 p, .int .i64 o]] w fun e w' => e = .returned (.agg #[.int .i64 (twP p o), .int .i64 o]) ∧ Below w.heap.size w w' := by
  have hp := Hp.start w
  have hx := zlf h0 h1 h2 h3 h4
  clear h4
  go_enter Tryz.func190, Tryz.ntmps190
  go_wp2_with (first | go_skip | ((first | ((refine zf _ rfl ?_); refine lZ hp rfl Zd ?_; clear hp; intro b w1 hp) | ((refine zh _ _ rfl ?_); refine lB hp rfl (za rfl) rfl ?_; clear hp; intro b w1 hp) | ((refine ze _ _ rfl ?_); refine lO hp rfl (za rfl) zq aa5 ?_) | ((refine zd _ _ _ rfl ?_); (first | refine sA hp rfl (za rfl) (za rfl) zJ aa5 ?_ | refine sG hp rfl (za rfl) (za rfl) zJ aa5 ?_); clear hp; intro w1 hp; simp only [spl, z0a, z0b] at hp)); simp only [zc, zb, z0b, z0a]))
  refine zj [_] (zA.one hp.drew at1) [9] [(0, true), (1, true), (2, true), (3, true), (6, true), (7, true), (4, false), (5, true), (8, true), (9, false)] (by kernel_rfl) (by kernel_rfl) rfl (by kernel_rfl) (fun _ _ d _ _ h => by cases d <;> exact h) ?_
  replace hp := hp.drew
  repeat' (with_reducible refine zH ?_); first | (with_reducible refine zy ?_) | ((with_reducible refine zU ?_); refine zF rfl ?_; (first | ((with_reducible refine Zt _ _ rfl ?_); refine tO rfl (za rfl) zq aa5 ?_) | refine tG (fun w _ => (by go_simp; try rfl)) ?_); try simp only [zc, zb, zl, zi, z0b, z0a, z0d, z0c, zr]) | (refine Zh rfl (fun K hK => ?_); go_wp2_with (first | (go_at_call 142; refine (Zr _ (by omega) (by omega) _).mono ?_; rintro e w' ⟨rfl, rfl⟩) | go_skip | (((refine zd _ _ _ rfl ?_); (first | refine sA hp rfl (za rfl) (za rfl) zJ aa5 ?_ | refine sG hp rfl (za rfl) (za rfl) zJ aa5 ?_); clear hp; intro w1 hp; simp only [spl, z0a, z0b] at hp); simp only [zc, zb, z0b, z0a])); (first | refine hK.out _ _ (.inl rfl) ?_ | refine hK.out _ _ (.inr (zA.one hp aa5)) ?_); clear hK K; try simp only [zc, zb, zl, zi, z0b, z0a, z0d, z0c, zr])
  go_wp2_with fail
  exact bodyPost_ret (ZQ (rs := [.cell 2 146]) Tryz.results190 (.cell rfl (hp.loadAgg zJ at0 0 _ (by rfl) (by rfl)) .nil)) rfl ⟨rfl, hp.below⟩
open Go.RowKit
theorem zlg {ty : TypeId} (h : zv Tryz.prog ty = true := by with_reducible first | exact zq | exact ZF | exact zV) : zv Tryz.prog ty = true := h
def zfR (order : Int) (l : List Bl) (j : Nat) (e p o : Int) : Prop := zbi order (l.take j) ∧ ((j = 0 ∧ e = 0 ∧ p = -1 ∧ o = 0) ∨ ∃ i z, j = i + 1 ∧ l[i]? = some z ∧ z.p = p ∧ z.o = o ∧ e = p + pw o)
def zgs (b : Bool) : Int := if b then 0 else 1
theorem zdj {order : Int} {l : List Bl} (hr : zW order = true) (h : zbi order l) : Zf order l = true := by simp [Zf, hr, h]
theorem zcY {order : Int} {l : List Bl} (h : ¬ zbi order l) : Zf order l = false := by simp [Zf, h]
theorem zfS {order : Int} {l : List Bl} (h : zW order = false) : Zf order l = false := by simp [Zf, h]
theorem zip {order p o : Int} (h : zdf order p o = true) : zaS order ⟨p, o⟩ := by simpa [zdf] using h
theorem zhs {order p o : Int} (h8 : order ≤ 8) (h : zaS order ⟨p, o⟩) : 0 ≤ p ∧ p ≤ 256 ∧ 0 ≤ o ∧ o ≤ 8 ∧ p % pw o = 0 ∧ p + pw o ≤ 256 := by
  obtain ⟨a, b, c, d, e⟩ := h
  simp only at a b c d e
  have := zc5 h8
  have := zE o
  exact ⟨c, by omega, a, by omega, e, by omega⟩
theorem zdm {p o : Int} (h0 : 0 ≤ p) (h : p % pw o = 0) : 0 ≤ twP p o := by
  have := zE o
  rw [zkk]
  split
  · omega
  · rename_i hn
    by_cases hlt : p < pw o
    · rw [Int.emod_eq_of_lt h0 hlt] at h
      subst h
      exact absurd (by simp) hn
    · omega
theorem ziU {order : Int} {l : List Bl} {j : Nat} {e lp lo p o : Int} (hr : zW order = true) (h8 : order ≤ 8) (h : zfR order l j e lp lo) (hx : l[j]? = some ⟨p, o⟩) :
    (zdf order p o = false ∧ Zf order l = false) ∨
    (zdf order p o = true ∧ decide (p < e) = true ∧ Zf order l = false) ∨
    (zdf order p o = true ∧ decide (p < e) = false ∧ decide (o < order) = false ∧ 0 ≤ o ∧ o ≤ 8 ∧ wrap64 (p + pw o) = p + pw o ∧ zfR order l (j + 1) (p + pw o) p o) ∨
    (zdf order p o = true ∧ decide (p < e) = false ∧ decide (o < order) = true ∧ (0 ≤ p ∧ p ≤ 256 ∧ 0 ≤ o ∧ o ≤ 8 ∧ Hid (p % pw o = 0)) ∧ (lp == twP p o) = false ∧ wrap64 (p + pw o) = p + pw o ∧ zfR order l (j + 1) (p + pw o) p o) ∨
    (zdf order p o = true ∧ decide (p < e) = false ∧ decide (o < order) = true ∧ (0 ≤ p ∧ p ≤ 256 ∧ 0 ≤ o ∧ o ≤ 8 ∧ Hid (p % pw o = 0)) ∧ (lp == twP p o) = true ∧ (lo == o) = false ∧ wrap64 (p + pw o) = p + pw o ∧ zfR order l (j + 1) (p + pw o) p o) ∨
    (zdf order p o = true ∧ decide (p < e) = false ∧ decide (o < order) = true ∧ (0 ≤ p ∧ p ≤ 256 ∧ 0 ≤ o ∧ o ≤ 8 ∧ Hid (p % pw o = 0)) ∧ (lp == twP p o) = true ∧ (lo == o) = true ∧ decide (0 ≤ lp) = true ∧ Zf order l = false) := by
  obtain ⟨hg, hs⟩ := h
  cases hm : zdf order p o
  · left
    refine ⟨rfl, zcY fun hG => ?_⟩
    have := (hG j _ hx).1
    simp [zdf, this] at hm
  right
  have hmay := zip hm
  obtain ⟨f1, f2, f3, f4, f5, f6⟩ := zhs h8 hmay
  have f7 := zE o
  have hw : wrap64 (p + pw o) = p + pw o := by unfold wrap64; omega
  by_cases he : p < e
  · left
    refine ⟨rfl, by simp [he], zcY fun hG => ?_⟩
    rcases hs with ⟨rfl, rfl, _⟩ | ⟨i, z, rfl, hz, rfl, rfl, rfl⟩
    · omega
    · have := ((hG (i + 1) _ hx).2 i z (by omega) hz).1
      simp only at this
      omega
  right
  have hnext : ¬ (o < order ∧ lp = twP p o ∧ lo = o) → zfR order l (j + 1) (p + pw o) p o := by
    intro hno
    refine ⟨(zbi.snoc hx).2 ⟨hg, hmay, ?_⟩, .inr ⟨j, _, rfl, hx, rfl, rfl, rfl⟩⟩
    rcases hs with ⟨rfl, _⟩ | ⟨i, z, rfl, hz, rfl, rfl, rfl⟩
    · intro k x hk; omega
    · refine zbi.step hg hz hmay (by simp only; omega) ?_
      rintro ⟨h1, h2⟩
      rw [zfG] at h2
      refine hno ⟨h1, ?_, ?_⟩ <;> rw [← h2]
  by_cases ho : o < order
  · by_cases h1 : lp = twP p o
    · by_cases h2 : lo = o
      · right; right; right
        refine ⟨rfl, by simp; omega, by simp [ho], ⟨f1, f2, f3, f4, z0j f5⟩, by simp [h1], by simp [h2], ?_, zcY fun hG => ?_⟩
        · have := zdm f1 f5
          simp [h1, this]
        · rcases hs with ⟨rfl, _, h3, _⟩ | ⟨i, z, rfl, hz, rfl, rfl, rfl⟩
          · have := zdm f1 f5
            omega
          · refine ((hG (i + 1) _ hx).2 i z (by omega) hz).2 ⟨ho, ?_⟩
            rw [zfG, ← h1]
            obtain ⟨zp, zo⟩ := z
            simp only at h2
            rw [h2]
      · right; right; left
        exact ⟨rfl, by simp; omega, by simp [ho], ⟨f1, f2, f3, f4, z0j f5⟩, by simp [h1], by simp [h2], hw, hnext fun h => h2 h.2.2⟩
    · right; left
      exact ⟨rfl, by simp; omega, by simp [ho], ⟨f1, f2, f3, f4, z0j f5⟩, by simp [h1], hw, hnext fun h => h1 h.2.1⟩
  · left
    exact ⟨rfl, by simp; omega, by simp; omega, f3, f4, hw, hnext fun h => ho h.1⟩
def zks (order : Int) (l : List Bl) (w : World) (b6 k : Nat) (e i : Value) (wr : World) : Prop :=
  ∃ (j : Nat) (en lp lo : Int), k + j = l.length ∧ i = .int .i64 j ∧ e = .int .i64 en ∧ zfR order l j en lp lo ∧ Hp w.heap.size w wr [⟨b6, [.int .i64 lp, .int .i64 lo], 146, 2⟩]
theorem zeD (order : Int) (h3 : 3 ≤ order) (h8 : order ≤ 8) (l : List Bl) (a : Option Addr) (c : Nat) (hl : l.length ≤ 600) (w : World) (ha : zm w a (l.flatMap blV)) :
    Calls Tryz.prog 140 #[.int .i64 order, .slice a l.length c] w fun e w' => e = .returned (.int .i64 (zgs (Zf order l))) ∧ Below w.heap.size w w' := by
  have hr : zW order = true := by simp [zW]; omega
  have K36 := z0j (zbB order)
  rw [hr] at K36
  have HR := z0j hr
  clear hr
  have hp := Hp.start w
  have HA := z0j ha
  clear ha
  go_enter Tryz.func140, Tryz.ntmps140
  go_wp2_with (first | (go_at_call 188; refine (K36.out _).mono ?_; rintro e w' ⟨rfl, rfl⟩) | go_skip | ((first | ((refine zf _ rfl ?_); refine lZ hp rfl Zd ?_; clear hp; intro b w1 hp) | ((refine ze _ _ rfl ?_); first | refine lO hp rfl (za rfl) zq aa5 ?_ | refine lA hp rfl (za rfl) zJ aa5 ?_) | ((refine zd _ _ _ rfl ?_); (first | refine sA hp rfl (za rfl) (za rfl) zJ aa5 ?_ | refine sG hp rfl (za rfl) (za rfl) zJ aa5 ?_); clear hp; intro w1 hp; simp only [spl, z0a, z0b] at hp)); simp only [zc, zb, z0b, z0a]))
  go_loopg [5, 15] l.length (fun k e i wr => zks order l w b k e i wr)
  case atStart => exact ⟨0, 0, -1, 0, by omega, rfl, rfl, ⟨by simpa using zbi.nil order, .inl ⟨rfl, rfl, rfl, rfl⟩⟩, hp⟩
  case round =>
    clear hp
    obtain ⟨j, en, lp, lo, hkj, rfl, rfl, hat, hp⟩ := hrel
    by_cases hlt : j < l.length
    · obtain ⟨bq, off, rfl, hx⟩ := HA.out.elems 2 za8 (by omega) (by omega)
      have hj := List.getElem?_eq_getElem hlt
      replace hx := hx j _ hj
      generalize l[j] = x at hx hj
      obtain ⟨p, o⟩ := x
      simp only [blV] at hx
      have HX := z0j hx
      have W9 := z0j (ziU HR.out h8 hat hj)
      clear hx hj hat
      have e1 : (0 : Int) ≤ (j : Int) := by omega
      have e2 : (j : Int) < (l.length : Int) := by omega
      go_wp2_with (first | go_skip | ((first | ((refine zf _ rfl ?_); refine lZ hp rfl Zd ?_; clear hp; intro b w1 hp) | ((refine ze _ _ rfl ?_); first | refine lO hp rfl (za rfl) zq aa5 ?_ | refine lRO hp rfl (za rfl) zq (by first | exact HX.out 0 _ rfl | exact HX.out 1 _ rfl) ?_ | refine lA hp rfl (za rfl) zJ aa5 ?_ | refine lR hp rfl (za rfl) zJ HX.out ?_) | ((refine zd _ _ _ rfl ?_); (first | refine sA hp rfl (za rfl) (za rfl) zJ aa5 ?_ | refine sG hp rfl (za rfl) (za rfl) zJ aa5 ?_); clear hp; intro w1 hp; simp only [spl, z0a, z0b] at hp)); simp only [zc, zb, z0b, z0a]))
      refine zj _ (zA.all hp.drew) [] [(0, true), (1, true), (2, false), (3, true), (4, true), (5, true), (6, true), (7, true), (8, true), (9, true), (10, true), (11, true), (12, true), (13, true), (14, true), (15, true), (16, true), (17, true), (18, false), (19, true), (20, true), (21, true), (22, true), (23, true), (24, true), (25, true), (26, true)] (by kernel_rfl) (by kernel_rfl) rfl (by kernel_rfl) (fun _ _ d _ _ h => by cases d <;> exact h) ?_
      replace hp := hp.drew
      rcases W9.out with ⟨d1, r⟩ | ⟨d1, d2, r⟩ | ⟨d1, d2, d3, f0, f1, fw, r⟩ | ⟨d1, d2, d3, f, d4, fw, r⟩ | ⟨d1, d2, d3, f, d4, d5, fw, r⟩ | ⟨d1, d2, d3, f, d4, d5, d6, r⟩
      all_goals have R := z0j r
      all_goals clear r W9
      all_goals
        repeat' (with_reducible refine zH ?_); first | (with_reducible refine zy ?_) | ((with_reducible refine zU ?_); refine zF rfl ?_; (first | ((with_reducible refine zca _ _ rfl ?_); refine tS (by first | exact Zp rfl rfl rfl rfl | exact Zq rfl rfl rfl rfl) ?_) | ((with_reducible refine Zy _ rfl ?_); refine tM rfl ?_) | ((with_reducible refine Zt _ _ rfl ?_); first | refine tA rfl (za rfl) zJ aa5 ?_ | refine tO rfl (za rfl) zq aa5 ?_) | refine tG (fun w _ => (by go_simp; try rfl)) ?_); try simp only [zc, zb, zl, zi, z0b, z0a, z0d, z0c, zr]) | (refine Zh rfl (fun K hK => ?_); go_wp2_with (first | (go_at_call 189; refine (zk8 _ h3 h8 _ _ _).mono ?_; rintro e w1 ⟨rfl, hb⟩; rw [d1]; replace hp := hp.call hb; clear hb) | (go_at_call 190; refine (zjR _ _ f.1 f.2.1 f.2.2.1 f.2.2.2.1 f.2.2.2.2.out _).mono ?_; rintro e w1 ⟨rfl, hb⟩; replace hp := hp.call hb; clear hb) | go_skip); (refine hK.out _ _ (.inr (zgD hp)) ?_); clear hK K; try simp only [zc, zb, zl, zi, z0b, z0a, z0d, z0c, zr])
      all_goals first
        | (go_wp2_with fail
           go_ret
           exact ⟨zc2 (by rw [R.out]; rfl), hp.below⟩)
        | (try obtain ⟨_, _, f0, f1, _⟩ := f
           go_wp2_with (first | go_skip | ((first | ((refine zf _ rfl ?_); refine lZ hp rfl Zd ?_; clear hp; intro b w1 hp) | ((refine ze _ _ rfl ?_); first | refine lO hp rfl (za rfl) zq aa5 ?_ | refine lA hp rfl (za rfl) zJ aa5 ?_) | ((refine zd _ _ _ rfl ?_); (first | refine sA hp rfl (za rfl) (za rfl) zJ aa5 ?_ | refine sG hp rfl (za rfl) (za rfl) zJ aa5 ?_); clear hp; intro w1 hp; simp only [spl, z0a, z0b] at hp)); simp only [zc, zb, z0b, z0a]))
           refine zj [_, _] (zA.two hp.drew at0 at1) [8] [(0, true), (1, true), (2, true), (3, true), (6, true), (4, false), (5, true), (7, false), (8, false)] (by kernel_rfl) (by kernel_rfl) rfl (by kernel_rfl) (fun _ _ d _ _ h => by cases d <;> exact h) ?_
           replace hp := hp.drew
           repeat' (with_reducible refine zH ?_); first | (with_reducible refine zy ?_) | ((with_reducible refine zU ?_); refine zF rfl ?_; (first | ((with_reducible refine Zt _ _ rfl ?_); first | refine tA rfl (za rfl) zJ aa5 ?_ | refine tO rfl (za rfl) zq aa5 ?_) | refine tG (fun w _ => (by go_simp; try rfl)) ?_); try simp only [zc, zb, zl, zi, z0b, z0a, z0d, z0c, zr]) | (refine Zh rfl (fun K hK => ?_); go_wp2_with (first | (go_at_call 142; refine (Zr _ (by omega) (by omega) _).mono ?_; rintro e w' ⟨rfl, rfl⟩) | go_skip | (((refine zd _ _ _ rfl ?_); (first | refine sA hp rfl (za rfl) (za rfl) zJ aa5 ?_ | refine sG hp rfl (za rfl) (za rfl) zJ aa5 ?_); clear hp; intro w1 hp; simp only [spl, z0a, z0b] at hp); simp only [zc, zb, z0b, z0a])); (first | refine hK.out _ _ (.inl rfl) ?_ | refine hK.out _ _ (.inr (zA.two hp aa5 aa5)) ?_); clear hK K; try simp only [zc, zb, zl, zi, z0b, z0a, z0d, z0c, zr])
           go_wp2_with fail
           go_roundg (gk - 1)
           case measure => omega
           case rel => exact ⟨j + 1, p + pw o, p, o, by omega, by go_num, by rw [fw], R.out, hp.tail⟩)
    · have e2 : decide ((j : Int) < (l.length : Int)) = false := by simp; omega
      have HG : Hid (Zf order l = true) := z0j (zdj HR.out (by have := hat.1; rwa [List.take_of_length_le (by omega)] at this))
      clear hat
      go_wp2_with fail
      go_ret
      exact ⟨zc2 (by rw [HG.out]; rfl), hp.below⟩
theorem zh1 (order : Int) (l : List Bl) (a : Option Addr) (c : Nat) (hl : l.length ≤ 600) (w : World) (ha : zm w a (l.flatMap blV)) :
    Calls Tryz.prog 140 #[.int .i64 order, .slice a l.length c] w fun e w' => e = .returned (.int .i64 (zgs (Zf order l))) ∧ Below w.heap.size w w' := by
  cases hr : zW order
  · rw [zfS hr]
    have K36 := z0j (zbB order)
    rw [hr] at K36
    clear hr ha
    go_enter Tryz.func140, Tryz.ntmps140
    go_wp2_with (go_at_call 188; refine (K36.out _).mono ?_; rintro e w' ⟨rfl, rfl⟩)
    go_ret
    exact ⟨rfl, Below.refl _ _⟩
  · have := hr
    simp only [zW, decide_eq_true_eq] at this
    exact zeD order this.1 this.2 l a c hl w ha
open Go.RowKit
def zec (l : List Bl) (want : Int) : Bool := l.any fun x => decide (want ≤ x.o)
theorem zg0 {l : List Bl} {want : Int} {j : Nat} {x : Bl} (h : l[j]? = some x) (hw : want ≤ x.o) : zec l want = true := by
  unfold zec
  exact List.any_eq_true.2 ⟨x, List.mem_of_getElem? h, by simp [hw]⟩
open Go.RowKit
theorem zkW (l : List Bl) : (l.flatMap blV).all (·.oneCell') = true := by
  rw [List.all_eq_true]; intro u hu; obtain ⟨x, _, hx⟩ := List.mem_flatMap.1 hu; simp [blV] at hx; rcases hx with rfl | rfl <;> rfl
theorem zkv (a : Int) (w : World) : Calls Tryz.prog 174 #[.int .i64 a] w fun e w' => e = .returned (.bool false) ∧ w = w' := by
  go_enter Tryz.func174, Tryz.ntmps174
  go_wp2
  go_ret
  exact ⟨rfl, rfl⟩
theorem zjm (a b : Int) (w : World) : Calls Tryz.prog 112 #[.int .i64 a, .int .i64 b] w fun e w' => e = .returned (.int .i64 (zeI a b)) ∧ w = w' := by
  go_enter Tryz.func112, Tryz.ntmps112
  go_wp2_with (go_at_call 174; (with_reducible refine (zkv _ _).mono ?_); rintro e w' ⟨rfl, rfl⟩)
  all_goals go_ret
  all_goals refine ⟨zc2 ?_, rfl⟩
  all_goals (simp [zeI, *])
  all_goals omega
theorem zhx (d : Nat) (n c : Nat) (w : World) : (Op.equalIn (d + 1) 62 (.slice none n c) (.slice none 0 0)).run Tryz.prog w = .ok true w := by
  rw [Op.equalIn]; simp [Sem.run_bind, run_underlying Tryz.underlying62]
theorem zf1 (d : Nat) (a : Addr) (n c : Nat) (w : World) : (Op.equalIn (d + 1) 62 (.slice (some a) n c) (.slice none 0 0)).run Tryz.prog w = .ok false w := by
  rw [Op.equalIn]; simp [Sem.run_bind, run_underlying Tryz.underlying62]
theorem zhM (n c : Nat) (w : World) : (binOp .eql 62 (.slice none n c) (.slice none 0 0)).run Tryz.prog w = .ok (.bool true) w := by
  have h : (Op.equalIn 10000 62 (.slice none n c) (.slice none 0 0)).run Tryz.prog w = .ok true w := zhx 9999 n c w
  simp only [binOp]
  simp [Op.equal, Op.maxDepth, h]
theorem zgC (a : Addr) (n c : Nat) (w : World) : (binOp .eql 62 (.slice (some a) n c) (.slice none 0 0)).run Tryz.prog w = .ok (.bool false) w := by
  have h : (Op.equalIn 10000 62 (.slice (some a) n c) (.slice none 0 0)).run Tryz.prog w = .ok false w := zf1 9999 a n c w
  simp only [binOp]
  simp [Op.equal, Op.maxDepth, h]
def zeQ (w : World) (n : Nat) (xs : List Value) (e : Ending) (w' : World) : Prop := ∃ v R, e = .returned v ∧ zu 146 2 v n xs R ∧ Hp w.heap.size w w' R
theorem zhQ (a : Option Addr) (n c : Nat) (hn : n ≤ 2000) (xs : List Value) (hl : xs.length = n * 2) (h1 : xs.all (·.oneCell') = true) (w : World) (ha : zm w a xs) :
    Calls Tryz.prog 143 #[.slice a n c] w (zeQ w n xs) := by
  obtain ⟨i0, hi0, hz0, hz1, hz2⟩ := info_parts zcB
  have hp := Hp.start w
  cases a with
  | none =>
    have hn0 : n = 0 := by
      rcases Nat.eq_zero_or_pos n with h | h
      · exact h
      · obtain ⟨b, off, he, _⟩ := ha.addr (by omega)
        cases he
    subst hn0
    have hx : xs = [] := List.eq_nil_of_length_eq_zero (by simpa using hl)
    subst hx
    clear ha hl h1
    have hq := zhM
    go_enter Tryz.func143, Tryz.ntmps143
    go_wp2
    go_ret
    exact ⟨_, [], rfl, zu.nil _ _, hp⟩
  | some a =>
    have HA := z0j ha
    have HL := z0j hl
    have H1 := z0j h1
    have sm1 : 0 + n ≤ maxLen := by unfold maxLen; omega
    have sm2 : (0 + n) * 16 ≤ 140737488355328 := by omega
    clear ha hl h1
    have hq := zgC
    go_enter Tryz.func143, Tryz.ntmps143
    go_wp2_with (first | ((refine zg _ _ _ rfl ?_); refine ZJ hp _ _ _ rfl wy [] 146 (by intro w; go_simp; try rfl) ?_; clear hp; intro b w1 hp; simp only [zc, zb, z0b, z0a]) | ((refine zO _ _ 62 rfl ?_); refine z7 (K := []) (R := [⟨b, [], 146, 0 * 2⟩]) (M := []) hp _ _ _ rfl wy i0 _ 16 Tryz.underlying62 hi0 hz0 hz1 hz2 rfl (by decide) (za rfl) ⟨rfl, .inr ⟨b, 0, rfl, Nat.le_refl _, Nat.zero_le _, rfl⟩⟩ (some a) n c (za rfl) xs HL.out (HA.out.below hp.below) H1.out sm1 sm2 ?_; clear hp; intro v' R' w1 hR' hp; have HR' := z0j hR'; clear hR'; simp only [zc, zb, z0b, z0a]) | go_skip)
    go_ret
    exact ⟨v', R', rfl, by simpa using HR'.out, by simpa using hp⟩
open Go.RowKit
def AtB (l : List Bl) (t : Int) (k : Nat) : Prop := k ≤ l.length ∧ (∀ (j : Nat) y, l[j]? = some y → j < k → y.p < t) ∧ (∀ (j : Nat) y, l[j]? = some y → k ≤ j → t ≤ y.p)
def zff (l : List Bl) : Prop := ∀ (i j : Nat) x y, i < j → l[i]? = some x → l[j]? = some y → x.p < y.p
open Go.RowKit
open Go.RowKit
def zi8 (l : List Bl) (want : Int) (n : Nat) (i : Int) : Prop :=
  (i = -1 ∧ ∀ (k : Nat) x, k < n → l[k]? = some x → ¬ want ≤ x.o) ∨
  ∃ (k : Nat) (z : Bl), i = (k : Int) ∧ k < n ∧ l[k]? = some z ∧ want ≤ z.o ∧ ∀ (k' : Nat) x, k' < n → l[k']? = some x → want ≤ x.o → z.o ≤ x.o ∧ (x.o = z.o → k ≤ k')
theorem zi8.great {l : List Bl} {want i : Int} (h : zi8 l want l.length i) : decide (0 ≤ i) = zec l want := by
  rcases h with ⟨rfl, h⟩ | ⟨k, z, rfl, hk, hz, hw, h⟩
  · have : zec l want = false := by
      unfold zec
      rw [List.any_eq_false]
      intro x hx
      obtain ⟨k, hk, rfl⟩ := List.getElem_of_mem hx
      have := h k _ hk (List.getElem?_eq_getElem hk)
      simpa using this
    rw [this]; decide
  · rw [zg0 hz hw]; simp
open Go.RowKit
end Go.Proofs.YtjcbpfbifbfkcaaGreat
