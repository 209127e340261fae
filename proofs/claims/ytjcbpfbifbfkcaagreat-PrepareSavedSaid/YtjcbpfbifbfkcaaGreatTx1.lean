import Derived.Test.YtjcbpfbifbfkcaaGreatTx0
import Derived.LoopTactic
import Derived.Lib.Hide
import Derived.Test.YtjcbpfbifbfkcaaGreatRows
import Derived.Deep.LoopGhost
set_option linter.unusedSimpArgs false
set_option linter.unusedVariables false
set_option maxRecDepth 100000
set_option maxHeartbeats 60000000
namespace Go.Proofs.YtjcbpfbifbfkcaaGreat
structure Bl where
  p : Int
  o : Int
  deriving DecidableEq
def blV (x : Bl) : List Value := [.int .i64 x.p, .int .i64 x.o]
theorem zbn (x : Bl) : (blV x).length = 2 := rfl
def pw (o : Int) : Int := (2 : Int) ^ o.toNat
theorem zK (o : Int) : 1 ≤ pw o := by
  unfold pw
  have := Int.pow_pos (n := 2) (m := o.toNat) (by omega)
  omega
theorem za5 {o : Int} (h0 : 0 ≤ o) (h8 : o ≤ 8) : o = 0 ∨ o = 1 ∨ o = 2 ∨ o = 3 ∨ o = 4 ∨ o = 5 ∨ o = 6 ∨ o = 7 ∨ o = 8 := by omega
theorem zde {o : Int} (h8 : o ≤ 8) : pw o ≤ 256 := by
  rcases Int.le_total 0 o with h | h
  · rcases za5 h h8 with rfl | rfl | rfl | rfl | rfl | rfl | rfl | rfl | rfl <;> decide
  · have : o.toNat = 0 := by omega
    unfold pw; rw [this]; decide
theorem zaM {o : Int} (h : 0 ≤ o) : pw (o + 1) = 2 * pw o := by
  unfold pw
  have : (o + 1).toNat = o.toNat + 1 := by omega
  rw [this, Int.pow_succ]; omega
def za4 (order : Int) (x : Bl) : Prop := 0 ≤ x.o ∧ x.o ≤ order ∧ 0 ≤ x.p ∧ x.p ≤ pw order - pw x.o ∧ x.p % pw x.o = 0
instance (order : Int) (x : Bl) : Decidable (za4 order x) := by unfold za4; infer_instance
def ZV (x : Bl) : Bl := if x.p % (2 * pw x.o) = 0 then ⟨x.p + pw x.o, x.o⟩ else ⟨x.p - pw x.o, x.o⟩
def zme (order : Int) (x y : Bl) : Prop := x.p + pw x.o ≤ y.p ∧ ¬ (y.o < order ∧ ZV y = x)
def zbB (order : Int) (l : List Bl) : Prop := ∀ i y, l[i]? = some y → za4 order y ∧ ∀ (k : Nat) x, k < i → l[k]? = some x → zme order x y
def Zd (order : Int) : Bool := decide (3 ≤ order ∧ order ≤ 8)
open Classical in
noncomputable def Zp (order : Int) (l : List Bl) : Bool := Zd order && decide (zbB order l)
theorem zbB.take {order : Int} {l : List Bl} (h : zbB order l) (n : Nat) : zbB order (l.take n) := by
  intro i y hi
  rw [List.getElem?_take] at hi
  split at hi
  · obtain ⟨h1, h2⟩ := h i y hi
    refine ⟨h1, fun k x hk hx => ?_⟩
    rw [List.getElem?_take, if_pos (by omega)] at hx
    exact h2 k x hk hx
  · cases hi
theorem zbB.nil (order : Int) : zbB order [] := by intro i y h; simp at h
theorem zbB.snoc {order : Int} {l : List Bl} {n : Nat} {y : Bl} (hy : l[n]? = some y) : zbB order (l.take (n + 1)) ↔ zbB order (l.take n) ∧ za4 order y ∧ ∀ (k : Nat) x, k < n → l[k]? = some x → zme order x y := by
  constructor
  · intro h
    refine ⟨?_, ?_⟩
    · have := h.take n
      rw [List.take_take, Nat.min_eq_left (by omega)] at this
      exact this
    · obtain ⟨h1, h2⟩ := h n y (by rw [List.getElem?_take, if_pos (by omega)]; exact hy)
      exact ⟨h1, fun k x hk hx => h2 k x hk (by rw [List.getElem?_take, if_pos (by omega)]; exact hx)⟩
  · rintro ⟨h1, h2, h3⟩ i z hi
    rw [List.getElem?_take] at hi
    split at hi
    · by_cases hin : i = n
      · subst hin
        rw [hy] at hi
        cases hi
        refine ⟨h2, fun k x hk hx => ?_⟩
        rw [List.getElem?_take] at hx
        split at hx
        · exact h3 k x hk hx
        · cases hx
      · obtain ⟨h4, h5⟩ := h1 i z (by rw [List.getElem?_take, if_pos (by omega)]; exact hi)
        refine ⟨h4, fun k x hk hx => h5 k x hk ?_⟩
        rw [List.getElem?_take] at hx ⊢
        rw [if_pos (by omega)] at hx
        rw [if_pos (by omega)]; exact hx
    · cases hi
theorem za4.end_le {order : Int} {x : Bl} (h : za4 order x) : x.p + pw x.o ≤ pw order := by have := h.2.2.2.1; omega
theorem zbB.long {order : Int} {l : List Bl} (h : zbB order l) : ∀ (i : Nat) y, l[i]? = some y → (i : Int) ≤ y.p := by
  intro i
  induction i with
  | zero => intro y hy; have := (h 0 y hy).1.2.2.1; omega
  | succ i ih =>
    intro y hy
    have hlt : i + 1 < l.length := (List.getElem?_eq_some_iff.1 hy).1
    have hx : l[i]? = some l[i] := List.getElem?_eq_getElem (by omega)
    have h1 := ih _ hx
    have h2 := ((h (i + 1) y hy).2 i _ (by omega) hx).1
    have h3 := zK l[i].o
    omega
theorem zbB.len {order : Int} {l : List Bl} (h : zbB order l) (h0 : 3 ≤ order) : (l.length : Int) ≤ pw order := by
  rcases Nat.eq_zero_or_pos l.length with hl | hl
  · have := zK order; omega
  · have hx : l[l.length - 1]? = some l[l.length - 1] := List.getElem?_eq_getElem (by omega)
    have h1 := h.long _ _ hx
    have h2 := (h _ _ hx).1.end_le
    have h3 := zK l[l.length - 1].o
    omega
theorem zbB.step {order : Int} {l : List Bl} {n : Nat} {y z : Bl} (hg : zbB order (l.take (n + 1))) (hz : l[n]? = some z) (hm : za4 order y) (he : z.p + pw z.o ≤ y.p) (ht : ¬ (y.o < order ∧ ZV y = z)) :
    ∀ (k : Nat) x, k < n + 1 → l[k]? = some x → zme order x y := by
  obtain ⟨_, _, h3⟩ := (zbB.snoc hz).1 hg
  intro k x hk hx
  by_cases hkn : k = n
  · subst hkn
    rw [hz] at hx; cases hx
    exact ⟨he, ht⟩
  · have h4 := (h3 k x (by omega) hx).1
    have h5 := zK z.o
    have h7 := zK y.o
    refine ⟨by omega, ?_⟩
    rintro ⟨_, h6⟩
    subst h6
    unfold ZV at h4
    split at h4 <;> simp only at h4 <;> omega
open Go.RowKit
theorem zR : Z6 Tryz.prog 146 2 = true := by kernel_rfl
theorem zn : zx Tryz.prog 3 = true := by kernel_rfl
theorem Zy : zx Tryz.prog 4 = true := by kernel_rfl
theorem zX : zx Tryz.prog 42 = true := by kernel_rfl
theorem Zo : zbz Tryz.prog 146 = some ([.int .i64 0, .int .i64 0], 2) := by kernel_rfl
theorem zdl : (Tryz.prog.info? 146).map (fun i => (i.zero, i.size, i.bytes)) = some (some (.agg #[.int .i64 0, .int .i64 0]), 2, 16) := by kernel_rfl
theorem ZP {a b : Bool} (h : a = b) : Ending.returned (.bool a) = .returned (.bool b) := by rw [h]
theorem zdr {k : IntKind} {a b : Int} (h : a = b) : Ending.returned (.int k a) = .returned (.int k b) := by rw [h]
theorem pw8 : pw 8 = 256 := by decide
theorem zcb (o : Int) (w : World) : Calls Tryz.prog 188 #[.int .i64 o] w fun e w' => e = .returned (.bool (Zd o)) ∧ w = w' := by
  go_enter Tryz.func188, Tryz.ntmps188
  go_wp2
  all_goals go_ret
  all_goals refine ⟨ZP ?_, rfl⟩
  all_goals simp [Zd]
  all_goals omega
theorem ZB (o : Int) (h0 : 0 ≤ o) (h8 : o ≤ 8) (w : World) : Calls Tryz.prog 142 #[.int .i64 o] w fun e w' => e = .returned (.int .i64 (pw o)) ∧ w = w' := by
  rcases za5 h0 h8 with rfl | rfl | rfl | rfl | rfl | rfl | rfl | rfl | rfl
  all_goals
    clear h0 h8
    go_enter Tryz.func142, Tryz.ntmps142
    go_wp2
    go_ret
    exact ⟨zdr (by decide), rfl⟩
open Go.RowKit
theorem zl3 {ty : TypeId} (h : zx Tryz.prog ty = true := by with_reducible first | exact zn | exact Zy | exact zX) : zx Tryz.prog ty = true := h
theorem zj8 (l : List Bl) : (l.flatMap blV).length = l.length * 2 := ZE blV 2 zbn l
def zko (w : World) (order : Int) (e : Ending) (w' : World) : Prop := ∃ b, e = .returned (.tuple #[.slice (some ⟨b, 0, none⟩) 1 1, .int .i64 0]) ∧ zk4 w w' ⟨b, [.int .i64 0, .int .i64 order], 146, 2⟩ ∧ Below w.heap.size w w'
theorem zhD (o : Int) (h : Zd o = false) (w : World) : Calls Tryz.prog 158 #[.int .i64 o] w fun e w' => e = .returned (.tuple #[.slice none 0 0, .int .i64 1]) ∧ Below w.heap.size w w' := by
  have k := zcb o
  rw [h] at k
  have K := z0j k
  clear k h
  go_enter Tryz.func158, Tryz.ntmps158
  go_wp2_with (go_at_call 188; refine (K.out _).mono ?_; rintro e w' ⟨rfl, rfl⟩)
  go_ret2
  exact ⟨rfl, Below.refl _ _⟩
theorem zdX (o : Int) (h : Zd o = true) (w : World) : Calls Tryz.prog 158 #[.int .i64 o] w (zko w o) := by
  have k := zcb o
  rw [h] at k
  have K := z0j k
  clear k h
  have hp := Hp.start w
  go_enter Tryz.func158, Tryz.ntmps158
  go_wp2_with (first | (go_at_call 188; refine (K.out _).mono ?_; rintro e w' ⟨rfl, rfl⟩) | go_skip | (((refine zj _ _ _ rfl ?_); refine lS hp rfl (by intro w; go_simp; rfl) ?_; clear hp; intro b w1 hp; simp only [z0g, z0h, Nat.reduceAdd] at hp); simp only [zc, zb, z0b, z0a]))
  go_ret2
  exact ⟨_, rfl, hp.fresh at0, hp.below⟩
open Go.RowKit
theorem zmy {ty : TypeId} (h : zx Tryz.prog ty = true := by with_reducible first | exact zn | exact Zy | exact zX) : zx Tryz.prog ty = true := h
theorem zlp {p o : Int} (h0 : 0 ≤ p) (h1 : p ≤ 256) (h2 : 0 ≤ o) (h3 : o ≤ 8) : bits .and .i64 p (pw o - 1) = p % pw o := by
  have : ∀ (a : Fin 257) (b : Fin 9), bits .and .i64 (a.val : Int) (pw (b.val : Int) - 1) = (a.val : Int) % pw (b.val : Int) := by decide +kernel
  have := this ⟨p.toNat, by omega⟩ ⟨o.toNat, by omega⟩
  simpa [Int.toNat_of_nonneg h0, Int.toNat_of_nonneg h2] using this
def zdD (order p o : Int) : Bool := decide (za4 order ⟨p, o⟩)
theorem zmY (order p o : Int) (h8 : order ≤ 8) :
    (decide (0 ≤ o) = false ∧ zdD order p o = false) ∨ (0 ≤ o ∧ decide (o ≤ order) = false ∧ zdD order p o = false) ∨
    (0 ≤ o ∧ o ≤ order ∧ decide (0 ≤ p) = false ∧ zdD order p o = false) ∨
    (0 ≤ o ∧ o ≤ order ∧ 0 ≤ p ∧ decide (p ≤ pw order - pw o) = false ∧ wrap64 (pw order - pw o) = pw order - pw o ∧ zdD order p o = false) ∨
    (0 ≤ o ∧ o ≤ order ∧ 0 ≤ p ∧ p ≤ pw order - pw o ∧ wrap64 (pw order - pw o) = pw order - pw o ∧ wrap64 (pw o - 1) = pw o - 1 ∧ bits .and .i64 p (pw o - 1) = p % pw o ∧ zdD order p o = (p % pw o == 0)) := by
  have l1 := zde (o := order) h8
  have l2 := zK o
  have l3 := zK order
  by_cases g1 : 0 ≤ o
  · by_cases g2 : o ≤ order
    · have l4 := zde (o := o) (by omega)
      have w1 : wrap64 (pw order - pw o) = pw order - pw o := by unfold wrap64; omega
      have w2 : wrap64 (pw o - 1) = pw o - 1 := by unfold wrap64; omega
      by_cases g3 : 0 ≤ p
      · by_cases g4 : p ≤ pw order - pw o
        · refine .inr (.inr (.inr (.inr ⟨g1, g2, g3, g4, w1, w2, zlp g3 (by omega) g1 (by omega), ?_⟩)))
          rw [Bool.eq_iff_iff]; simp [zdD, za4, g1, g2, g3, g4]
        · exact .inr (.inr (.inr (.inl ⟨g1, g2, g3, by simp [g4], w1, by simp [zdD, za4, g4]⟩)))
      · exact .inr (.inr (.inl ⟨g1, g2, by simp [g3], by simp [zdD, za4, g3]⟩))
    · exact .inr (.inl ⟨g1, by simp [g2], by simp [zdD, za4, g2]⟩)
  · exact .inl ⟨by simp [g1], by simp [zdD, za4, g1]⟩
theorem zk9 (order : Int) (h3 : 3 ≤ order) (h8 : order ≤ 8) (p o : Int) (w : World) :
    Calls Tryz.prog 189 #[.int .i64 order, .agg #[.int .i64 p, .int .i64 o]] w fun e w' => e = .returned (.bool (zdD order p o)) ∧ Below w.heap.size w w' := by
  have hp := Hp.start w
  have W9 := z0j (zmY order p o h8)
  go_enter Tryz.func189, Tryz.ntmps189
  go_wp2_with (first | go_skip | ((first | ((refine zg _ _ rfl ?_); refine lB hp rfl (za rfl) rfl ?_; clear hp; intro b w1 hp) | ((refine ze _ _ rfl ?_); refine lO hp rfl (za rfl) zn aa5 ?_)); simp only [zc, zb, z0b, z0a]))
  refine zi _ (zC.all hp.drew) [] [(0, true), (1, true), (2, true), (3, true), (4, true), (5, true), (6, true), (7, true), (8, true), (9, true), (10, true), (11, true), (12, true), (13, true), (14, true), (15, true), (16, true), (17, true), (19, true), (20, true), (18, false), (21, false), (22, true), (23, true), (24, true), (25, true), (26, true), (27, true), (28, true), (29, true), (30, false), (31, true), (32, true), (33, true), (34, true), (35, false)] (by kernel_rfl) (by kernel_rfl) rfl (by kernel_rfl) (fun _ _ d _ _ h => by cases d <;> exact h) ?_
  replace hp := hp.drew
  rcases W9.out with ⟨d1, r⟩ | ⟨d1, d2, r⟩ | ⟨d1, d2, d3, r⟩ | ⟨d1, d2, d3, d4, w1, r⟩ | ⟨d1, d2, d3, d4, w1, w2, w3, r⟩
  all_goals have R := z0j r
  all_goals clear r W9
  all_goals
    repeat' (with_reducible refine zD ?_); first | (with_reducible refine zv ?_) | ((with_reducible refine zM ?_); refine zA rfl ?_; (first | ((with_reducible refine zad _ _ rfl ?_); refine tS (by first | exact zI rfl rfl rfl rfl | exact zJ rfl rfl rfl rfl) ?_) | ((with_reducible refine Zk _ rfl ?_); refine tM rfl ?_) | ((with_reducible refine Zg _ _ rfl ?_); refine tO rfl (za rfl) zn aa5 ?_) | refine tG (fun w _ => (by go_simp; try rfl)) ?_); try simp only [zc, zb, zl, zh, z0b, z0a, z0d, z0c, zq]) | (refine zT rfl (fun K hK => ?_); go_wp2_with (first | (go_at_call 142; refine (ZB _ (by omega) (by omega) _).mono ?_; rintro e w' ⟨rfl, rfl⟩) | go_skip); (refine hK.out _ _ (.inr (zdM hp)) ?_); clear hK K; try simp only [zc, zb, zl, zh, z0b, z0a, z0d, z0c, zq])
  all_goals (go_wp2_with fail; go_ret; exact ⟨ZP (by rw [R.out]; try rfl), hp.below⟩)
open Go.RowKit
open Go.RowKit
theorem zl4 {ty : TypeId} (h : zx Tryz.prog ty = true := by with_reducible first | exact zn | exact Zy | exact zX) : zx Tryz.prog ty = true := h
def twP (p o : Int) : Int := (ZV ⟨p, o⟩).p
theorem zf5 (p o : Int) : ZV ⟨p, o⟩ = ⟨twP p o, o⟩ := by unfold twP ZV; split <;> rfl
theorem zlW (p o : Int) : twP p o = if p % (2 * pw o) = 0 then p + pw o else p - pw o := by unfold twP ZV; split <;> rfl
theorem zlI {p o : Int} (h0 : 0 ≤ p) (h1 : p ≤ 256) (h2 : 0 ≤ o) (h3 : o ≤ 8) (h4 : p % pw o = 0) : bits .xor .i64 p (pw o) = twP p o := by
  have : ∀ (a : Fin 257) (b : Fin 9), (a.val : Int) % pw (b.val : Int) = 0 → bits .xor .i64 (a.val : Int) (pw (b.val : Int)) = twP (a.val : Int) (b.val : Int) := by decide +kernel
  have := this ⟨p.toNat, by omega⟩ ⟨o.toNat, by omega⟩
  simp only [Int.toNat_of_nonneg h0, Int.toNat_of_nonneg h2] at this
  exact this h4
theorem zku (p o : Int) (h0 : 0 ≤ p) (h1 : p ≤ 256) (h2 : 0 ≤ o) (h3 : o ≤ 8) (h4 : p % pw o = 0) (w : World) :
    Calls Tryz.prog 190 #[.agg #[.int .i64 p, .int .i64 o]] w fun e w' => e = .returned (.agg #[.int .i64 (twP p o), .int .i64 o]) ∧ Below w.heap.size w w' := by
  have hp := Hp.start w
  have hx := zlI h0 h1 h2 h3 h4
  clear h4
  go_enter Tryz.func190, Tryz.ntmps190
  go_wp2_with (first | go_skip | ((first | ((refine zf _ rfl ?_); refine lZ hp rfl Zo ?_; clear hp; intro b w1 hp) | ((refine zg _ _ rfl ?_); refine lB hp rfl (za rfl) rfl ?_; clear hp; intro b w1 hp) | ((refine ze _ _ rfl ?_); refine lO hp rfl (za rfl) zn aa5 ?_) | ((refine zd _ _ _ rfl ?_); (first | refine sA hp rfl (za rfl) (za rfl) zR aa5 ?_ | refine sG hp rfl (za rfl) (za rfl) zR aa5 ?_); clear hp; intro w1 hp; simp only [spl, z0a, z0b] at hp)); simp only [zc, zb, z0b, z0a]))
  refine zi [_] (zC.one hp.drew at1) [9] [(0, true), (1, true), (2, true), (3, true), (6, true), (7, true), (4, false), (5, true), (8, true), (9, false)] (by kernel_rfl) (by kernel_rfl) rfl (by kernel_rfl) (fun _ _ d _ _ h => by cases d <;> exact h) ?_
  replace hp := hp.drew
  repeat' (with_reducible refine zD ?_); first | (with_reducible refine zv ?_) | ((with_reducible refine zM ?_); refine zA rfl ?_; (first | ((with_reducible refine Zg _ _ rfl ?_); refine tO rfl (za rfl) zn aa5 ?_) | refine tG (fun w _ => (by go_simp; try rfl)) ?_); try simp only [zc, zb, zl, zh, z0b, z0a, z0d, z0c, zq]) | (refine zT rfl (fun K hK => ?_); go_wp2_with (first | (go_at_call 142; refine (ZB _ (by omega) (by omega) _).mono ?_; rintro e w' ⟨rfl, rfl⟩) | go_skip | (((refine zd _ _ _ rfl ?_); (first | refine sA hp rfl (za rfl) (za rfl) zR aa5 ?_ | refine sG hp rfl (za rfl) (za rfl) zR aa5 ?_); clear hp; intro w1 hp; simp only [spl, z0a, z0b] at hp); simp only [zc, zb, z0b, z0a])); (first | refine hK.out _ _ (.inl rfl) ?_ | refine hK.out _ _ (.inr (zC.one hp aa5)) ?_); clear hK K; try simp only [zc, zb, zl, zh, z0b, z0a, z0d, z0c, zq])
  go_wp2_with fail
  exact bodyPost_ret (ZI (rs := [.cell 2 146]) Tryz.results190 (.cell rfl (hp.loadAgg zR at0 0 _ (by rfl) (by rfl)) .nil)) rfl ⟨rfl, hp.below⟩
open Go.RowKit
theorem zlB {ty : TypeId} (h : zx Tryz.prog ty = true := by with_reducible first | exact zn | exact Zy | exact zX) : zx Tryz.prog ty = true := h
def zgH (order : Int) (l : List Bl) (j : Nat) (e p o : Int) : Prop := zbB order (l.take j) ∧ ((j = 0 ∧ e = 0 ∧ p = -1 ∧ o = 0) ∨ ∃ i z, j = i + 1 ∧ l[i]? = some z ∧ z.p = p ∧ z.o = o ∧ e = p + pw o)
def zg6 (b : Bool) : Int := if b then 0 else 1
theorem zdJ {order : Int} {l : List Bl} (hr : Zd order = true) (h : zbB order l) : Zp order l = true := by simp [Zp, hr, h]
theorem zdb {order : Int} {l : List Bl} (h : ¬ zbB order l) : Zp order l = false := by simp [Zp, h]
theorem zgK {order : Int} {l : List Bl} (h : Zd order = false) : Zp order l = false := by simp [Zp, h]
theorem ziX {order p o : Int} (h : zdD order p o = true) : za4 order ⟨p, o⟩ := by simpa [zdD] using h
theorem zhb {order p o : Int} (h8 : order ≤ 8) (h : za4 order ⟨p, o⟩) : 0 ≤ p ∧ p ≤ 256 ∧ 0 ≤ o ∧ o ≤ 8 ∧ p % pw o = 0 ∧ p + pw o ≤ 256 := by
  obtain ⟨a, b, c, d, e⟩ := h
  simp only at a b c d e
  have := zde h8
  have := zK o
  exact ⟨c, by omega, a, by omega, e, by omega⟩
theorem zdI {p o : Int} (h0 : 0 ≤ p) (h : p % pw o = 0) : 0 ≤ twP p o := by
  have := zK o
  rw [zlW]
  split
  · omega
  · rename_i hn
    by_cases hlt : p < pw o
    · rw [Int.emod_eq_of_lt h0 hlt] at h
      subst h
      exact absurd (by simp) hn
    · omega
theorem ziB {order : Int} {l : List Bl} {j : Nat} {e lp lo p o : Int} (hr : Zd order = true) (h8 : order ≤ 8) (h : zgH order l j e lp lo) (hx : l[j]? = some ⟨p, o⟩) :
    (zdD order p o = false ∧ Zp order l = false) ∨
    (zdD order p o = true ∧ decide (p < e) = true ∧ Zp order l = false) ∨
    (zdD order p o = true ∧ decide (p < e) = false ∧ decide (o < order) = false ∧ 0 ≤ o ∧ o ≤ 8 ∧ wrap64 (p + pw o) = p + pw o ∧ zgH order l (j + 1) (p + pw o) p o) ∨
    (zdD order p o = true ∧ decide (p < e) = false ∧ decide (o < order) = true ∧ (0 ≤ p ∧ p ≤ 256 ∧ 0 ≤ o ∧ o ≤ 8 ∧ Hid (p % pw o = 0)) ∧ (lp == twP p o) = false ∧ wrap64 (p + pw o) = p + pw o ∧ zgH order l (j + 1) (p + pw o) p o) ∨
    (zdD order p o = true ∧ decide (p < e) = false ∧ decide (o < order) = true ∧ (0 ≤ p ∧ p ≤ 256 ∧ 0 ≤ o ∧ o ≤ 8 ∧ Hid (p % pw o = 0)) ∧ (lp == twP p o) = true ∧ (lo == o) = false ∧ wrap64 (p + pw o) = p + pw o ∧ zgH order l (j + 1) (p + pw o) p o) ∨
    (zdD order p o = true ∧ decide (p < e) = false ∧ decide (o < order) = true ∧ (0 ≤ p ∧ p ≤ 256 ∧ 0 ≤ o ∧ o ≤ 8 ∧ Hid (p % pw o = 0)) ∧ (lp == twP p o) = true ∧ (lo == o) = true ∧ decide (0 ≤ lp) = true ∧ Zp order l = false) := by
  obtain ⟨hg, hs⟩ := h
  cases hm : zdD order p o
  · left
    refine ⟨rfl, zdb fun hG => ?_⟩
    have := (hG j _ hx).1
    simp [zdD, this] at hm
  right
  have hmay := ziX hm
  obtain ⟨f1, f2, f3, f4, f5, f6⟩ := zhb h8 hmay
  have f7 := zK o
  have hw : wrap64 (p + pw o) = p + pw o := by unfold wrap64; omega
  by_cases he : p < e
  · left
    refine ⟨rfl, by simp [he], zdb fun hG => ?_⟩
    rcases hs with ⟨rfl, rfl, _⟩ | ⟨i, z, rfl, hz, rfl, rfl, rfl⟩
    · omega
    · have := ((hG (i + 1) _ hx).2 i z (by omega) hz).1
      simp only at this
      omega
  right
  have hnext : ¬ (o < order ∧ lp = twP p o ∧ lo = o) → zgH order l (j + 1) (p + pw o) p o := by
    intro hno
    refine ⟨(zbB.snoc hx).2 ⟨hg, hmay, ?_⟩, .inr ⟨j, _, rfl, hx, rfl, rfl, rfl⟩⟩
    rcases hs with ⟨rfl, _⟩ | ⟨i, z, rfl, hz, rfl, rfl, rfl⟩
    · intro k x hk; omega
    · refine zbB.step hg hz hmay (by simp only; omega) ?_
      rintro ⟨h1, h2⟩
      rw [zf5] at h2
      refine hno ⟨h1, ?_, ?_⟩ <;> rw [← h2]
  by_cases ho : o < order
  · by_cases h1 : lp = twP p o
    · by_cases h2 : lo = o
      · right; right; right
        refine ⟨rfl, by simp; omega, by simp [ho], ⟨f1, f2, f3, f4, z0j f5⟩, by simp [h1], by simp [h2], ?_, zdb fun hG => ?_⟩
        · have := zdI f1 f5
          simp [h1, this]
        · rcases hs with ⟨rfl, _, h3, _⟩ | ⟨i, z, rfl, hz, rfl, rfl, rfl⟩
          · have := zdI f1 f5
            omega
          · refine ((hG (i + 1) _ hx).2 i z (by omega) hz).2 ⟨ho, ?_⟩
            rw [zf5, ← h1]
            obtain ⟨zp, zo⟩ := z
            simp only at h2
            rw [h2]
      · right; right; left
        exact ⟨rfl, by simp; omega, by simp [ho], ⟨f1, f2, f3, f4, z0j f5⟩, by simp [h1], by simp [h2], hw, hnext fun h => h2 h.2.2⟩
    · right; left
      exact ⟨rfl, by simp; omega, by simp [ho], ⟨f1, f2, f3, f4, z0j f5⟩, by simp [h1], hw, hnext fun h => h1 h.2.1⟩
  · left
    exact ⟨rfl, by simp; omega, by simp; omega, f3, f4, hw, hnext fun h => ho h.1⟩
def zlK (order : Int) (l : List Bl) (w : World) (b6 k : Nat) (e i : Value) (wr : World) : Prop :=
  ∃ (j : Nat) (en lp lo : Int), k + j = l.length ∧ i = .int .i64 j ∧ e = .int .i64 en ∧ zgH order l j en lp lo ∧ Hp w.heap.size w wr [⟨b6, [.int .i64 lp, .int .i64 lo], 146, 2⟩]
theorem zeF (order : Int) (h3 : 3 ≤ order) (h8 : order ≤ 8) (l : List Bl) (a : Option Addr) (c : Nat) (hl : l.length ≤ 600) (w : World) (ha : zm w a (l.flatMap blV)) :
    Calls Tryz.prog 140 #[.int .i64 order, .slice a l.length c] w fun e w' => e = .returned (.int .i64 (zg6 (Zp order l))) ∧ Below w.heap.size w w' := by
  have hr : Zd order = true := by simp [Zd]; omega
  have K36 := z0j (zcb order)
  rw [hr] at K36
  have HR := z0j hr
  clear hr
  have hp := Hp.start w
  have HA := z0j ha
  clear ha
  go_enter Tryz.func140, Tryz.ntmps140
  go_wp2_with (first | (go_at_call 188; refine (K36.out _).mono ?_; rintro e w' ⟨rfl, rfl⟩) | go_skip | ((first | ((refine zf _ rfl ?_); refine lZ hp rfl Zo ?_; clear hp; intro b w1 hp) | ((refine ze _ _ rfl ?_); first | refine lO hp rfl (za rfl) zn aa5 ?_ | refine lA hp rfl (za rfl) zR aa5 ?_) | ((refine zd _ _ _ rfl ?_); (first | refine sA hp rfl (za rfl) (za rfl) zR aa5 ?_ | refine sG hp rfl (za rfl) (za rfl) zR aa5 ?_); clear hp; intro w1 hp; simp only [spl, z0a, z0b] at hp)); simp only [zc, zb, z0b, z0a]))
  go_loopg [5, 15] l.length (fun k e i wr => zlK order l w b k e i wr)
  case atStart => exact ⟨0, 0, -1, 0, by omega, rfl, rfl, ⟨by simpa using zbB.nil order, .inl ⟨rfl, rfl, rfl, rfl⟩⟩, hp⟩
  case round =>
    clear hp
    obtain ⟨j, en, lp, lo, hkj, rfl, rfl, hat, hp⟩ := hrel
    by_cases hlt : j < l.length
    · obtain ⟨bq, off, rfl, hx⟩ := HA.out.elems 2 zbn (by omega) (by omega)
      have hj := List.getElem?_eq_getElem hlt
      replace hx := hx j _ hj
      generalize l[j] = x at hx hj
      obtain ⟨p, o⟩ := x
      simp only [blV] at hx
      have HX := z0j hx
      have W9 := z0j (ziB HR.out h8 hat hj)
      clear hx hj hat
      have e1 : (0 : Int) ≤ (j : Int) := by omega
      have e2 : (j : Int) < (l.length : Int) := by omega
      go_wp2_with (first | go_skip | ((first | ((refine zf _ rfl ?_); refine lZ hp rfl Zo ?_; clear hp; intro b w1 hp) | ((refine ze _ _ rfl ?_); first | refine lO hp rfl (za rfl) zn aa5 ?_ | refine lRO hp rfl (za rfl) zn (by first | exact HX.out 0 _ rfl | exact HX.out 1 _ rfl) ?_ | refine lA hp rfl (za rfl) zR aa5 ?_ | refine lR hp rfl (za rfl) zR HX.out ?_) | ((refine zd _ _ _ rfl ?_); (first | refine sA hp rfl (za rfl) (za rfl) zR aa5 ?_ | refine sG hp rfl (za rfl) (za rfl) zR aa5 ?_); clear hp; intro w1 hp; simp only [spl, z0a, z0b] at hp)); simp only [zc, zb, z0b, z0a]))
      refine zi _ (zC.all hp.drew) [] [(0, true), (1, true), (2, false), (3, true), (4, true), (5, true), (6, true), (7, true), (8, true), (9, true), (10, true), (11, true), (12, true), (13, true), (14, true), (15, true), (16, true), (17, true), (18, false), (19, true), (20, true), (21, true), (22, true), (23, true), (24, true), (25, true), (26, true)] (by kernel_rfl) (by kernel_rfl) rfl (by kernel_rfl) (fun _ _ d _ _ h => by cases d <;> exact h) ?_
      replace hp := hp.drew
      rcases W9.out with ⟨d1, r⟩ | ⟨d1, d2, r⟩ | ⟨d1, d2, d3, f0, f1, fw, r⟩ | ⟨d1, d2, d3, f, d4, fw, r⟩ | ⟨d1, d2, d3, f, d4, d5, fw, r⟩ | ⟨d1, d2, d3, f, d4, d5, d6, r⟩
      all_goals have R := z0j r
      all_goals clear r W9
      all_goals
        repeat' (with_reducible refine zD ?_); first | (with_reducible refine zv ?_) | ((with_reducible refine zM ?_); refine zA rfl ?_; (first | ((with_reducible refine zad _ _ rfl ?_); refine tS (by first | exact zI rfl rfl rfl rfl | exact zJ rfl rfl rfl rfl) ?_) | ((with_reducible refine Zk _ rfl ?_); refine tM rfl ?_) | ((with_reducible refine Zg _ _ rfl ?_); first | refine tA rfl (za rfl) zR aa5 ?_ | refine tO rfl (za rfl) zn aa5 ?_) | refine tG (fun w _ => (by go_simp; try rfl)) ?_); try simp only [zc, zb, zl, zh, z0b, z0a, z0d, z0c, zq]) | (refine zT rfl (fun K hK => ?_); go_wp2_with (first | (go_at_call 189; refine (zk9 _ h3 h8 _ _ _).mono ?_; rintro e w1 ⟨rfl, hb⟩; rw [d1]; replace hp := hp.call hb; clear hb) | (go_at_call 190; refine (zku _ _ f.1 f.2.1 f.2.2.1 f.2.2.2.1 f.2.2.2.2.out _).mono ?_; rintro e w1 ⟨rfl, hb⟩; replace hp := hp.call hb; clear hb) | go_skip); (refine hK.out _ _ (.inr (zdM hp)) ?_); clear hK K; try simp only [zc, zb, zl, zh, z0b, z0a, z0d, z0c, zq])
      all_goals first
        | (go_wp2_with fail
           go_ret
           exact ⟨zdr (by rw [R.out]; rfl), hp.below⟩)
        | (try obtain ⟨_, _, f0, f1, _⟩ := f
           go_wp2_with (first | go_skip | ((first | ((refine zf _ rfl ?_); refine lZ hp rfl Zo ?_; clear hp; intro b w1 hp) | ((refine ze _ _ rfl ?_); first | refine lO hp rfl (za rfl) zn aa5 ?_ | refine lA hp rfl (za rfl) zR aa5 ?_) | ((refine zd _ _ _ rfl ?_); (first | refine sA hp rfl (za rfl) (za rfl) zR aa5 ?_ | refine sG hp rfl (za rfl) (za rfl) zR aa5 ?_); clear hp; intro w1 hp; simp only [spl, z0a, z0b] at hp)); simp only [zc, zb, z0b, z0a]))
           refine zi [_, _] (zC.two hp.drew at0 at1) [8] [(0, true), (1, true), (2, true), (3, true), (6, true), (4, false), (5, true), (7, false), (8, false)] (by kernel_rfl) (by kernel_rfl) rfl (by kernel_rfl) (fun _ _ d _ _ h => by cases d <;> exact h) ?_
           replace hp := hp.drew
           repeat' (with_reducible refine zD ?_); first | (with_reducible refine zv ?_) | ((with_reducible refine zM ?_); refine zA rfl ?_; (first | ((with_reducible refine Zg _ _ rfl ?_); first | refine tA rfl (za rfl) zR aa5 ?_ | refine tO rfl (za rfl) zn aa5 ?_) | refine tG (fun w _ => (by go_simp; try rfl)) ?_); try simp only [zc, zb, zl, zh, z0b, z0a, z0d, z0c, zq]) | (refine zT rfl (fun K hK => ?_); go_wp2_with (first | (go_at_call 142; refine (ZB _ (by omega) (by omega) _).mono ?_; rintro e w' ⟨rfl, rfl⟩) | go_skip | (((refine zd _ _ _ rfl ?_); (first | refine sA hp rfl (za rfl) (za rfl) zR aa5 ?_ | refine sG hp rfl (za rfl) (za rfl) zR aa5 ?_); clear hp; intro w1 hp; simp only [spl, z0a, z0b] at hp); simp only [zc, zb, z0b, z0a])); (first | refine hK.out _ _ (.inl rfl) ?_ | refine hK.out _ _ (.inr (zC.two hp aa5 aa5)) ?_); clear hK K; try simp only [zc, zb, zl, zh, z0b, z0a, z0d, z0c, zq])
           go_wp2_with fail
           go_roundg (gk - 1)
           case measure => omega
           case rel => exact ⟨j + 1, p + pw o, p, o, by omega, by go_num, by rw [fw], R.out, hp.tail⟩)
    · have e2 : decide ((j : Int) < (l.length : Int)) = false := by simp; omega
      have HG : Hid (Zp order l = true) := z0j (zdJ HR.out (by have := hat.1; rwa [List.take_of_length_le (by omega)] at this))
      clear hat
      go_wp2_with fail
      go_ret
      exact ⟨zdr (by rw [HG.out]; rfl), hp.below⟩
theorem zi5 (order : Int) (l : List Bl) (a : Option Addr) (c : Nat) (hl : l.length ≤ 600) (w : World) (ha : zm w a (l.flatMap blV)) :
    Calls Tryz.prog 140 #[.int .i64 order, .slice a l.length c] w fun e w' => e = .returned (.int .i64 (zg6 (Zp order l))) ∧ Below w.heap.size w w' := by
  cases hr : Zd order
  · rw [zgK hr]
    have K36 := z0j (zcb order)
    rw [hr] at K36
    clear hr ha
    go_enter Tryz.func140, Tryz.ntmps140
    go_wp2_with (go_at_call 188; refine (K36.out _).mono ?_; rintro e w' ⟨rfl, rfl⟩)
    go_ret
    exact ⟨rfl, Below.refl _ _⟩
  · have := hr
    simp only [Zd, decide_eq_true_eq] at this
    exact zeF order this.1 this.2 l a c hl w ha
open Go.RowKit
def zey (l : List Bl) (want : Int) : Bool := l.any fun x => decide (want ≤ x.o)
theorem zh9 {l : List Bl} {want : Int} {j : Nat} {x : Bl} (h : l[j]? = some x) (hw : want ≤ x.o) : zey l want = true := by
  unfold zey
  exact List.any_eq_true.2 ⟨x, List.mem_of_getElem? h, by simp [hw]⟩
open Go.RowKit
theorem zlO (l : List Bl) : (l.flatMap blV).all (·.oneCell') = true := by
  rw [List.all_eq_true]; intro u hu; obtain ⟨x, _, hx⟩ := List.mem_flatMap.1 hu; simp [blV] at hx; rcases hx with rfl | rfl <;> rfl
theorem zlj (a : Int) (w : World) : Calls Tryz.prog 174 #[.int .i64 a] w fun e w' => e = .returned (.bool false) ∧ w = w' := by
  go_enter Tryz.func174, Tryz.ntmps174
  go_wp2
  go_ret
  exact ⟨rfl, rfl⟩
theorem zj0 (a b : Int) (w : World) : Calls Tryz.prog 112 #[.int .i64 a, .int .i64 b] w fun e w' => e = .returned (.int .i64 (zfg a b)) ∧ w = w' := by
  go_enter Tryz.func112, Tryz.ntmps112
  go_wp2_with (go_at_call 174; (with_reducible refine (zlj _ _).mono ?_); rintro e w' ⟨rfl, rfl⟩)
  all_goals go_ret
  all_goals refine ⟨zdr ?_, rfl⟩
  all_goals (simp [zfg, *])
  all_goals omega
theorem zhm (d : Nat) (n c : Nat) (w : World) : (Op.equalIn (d + 1) 62 (.slice none n c) (.slice none 0 0)).run Tryz.prog w = .ok true w := by
  rw [Op.equalIn]; simp [Sem.run_bind, run_underlying Tryz.underlying62]
theorem zgL (d : Nat) (a : Addr) (n c : Nat) (w : World) : (Op.equalIn (d + 1) 62 (.slice (some a) n c) (.slice none 0 0)).run Tryz.prog w = .ok false w := by
  rw [Op.equalIn]; simp [Sem.run_bind, run_underlying Tryz.underlying62]
theorem ziY (n c : Nat) (w : World) : (binOp .eql 62 (.slice none n c) (.slice none 0 0)).run Tryz.prog w = .ok (.bool true) w := by
  have h : (Op.equalIn 10000 62 (.slice none n c) (.slice none 0 0)).run Tryz.prog w = .ok true w := zhm 9999 n c w
  simp only [binOp]
  simp [Op.equal, Op.maxDepth, h]
theorem zii (a : Addr) (n c : Nat) (w : World) : (binOp .eql 62 (.slice (some a) n c) (.slice none 0 0)).run Tryz.prog w = .ok (.bool false) w := by
  have h : (Op.equalIn 10000 62 (.slice (some a) n c) (.slice none 0 0)).run Tryz.prog w = .ok false w := zgL 9999 a n c w
  simp only [binOp]
  simp [Op.equal, Op.maxDepth, h]
def zfm (w : World) (n : Nat) (xs : List Value) (e : Ending) (w' : World) : Prop := ∃ v R, e = .returned v ∧ zy 146 2 v n xs R ∧ Hp w.heap.size w w' R
theorem zjq (a : Option Addr) (n c : Nat) (hn : n ≤ 2000) (xs : List Value) (hl : xs.length = n * 2) (h1 : xs.all (·.oneCell') = true) (w : World) (ha : zm w a xs) :
    Calls Tryz.prog 143 #[.slice a n c] w (zfm w n xs) := by
  obtain ⟨i0, hi0, hz0, hz1, hz2⟩ := info_parts zdl
  have hp := Hp.start w
  cases a with
  | none =>
    have hn0 : n = 0 := by
      rcases Nat.eq_zero_or_pos n with h | h
      · exact h
      · obtain ⟨b, off, he, _⟩ := ha.addr (by omega)
        cases he
    subst hn0
    have hx : xs = [] := List.eq_nil_of_length_eq_zero (by simpa using hl)
    subst hx
    clear ha hl h1
    have hq := ziY
    go_enter Tryz.func143, Tryz.ntmps143
    go_wp2
    go_ret
    exact ⟨_, [], rfl, zy.nil _ _, hp⟩
  | some a =>
    have HA := z0j ha
    have HL := z0j hl
    have H1 := z0j h1
    have sm1 : 0 + n ≤ maxLen := by unfold maxLen; omega
    have sm2 : (0 + n) * 16 ≤ 140737488355328 := by omega
    clear ha hl h1
    have hq := zii
    go_enter Tryz.func143, Tryz.ntmps143
    go_wp2_with (first | ((refine zj _ _ _ rfl ?_); refine ZS hp _ _ _ rfl wy [] 146 (by intro w; go_simp; try rfl) ?_; clear hp; intro b w1 hp; simp only [zc, zb, z0b, z0a]) | ((refine zU _ _ 62 rfl ?_); refine Zj (K := []) (R := [⟨b, [], 146, 0 * 2⟩]) (M := []) hp _ _ _ rfl wy i0 _ 16 Tryz.underlying62 hi0 hz0 hz1 hz2 rfl (by decide) (za rfl) ⟨rfl, .inr ⟨b, 0, rfl, Nat.le_refl _, Nat.zero_le _, rfl⟩⟩ (some a) n c (za rfl) xs HL.out (HA.out.below hp.below) H1.out sm1 sm2 ?_; clear hp; intro v' R' w1 hR' hp; have HR' := z0j hR'; clear hR'; simp only [zc, zb, z0b, z0a]) | go_skip)
    go_ret
    exact ⟨v', R', rfl, by simpa using HR'.out, by simpa using hp⟩
open Go.RowKit
def AtB (l : List Bl) (t : Int) (k : Nat) : Prop := k ≤ l.length ∧ (∀ (j : Nat) y, l[j]? = some y → j < k → y.p < t) ∧ (∀ (j : Nat) y, l[j]? = some y → k ≤ j → t ≤ y.p)
def zfp (l : List Bl) : Prop := ∀ (i j : Nat) x y, i < j → l[i]? = some x → l[j]? = some y → x.p < y.p
open Go.RowKit
open Go.RowKit
def zjQ (l : List Bl) (want : Int) (n : Nat) (i : Int) : Prop :=
  (i = -1 ∧ ∀ (k : Nat) x, k < n → l[k]? = some x → ¬ want ≤ x.o) ∨
  ∃ (k : Nat) (z : Bl), i = (k : Int) ∧ k < n ∧ l[k]? = some z ∧ want ≤ z.o ∧ ∀ (k' : Nat) x, k' < n → l[k']? = some x → want ≤ x.o → z.o ≤ x.o ∧ (x.o = z.o → k ≤ k')
theorem zjQ.great {l : List Bl} {want i : Int} (h : zjQ l want l.length i) : decide (0 ≤ i) = zey l want := by
  rcases h with ⟨rfl, h⟩ | ⟨k, z, rfl, hk, hz, hw, h⟩
  · have : zey l want = false := by
      unfold zey
      rw [List.any_eq_false]
      intro x hx
      obtain ⟨k, hk, rfl⟩ := List.getElem_of_mem hx
      have := h k _ hk (List.getElem?_eq_getElem hk)
      simpa using this
    rw [this]; decide
  · rw [zh9 hz hw]; simp
open Go.RowKit
end Go.Proofs.YtjcbpfbifbfkcaaGreat
