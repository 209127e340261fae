import Derived.Test.YtjcbpfbifbfkcaaGreatOaOI
/- The chapter's examples of Fold. -/
set_option linter.unusedSimpArgs false
set_option linter.unusedVariables false
namespace Go.Proofs.YtjcbpfbifbfkcaaGreat
open Go.RowKit
def En (n : Int) : Env := ⟨n, 0, 0, 0, ⟨0, 0, 0, 0, 0, 0, 0⟩⟩
def okP (x : Kv) : Bool := inM x.vw 0 900000000 && (inM x.nm 0 x.vw && (inM x.bs 0 900000000 && (decide (x.es.length ≤ 4000) && (folB x.bs 0 x.es && entsB x.nm 0 x.es))))
theorem okC_im3 {x : Kv} (h : okP x = true) (hi : x.im = im3) : okC x = true := by
  unfold okP at h
  simp only [Bool.and_eq_true] at h
  obtain ⟨h1, h2, h3, h4, h5, h6⟩ := h
  unfold okC
  rw [h1, h2, h3, h4, h5, h6, hi, stateR_im3]; rfl
theorem foldO_ok {x y : Kv} {r : Rv} (hx : okP x = true) (hi : x.im = im3) (hm : madeK x r = (0, y)) (hy : okP y = true) (hj : y.im = im3) : foldO x r = (0, y) := by
  unfold foldO
  rw [if_pos (okC_im3 hx hi)]
  unfold foldK
  rw [hm, if_pos rfl, if_pos (okC_im3 hy hj)]
theorem foldO_er {x y : Kv} {r : Rv} {c : Int} (hx : okP x = true) (hi : x.im = im3) (hm : madeK x r = (c, y)) (hc : c ≠ 0) : foldO x r = (c, y) := by
  unfold foldO
  rw [if_pos (okC_im3 hx hi)]
  unfold foldK
  rw [hm, if_neg hc]
theorem fold_y (vw nm bs : Int) (im : ByteArray) (ea : Option Addr) (es : List Env) (n ec : Nat) (hn : es.length = n) (kd rv rf rn : Int) (rim : ByteArray) (nu vi cl sq kk hh ii nn cc vv tt : Int) (ra : Option Addr) (rs : List Env) (m rc : Nat) (hm : rs.length = m) (vw' nm' bs' : Int) (im' : ByteArray) (es' : List Env) (q : Nat) (hq : es'.length = q) (a0 : Option Addr) (c0 : Nat) (hr : foldO ⟨vw, nm, bs, im, ea, es, ec⟩ ⟨kd, rv, rf, rn, rim, ⟨nu, vi, cl, sq, ⟨kk, hh, ii, nn, cc, vv, tt⟩⟩, ra, rs, rc⟩ = (0, ⟨vw', nm', bs', im', a0, es', c0⟩)) (hes : n ≤ 1500) (him : im.size ≤ 1000000) (hrs : m ≤ 1500) (hrc : m ≤ rc) (hri : rim.size ≤ 1000000) (w : World) (ha : RowIs w ea (es.flatMap envL)) (hra : RowIs w ra (rs.flatMap envL)) :
    Calls Tryz.prog 19 #[.agg #[.int .i64 vw, .int .i64 nm, .int .i64 bs, .string im, .slice ea n ec], .agg #[.int .i64 kd, .int .i64 rv, .int .i64 rf, .int .i64 rn, .string rim, .int .i64 nu, .int .i64 vi, .int .i64 cl, .int .i64 sq, .int .i64 kk, .int .i64 hh, .int .i64 ii, .int .i64 nn, .int .i64 cc, .int .i64 vv, .int .i64 tt, .slice ra m rc]] w fun e w' => ∃ a c R, e = .returned (.tuple #[.agg #[.int .i64 vw', .int .i64 nm', .int .i64 bs', .string im', .slice a q c], .int .i64 0]) ∧ q ≤ c ∧ SubRow 38 11 (.slice a q c) q (es'.flatMap envL) R ∧ Hp w.heap.size w w' R := by
  subst hn hm hq
  refine (fold19L vw nm bs im ea es ec kd rv rf rn rim nu vi cl sq kk hh ii nn cc vv tt ra rs rc _ hr hes him hrs hrc hri w ha hra).mono fun e w' h => ?_
  obtain ⟨a, c, R, h1, h2, h3, h4⟩ := h.1 rfl
  exact ⟨a, c, R, h1, h2, h3, h4⟩
theorem fold_n (vw nm bs : Int) (im : ByteArray) (ea : Option Addr) (es : List Env) (n ec : Nat) (hn : es.length = n) (kd rv rf rn : Int) (rim : ByteArray) (nu vi cl sq kk hh ii nn cc vv tt : Int) (ra : Option Addr) (rs : List Env) (m rc : Nat) (hm : rs.length = m) (c0 : Int) (y : Kv) (hc : c0 ≠ 0) (hr : foldO ⟨vw, nm, bs, im, ea, es, ec⟩ ⟨kd, rv, rf, rn, rim, ⟨nu, vi, cl, sq, ⟨kk, hh, ii, nn, cc, vv, tt⟩⟩, ra, rs, rc⟩ = (c0, y)) (hes : n ≤ 1500) (him : im.size ≤ 1000000) (hrs : m ≤ 1500) (hrc : m ≤ rc) (hri : rim.size ≤ 1000000) (w : World) (ha : RowIs w ea (es.flatMap envL)) (hra : RowIs w ra (rs.flatMap envL)) :
    Calls Tryz.prog 19 #[.agg #[.int .i64 vw, .int .i64 nm, .int .i64 bs, .string im, .slice ea n ec], .agg #[.int .i64 kd, .int .i64 rv, .int .i64 rf, .int .i64 rn, .string rim, .int .i64 nu, .int .i64 vi, .int .i64 cl, .int .i64 sq, .int .i64 kk, .int .i64 hh, .int .i64 ii, .int .i64 nn, .int .i64 cc, .int .i64 vv, .int .i64 tt, .slice ra m rc]] w fun e w' => e = .returned (.tuple #[.agg #[.int .i64 0, .int .i64 0, .int .i64 0, .string ⟨#[]⟩, .slice none 0 0], .int .i64 c0]) ∧ Below w.heap.size w w' := by
  subst hn hm
  refine (fold19L vw nm bs im ea es ec kd rv rf rn rim nu vi cl sq kk hh ii nn cc vv tt ra rs rc _ hr hes him hrs hrc hri w ha hra).mono fun e w' h => ?_
  exact h.2 hc
theorem f_1 (a : Option Addr) (c : Nat) (b : Option Addr) (d : Nat) : foldO ⟨0, 0, 0, im3, a, [], c⟩ ⟨2, 0, 0, 0, ⟨#[]⟩, ⟨1, 0, 0, 0, ⟨0, 0, 0, 0, 0, 0, 0⟩⟩, b, [], d⟩ = (0, ⟨0, 0, 0, im3, a, [En 1], c⟩) := foldO_ok (by kernel_rfl) rfl (by kernel_rfl) (by kernel_rfl) rfl
theorem f_2 (a : Option Addr) (c : Nat) (b : Option Addr) (d : Nat) : foldO ⟨0, 0, 0, im3, a, [En 1], c⟩ ⟨2, 0, 0, 0, ⟨#[]⟩, ⟨2, 0, 0, 0, ⟨0, 0, 0, 0, 0, 0, 0⟩⟩, b, [], d⟩ = (0, ⟨0, 0, 0, im3, a, [En 1, En 2], c⟩) := foldO_ok (by kernel_rfl) rfl (by kernel_rfl) (by kernel_rfl) rfl
theorem f_3 (a : Option Addr) (c : Nat) (b : Option Addr) (d : Nat) : foldO ⟨0, 0, 0, im3, a, [En 1, En 2], c⟩ ⟨2, 0, 0, 0, ⟨#[]⟩, ⟨4, 0, 0, 0, ⟨0, 0, 0, 0, 0, 0, 0⟩⟩, b, [], d⟩ = (140, ⟨0, 0, 0, im3, a, [En 1, En 2], c⟩) := foldO_er (by kernel_rfl) rfl (by kernel_rfl) (by decide)
theorem f_4 (a : Option Addr) (c : Nat) (b : Option Addr) (d : Nat) : foldO ⟨0, 0, 0, im3, a, [En 1, En 2], c⟩ ⟨1, 3, 0, 0, ⟨#[]⟩, ⟨0, 0, 0, 0, ⟨0, 0, 0, 0, 0, 0, 0⟩⟩, b, [], d⟩ = (0, ⟨3, 0, 0, im3, a, [En 1, En 2], c⟩) := foldO_ok (by kernel_rfl) rfl (by kernel_rfl) (by kernel_rfl) rfl
theorem f_5 (a : Option Addr) (c : Nat) (b : Option Addr) (d : Nat) : foldO ⟨3, 0, 0, im3, a, [En 1, En 2], c⟩ ⟨1, 2, 0, 0, ⟨#[]⟩, ⟨0, 0, 0, 0, ⟨0, 0, 0, 0, 0, 0, 0⟩⟩, b, [], d⟩ = (141, ⟨3, 0, 0, im3, a, [En 1, En 2], c⟩) := foldO_er (by kernel_rfl) rfl (by kernel_rfl) (by decide)
theorem f_6 (a : Option Addr) (c : Nat) (b : Option Addr) (d : Nat) : foldO ⟨3, 0, 0, im3, a, [En 1, En 2], c⟩ ⟨3, 3, 1, 0, ⟨#[]⟩, ⟨0, 0, 0, 0, ⟨0, 0, 0, 0, 0, 0, 0⟩⟩, b, [En 2, En 3], d⟩ = (0, ⟨3, 3, 0, im3, a, [En 1, En 2, En 3], c⟩) := foldO_ok (by kernel_rfl) rfl (by kernel_rfl) (by kernel_rfl) rfl
theorem f_7 (a : Option Addr) (c : Nat) (b : Option Addr) (d : Nat) : foldO ⟨3, 3, 0, im3, a, [En 1, En 2, En 3], c⟩ ⟨4, 0, 0, 2, im3, ⟨0, 0, 0, 0, ⟨0, 0, 0, 0, 0, 0, 0⟩⟩, b, [], d⟩ = (0, ⟨3, 3, 2, im3, a, [En 3], c⟩) := foldO_ok (by kernel_rfl) rfl (by kernel_rfl) (by kernel_rfl) rfl
theorem im3_small : im3.size ≤ 1000000 := by rw [im3_size]; decide
theorem ok_b (a : Option Addr) (c : Nat) : okC ⟨0, 0, 0, im3, a, [En 1, En 2], c⟩ = true := okC_im3 (by kernel_rfl) rfl
theorem ok_d (a : Option Addr) (c : Nat) : okC ⟨3, 3, 0, im3, a, [En 1, En 2, En 3], c⟩ = true := okC_im3 (by kernel_rfl) rfl
theorem ok_x (a : Option Addr) (c : Nat) : okC ⟨3, 3, 2, im3, a, [En 3], c⟩ = true := okC_im3 (by kernel_rfl) rfl
end Go.Proofs.YtjcbpfbifbfkcaaGreat
