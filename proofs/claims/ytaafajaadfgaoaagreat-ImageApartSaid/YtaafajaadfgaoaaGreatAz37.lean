/- Parts of the proof. -/
import Derived.Test.YtaafajaadfgaoaaGreatAz27
import Derived.Test.YtaafajaadfgaoaaGreatAz36
import Derived.Test.YtaafajaadfgaoaaGreatAz2
import Derived.Test.YtaafajaadfgaoaaGreatAz35
import Derived.WalkMore
import Derived.ScopeJumps
import Derived.Test.YtaafajaadfgaoaaGreatAz1
import Derived.Test.YtaafajaadfgaoaaGreatAz5
import Derived.Test.YtaafajaadfgaoaaGreatAz7
/- What is laid is read: the plain law. No program in sight. -/
set_option linter.unusedSimpArgs false
set_option linter.unusedVariables false
namespace Go.Proofs.YtaafajaadfgaoaaGreat
open Go.RowKit
def I64 (v : Int) : Prop := -9223372036854775808 ≤ v ∧ v ≤ 9223372036854775807
theorem beV_beS4 {n : Nat} (h : n < 4294967296) : beV (beS 4 n) = n := by
  have e : beS 4 n = [n / 2 ^ 24 % 256, n / 2 ^ 16 % 256, n / 2 ^ 8 % 256, n / 2 ^ 0 % 256] := rfl
  rw [e]
  simp only [beV, List.foldl_cons, List.foldl_nil]
  omega
theorem beV_beS8 {n : Nat} (h : n < 18446744073709551616) : beV (beS 8 n) = n := by
  have e : beS 8 n = [n / 2 ^ 56 % 256, n / 2 ^ 48 % 256, n / 2 ^ 40 % 256, n / 2 ^ 32 % 256, n / 2 ^ 24 % 256, n / 2 ^ 16 % 256, n / 2 ^ 8 % 256, n / 2 ^ 0 % 256] := rfl
  rw [e]
  simp only [beV, List.foldl_cons, List.foldl_nil]
  omega
theorem wrap_uN {v : Int} (h : I64 v) : wrap64 ((uN v : Nat) : Int) = v := by
  obtain ⟨h1, h2⟩ := h
  rw [uN_cast]; unfold wrap64; omega
theorem numR_put {n : Nat} (h : n ≤ 2147483647) (r : List Nat) : numR (beS 4 n ++ r) = some n := by
  unfold numR
  have e : (beS 4 n ++ r).take 4 = beS 4 n := by rw [List.take_left' (beS_len 4 n)]
  rw [e, beV_beS4 (by omega), if_pos ⟨by rw [List.length_append, beS_len]; omega, h⟩]
theorem nR_put {n : Nat} (h : n ≤ 2147483647) (r : List Nat) : nR (beS 4 n ++ r) = some ((n : Int), r) := by
  unfold nR
  rw [numR_put h]
  show some ((n : Int), (beS 4 n ++ r).drop 4) = _
  rw [List.drop_left' (beS_len 4 n)]
theorem iR_put {v : Int} (h : I64 v) (r : List Nat) : iR (beS 8 (uN v) ++ r) = some (v, r) := by
  unfold iR intR
  rw [if_pos (by rw [List.length_append, beS_len]; omega), List.take_left' (beS_len 8 _), beV_beS8 (uN_lt v), wrap_uN h, Option.map_some, List.drop_left' (beS_len 8 _)]
theorem rep_put {α β : Type} {one : List Nat → Option (β × List Nat)} (f : α → List Nat) (g : α → β) : ∀ (n : Nat) (l : List α), l.length = n → (∀ x ∈ l, ∀ r, one (f x ++ r) = some (g x, r)) → ∀ r, repR one n (l.flatMap f ++ r) = some (l.map g, r)
  | 0, l, hl, _, r => by
    rw [List.length_eq_zero_iff.1 hl]; rfl
  | n + 1, l, hl, h, r => by
    rcases List.eq_nil_or_concat l with rfl | ⟨k, x, rfl⟩
    · cases hl
    rw [List.concat_eq_append] at hl h ⊢
    have hk : k.length = n := by simpa using hl
    have h1 := rep_put f g n k hk (fun y hy => h y (by simp [hy])) (f x ++ r)
    have h2 := h x (by simp) r
    rw [List.flatMap_append, List.append_assoc, show [x].flatMap f = f x by simp]
    rw [repR_step h1 h2, List.map_append]; rfl
theorem rep_ints {l : List Int} (h : ∀ v ∈ l, I64 v) (r : List Nat) : repR iR l.length (bi8 l ++ r) = some (l, r) := by
  have := rep_put (one := iR) (fun v => beS 8 (uN v)) id l.length l rfl (fun v hv r => iR_put (h v hv) r) r
  rw [List.map_id] at this
  exact this
theorem rep_nats {l : List Nat} (h : ∀ v ∈ l, v ≤ 2147483647) (r : List Nat) : repR nR l.length (bn4 l ++ r) = some (l.map fun (n : Nat) => (n : Int), r) := rep_put (one := nR) (fun v => beS 4 v) (fun n => (n : Int)) l.length l rfl (fun v hv r => nR_put (h v hv) r) r
theorem bn4_cons (n : Nat) (l : List Nat) (r : List Nat) : bn4 (n :: l) ++ r = beS 4 n ++ (bn4 l ++ r) := by unfold bn4; rw [List.flatMap_cons, List.append_assoc]
theorem bn4_nil (r : List Nat) : bn4 [] ++ r = r := rfl
def clearO (o : Ob) : Ob := mkOb o.h o.p o.o o.ws o.ls
theorem toNat_list {l : List Int} (h : ∀ t ∈ l, 0 ≤ t) : ((l.map Int.toNat).map fun (n : Nat) => (n : Int)) = l := by
  rw [List.map_map]
  conv => rhs; rw [← List.map_id l]
  exact List.map_congr_left fun x hx => by have := h x hx; simp only [Function.comp_apply, id]; omega
theorem objR_put {o : Ob} (hl : ObLay o) (hn : needI o.ws.length o.ls.length = o.o) (h0 : 0 ≤ o.o) (hw : ∀ v ∈ o.ws, I64 v) (r : List Nat) : objR (obB o ++ r) = some (clearO o, r) := by
  have g1 := hl.h0
  have g2 := hl.h1
  have g3 := hl.p0
  have g4 := hl.p1
  have g5 := hl.wl
  have g6 := hl.ll
  unfold obB
  rw [List.append_assoc, bn4_cons, bn4_cons, bn4_cons, bn4_cons, bn4_nil, List.append_assoc]
  unfold objR
  rw [nR_put (by omega)]; simp only
  rw [nR_put (by omega)]; simp only
  rw [nR_put (by omega)]; simp only
  rw [nR_put (by omega)]; simp only
  rw [hn, if_neg (by omega), Int.toNat_natCast, Int.toNat_natCast, rep_ints hw]; simp only
  rw [show o.ls.length = (o.ls.map Int.toNat).length by simp, rep_nats (fun v hv => by
    obtain ⟨t, ht, rfl⟩ := List.mem_map.1 hv
    have := hl.ls t ht
    omega)]
  simp only
  rw [toNat_list (fun t ht => (hl.ls t ht).1), Int.toNat_of_nonneg g1, Int.toNat_of_nonneg g3]
  rfl
theorem ObsSm.clear (l : List Ob) : ObsSm (l.map clearO) l := by
  refine ⟨by simp, fun i a b ha hb => ?_⟩
  rw [List.getElem?_map, hb] at ha
  simp only [Option.map_some, Option.some.injEq] at ha
  subst ha
  exact ⟨rfl, rfl, rfl, rfl, rfl⟩
def clearH (x : Hv) : Hv := ⟨x.od, none, x.os.map clearO, 0, x.nx, x.t0, x.t1, x.t2, x.t3, none, x.fs, 0⟩
theorem clearH_sm (x : Hv) : (clearH x).Sm x := ⟨rfl, rfl, rfl, rfl, rfl, rfl, ObsSm.clear _, rfl⟩
def Hv.W64 (x : Hv) : Prop := ∀ o ∈ x.os, ∀ v ∈ o.ws, I64 v
theorem heapR0_put {x : Hv} (hx : HRight x) (hw : x.W64) (r : List Nat) : heapR0 (heapB x ++ r) = some (clearH x, r) := by
  have hlay := hright_lay hx
  have hod := hright_od hx
  have hlo := hx.lo
  have hhi := hx.hi
  have hlen := hx.len
  have l0 := leads_lay hx (hx.tops x.t0 (by simp [tops]))
  have l1 := leads_lay hx (hx.tops x.t1 (by simp [tops]))
  have l2 := leads_lay hx (hx.tops x.t2 (by simp [tops]))
  have l3 := leads_lay hx (hx.tops x.t3 (by simp [tops]))
  have hob : ∀ o ∈ x.os, ∀ r, objR (obB o ++ r) = some (clearO o, r) := fun o ho r => objR_put (hlay o ho) (hx.need o ho).1 (by have := (hx.need o ho).2.1; simpa [obBl] using this) (hw o ho) r
  unfold heapB headB
  rw [List.append_assoc, List.append_assoc, List.append_assoc, bn4_cons, bn4_cons, bn4_nil]
  unfold heapR0
  rw [nR_put (by omega)]; simp only
  rw [nR_put (by omega)]; simp only
  unfold heapR1
  rw [show (4 : Nat) = [x.t0.toNat, x.t1.toNat, x.t2.toNat, x.t3.toNat].length from rfl, rep_nats (by intro v hv; simp at hv; omega)]
  simp only
  unfold heapR2
  rw [bn4_cons, bn4_nil, nR_put (by omega)]
  simp only
  rw [if_neg (by omega), Int.toNat_natCast, rep_put obB clearO x.os.length x.os rfl hob]
  simp only
  unfold heapR3
  rw [Int.toNat_of_nonneg (by omega), Int.toNat_of_nonneg (by omega)]
  have hre : regionB x.od = true := by unfold regionB; simp [hod.1, hod.2]
  have hm : mkHv x.od (x.os.map clearO) x.nx ([x.t0.toNat, x.t1.toNat, x.t2.toNat, x.t3.toNat].map fun (n : Nat) => (n : Int)) (lfN (pw x.od) (x.os.map clearO) x.od.toNat 0) = clearH x := by
    rw [lf_sm (ObsSm.clear x.os), left_free hx]
    unfold mkHv clearH
    simp only [List.map_cons, List.map_nil, List.getD_cons_zero, List.getD_cons_succ, Int.toNat_of_nonneg l0.1, Int.toNat_of_nonneg l1.1, Int.toNat_of_nonneg l2.1, Int.toNat_of_nonneg l3.1]
  rw [if_pos hre, hm, if_pos (by rw [hright_sm (clearH_sm x)]; exact hright_yes hx)]
theorem heapR_put {x : Hv} (hx : HRight x) (hw : x.W64) : heapR (heapB x) = some (clearH x) := by
  have h := heapR0_put hx hw []
  rw [List.append_nil] at h
  unfold heapR wholeR
  rw [h]; rfl
theorem rowR_put {x : Rw} (hc : 0 ≤ x.c ∧ x.c ≤ 4 ∧ 0 ≤ x.s ∧ x.s ≤ 1000000 ∧ 0 ≤ x.e ∧ x.e ≤ 65535) (hv : I64 x.v) (r : List Nat) : rowR (rowB x ++ r) = some (x, r) := by
  unfold rowB
  rw [List.append_assoc, bn4_cons, bn4_cons, bn4_cons, bn4_nil]
  unfold rowR
  rw [nR_put (by omega)]; simp only
  rw [nR_put (by omega)]; simp only
  rw [nR_put (by omega)]; simp only
  rw [show bi8 [x.v] ++ r = beS 8 (uN x.v) ++ r by simp [bi8], iR_put hv]
  simp only
  rw [Int.toNat_of_nonneg hc.1, Int.toNat_of_nonneg hc.2.2.1, Int.toNat_of_nonneg hc.2.2.2.2.1]
structure Sv.W64 (x : Sv) : Prop where
  hv : x.hv.W64
  rows : ∀ r ∈ x.rs, I64 r.v
def clearS (x : Sv) : Sv := ⟨clearH x.hv, none, x.rs, 0⟩
theorem clearS_sm (x : Sv) : (clearS x).Sm x := ⟨clearH_sm _, rfl⟩
theorem textR_put {bs : List Nat} (h : bs.length ≤ 65536) (r : List Nat) : textR ((beS 4 bs.length ++ bs) ++ r) = some (bs, r) := by
  unfold textR
  rw [List.append_assoc, numR_put (by omega)]
  simp only
  rw [List.drop_left' (beS_len 4 _)]
  simp [h, beS_len]
  omega
theorem stateR_put {x : Sv} (hx : StR x) (hw : x.W64) : stateR (stateB x) = some (clearS x) := by
  have hlen := heapB_len hx.hv
  have hrl := rowsOk_len hx.rows (by decide)
  unfold stateR wholeR stateR0 stateB
  rw [textR_put (by omega)]
  simp only
  rw [heapR_put hx.hv hw.hv]
  simp only
  unfold stateR1
  rw [bn4_cons, bn4_nil, nR_put (by omega)]
  simp only
  have hrow := rep_put rowB id x.rs.length x.rs rfl (fun y hy r => rowR_put (by have := rowOk_iff.1 (rowsOk_mem hx.rows y hy); omega) (hw.rows y hy) r) []
  rw [List.append_nil, List.map_id] at hrow
  rw [if_neg (by omega), Int.toNat_natCast, hrow]
  simp only
  rw [show (⟨clearH x.hv, none, x.rs, 0⟩ : Sv) = clearS x from rfl, if_pos (by rw [stB_sm (clearS_sm x)]; exact st_yes hx)]
  rfl
end Go.Proofs.YtaafajaadfgaoaaGreat
/- Heaps and states that come in, opened: what words they hold is in range. -/
namespace Go.Proofs.YtaafajaadfgaoaaGreat
open Go.RowKit Go.ChangeShapes Go.WideShapes Go.ChangeAt Go.Deep
section
variable {H : Type} {enc : TypeId × Value → H} {w : World} {base : Nat} {spare : Nat → Bool} {held : Bool} {cs : List Value}
theorem has_I64 {n : Int} (h : IntKind.i64.has n) : I64 n := by
  have h5 : IntKind.i64.max = 9223372036854775807 := by decide
  have h6 : IntKind.i64.min = -9223372036854775808 := by decide
  have h7 := h.1
  have h8 := h.2
  rw [h6] at h7
  rw [h5] at h8
  exact ⟨h7, h8⟩
theorem reads_intW (h : Reads H enc Tryz.prog w base spare held 3 cs) : ∃ x, cs = iV x ∧ I64 x := by
  obtain ⟨n, rfl, hn⟩ := h.int Tryz.underlying3
  exact ⟨n, rfl, has_I64 hn⟩
theorem reads_intsW (h : Reads H enc Tryz.prog w base spare held 122 cs) : ∃ (a : Option Addr) (l : List Int) (c : Nat), cs = [.slice a l.length c] ∧ RowIs w a (l.flatMap iV) ∧ ∀ v ∈ l, I64 v := h.slice iV I64 1 (by decide) iV_len Tryz.underlying122 (by kernel_rfl) (fun cs h => reads_intW h)
theorem reads_obW (h : Reads H enc Tryz.prog w base spare held 126 cs) : ∃ x, cs = obV x ∧ x.Is w ∧ ∀ v ∈ x.ws, I64 v := by
  obtain ⟨hl, hz⟩ := h.struct Tryz.underlying126
  rw [show Tryz.prog.cellsOf 126 = 5 by kernel_rfl] at hl
  match cs, hl with
  | [v0, v1, v2, v3, v4], _ =>
    obtain ⟨a, ha, _⟩ := (hz 0 _ rfl 0 1 rfl (by kernel_rfl)).int Tryz.underlying3
    obtain ⟨⟨p, o⟩, hb, _⟩ := reads_bl (hz 1 _ rfl 1 2 rfl (by kernel_rfl))
    obtain ⟨wa, ws, wc, hw, hw2, hw3⟩ := reads_intsW (hz 2 _ rfl 3 1 rfl (by kernel_rfl))
    obtain ⟨la, ls, lc, hk, hk2⟩ := reads_ints (hz 3 _ rfl 4 1 rfl (by kernel_rfl))
    simp [blV] at ha hb hw hk
    obtain ⟨hb1, hb2⟩ := hb
    subst ha hb1 hb2 hw hk
    exact ⟨⟨a, p, o, wa, ws, wc, la, ls, lc⟩, rfl, ⟨hw2, hk2⟩, hw3⟩
theorem reads_heapW (h : Reads H enc Tryz.prog w base spare held 47 cs) : ∃ x : Hv, cs = hvL x ∧ (x.Is w ∧ x.W64) := by
  obtain ⟨hl, hz⟩ := h.struct Tryz.underlying47
  rw [show Tryz.prog.cellsOf 47 = 8 by kernel_rfl] at hl
  match cs, hl with
  | [v0, v1, v2, v3, v4, v5, v6, v7], _ =>
    obtain ⟨od, h0, _⟩ := (hz 0 _ rfl 0 1 rfl (by kernel_rfl)).int Tryz.underlying3
    obtain ⟨oa, os, oc, h1, h1r, h1g⟩ := (hz 1 _ rfl 1 1 rfl (by kernel_rfl)).slice obV (fun x => x.Is w ∧ ∀ v ∈ x.ws, I64 v) 5 (by decide) obV_len Tryz.underlying43 (by kernel_rfl) (fun cs h => reads_obW h)
    obtain ⟨nx, h2, _⟩ := (hz 2 _ rfl 2 1 rfl (by kernel_rfl)).int Tryz.underlying3
    obtain ⟨t0, t1, t2, t3, h3⟩ := (hz 3 _ rfl 3 4 rfl (by kernel_rfl)).four Tryz.underlying44 Tryz.underlying3 (by kernel_rfl) (by kernel_rfl)
    obtain ⟨fa, fs, fc, h4, h4r⟩ := reads_bls (hz 4 _ rfl 7 1 rfl (by kernel_rfl))
    simp at h0 h1 h2 h3 h4
    obtain ⟨h30, h31, h32, h33⟩ := h3
    subst h0 h1 h2 h30 h31 h32 h33 h4
    exact ⟨⟨od, oa, os, oc, nx, t0, t1, t2, t3, fa, fs, fc⟩, rfl, ⟨h1r, fun o ho => (h1g o ho).1, h4r⟩, fun o ho => (h1g o ho).2⟩
theorem reads_rowW (h : Reads H enc Tryz.prog w base spare held 120 cs) : ∃ x, cs = rwV x ∧ I64 x.v := by
  obtain ⟨hl, hz⟩ := h.struct Tryz.underlying120
  rw [show Tryz.prog.cellsOf 120 = 4 by kernel_rfl] at hl
  match cs, hl with
  | [v0, v1, v2, v3], _ =>
    obtain ⟨a, ha, _⟩ := (hz 0 _ rfl 0 1 rfl (by kernel_rfl)).int Tryz.underlying3
    obtain ⟨b, hb, _⟩ := (hz 1 _ rfl 1 1 rfl (by kernel_rfl)).int Tryz.underlying3
    obtain ⟨hl2, hz2⟩ := (hz 2 _ rfl 2 2 rfl (by kernel_rfl)).struct Tryz.underlying54
    obtain ⟨c, hc, _⟩ := (hz2 0 _ rfl 0 1 rfl (by kernel_rfl)).int Tryz.underlying37
    obtain ⟨d, hd, h64⟩ := (hz2 1 _ rfl 1 1 rfl (by kernel_rfl)).int Tryz.underlying3
    simp at ha hb hc hd
    subst ha hb hc hd
    exact ⟨⟨a, b, c, d⟩, rfl, has_I64 h64⟩
theorem reads_stateW (h : Reads H enc Tryz.prog w base spare held 50 cs) : ∃ x : Sv, cs = svL x ∧ (x.Is w ∧ x.W64) := by
  obtain ⟨hl, hz⟩ := h.struct Tryz.underlying50
  rw [show Tryz.prog.cellsOf 50 = 9 by kernel_rfl] at hl
  match cs, hl with
  | [v0, v1, v2, v3, v4, v5, v6, v7, v8], _ =>
    obtain ⟨x, h0, hx, hx2⟩ := reads_heapW (hz 0 _ rfl 0 8 rfl (by kernel_rfl))
    obtain ⟨ra, rs, rc, h1, h1r, h1g⟩ := (hz 1 _ rfl 8 1 rfl (by kernel_rfl)).slice rwV (fun x => I64 x.v) 4 (by decide) rwV_len Tryz.underlying48 (by kernel_rfl) (fun cs h => reads_rowW h)
    simp at h0 h1
    refine ⟨⟨x, ra, rs, rc⟩, ?_, ⟨hx, h1r⟩, hx2, h1g⟩
    simp only [svL]
    rw [← h0, h1]; rfl
end
end Go.Proofs.YtaafajaadfgaoaaGreat
/- What is kept, by its cells; the walks of within, follows and last. -/
namespace Go.Proofs.YtaafajaadfgaoaaGreat
open Go.RowKit
structure Kv where
  vw : Int
  nm : Int
  bs : Int
  im : ByteArray
  ea : Option Addr
  es : List Env
  ec : Nat
def Kv.Is (w : World) (x : Kv) : Prop := RowIs w x.ea (x.es.flatMap envL)
structure Kv.Sm (x y : Kv) : Prop where
  vw : x.vw = y.vw
  nm : x.nm = y.nm
  bs : x.bs = y.bs
  im : x.im = y.im
  es : x.es = y.es
end Go.Proofs.YtaafajaadfgaoaaGreat
/- The walk of Check of what is kept. -/
namespace Go.Proofs.YtaafajaadfgaoaaGreat
open Go.RowKit
def Kv.Small (x : Kv) : Prop := x.es.length ≤ 100000 ∧ x.im.size ≤ 1000000
end Go.Proofs.YtaafajaadfgaoaaGreat
/- Own rows cut short; the walks of Last and Above. -/
namespace Go.Proofs.YtaafajaadfgaoaaGreat
open Go.RowKit
theorem SubRow.drop {e : TypeId} {c n cap off g k : Nat} {xs : List Value} {R : List Blk} (h : SubRow e c (.slice (some ⟨g, off, none⟩) n cap) n xs R) (hk : k ≤ n) (hn : 0 < n) :
    SubRow e c (.slice (some ⟨g, off + k * c, none⟩) (n - k) (cap - k)) (n - k) (xs.drop (k * c)) R := by
  obtain ⟨hl, ⟨h0, _, _⟩ | ⟨g', off', cap', pre, hv, h1, h2, h3, h4⟩⟩ := h
  · omega
  · injection hv with hv _ hc
    injection hv with hv
    injection hv with hg ho _
    subst hg ho hc
    have hm := Nat.mul_le_mul_right c hk
    refine ⟨by rw [List.length_drop, hl, Nat.sub_mul], .inr ⟨g, off + k * c, cap - k, pre ++ xs.take (k * c), rfl, by omega, by omega, by rw [List.length_append, List.length_take, h3, hl]; omega, ?_⟩⟩
    rw [h4, List.append_assoc, List.take_append_drop]
    have hm2 := Nat.mul_le_mul_right c (show k ≤ cap by omega)
    rw [Nat.sub_mul, show off + k * c + (cap * c - k * c) = off + cap * c by omega]
theorem SubRow.take {e : TypeId} {c n cap off g k : Nat} {xs : List Value} {R : List Blk} (h : SubRow e c (.slice (some ⟨g, off, none⟩) n cap) n xs R) (hk : k ≤ n) (hn : 0 < n) :
    ∃ R', SubRow e c (.slice (some ⟨g, off, none⟩) k cap) k (xs.take (k * c)) R' ∧ ∀ {B : Nat} {w0 w : World} {M : List Blk}, Hp B w0 w (R ++ M) → Hp B w0 w (R' ++ M) := by
  obtain ⟨hl, ⟨h0, _, _⟩ | ⟨g', off', cap', pre, hv, h1, h2, h3, h4⟩⟩ := h
  · omega
  · injection hv with hv _ hc
    injection hv with hv
    injection hv with hg ho _
    subst hg ho hc
    have hm := Nat.mul_le_mul_right c hk
    refine ⟨[⟨g, pre ++ xs.take (k * c), e, off + cap * c⟩], ⟨by rw [List.length_take, hl]; omega, .inr ⟨g, off, cap, pre, rfl, by omega, h2, h3, rfl⟩⟩, fun {B w0 w M} hp => ?_⟩
    subst h4
    refine Hp.less (l2 := xs.drop (k * c)) ?_
    rw [List.append_assoc, List.take_append_drop]; exact hp
theorem OwnRow.cap {e : TypeId} {c n m : Nat} {a : Option Addr} {k : Nat} {xs : List Value} {R : List Blk} (h : OwnRow e c (.slice a n k) m xs R) : m ≤ k := by
  obtain ⟨_, ⟨h0, hv, _, _⟩ | ⟨g, cap, hv, h1, h2, _⟩⟩ := h
  · omega
  · injection hv with _ _ hk
    omega
end Go.Proofs.YtaafajaadfgaoaaGreat
/- The walk of fold: another log is taken. -/
namespace Go.Proofs.YtaafajaadfgaoaaGreat
open Go.RowKit
theorem SubRow.cut {e : TypeId} {c n cap k : Nat} {a : Option Addr} {xs : List Value} {R : List Blk} (h : SubRow e c (.slice a n cap) n xs R) (hk : k ≤ n) :
    ∃ R', SubRow e c (.slice a k cap) k (xs.take (k * c)) R' ∧ ∀ (B : Nat) (w0 w : World) (M : List Blk), Hp B w0 w (R ++ M) → Hp B w0 w (R' ++ M) := by
  obtain ⟨hl, ⟨h0, ⟨a', hv⟩, hr⟩ | ⟨g', off', cap', pre, hv, h1, h2, h3, h4⟩⟩ := h
  · injection hv with _ _ hc
    subst h0 hc hr
    obtain rfl : k = 0 := by omega
    have hx : xs = [] := List.eq_nil_of_length_eq_zero (by simpa using hl)
    subst hx
    exact ⟨[], by simpa using SubRow.nil e c a, fun _ _ _ _ hp => hp⟩
  · injection hv with hv _ hc
    subst hv hc
    have hm := Nat.mul_le_mul_right c hk
    refine ⟨[⟨g', pre ++ xs.take (k * c), e, off' + cap * c⟩], ⟨by rw [List.length_take, hl]; omega, .inr ⟨g', off', cap, pre, rfl, by omega, h2, h3, rfl⟩⟩, fun B w0 w M hp => ?_⟩
    subst h4
    refine Hp.less (l2 := xs.drop (k * c)) ?_
    rw [List.append_assoc, List.take_append_drop]; exact hp
end Go.Proofs.YtaafajaadfgaoaaGreat
/- The walk of Fold. -/
namespace Go.Proofs.YtaafajaadfgaoaaGreat
open Go.RowKit
def at_ (x : Kv) (a : Option Addr) (c : Nat) : Kv := ⟨x.vw, x.nm, x.bs, x.im, a, x.es, c⟩
end Go.Proofs.YtaafajaadfgaoaaGreat
