/- Parts of the proof. -/
import Derived.Test.YtcjbepaclbhjaaaGreatKe1
import Derived.Test.YtcjbepaclbhjaaaGreatKe15
import Derived.Test.YtcjbepaclbhjaaaGreatKe23
import Derived.Test.YtcjbepaclbhjaaaGreatKe3
import Derived.Test.YtcjbepaclbhjaaaGreatKe22
import Derived.Test.YtcjbepaclbhjaaaGreatKe2
open List renaming set_cons_zero → zSet, set_cons_succ → sSet
/- What is laid is read: the plain law. No program in sight. -/
set_option linter.unusedSimpArgs false
set_option linter.unusedVariables false
namespace Go.Proofs.YtcjbepaclbhjaaaGreat
open Go.RowKit
def I64 (v : Int) : Prop := -9223372036854775808 ≤ v ∧ v ≤ 9223372036854775807
theorem beV_beS4 {n : Nat} (h : n < 4294967296) : beV (beS 4 n) = n := by
  have e : beS 4 n = [n / 2 ^ 24 % 256, n / 2 ^ 16 % 256, n / 2 ^ 8 % 256, n / 2 ^ 0 % 256] := rfl
  rw [e]
  simp only [beV, List.foldl_cons, List.foldl_nil]
  omega
theorem beV_beS8 {n : Nat} (h : n < 18446744073709551616) : beV (beS 8 n) = n := by
  have e : beS 8 n = [n / 2 ^ 56 % 256, n / 2 ^ 48 % 256, n / 2 ^ 40 % 256, n / 2 ^ 32 % 256, n / 2 ^ 24 % 256, n / 2 ^ 16 % 256, n / 2 ^ 8 % 256, n / 2 ^ 0 % 256] := rfl
  rw [e]
  simp only [beV, List.foldl_cons, List.foldl_nil]
  omega
theorem wrap_uN {v : Int} (h : I64 v) : wrap64 ((uN v : Nat) : Int) = v := by
  obtain ⟨h1, h2⟩ := h
  rw [uN_cast]; unfold wrap64; omega
theorem numR_put {n : Nat} (h : n ≤ 2147483647) (r : List Nat) : numR (beS 4 n ++ r) = some n := by
  unfold numR
  have e : (beS 4 n ++ r).take 4 = beS 4 n := by rw [List.take_left' (beS_len 4 n)]
  rw [e, beV_beS4 (by omega), if_pos ⟨by rw [List.length_append, beS_len]; omega, h⟩]
theorem nR_put {n : Nat} (h : n ≤ 2147483647) (r : List Nat) : nR (beS 4 n ++ r) = some ((n : Int), r) := by
  unfold nR
  rw [numR_put h]
  show some ((n : Int), (beS 4 n ++ r).drop 4) = _
  rw [List.drop_left' (beS_len 4 n)]
theorem iR_put {v : Int} (h : I64 v) (r : List Nat) : iR (beS 8 (uN v) ++ r) = some (v, r) := by
  unfold iR intR
  rw [if_pos (by rw [List.length_append, beS_len]; omega), List.take_left' (beS_len 8 _), beV_beS8 (uN_lt v), wrap_uN h, Option.map_some, List.drop_left' (beS_len 8 _)]
theorem rep_put {α β : Type} {one : List Nat → Option (β × List Nat)} (f : α → List Nat) (g : α → β) : ∀ (n : Nat) (l : List α), l.length = n → (∀ x ∈ l, ∀ r, one (f x ++ r) = some (g x, r)) → ∀ r, repR one n (l.flatMap f ++ r) = some (l.map g, r)
  | 0, l, hl, _, r => by
    rw [List.length_eq_zero_iff.1 hl]; rfl
  | n + 1, l, hl, h, r => by
    rcases List.eq_nil_or_concat l with rfl | ⟨k, x, rfl⟩
    · cases hl
    rw [List.concat_eq_append] at hl h ⊢
    have hk : k.length = n := by simpa using hl
    have h1 := rep_put f g n k hk (fun y hy => h y (by simp [hy])) (f x ++ r)
    have h2 := h x (by simp) r
    rw [List.flatMap_append, List.append_assoc, show [x].flatMap f = f x by simp]
    rw [repR_step h1 h2, List.map_append]; rfl
theorem rep_ints {l : List Int} (h : ∀ v ∈ l, I64 v) (r : List Nat) : repR iR l.length (bi8 l ++ r) = some (l, r) := by
  have := rep_put (one := iR) (fun v => beS 8 (uN v)) id l.length l rfl (fun v hv r => iR_put (h v hv) r) r
  rw [List.map_id] at this
  exact this
theorem rep_nats {l : List Nat} (h : ∀ v ∈ l, v ≤ 2147483647) (r : List Nat) : repR nR l.length (bn4 l ++ r) = some (l.map fun (n : Nat) => (n : Int), r) := rep_put (one := nR) (fun v => beS 4 v) (fun n => (n : Int)) l.length l rfl (fun v hv r => nR_put (h v hv) r) r
theorem bn4_cons (n : Nat) (l : List Nat) (r : List Nat) : bn4 (n :: l) ++ r = beS 4 n ++ (bn4 l ++ r) := by unfold bn4; rw [List.flatMap_cons, List.append_assoc]
theorem bn4_nil (r : List Nat) : bn4 [] ++ r = r := rfl
def clearO (o : Ob) : Ob := mkOb o.h o.p o.o o.ws o.ls
theorem toNat_list {l : List Int} (h : ∀ t ∈ l, 0 ≤ t) : ((l.map Int.toNat).map fun (n : Nat) => (n : Int)) = l := by
  rw [List.map_map]
  conv => rhs; rw [← List.map_id l]
  exact List.map_congr_left fun x hx => by have := h x hx; simp only [Function.comp_apply, id]; omega
theorem objR_put {o : Ob} (hl : ObLay o) (hn : needI o.ws.length o.ls.length = o.o) (h0 : 0 ≤ o.o) (hw : ∀ v ∈ o.ws, I64 v) (r : List Nat) : objR (obB o ++ r) = some (clearO o, r) := by
  have g1 := hl.h0
  have g2 := hl.h1
  have g3 := hl.p0
  have g4 := hl.p1
  have g5 := hl.wl
  have g6 := hl.ll
  unfold obB
  rw [List.append_assoc, bn4_cons, bn4_cons, bn4_cons, bn4_cons, bn4_nil, List.append_assoc]
  unfold objR
  rw [nR_put (by omega)]; simp only
  rw [nR_put (by omega)]; simp only
  rw [nR_put (by omega)]; simp only
  rw [nR_put (by omega)]; simp only
  rw [hn, if_neg (by omega), Int.toNat_natCast, Int.toNat_natCast, rep_ints hw]; simp only
  rw [show o.ls.length = (o.ls.map Int.toNat).length by simp, rep_nats (fun v hv => by
    obtain ⟨t, ht, rfl⟩ := List.mem_map.1 hv
    have := hl.ls t ht
    omega)]
  simp only
  rw [toNat_list (fun t ht => (hl.ls t ht).1), Int.toNat_of_nonneg g1, Int.toNat_of_nonneg g3]
  rfl
theorem ObsSm.clear (l : List Ob) : ObsSm (l.map clearO) l := by
  refine ⟨by simp, fun i a b ha hb => ?_⟩
  rw [List.getElem?_map, hb] at ha
  simp only [Option.map_some, Option.some.injEq] at ha
  subst ha
  exact ⟨rfl, rfl, rfl, rfl, rfl⟩
def clearH (x : Hv) : Hv := ⟨x.od, none, x.os.map clearO, 0, x.nx, x.t0, x.t1, x.t2, x.t3, none, x.fs, 0⟩
theorem clearH_sm (x : Hv) : (clearH x).Sm x := ⟨rfl, rfl, rfl, rfl, rfl, rfl, ObsSm.clear _, rfl⟩
def Hv.W64 (x : Hv) : Prop := ∀ o ∈ x.os, ∀ v ∈ o.ws, I64 v
theorem heapR0_put {x : Hv} (hx : HRight x) (hw : x.W64) (r : List Nat) : heapR0 (heapB x ++ r) = some (clearH x, r) := by
  have hlay := hright_lay hx
  have hod := hright_od hx
  have hlo := hx.lo
  have hhi := hx.hi
  have hlen := hx.len
  have l0 := leads_lay hx (hx.tops x.t0 (by simp [tops]))
  have l1 := leads_lay hx (hx.tops x.t1 (by simp [tops]))
  have l2 := leads_lay hx (hx.tops x.t2 (by simp [tops]))
  have l3 := leads_lay hx (hx.tops x.t3 (by simp [tops]))
  have hob : ∀ o ∈ x.os, ∀ r, objR (obB o ++ r) = some (clearO o, r) := fun o ho r => objR_put (hlay o ho) (hx.need o ho).1 (by have := (hx.need o ho).2.1; simpa [obBl] using this) (hw o ho) r
  unfold heapB headB
  rw [List.append_assoc, List.append_assoc, List.append_assoc, bn4_cons, bn4_cons, bn4_nil]
  unfold heapR0
  rw [nR_put (by omega)]; simp only
  rw [nR_put (by omega)]; simp only
  unfold heapR1
  rw [show (4 : Nat) = [x.t0.toNat, x.t1.toNat, x.t2.toNat, x.t3.toNat].length from rfl, rep_nats (by intro v hv; simp at hv; omega)]
  simp only
  unfold heapR2
  rw [bn4_cons, bn4_nil, nR_put (by omega)]
  simp only
  rw [if_neg (by omega), Int.toNat_natCast, rep_put obB clearO x.os.length x.os rfl hob]
  simp only
  unfold heapR3
  rw [Int.toNat_of_nonneg (by omega), Int.toNat_of_nonneg (by omega)]
  have hre : regionB x.od = true := by unfold regionB; simp [hod.1, hod.2]
  have hm : mkHv x.od (x.os.map clearO) x.nx ([x.t0.toNat, x.t1.toNat, x.t2.toNat, x.t3.toNat].map fun (n : Nat) => (n : Int)) (lfN (pw x.od) (x.os.map clearO) x.od.toNat 0) = clearH x := by
    rw [lf_sm (ObsSm.clear x.os), left_free hx]
    unfold mkHv clearH
    simp only [List.map_cons, List.map_nil, List.getD_cons_zero, List.getD_cons_succ, Int.toNat_of_nonneg l0.1, Int.toNat_of_nonneg l1.1, Int.toNat_of_nonneg l2.1, Int.toNat_of_nonneg l3.1]
  rw [if_pos hre, hm, if_pos (by rw [hright_sm (clearH_sm x)]; exact hright_yes hx)]
theorem heapR_put {x : Hv} (hx : HRight x) (hw : x.W64) : heapR (heapB x) = some (clearH x) := by
  have h := heapR0_put hx hw []
  rw [List.append_nil] at h
  unfold heapR wholeR
  rw [h]; rfl
theorem rowR_put {x : Rw} (hc : 0 ≤ x.c ∧ x.c ≤ 4 ∧ 0 ≤ x.s ∧ x.s ≤ 1000000 ∧ 0 ≤ x.e ∧ x.e ≤ 65535) (hv : I64 x.v) (r : List Nat) : rowR (rowB x ++ r) = some (x, r) := by
  unfold rowB
  rw [List.append_assoc, bn4_cons, bn4_cons, bn4_cons, bn4_nil]
  unfold rowR
  rw [nR_put (by omega)]; simp only
  rw [nR_put (by omega)]; simp only
  rw [nR_put (by omega)]; simp only
  rw [show bi8 [x.v] ++ r = beS 8 (uN x.v) ++ r by simp [bi8], iR_put hv]
  simp only
  rw [Int.toNat_of_nonneg hc.1, Int.toNat_of_nonneg hc.2.2.1, Int.toNat_of_nonneg hc.2.2.2.2.1]
structure Sv.W64 (x : Sv) : Prop where
  hv : x.hv.W64
  rows : ∀ r ∈ x.rs, I64 r.v
def clearS (x : Sv) : Sv := ⟨clearH x.hv, none, x.rs, 0⟩
theorem clearS_sm (x : Sv) : (clearS x).Sm x := ⟨clearH_sm _, rfl⟩
theorem textR_put {bs : List Nat} (h : bs.length ≤ 65536) (r : List Nat) : textR ((beS 4 bs.length ++ bs) ++ r) = some (bs, r) := by
  unfold textR
  rw [List.append_assoc, numR_put (by omega)]
  simp only
  rw [List.drop_left' (beS_len 4 _)]
  simp [h, beS_len]
  omega
theorem stateR_put {x : Sv} (hx : StR x) (hw : x.W64) : stateR (stateB x) = some (clearS x) := by
  have hlen := heapB_len hx.hv
  have hrl := rowsOk_len hx.rows (by decide)
  unfold stateR wholeR stateR0 stateB
  rw [textR_put (by omega)]
  simp only
  rw [heapR_put hx.hv hw.hv]
  simp only
  unfold stateR1
  rw [bn4_cons, bn4_nil, nR_put (by omega)]
  simp only
  have hrow := rep_put rowB id x.rs.length x.rs rfl (fun y hy r => rowR_put (by have := rowOk_iff.1 (rowsOk_mem hx.rows y hy); omega) (hw.rows y hy) r) []
  rw [List.append_nil, List.map_id] at hrow
  rw [if_neg (by omega), Int.toNat_natCast, hrow]
  simp only
  rw [show (⟨clearH x.hv, none, x.rs, 0⟩ : Sv) = clearS x from rfl, if_pos (by rw [stB_sm (clearS_sm x)]; exact st_yes hx)]
  rfl
end Go.Proofs.YtcjbepaclbhjaaaGreat
/- Heaps and states that come in, opened: what words they hold is in range. -/
namespace Go.Proofs.YtcjbepaclbhjaaaGreat
open Go.RowKit Go.ChangeShapes Go.WideShapes Go.ChangeAt Go.Deep
section
variable {H : Type} {enc : TypeId × Value → H} {w : World} {base : Nat} {spare : Nat → Bool} {held : Bool} {cs : List Value}
theorem has_I64 {n : Int} (h : IntKind.i64.has n) : I64 n := by
  have h5 : IntKind.i64.max = 9223372036854775807 := by decide
  have h6 : IntKind.i64.min = -9223372036854775808 := by decide
  have h7 := h.1
  have h8 := h.2
  rw [h6] at h7
  rw [h5] at h8
  exact ⟨h7, h8⟩
end
end Go.Proofs.YtcjbepaclbhjaaaGreat
/- What is kept, by its cells; the walks of within, follows and last. -/
namespace Go.Proofs.YtcjbepaclbhjaaaGreat
open Go.RowKit
theorem info47 : (Tryz.prog.info? 47).map (fun i => (i.zero, i.size, i.bytes)) = some (some (.agg #[.int .i64 0, .int .i64 0, .int .i64 0, .int .i64 0, .int .i64 0, .int .i64 0, .int .i64 0, .int .i64 0, .int .i64 0, .int .i64 0, .int .i64 0]), 11, 88) := by kernel_rfl
structure Kv where
  vw : Int
  nm : Int
  bs : Int
  im : ByteArray
  ea : Option Addr
  es : List Env
  ec : Nat
def Kv.Is (w : World) (x : Kv) : Prop := RowIs w x.ea (x.es.flatMap envL)
structure Kv.Sm (x y : Kv) : Prop where
  vw : x.vw = y.vw
  nm : x.nm = y.nm
  bs : x.bs = y.bs
  im : x.im = y.im
  es : x.es = y.es
theorem envL_len11 (e : Env) : (envL e).length = 11 := rfl
def folB (fr : Int) : Nat → List Env → Bool
  | _, [] => true
  | q, e :: r => decide (wrap64 (wrap64 (e.nu - 1) - (q : Int)) = fr) && folB fr (q + 1) r
theorem within57 (n lo hi : Int) (w : World) : Calls Tryz.prog 57 #[.int .i64 n, .int .i64 lo, .int .i64 hi] w fun e w' => e = .returned (.bool (inM n lo hi)) ∧ w = w' := by
  go_enter Tryz.func57, Tryz.ntmps57
  go_wp2
  all_goals go_ret
  all_goals refine ⟨ret_bool ?_, rfl⟩
  all_goals (simp [inM, *]; try omega)
theorem follows58 (l : List Env) (fr : Int) (a : Option Addr) (c : Nat) (hl : l.length ≤ 100000) (w : World) (ha : RowIs w a (l.flatMap envL)) :
    Calls Tryz.prog 58 #[.slice a l.length c, .int .i64 fr] w fun e w' => e = .returned (.bool (folB fr 0 l)) ∧ Below w.heap.size w w' := by
  have hp := Hp.start w
  have HA := Lib.hid ha
  clear ha
  go_enter Tryz.func58, Tryz.ntmps58
  go_wp2_with (first | go_skip | (first | (refine hA1 ?_; clear hp; intro b w1 hp) | refine hL11 ?_ | (refine hS0 ?_; clear hp; intro w1 hp)))
  go_loopg [9] l.length (fun k i wr => ∃ q : Nat, k + q = l.length ∧ i = .int .i64 q ∧ RowKit.Hid (folB fr 0 l = folB fr q (l.drop q)) ∧ Hp w.heap.size w wr [])
  case atStart => exact ⟨0, by omega, rfl, Lib.hid rfl, hp⟩
  case round =>
    clear hp
    obtain ⟨q, hkq, rfl, HF, hp⟩ := hrel
    by_cases hlt : q < l.length
    · obtain ⟨bq, off, rfl, hx⟩ := HA.out.elems 11 envL_len11 (by omega) (by omega)
      have hj := List.getElem?_eq_getElem hlt
      replace hx := hx q _ hj
      have hd := List.drop_eq_getElem_cons hlt
      clear hj
      generalize l[q] = en at hx hd
      obtain ⟨nu, vi, cl, sq, ⟨kk, hh, ii, nn, cc, vv, tt⟩⟩ := en
      simp only [envL, opL, List.cons_append, List.nil_append] at hx
      have HX := Lib.hid hx
      have HF2 : RowKit.Hid (folB fr 0 l = (decide (wrap64 (wrap64 (nu - 1) - (q : Int)) = fr) && folB fr (q + 1) (l.drop (q + 1)))) := Lib.hid (by rw [HF.out, hd]; rfl)
      have f1 : (0 : Int) ≤ (q : Int) := by omega
      have f2 : (q : Int) < (l.length : Int) := by omega
      clear hx hd HF
      by_cases heq : wrap64 (wrap64 (nu - 1) - (q : Int)) = fr
      · have e3 : (wrap64 (wrap64 (nu - 1) - (q : Int)) == fr) = true := by simpa using heq
        have HE := Lib.hid heq
        clear heq
        go_wp2_with (first | go_skip | (first | (refine hA1 ?_; clear hp; intro b w1 hp) | refine hL11 ?_ | (refine hS0 ?_; clear hp; intro w1 hp)))
        go_roundg (gk - 1)
        case measure => omega
        case rel => exact ⟨q + 1, by omega, by go_num, Lib.hid (by rw [HF2.out, HE.out]; simp), hp.tail⟩
      · have e3 : (wrap64 (wrap64 (nu - 1) - (q : Int)) == fr) = false := by simpa using heq
        have HE := Lib.hid heq
        clear heq
        go_wp2_with (first | go_skip | (first | (refine hA1 ?_; clear hp; intro b w1 hp) | refine hL11 ?_ | (refine hS0 ?_; clear hp; intro w1 hp)))
        go_ret
        refine ⟨?_, hp.below⟩
        rw [HF2.out, decide_eq_false HE.out]; rfl
    · obtain rfl : q = l.length := by omega
      have e2 : decide ((l.length : Int) < (l.length : Int)) = false := by simp
      clear hkq hlt
      go_wp2_with (first | go_skip | (first | (refine hA1 ?_; clear hp; intro b w1 hp) | refine hL11 ?_ | (refine hS0 ?_; clear hp; intro w1 hp)))
      go_ret
      refine ⟨?_, hp.below⟩
      rw [HF.out, List.drop_length]; rfl
theorem last61 (vw nm bs : Int) (im : ByteArray) (ea : Option Addr) (n ec : Nat) (w : World) : Calls Tryz.prog 61 #[.agg #[.int .i64 vw, .int .i64 nm, .int .i64 bs, .string im, .slice ea n ec]] w fun e w' => e = .returned (.int .i64 (wrap64 (bs + (n : Int)))) ∧ Below w.heap.size w w' := by
  have hp := Hp.start w
  go_enter Tryz.func61, Tryz.ntmps61
  go_wp2_with (first | go_skip | (first | (refine hA1 ?_; clear hp; intro b w1 hp) | refine hL11 ?_ | (refine hS0 ?_; clear hp; intro w1 hp)))
  go_ret
  exact ⟨rfl, hp.below⟩
end Go.Proofs.YtcjbepaclbhjaaaGreat
/- What is kept, and records, that come in: their entries. -/
namespace Go.Proofs.YtcjbepaclbhjaaaGreat
open Go.RowKit Go.ChangeShapes Go.WideShapes Go.ChangeAt Go.Deep
section
variable {H : Type} {enc : TypeId × Value → H} {w : World} {base : Nat} {spare : Nat → Bool} {held : Bool} {cs : List Value}
theorem reads_opK (h : Reads H enc Tryz.prog w base spare held 45 cs) : ∃ x, cs = opL x := by
  obtain ⟨hl, hz⟩ := h.struct Tryz.underlying45
  rw [show Tryz.prog.cellsOf 45 = 7 by kernel_rfl] at hl
  match cs, hl with
  | [v0, v1, v2, v3, v4, v5, v6], _ =>
    obtain ⟨a0, h0, _⟩ := (hz 0 _ rfl 0 1 rfl (by kernel_rfl)).int Tryz.underlying43
    obtain ⟨a1, h1, _⟩ := (hz 1 _ rfl 1 1 rfl (by kernel_rfl)).int Tryz.underlying3
    obtain ⟨a2, h2, _⟩ := (hz 2 _ rfl 2 1 rfl (by kernel_rfl)).int Tryz.underlying3
    obtain ⟨a3, h3, _⟩ := (hz 3 _ rfl 3 1 rfl (by kernel_rfl)).int Tryz.underlying3
    obtain ⟨a4, h4, _⟩ := (hz 4 _ rfl 4 1 rfl (by kernel_rfl)).int Tryz.underlying3
    obtain ⟨a5, h5, _⟩ := (hz 5 _ rfl 5 1 rfl (by kernel_rfl)).int Tryz.underlying3
    obtain ⟨a6, h6, _⟩ := (hz 6 _ rfl 6 1 rfl (by kernel_rfl)).int Tryz.underlying3
    simp at h0 h1 h2 h3 h4 h5 h6
    subst h0 h1 h2 h3 h4 h5 h6
    exact ⟨⟨a0, a1, a2, a3, a4, a5, a6⟩, rfl⟩
theorem reads_entryK (h : Reads H enc Tryz.prog w base spare held 47 cs) : ∃ x, cs = envL x ∧ True := by
  obtain ⟨hl, hz⟩ := h.struct Tryz.underlying47
  rw [show Tryz.prog.cellsOf 47 = 11 by kernel_rfl] at hl
  match cs, hl with
  | [v0, v1, v2, v3, v4, v5, v6, v7, v8, v9, v10], _ =>
    obtain ⟨a0, h0, _⟩ := (hz 0 _ rfl 0 1 rfl (by kernel_rfl)).int Tryz.underlying3
    obtain ⟨a1, h1, _⟩ := (hz 1 _ rfl 1 1 rfl (by kernel_rfl)).int Tryz.underlying3
    obtain ⟨a2, h2, _⟩ := (hz 2 _ rfl 2 1 rfl (by kernel_rfl)).int Tryz.underlying3
    obtain ⟨a3, h3, _⟩ := (hz 3 _ rfl 3 1 rfl (by kernel_rfl)).int Tryz.underlying3
    obtain ⟨o, h4⟩ := reads_opK (hz 4 _ rfl 4 7 rfl (by kernel_rfl))
    simp at h0 h1 h2 h3 h4
    subst h0 h1 h2 h3
    refine ⟨⟨a0, a1, a2, a3, o⟩, ?_, trivial⟩
    simp only [envL, List.cons_append, List.nil_append]
    rw [← h4]
theorem reads_entriesK {a : Option Addr} {n c : Nat} (h : Reads H enc Tryz.prog w base spare held 22 [.slice a n c]) : ∃ l : List Env, l.length = n ∧ RowIs w a (l.flatMap envL) ∧ n ≤ c := by
  have hc : n ≤ c := by
    obtain ⟨m, y, h'⟩ := h
    rcases open_slice Tryz.underlying22 h' with ⟨he, _⟩ | ⟨ad, n', cap, m, nn, D, Pl, he, _, hl, _⟩
    · simp at he; omega
    · simp at he; omega
  obtain ⟨a', l, c', h1, h2, _⟩ := h.slice envL (fun _ => True) 11 (by decide) envL_len11 Tryz.underlying22 (by kernel_rfl) (fun cs h => reads_entryK h)
  simp at h1
  obtain ⟨rfl, rfl, rfl⟩ := h1
  exact ⟨l, rfl, h2, hc⟩
theorem reads_keptE {v0 v1 v2 v3 : Value} {a : Option Addr} {n c : Nat} (h : Reads H enc Tryz.prog w base spare held 24 [v0, v1, v2, v3, .slice a n c]) : ∃ l : List Env, l.length = n ∧ RowIs w a (l.flatMap envL) ∧ n ≤ c := by
  obtain ⟨_, hz⟩ := h.struct Tryz.underlying24
  exact reads_entriesK (hz 4 _ rfl 4 1 rfl (by kernel_rfl))
end
end Go.Proofs.YtcjbepaclbhjaaaGreat
/- Entries that come in: their numbers are in range. -/
namespace Go.Proofs.YtcjbepaclbhjaaaGreat
open Go.RowKit Go.ChangeShapes Go.WideShapes Go.ChangeAt Go.Deep
section
variable {H : Type} {enc : TypeId × Value → H} {w : World} {base : Nat} {spare : Nat → Bool} {held : Bool} {cs : List Value}
theorem reads_entryN (h : Reads H enc Tryz.prog w base spare held 47 cs) : ∃ x, cs = envL x ∧ I64 x.nu := by
  obtain ⟨hl, hz⟩ := h.struct Tryz.underlying47
  rw [show Tryz.prog.cellsOf 47 = 11 by kernel_rfl] at hl
  match cs, hl with
  | [v0, v1, v2, v3, v4, v5, v6, v7, v8, v9, v10], _ =>
    obtain ⟨a0, h0, h64⟩ := (hz 0 _ rfl 0 1 rfl (by kernel_rfl)).int Tryz.underlying3
    obtain ⟨a1, h1, _⟩ := (hz 1 _ rfl 1 1 rfl (by kernel_rfl)).int Tryz.underlying3
    obtain ⟨a2, h2, _⟩ := (hz 2 _ rfl 2 1 rfl (by kernel_rfl)).int Tryz.underlying3
    obtain ⟨a3, h3, _⟩ := (hz 3 _ rfl 3 1 rfl (by kernel_rfl)).int Tryz.underlying3
    obtain ⟨o, h4⟩ := reads_opK (hz 4 _ rfl 4 7 rfl (by kernel_rfl))
    simp at h0 h1 h2 h3 h4
    subst h0 h1 h2 h3
    refine ⟨⟨a0, a1, a2, a3, o⟩, ?_, has_I64 h64⟩
    simp only [envL, List.cons_append, List.nil_append]
    rw [← h4]
theorem reads_entriesN {a : Option Addr} {n c : Nat} (h : Reads H enc Tryz.prog w base spare held 22 [.slice a n c]) : ∃ l : List Env, l.length = n ∧ RowIs w a (l.flatMap envL) ∧ ∀ e ∈ l, I64 e.nu := by
  obtain ⟨a', l, c', h1, h2, h3⟩ := h.slice envL (fun e => I64 e.nu) 11 (by decide) envL_len11 Tryz.underlying22 (by kernel_rfl) (fun cs h => reads_entryN h)
  simp at h1
  obtain ⟨rfl, rfl, rfl⟩ := h1
  exact ⟨l, rfl, h2, h3⟩
end
end Go.Proofs.YtcjbepaclbhjaaaGreat
/- Entries that come in: their numbers are in range, and they have the capacity. -/
namespace Go.Proofs.YtcjbepaclbhjaaaGreat
open Go.RowKit Go.ChangeShapes Go.WideShapes Go.ChangeAt Go.Deep
section
variable {H : Type} {enc : TypeId × Value → H} {w : World} {base : Nat} {spare : Nat → Bool} {held : Bool} {cs : List Value}
theorem reads_entriesC {a : Option Addr} {n c : Nat} (h : Reads H enc Tryz.prog w base spare held 22 [.slice a n c]) : ∃ l : List Env, l.length = n ∧ RowIs w a (l.flatMap envL) ∧ (n ≤ c ∧ ∀ e ∈ l, I64 e.nu) := by
  obtain ⟨l, h1, h2, h3⟩ := reads_entriesN h
  obtain ⟨_, _, _, h4⟩ := reads_entriesK h
  exact ⟨l, h1, h2, h4, h3⟩
end
end Go.Proofs.YtcjbepaclbhjaaaGreat
/- The walk of slices.Clone of entries. -/
namespace Go.Proofs.YtcjbepaclbhjaaaGreat
open Go.RowKit
theorem eqn_nilEntries (d : Nat) (n c : Nat) (w : World) : (Op.equalIn (d + 1) 22 (.slice none n c) (.slice none 0 0)).run Tryz.prog w = .ok true w := by
  rw [Op.equalIn]; simp [Sem.run_bind, run_underlying Tryz.underlying22]
theorem eqn_someEntries (d : Nat) (a : Addr) (n c : Nat) (w : World) : (Op.equalIn (d + 1) 22 (.slice (some a) n c) (.slice none 0 0)).run Tryz.prog w = .ok false w := by
  rw [Op.equalIn]; simp [Sem.run_bind, run_underlying Tryz.underlying22]
theorem nil_eq22 (n c : Nat) (w : World) : (binOp .eql 22 (.slice none n c) (.slice none 0 0)).run Tryz.prog w = .ok (.bool true) w := by
  have h : (Op.equalIn 10000 22 (.slice none n c) (.slice none 0 0)).run Tryz.prog w = .ok true w := eqn_nilEntries 9999 n c w
  simp only [binOp]
  simp [Op.equal, Op.maxDepth, h]
theorem some_eq22 (a : Addr) (n c : Nat) (w : World) : (binOp .eql 22 (.slice (some a) n c) (.slice none 0 0)).run Tryz.prog w = .ok (.bool false) w := by
  have h : (Op.equalIn 10000 22 (.slice (some a) n c) (.slice none 0 0)).run Tryz.prog w = .ok false w := eqn_someEntries 9999 a n c w
  simp only [binOp]
  simp [Op.equal, Op.maxDepth, h]
def ClonePostEntries (w : World) (n : Nat) (xs : List Value) (e : Ending) (w' : World) : Prop := ∃ v R, e = .returned v ∧ OwnRow 47 11 v n xs R ∧ Hp w.heap.size w w' R
set_option maxRecDepth 100000 in
set_option maxHeartbeats 4000000 in
theorem clone60 (a : Option Addr) (n c : Nat) (hn : n ≤ 100000) (xs : List Value) (hl : xs.length = n * 11) (h1 : xs.all (·.oneCell') = true) (w : World) (ha : RowIs w a xs) :
    Calls Tryz.prog 60 #[.slice a n c] w (ClonePostEntries w n xs) := by
  obtain ⟨i0, hi0, hz0, hz1, hz2⟩ := info_parts info47
  have hp := Hp.start w
  cases a with
  | none =>
    have hn0 : n = 0 := by
      rcases Nat.eq_zero_or_pos n with h | h
      · exact h
      · obtain ⟨b, off, he, _⟩ := ha.addr (by omega)
        cases he
    subst hn0
    have hx : xs = [] := List.eq_nil_of_length_eq_zero (by simpa using hl)
    subst hx
    clear ha hl h1
    have hq := nil_eq22
    go_enter Tryz.func60, Tryz.ntmps60
    go_wp2
    go_ret
    exact ⟨_, [], rfl, OwnRow.nil _ _, hp⟩
  | some a =>
    have HA := Lib.hid ha
    have HL := Lib.hid hl
    have H1 := Lib.hid h1
    have sm1 : 0 + n ≤ maxLen := by unfold maxLen; omega
    have sm2 : (0 + n) * 88 ≤ 140737488355328 := by omega
    clear ha hl h1
    have hq := some_eq22
    go_enter Tryz.func60, Tryz.ntmps60
    go_wp2_with (first | ((with_reducible refine pre_build _ _ _ rfl ?_); refine wpList_buildSlice_hp hp _ _ _ rfl wy [] 47 (by intro w; go_simp; try rfl) ?_; clear hp; intro b w1 hp; simp only [put_some, put_none, sSet, zSet]) | ((with_reducible refine pre_append _ _ 22 rfl ?_); refine wpList_appendGrowRow (K := []) (R := [⟨b, [], 47, 0 * 11⟩]) (M := []) hp _ _ _ rfl wy i0 _ 88 Tryz.underlying22 hi0 hz0 hz1 hz2 rfl (by decide) (sTm rfl) ⟨rfl, .inr ⟨b, 0, rfl, Nat.le_refl _, Nat.zero_le _, rfl⟩⟩ (some a) n c (sTm rfl) xs HL.out (HA.out.below hp.below) H1.out sm1 sm2 ?_; clear hp; intro v' R' w1 hR' hp; have HR' := Lib.hid hR'; clear hR'; simp only [put_some, put_none, sSet, zSet]) | go_skip)
    go_ret
    exact ⟨v', R', rfl, by simpa using HR'.out, by simpa using hp⟩
end Go.Proofs.YtcjbepaclbhjaaaGreat
