/- Parts of the proof. -/
import Derived.Test.YtaafajaadfgaoaaIk7
import Derived.Test.YtaafajaadfgaoaaIk10
import Derived.Test.YtaafajaadfgaoaaIk6
import Derived.Test.YtaafajaadfgaoaaIk1
import Derived.Test.YtaafajaadfgaoaaIk2
import Derived.Test.YtaafajaadfgaoaaIk0
import Derived.Test.YtaafajaadfgaoaaIk4
import Derived.Test.YtaafajaadfgaoaaIk3
import Derived.Test.YtaafajaadfgaoaaIk9
open List renaming set_cons_zero → zSet, set_cons_succ → sSet
/- What is laid is read: the plain law. No program in sight. -/
set_option linter.unusedSimpArgs false
set_option linter.unusedVariables false
namespace Go.Proofs.Ytaafajaadfgaoaa
open Go.RowKit
def I64 (v : Int) : Prop := -9223372036854775808 ≤ v ∧ v ≤ 9223372036854775807
theorem beV_beS4 {n : Nat} (h : n < 4294967296) : beV (beS 4 n) = n := by
  have e : beS 4 n = [n / 2 ^ 24 % 256, n / 2 ^ 16 % 256, n / 2 ^ 8 % 256, n / 2 ^ 0 % 256] := rfl
  rw [e]
  simp only [beV, List.foldl_cons, List.foldl_nil]
  omega
theorem beV_beS8 {n : Nat} (h : n < 18446744073709551616) : beV (beS 8 n) = n := by
  have e : beS 8 n = [n / 2 ^ 56 % 256, n / 2 ^ 48 % 256, n / 2 ^ 40 % 256, n / 2 ^ 32 % 256, n / 2 ^ 24 % 256, n / 2 ^ 16 % 256, n / 2 ^ 8 % 256, n / 2 ^ 0 % 256] := rfl
  rw [e]
  simp only [beV, List.foldl_cons, List.foldl_nil]
  omega
theorem wrap_uN {v : Int} (h : I64 v) : wrap64 ((uN v : Nat) : Int) = v := by
  obtain ⟨h1, h2⟩ := h
  rw [uN_cast]; unfold wrap64; omega
theorem numR_put {n : Nat} (h : n ≤ 2147483647) (r : List Nat) : numR (beS 4 n ++ r) = some n := by
  unfold numR
  have e : (beS 4 n ++ r).take 4 = beS 4 n := by rw [List.take_left' (beS_len 4 n)]
  rw [e, beV_beS4 (by omega), if_pos ⟨by rw [List.length_append, beS_len]; omega, h⟩]
theorem nR_put {n : Nat} (h : n ≤ 2147483647) (r : List Nat) : nR (beS 4 n ++ r) = some ((n : Int), r) := by
  unfold nR
  rw [numR_put h]
  show some ((n : Int), (beS 4 n ++ r).drop 4) = _
  rw [List.drop_left' (beS_len 4 n)]
theorem iR_put {v : Int} (h : I64 v) (r : List Nat) : iR (beS 8 (uN v) ++ r) = some (v, r) := by
  unfold iR intR
  rw [if_pos (by rw [List.length_append, beS_len]; omega), List.take_left' (beS_len 8 _), beV_beS8 (uN_lt v), wrap_uN h, Option.map_some, List.drop_left' (beS_len 8 _)]
theorem rep_put {α β : Type} {one : List Nat → Option (β × List Nat)} (f : α → List Nat) (g : α → β) : ∀ (n : Nat) (l : List α), l.length = n → (∀ x ∈ l, ∀ r, one (f x ++ r) = some (g x, r)) → ∀ r, repR one n (l.flatMap f ++ r) = some (l.map g, r)
  | 0, l, hl, _, r => by
    rw [List.length_eq_zero_iff.1 hl]; rfl
  | n + 1, l, hl, h, r => by
    rcases List.eq_nil_or_concat l with rfl | ⟨k, x, rfl⟩
    · cases hl
    rw [List.concat_eq_append] at hl h ⊢
    have hk : k.length = n := by simpa using hl
    have h1 := rep_put f g n k hk (fun y hy => h y (by simp [hy])) (f x ++ r)
    have h2 := h x (by simp) r
    rw [List.flatMap_append, List.append_assoc, show [x].flatMap f = f x by simp]
    rw [repR_step h1 h2, List.map_append]; rfl
theorem rep_ints {l : List Int} (h : ∀ v ∈ l, I64 v) (r : List Nat) : repR iR l.length (bi8 l ++ r) = some (l, r) := by
  have := rep_put (one := iR) (fun v => beS 8 (uN v)) id l.length l rfl (fun v hv r => iR_put (h v hv) r) r
  rw [List.map_id] at this
  exact this
theorem rep_nats {l : List Nat} (h : ∀ v ∈ l, v ≤ 2147483647) (r : List Nat) : repR nR l.length (bn4 l ++ r) = some (l.map fun (n : Nat) => (n : Int), r) := rep_put (one := nR) (fun v => beS 4 v) (fun n => (n : Int)) l.length l rfl (fun v hv r => nR_put (h v hv) r) r
theorem bn4_cons (n : Nat) (l : List Nat) (r : List Nat) : bn4 (n :: l) ++ r = beS 4 n ++ (bn4 l ++ r) := by unfold bn4; rw [List.flatMap_cons, List.append_assoc]
theorem bn4_nil (r : List Nat) : bn4 [] ++ r = r := rfl
def clearO (o : Ob) : Ob := mkOb o.h o.p o.o o.ws o.ls
theorem toNat_list {l : List Int} (h : ∀ t ∈ l, 0 ≤ t) : ((l.map Int.toNat).map fun (n : Nat) => (n : Int)) = l := by
  rw [List.map_map]
  conv => rhs; rw [← List.map_id l]
  exact List.map_congr_left fun x hx => by have := h x hx; simp only [Function.comp_apply, id]; omega
theorem objR_put {o : Ob} (hl : ObLay o) (hn : needI o.ws.length o.ls.length = o.o) (h0 : 0 ≤ o.o) (hw : ∀ v ∈ o.ws, I64 v) (r : List Nat) : objR (obB o ++ r) = some (clearO o, r) := by
  have g1 := hl.h0
  have g2 := hl.h1
  have g3 := hl.p0
  have g4 := hl.p1
  have g5 := hl.wl
  have g6 := hl.ll
  unfold obB
  rw [List.append_assoc, bn4_cons, bn4_cons, bn4_cons, bn4_cons, bn4_nil, List.append_assoc]
  unfold objR
  rw [nR_put (by omega)]; simp only
  rw [nR_put (by omega)]; simp only
  rw [nR_put (by omega)]; simp only
  rw [nR_put (by omega)]; simp only
  rw [hn, if_neg (by omega), Int.toNat_natCast, Int.toNat_natCast, rep_ints hw]; simp only
  rw [show o.ls.length = (o.ls.map Int.toNat).length by simp, rep_nats (fun v hv => by
    obtain ⟨t, ht, rfl⟩ := List.mem_map.1 hv
    have := hl.ls t ht
    omega)]
  simp only
  rw [toNat_list (fun t ht => (hl.ls t ht).1), Int.toNat_of_nonneg g1, Int.toNat_of_nonneg g3]
  rfl
theorem ObsSm.clear (l : List Ob) : ObsSm (l.map clearO) l := by
  refine ⟨by simp, fun i a b ha hb => ?_⟩
  rw [List.getElem?_map, hb] at ha
  simp only [Option.map_some, Option.some.injEq] at ha
  subst ha
  exact ⟨rfl, rfl, rfl, rfl, rfl⟩
def clearH (x : Hv) : Hv := ⟨x.od, none, x.os.map clearO, 0, x.nx, x.t0, x.t1, x.t2, x.t3, none, x.fs, 0⟩
theorem clearH_sm (x : Hv) : (clearH x).Sm x := ⟨rfl, rfl, rfl, rfl, rfl, rfl, ObsSm.clear _, rfl⟩
def Hv.W64 (x : Hv) : Prop := ∀ o ∈ x.os, ∀ v ∈ o.ws, I64 v
theorem heapR0_put {x : Hv} (hx : HRight x) (hw : x.W64) (r : List Nat) : heapR0 (heapB x ++ r) = some (clearH x, r) := by
  have hlay := hright_lay hx
  have hod := hright_od hx
  have hlo := hx.lo
  have hhi := hx.hi
  have hlen := hx.len
  have l0 := leads_lay hx (hx.tops x.t0 (by simp [tops]))
  have l1 := leads_lay hx (hx.tops x.t1 (by simp [tops]))
  have l2 := leads_lay hx (hx.tops x.t2 (by simp [tops]))
  have l3 := leads_lay hx (hx.tops x.t3 (by simp [tops]))
  have hob : ∀ o ∈ x.os, ∀ r, objR (obB o ++ r) = some (clearO o, r) := fun o ho r => objR_put (hlay o ho) (hx.need o ho).1 (by have := (hx.need o ho).2.1; simpa [obBl] using this) (hw o ho) r
  unfold heapB headB
  rw [List.append_assoc, List.append_assoc, List.append_assoc, bn4_cons, bn4_cons, bn4_nil]
  unfold heapR0
  rw [nR_put (by omega)]; simp only
  rw [nR_put (by omega)]; simp only
  unfold heapR1
  rw [show (4 : Nat) = [x.t0.toNat, x.t1.toNat, x.t2.toNat, x.t3.toNat].length from rfl, rep_nats (by intro v hv; simp at hv; omega)]
  simp only
  unfold heapR2
  rw [bn4_cons, bn4_nil, nR_put (by omega)]
  simp only
  rw [if_neg (by omega), Int.toNat_natCast, rep_put obB clearO x.os.length x.os rfl hob]
  simp only
  unfold heapR3
  rw [Int.toNat_of_nonneg (by omega), Int.toNat_of_nonneg (by omega)]
  have hre : regionB x.od = true := by unfold regionB; simp [hod.1, hod.2]
  have hm : mkHv x.od (x.os.map clearO) x.nx ([x.t0.toNat, x.t1.toNat, x.t2.toNat, x.t3.toNat].map fun (n : Nat) => (n : Int)) (lfN (pw x.od) (x.os.map clearO) x.od.toNat 0) = clearH x := by
    rw [lf_sm (ObsSm.clear x.os), left_free hx]
    unfold mkHv clearH
    simp only [List.map_cons, List.map_nil, List.getD_cons_zero, List.getD_cons_succ, Int.toNat_of_nonneg l0.1, Int.toNat_of_nonneg l1.1, Int.toNat_of_nonneg l2.1, Int.toNat_of_nonneg l3.1]
  rw [if_pos hre, hm, if_pos (by rw [hright_sm (clearH_sm x)]; exact hright_yes hx)]
theorem heapR_put {x : Hv} (hx : HRight x) (hw : x.W64) : heapR (heapB x) = some (clearH x) := by
  have h := heapR0_put hx hw []
  rw [List.append_nil] at h
  unfold heapR wholeR
  rw [h]; rfl
structure Sv.W64 (x : Sv) : Prop where
  hv : x.hv.W64
  rows : ∀ r ∈ x.rs, I64 r.v
end Go.Proofs.Ytaafajaadfgaoaa
/- Heaps and states that come in, opened: what words they hold is in range. -/
namespace Go.Proofs.Ytaafajaadfgaoaa
open Go.RowKit Go.ChangeShapes Go.WideShapes Go.ChangeAt Go.Deep
section
variable {H : Type} {enc : TypeId × Value → H} {w : World} {base : Nat} {spare : Nat → Bool} {held : Bool} {cs : List Value}
theorem has_I64 {n : Int} (h : IntKind.i64.has n) : I64 n := by
  have h5 : IntKind.i64.max = 9223372036854775807 := by decide
  have h6 : IntKind.i64.min = -9223372036854775808 := by decide
  have h7 := h.1
  have h8 := h.2
  rw [h6] at h7
  rw [h5] at h8
  exact ⟨h7, h8⟩
theorem reads_intW (h : Reads H enc Try.prog w base spare held 3 cs) : ∃ x, cs = iV x ∧ I64 x := by
  obtain ⟨n, rfl, hn⟩ := h.int Try.underlying3
  exact ⟨n, rfl, has_I64 hn⟩
theorem reads_intsW (h : Reads H enc Try.prog w base spare held 56 cs) : ∃ (a : Option Addr) (l : List Int) (c : Nat), cs = [.slice a l.length c] ∧ RowIs w a (l.flatMap iV) ∧ ∀ v ∈ l, I64 v := h.slice iV I64 1 (by decide) iV_len Try.underlying56 (by kernel_rfl) (fun cs h => reads_intW h)
theorem reads_obW (h : Reads H enc Try.prog w base spare held 60 cs) : ∃ x, cs = obV x ∧ x.Is w ∧ ∀ v ∈ x.ws, I64 v := by
  obtain ⟨hl, hz⟩ := h.struct Try.underlying60
  rw [show Try.prog.cellsOf 60 = 5 by kernel_rfl] at hl
  match cs, hl with
  | [v0, v1, v2, v3, v4], _ =>
    obtain ⟨a, ha, _⟩ := (hz 0 _ rfl 0 1 rfl (by kernel_rfl)).int Try.underlying3
    obtain ⟨⟨p, o⟩, hb, _⟩ := reads_bl (hz 1 _ rfl 1 2 rfl (by kernel_rfl))
    obtain ⟨wa, ws, wc, hw, hw2, hw3⟩ := reads_intsW (hz 2 _ rfl 3 1 rfl (by kernel_rfl))
    obtain ⟨la, ls, lc, hk, hk2⟩ := reads_ints (hz 3 _ rfl 4 1 rfl (by kernel_rfl))
    simp [blV] at ha hb hw hk
    obtain ⟨hb1, hb2⟩ := hb
    subst ha hb1 hb2 hw hk
    exact ⟨⟨a, p, o, wa, ws, wc, la, ls, lc⟩, rfl, ⟨hw2, hk2⟩, hw3⟩
end
end Go.Proofs.Ytaafajaadfgaoaa
/- Heaps and states that come in, opened: their next handle is in range. -/
namespace Go.Proofs.Ytaafajaadfgaoaa
open Go.RowKit Go.ChangeShapes Go.WideShapes Go.ChangeAt Go.Deep
section
variable {H : Type} {enc : TypeId × Value → H} {w : World} {base : Nat} {spare : Nat → Bool} {held : Bool} {cs : List Value}
theorem reads_heapX (h : Reads H enc Try.prog w base spare held 26 cs) : ∃ x : Hv, cs = hvL x ∧ ((x.Is w ∧ x.W64) ∧ x.nx ≤ 9223372036854775807) := by
  obtain ⟨hl, hz⟩ := h.struct Try.underlying26
  rw [show Try.prog.cellsOf 26 = 8 by kernel_rfl] at hl
  match cs, hl with
  | [v0, v1, v2, v3, v4, v5, v6, v7], _ =>
    obtain ⟨od, h0, _⟩ := (hz 0 _ rfl 0 1 rfl (by kernel_rfl)).int Try.underlying3
    obtain ⟨oa, os, oc, h1, h1r, h1g⟩ := (hz 1 _ rfl 1 1 rfl (by kernel_rfl)).slice obV (fun x => x.Is w ∧ ∀ v ∈ x.ws, I64 v) 5 (by decide) obV_len Try.underlying22 (by kernel_rfl) (fun cs h => reads_obW h)
    obtain ⟨nx, h2, h64⟩ := (hz 2 _ rfl 2 1 rfl (by kernel_rfl)).int Try.underlying3
    obtain ⟨t0, t1, t2, t3, h3⟩ := (hz 3 _ rfl 3 4 rfl (by kernel_rfl)).four Try.underlying23 Try.underlying3 (by kernel_rfl) (by kernel_rfl)
    obtain ⟨fa, fs, fc, h4, h4r⟩ := reads_bls (hz 4 _ rfl 7 1 rfl (by kernel_rfl))
    simp at h0 h1 h2 h3 h4
    obtain ⟨h30, h31, h32, h33⟩ := h3
    subst h0 h1 h2 h30 h31 h32 h33 h4
    exact ⟨⟨od, oa, os, oc, nx, t0, t1, t2, t3, fa, fs, fc⟩, rfl, ⟨⟨h1r, fun o ho => (h1g o ho).1, h4r⟩, fun o ho => (h1g o ho).2⟩, (has_I64 h64).2⟩
end
end Go.Proofs.Ytaafajaadfgaoaa
/- The walks of the document that lay numbers, ints and texts as bytes. -/
namespace Go.Proofs.Ytaafajaadfgaoaa
open Go.RowKit
theorem ceGP0 {ty : TypeId} (h : cellB Try.prog ty = true := by with_reducible first | exact cell3 | exact cell4 | exact cell31 | exact cell5) : cellB Try.prog ty = true := h
def RowS (w : World) (bs : List Nat) (e : Ending) (w' : World) : Prop := ∃ a m c R, e = .returned (.slice a m c) ∧ bs.length = m ∧ SubRow 5 1 (.slice a m c) m (bs.flatMap byV) R ∧ Hp w.heap.size w w' R
theorem SubRow.built {e : TypeId} {b n : Nat} {xs : List Value} (hx : xs.length = n) (hn : n ≤ maxLen) : SubRow e 1 (.slice (some ⟨b, 0, none⟩) n n) n xs [⟨b, xs, e, n⟩] :=
  ⟨by omega, .inr ⟨b, 0, n, [], rfl, Nat.le_refl _, hn, rfl, by simp⟩⟩
theorem beS4_eq (n : Nat) : beS 4 n = [n / 16777216 % 256, n / 65536 % 256, n / 256 % 256, n % 256] := by
  have e : beS 4 n = [n / 2 ^ 24 % 256, n / 2 ^ 16 % 256, n / 2 ^ 8 % 256, n / 2 ^ 0 % 256] := rfl
  rw [e]; simp
set_option maxRecDepth 100000 in
set_option maxHeartbeats 4000000 in
theorem four74 (n : Nat) (hn : n ≤ 2147483647) (w : World) : Calls Try.prog 74 #[.int .i64 n] w (RowS w (beS 4 n)) := by
  have hp := Hp.start w
  have hx : (beS 4 n).flatMap byV = [.int .u8 ((n : Int) / 16777216), .int .u8 ((n : Int) / 65536 % 256), .int .u8 ((n : Int) / 256 % 256), .int .u8 ((n : Int) % 256)] := by
    rw [beS4_eq]
    simp only [List.flatMap_cons, List.flatMap_nil, byV, List.cons_append, List.nil_append, List.cons.injEq, Value.int.injEq, true_and, and_true]
    omega
  have f1 : Int.tdiv (n : Int) 16777216 = ((n / 16777216 : Nat) : Int) := by rw [Int.tdiv_eq_ediv_of_nonneg (by omega)]; rfl
  have f2 : Int.tdiv (n : Int) 65536 = ((n / 65536 : Nat) : Int) := by rw [Int.tdiv_eq_ediv_of_nonneg (by omega)]; rfl
  have f3 : Int.tdiv (n : Int) 256 = ((n / 256 : Nat) : Int) := by rw [Int.tdiv_eq_ediv_of_nonneg (by omega)]; rfl
  have hl := beS_len 4 n
  have HX := Lib.hid hx
  clear hx
  go_enter Try.func74, Try.ntmps74
  go_wp2_with (first | go_skip | ((first | ((with_reducible refine pre_box _ _ rfl ?_); refine lB hp rfl (sTm rfl) rfl ?_; clear hp; intro b w1 hp) | ((with_reducible refine pre_load _ _ rfl ?_); first | refine lO hp rfl (sTm rfl) ceGP0 aa5 ?_ | refine lA hp rfl (sTm rfl) agg48 aa5 ?_) | ((with_reducible refine pre_store _ _ _ rfl ?_); (first | refine sO hp rfl (sTm rfl) ceGP0 aa5 ?_ | refine sA hp rfl (sTm rfl) (sTm rfl) agg48 aa5 ?_ | refine sG hp rfl (sTm rfl) (sTm rfl) agg48 aa5 ?_); clear hp; intro w1 hp; simp only [spl, zSet, sSet] at hp) | ((with_reducible refine pre_build _ _ _ rfl ?_); refine lS hp rfl (by intro w; go_simp; rfl) ?_; clear hp; intro b w1 hp; simp only [List.length_cons, List.length_nil, Nat.reduceAdd] at hp)); simp only [put_some, put_none, sSet, zSet]))
  go_ret
  refine ⟨_, 4, 4, _, rfl, hl, ?_, hp⟩
  have hb := @SubRow.built 5 b 4 ((beS 4 n).flatMap byV) (by rw [HX.out]; rfl) (by unfold maxLen; omega)
  rw [HX.out] at hb ⊢
  exact hb
def CellW (w : World) (b off : Nat) (v : Value) : Prop := w.cell? ⟨b, off, none⟩ = some v
theorem CellW.below {w w' : World} {b off : Nat} {v : Value} (h : CellW w b off v) (hb : Below w.heap.size w w') : CellW w' b off v := (hb.cell (World.block_lt_of_cell? w _ h)).trans h
theorem CellW.now {w : World} {b off : Nat} {v : Value} (h : CellW w b off v) : w.cell? ⟨b, off, none⟩ = some v := h
theorem row_cell {w : World} {a : Option Addr} {xs : List Value} (h : RowIs w a xs) {j : Nat} {v : Value} (hj : xs[j]? = some v) : ∃ b off, a = some ⟨b, off, none⟩ ∧ CellW w b (off + j) v := by
  obtain ⟨b, off, he, hc⟩ := h j v hj
  exact ⟨b, off, he, hc⟩
theorem nats_map : ∀ l : List Nat, l.flatMap natV = l.map fun (n : Nat) => Value.int .i64 (n : Int)
  | [] => rfl
  | x :: l => by rw [List.flatMap_cons, nats_map l]; rfl
set_option maxRecDepth 100000 in
set_option maxHeartbeats 4000000 in
theorem numbers35 (l : List Nat) (hl : l.length ≤ 1000) (hb : ∀ x ∈ l, x ≤ 2147483647) (al : Option Addr) (cl : Nat) (w : World) (ha : RowIs w al (l.flatMap natV)) :
    Calls Try.prog 35 #[.slice al l.length cl] w (RowS w (bn4 l)) := by
  obtain ⟨i0, hi0, hz0, hz1, hz2⟩ := info_parts info5
  have hp := Hp.start w
  have HA := Lib.hid ha
  have HB := Lib.hid hb
  clear ha hb
  go_enter Try.func35, Try.ntmps35
  go_wp2_with (first | go_skip | ((first | ((with_reducible refine pre_box _ _ rfl ?_); refine lB hp rfl (sTm rfl) rfl ?_; clear hp; intro b w1 hp) | ((with_reducible refine pre_load _ _ rfl ?_); first | refine lO hp rfl (sTm rfl) ceGP0 aa5 ?_ | refine lA hp rfl (sTm rfl) agg48 aa5 ?_) | ((with_reducible refine pre_store _ _ _ rfl ?_); (first | refine sO hp rfl (sTm rfl) ceGP0 aa5 ?_ | refine sA hp rfl (sTm rfl) (sTm rfl) agg48 aa5 ?_ | refine sG hp rfl (sTm rfl) (sTm rfl) agg48 aa5 ?_); clear hp; intro w1 hp; simp only [spl, zSet, sSet] at hp) | ((with_reducible refine pre_build _ _ _ rfl ?_); refine lS hp rfl (by intro w; go_simp; rfl) ?_; clear hp; intro b w1 hp; simp only [List.length_cons, List.length_nil, Nat.reduceAdd] at hp)); simp only [put_some, put_none, sSet, zSet]))
  go_loopg [3, 4] l.length (fun k v i wr => ∃ (j m : Nat) (a : Option Addr) (c : Nat) (R M : List Blk), k + j = l.length ∧ i = .int .i64 j ∧ v = .slice a m c ∧ RowKit.Hid (m = 4 * j) ∧ RowKit.Hid (SubRow 5 1 (.slice a m c) m ((bn4 (l.take j)).flatMap byV) R) ∧ Hp w.heap.size w wr (R ++ M))
  case atStart => exact ⟨0, 0, none, 0, [], [], by omega, rfl, rfl, Lib.hid rfl, Lib.hid (SubRow.nil _ _ _), hp⟩
  case round =>
    clear hp
    obtain ⟨j, m, a, c, R, M, hkj, rfl, rfl, HMJ, HR, hp⟩ := hrel
    by_cases hlt : j < l.length
    · have hj := List.getElem?_eq_getElem hlt
      generalize l[j] = x at hj
      have hnat : (l.flatMap natV)[j]? = some (.int .i64 (x : Int)) := by rw [nats_map, List.getElem?_map, hj]; rfl
      obtain ⟨bq, off, rfl, hcx⟩ := row_cell HA.out hnat
      have HX := Lib.hid hcx
      have HXB := Lib.hid (HB.out x (List.mem_of_getElem? hj))
      have HT := Lib.hid (bn4_take hj)
      have HMB : RowKit.Hid (m ≤ 100000 ∧ (beS 4 x).length = 4) := Lib.hid ⟨by have := HMJ.out; omega, beS_len 4 x⟩
      clear hj hcx hnat
      have e1 : (0 : Int) ≤ (j : Int) := by omega
      have e2 : (j : Int) < (l.length : Int) := by omega
      go_wp2_with (first | (go_at_call 74; (with_reducible refine (four74 x HXB.out _).mono ?_); rintro e w1 ⟨a2, m2, c2, R2, rfl, hm2, hr2, hp2⟩; replace hp := hp.join hp2; have HM2 := Lib.hid hm2; have HR2 := Lib.hid hr2; clear hm2 hr2 hp2; simp only [List.cons_append, List.nil_append, List.append_assoc] at hp) | ((with_reducible refine pre_load 3 _ rfl ?_); refine lRO (Hp.start _) rfl (sTm rfl) cell3 ((HX.out.below hp.below).now) ?_; simp only [put_some, put_none, sSet, zSet]) | ((with_reducible refine pre_append2 _ _ 31 31 rfl ?_); refine wpList_appendSub (K := []) (R := R) hp _ _ _ _ rfl wy 5 i0 _ 1 1 Try.underlying31 hi0 hz0 hz1 hz2 rfl _ _ _ (sTm rfl) HR.out _ (sTm rfl) m2 _ (Src.ofRow Try.underlying31 (by decide) a2 m2 c2 _ (by rw [flat_len byV 1 byV_len, HM2.out]) (HR2.out.keptS.at hp (fun p hm => by simp [hm])) (by_one _)) (by have := HM2.out; have := HMB.out; unfold maxLen; omega) (by have := HM2.out; have := HMB.out; omega) ?_; clear hp; intro v' R' w1 hR' hp; obtain ⟨a', c', rfl, _⟩ := hR'.kept; have HR' := Lib.hid hR'; clear hR'; simp only [List.cons_append, List.nil_append, List.append_assoc] at hp; simp only [put_some, put_none, sSet, zSet]) | go_skip | ((first | ((with_reducible refine pre_box _ _ rfl ?_); refine lB hp rfl (sTm rfl) rfl ?_; clear hp; intro b w1 hp) | ((with_reducible refine pre_load _ _ rfl ?_); first | refine lO hp rfl (sTm rfl) ceGP0 aa5 ?_ | refine lA hp rfl (sTm rfl) agg48 aa5 ?_) | ((with_reducible refine pre_store _ _ _ rfl ?_); (first | refine sO hp rfl (sTm rfl) ceGP0 aa5 ?_ | refine sA hp rfl (sTm rfl) (sTm rfl) agg48 aa5 ?_ | refine sG hp rfl (sTm rfl) (sTm rfl) agg48 aa5 ?_); clear hp; intro w1 hp; simp only [spl, zSet, sSet] at hp) | ((with_reducible refine pre_build _ _ _ rfl ?_); refine lS hp rfl (by intro w; go_simp; rfl) ?_; clear hp; intro b w1 hp; simp only [List.length_cons, List.length_nil, Nat.reduceAdd] at hp)); simp only [put_some, put_none, sSet, zSet]))
      go_roundg (gk - 1)
      case measure => omega
      case rel => exact ⟨j + 1, m + m2, a', c', R', _, by omega, by go_num, rfl, Lib.hid (by have := HM2.out; have := HMB.out; have := HMJ.out; omega), Lib.hid (by rw [HT.out, List.flatMap_append]; exact HR'.out), hp⟩
    · obtain rfl : j = l.length := by omega
      have e2 : decide ((l.length : Int) < (l.length : Int)) = false := by simp
      have hr := HR.out
      rw [List.take_length] at hr
      have HR2 := Lib.hid hr
      have HLN : RowKit.Hid ((bn4 l).length = m) := Lib.hid (by rw [bn4_len]; have := HMJ.out; omega)
      clear hr hkj hlt
      go_wp2_with (first | go_skip | ((first | ((with_reducible refine pre_box _ _ rfl ?_); refine lB hp rfl (sTm rfl) rfl ?_; clear hp; intro b w1 hp) | ((with_reducible refine pre_load _ _ rfl ?_); first | refine lO hp rfl (sTm rfl) ceGP0 aa5 ?_ | refine lA hp rfl (sTm rfl) agg48 aa5 ?_) | ((with_reducible refine pre_store _ _ _ rfl ?_); (first | refine sO hp rfl (sTm rfl) ceGP0 aa5 ?_ | refine sA hp rfl (sTm rfl) (sTm rfl) agg48 aa5 ?_ | refine sG hp rfl (sTm rfl) (sTm rfl) agg48 aa5 ?_); clear hp; intro w1 hp; simp only [spl, zSet, sSet] at hp) | ((with_reducible refine pre_build _ _ _ rfl ?_); refine lS hp rfl (by intro w; go_simp; rfl) ?_; clear hp; intro b w1 hp; simp only [List.length_cons, List.length_nil, Nat.reduceAdd] at hp)); simp only [put_some, put_none, sSet, zSet]))
      go_ret
      exact ⟨a, m, c, R, rfl, HLN.out, HR2.out, hp.sub (List.sublist_append_left _ _)⟩
set_option maxRecDepth 100000 in
set_option maxHeartbeats 4000000 in
theorem eights36 (n : Int) (w : World) : Calls Try.prog 36 #[.int .i64 n] w (RowS w (beS 8 (uN n))) := by
  obtain ⟨i0, hi0, hz0, hz1, hz2⟩ := info_parts info5
  have hp := Hp.start w
  have e1 := wrapU n
  have hu := uN_lt n
  obtain ⟨u, hun⟩ : ∃ u, u = uN n := ⟨_, rfl⟩
  rw [← hun] at e1 hu ⊢
  clear hun
  go_enter Try.func36, Try.ntmps36
  go_wp2_with (first | go_skip | ((first | ((with_reducible refine pre_box _ _ rfl ?_); refine lB hp rfl (sTm rfl) rfl ?_; clear hp; intro b w1 hp) | ((with_reducible refine pre_load _ _ rfl ?_); first | refine lO hp rfl (sTm rfl) ceGP0 aa5 ?_ | refine lA hp rfl (sTm rfl) agg48 aa5 ?_) | ((with_reducible refine pre_store _ _ _ rfl ?_); (first | refine sO hp rfl (sTm rfl) ceGP0 aa5 ?_ | refine sA hp rfl (sTm rfl) (sTm rfl) agg48 aa5 ?_ | refine sG hp rfl (sTm rfl) (sTm rfl) agg48 aa5 ?_); clear hp; intro w1 hp; simp only [spl, zSet, sSet] at hp) | ((with_reducible refine pre_build _ _ _ rfl ?_); refine lS hp rfl (by intro w; go_simp; rfl) ?_; clear hp; intro b w1 hp; simp only [List.length_cons, List.length_nil, Nat.reduceAdd] at hp)); simp only [put_some, put_none, sSet, zSet]))
  clear e1
  go_loopg [4, 5] 8 (fun k v i wr => ∃ (j : Nat) (R : List Blk), k + j = 8 ∧ i = .int .i64 (8 - 1 - (j : Int)) ∧ RowKit.Hid (OwnRow 5 1 v j (((beS 8 u).take j).flatMap byV) R) ∧ Hp w.heap.size w wr ([] ++ (R ++ [])))
  case atStart => exact ⟨0, [], by omega, rfl, Lib.hid (OwnRow.nil _ _), hp⟩
  case round =>
    clear hp
    obtain ⟨j, R, hkj, rfl, HR, hp⟩ := hrel
    by_cases hlt : j < 8
    · obtain ⟨m, hm⟩ : ∃ m : Nat, 8 - 1 - (j : Int) = m := ⟨8 - 1 - j, by omega⟩
      have hm7 : m ≤ 7 := by omega
      have HM := Lib.hid hm
      rw [hm]
      have HB : RowKit.Hid ((byteS 8 u j : Nat) = u / 2 ^ (8 * m) % 256) := Lib.hid (by unfold byteS; rw [show 8 - 1 - j = m by omega])
      clear hm
      have e1 : (0 : Int) ≤ (m : Int) := by omega
      have e2 : wrap64 (8 * (m : Int)) = 8 * (m : Int) := by unfold wrap64; omega
      have e3 : (8 * (m : Int)).toNat = 8 * m := by omega
      go_wp2_with (first | ((with_reducible refine pre_append _ _ 31 rfl ?_); refine wpList_appendGrow (K := []) hp _ _ _ rfl wy i0 _ 1 Try.underlying31 hi0 hz0 hz1 hz2 rfl (by decide) (sTm rfl) HR.out 1 1 (sTm rfl) (by rfl) (by decide) (by rfl) (by unfold maxLen; omega) (by omega) ?_; clear hp HR; intro v' R' w1 hR' hp; have HR' := Lib.hid hR'; clear hR'; simp only [put_some, put_none, sSet, zSet]) | go_skip | ((first | ((with_reducible refine pre_box _ _ rfl ?_); refine lB hp rfl (sTm rfl) rfl ?_; clear hp; intro b w1 hp) | ((with_reducible refine pre_load _ _ rfl ?_); first | refine lO hp rfl (sTm rfl) ceGP0 aa5 ?_ | refine lA hp rfl (sTm rfl) agg48 aa5 ?_) | ((with_reducible refine pre_store _ _ _ rfl ?_); (first | refine sO hp rfl (sTm rfl) ceGP0 aa5 ?_ | refine sA hp rfl (sTm rfl) (sTm rfl) agg48 aa5 ?_ | refine sG hp rfl (sTm rfl) (sTm rfl) agg48 aa5 ?_); clear hp; intro w1 hp; simp only [spl, zSet, sSet] at hp) | ((with_reducible refine pre_build _ _ _ rfl ?_); refine lS hp rfl (by intro w; go_simp; rfl) ?_; clear hp; intro b w1 hp; simp only [List.length_cons, List.length_nil, Nat.reduceAdd] at hp)); simp only [put_some, put_none, sSet, zSet]))
      go_roundg (gk - 1)
      case measure => omega
      case rel => exact ⟨j + 1, R', by omega, congrArg (Value.int .i64) (by have := HM.out; omega), Lib.hid (by have h := HR'.out; rw [beS_take 8 u j hlt, List.flatMap_append]; simp only [List.flatMap_cons, List.flatMap_nil, List.append_nil, byV]; rw [HB.out]; push_cast; exact h), hp⟩
    · have hj : j = 8 := by omega
      subst hj
      have e1 : decide ((0 : Int) ≤ 8 - 1 - ((8 : Nat) : Int)) = false := by decide
      have h := HR.out
      rw [List.take_of_length_le (by rw [beS_len]; omega)] at h
      obtain ⟨a, c, rfl, _⟩ := h.kept
      have HR2 := Lib.hid h
      clear h
      go_wp2_with (first | go_skip | ((first | ((with_reducible refine pre_box _ _ rfl ?_); refine lB hp rfl (sTm rfl) rfl ?_; clear hp; intro b w1 hp) | ((with_reducible refine pre_load _ _ rfl ?_); first | refine lO hp rfl (sTm rfl) ceGP0 aa5 ?_ | refine lA hp rfl (sTm rfl) agg48 aa5 ?_) | ((with_reducible refine pre_store _ _ _ rfl ?_); (first | refine sO hp rfl (sTm rfl) ceGP0 aa5 ?_ | refine sA hp rfl (sTm rfl) (sTm rfl) agg48 aa5 ?_ | refine sG hp rfl (sTm rfl) (sTm rfl) agg48 aa5 ?_); clear hp; intro w1 hp; simp only [spl, zSet, sSet] at hp) | ((with_reducible refine pre_build _ _ _ rfl ?_); refine lS hp rfl (by intro w; go_simp; rfl) ?_; clear hp; intro b w1 hp; simp only [List.length_cons, List.length_nil, Nat.reduceAdd] at hp)); simp only [put_some, put_none, sSet, zSet]))
      go_ret
      exact ⟨a, 8, c, R, rfl, beS_len 8 u, SubRow.of_own HR2.out, by simpa using hp⟩
end Go.Proofs.Ytaafajaadfgaoaa
/- The walks of the document's reader of bytes. -/
namespace Go.Proofs.Ytaafajaadfgaoaa
open Go.RowKit
def NRel {α : Type} (one : List Nat → Option (α × List Nat)) (st : Option (List Nat)) (x : α) (st' : Option (List Nat)) : Prop := match st.bind one with
  | some (y, b1) => x = y ∧ st' = some b1
  | none => st' = none
theorem NRel.none_ {α : Type} {one : List Nat → Option (α × List Nat)} {x : α} {st' : Option (List Nat)} (h : NRel one none x st') : st' = none := h
theorem NRel.bad {α : Type} {one : List Nat → Option (α × List Nat)} {b : List Nat} {x : α} {st' : Option (List Nat)} (h : NRel one (some b) x st') (hn : one b = none) : st' = none := by
  unfold NRel at h
  rw [show (some b).bind one = none from hn] at h
  exact h
theorem NRel.good {α : Type} {one : List Nat → Option (α × List Nat)} {b b1 : List Nat} {x y : α} {st' : Option (List Nat)} (h : NRel one (some b) x st') (hn : one b = some (y, b1)) : x = y ∧ st' = some b1 := by
  unfold NRel at h
  rw [show (some b).bind one = some (y, b1) from hn] at h
  exact h
end Go.Proofs.Ytaafajaadfgaoaa
/- The walks of the document that read an object. -/
namespace Go.Proofs.Ytaafajaadfgaoaa
open Go.RowKit
theorem NRel.step {α : Type} {one : List Nat → Option (α × List Nat)} {q : Nat} {st st1 st2 : Option (List Nat)} {l : List α} {x : α} (h1 : NRel (repR one q) st l st1) (h2 : NRel one st1 x st2) : NRel (repR one (q + 1)) st (l ++ [x]) st2 := by
  cases st with
  | none =>
    obtain rfl := h1.none_
    obtain rfl := h2.none_
    rfl
  | some b =>
    cases e1 : repR one q b with
    | none =>
      obtain rfl := h1.bad e1
      obtain rfl := h2.none_
      have e2 : repR one (q + 1) b = none := by unfold repR; rw [e1]
      unfold NRel
      rw [show (some b).bind (repR one (q + 1)) = none from e2]
    | some p =>
      obtain ⟨l0, b1⟩ := p
      obtain ⟨rfl, rfl⟩ := h1.good e1
      cases e2 : one b1 with
      | none =>
        obtain rfl := h2.bad e2
        unfold NRel
        rw [show (some b).bind (repR one (q + 1)) = none from repR_fail e1 e2 (q + 1) (Nat.lt_succ_self q)]
      | some p2 =>
        obtain ⟨x0, b2⟩ := p2
        obtain ⟨rfl, rfl⟩ := h2.good e2
        unfold NRel
        rw [show (some b).bind (repR one (q + 1)) = some (l ++ [x], b2) from repR_step e1 e2]
        exact ⟨rfl, rfl⟩
def ORel (st : Option (List Nat)) (y : Ob) (st' : Option (List Nat)) : Prop := match st.bind objR with
  | some (o, b1) => y.Sm o ∧ st' = some b1
  | none => st' = none
end Go.Proofs.Ytaafajaadfgaoaa
/- The walk of the document's Place. -/
namespace Go.Proofs.Ytaafajaadfgaoaa
open Go.RowKit
theorem gaKPlace0 {ty : TypeId} {k : Nat} (h : aggB Try.prog ty k = true := by with_reducible first | exact agg26 | exact agg60 | exact agg58) : aggB Try.prog ty k = true := h
theorem ceKPlace1 {ty : TypeId} (h : cellB Try.prog ty = true := by with_reducible first | exact cell3 | exact cell4 | exact cell22 | exact cell24) : cellB Try.prog ty = true := h
def PlaceI (os : List Ob) (t : Int) (r : Int) : Prop := (r = -1 ∧ ∀ o ∈ os, o.h ≠ t) ∨ ∃ (j : Nat) (o : Ob), r = j ∧ os[j]? = some o ∧ o.h = t ∧ ∀ (i : Nat) q, i < j → os[i]? = some q → q.h ≠ t
theorem PlaceI.leads {os : List Ob} {t r : Int} (h : PlaceI os t r) (h0 : t ≠ 0) : decide (0 ≤ r) = leadsB os t := by
  rw [Bool.eq_iff_iff, decide_eq_true_eq, leadsB_iff]
  rcases h with ⟨rfl, h⟩ | ⟨j, o, rfl, hj, ho, _⟩
  · constructor
    · intro h; omega
    · rintro (h1 | ⟨o, ho, h1⟩)
      · exact absurd h1 h0
      · exact absurd h1 (h o ho)
  · exact ⟨fun _ => .inr ⟨o, List.mem_of_getElem? hj, ho⟩, fun _ => by omega⟩
def PlacePost (w : World) (os : List Ob) (t : Int) (e : Ending) (w' : World) : Prop := ∃ r : Int, e = .returned (.int .i64 r) ∧ PlaceI os t r ∧ Below w.heap.size w w'
set_option maxRecDepth 100000 in
set_option maxHeartbeats 4000000 in
theorem place91 (od : Int) (oa : Option Addr) (os : List Ob) (oc : Nat) (nx t0 t1 t2 t3 : Int) (fa : Option Addr) (fl fc : Nat) (hol : os.length ≤ 1000) (t : Int) (w : World) (ha : RowIs w oa (os.flatMap obV)) :
    Calls Try.prog 91 #[.agg #[.int .i64 od, .slice oa os.length oc, .int .i64 nx, .int .i64 t0, .int .i64 t1, .int .i64 t2, .int .i64 t3, .slice fa fl fc], .int .i64 t] w (PlacePost w os t) := by
  have hp := Hp.start w
  have HA := Lib.hid ha
  clear ha
  go_enter Try.func91, Try.ntmps91
  go_wp2_with (first | go_skip | ((first | ((with_reducible refine pre_box _ _ rfl ?_); refine lB hp rfl (sTm rfl) rfl ?_; clear hp; intro b w1 hp) | ((with_reducible refine pre_load _ _ rfl ?_); first | refine lO hp rfl (sTm rfl) ceKPlace1 aa5 ?_ | refine lRO hp rfl (sTm rfl) ceKPlace1 (by first | exact HX.out 0 _ rfl | exact HX.out 1 _ rfl | exact HX.out 2 _ rfl) ?_ | refine lA hp rfl (sTm rfl) gaKPlace0 aa5 ?_ | refine lR hp rfl (sTm rfl) gaKPlace0 HX.out ?_) | ((with_reducible refine pre_store _ _ _ rfl ?_); (first | refine sO hp rfl (sTm rfl) ceKPlace1 aa5 ?_ | refine sA hp rfl (sTm rfl) (sTm rfl) gaKPlace0 aa5 ?_ | refine sG hp rfl (sTm rfl) (sTm rfl) gaKPlace0 aa5 ?_); clear hp; intro w1 hp; simp only [spl, zSet, sSet] at hp) | ((with_reducible refine pre_build _ _ _ rfl ?_); refine lS hp rfl (by intro w; go_simp; rfl) ?_; clear hp; intro b w1 hp; simp only [List.length_cons, List.length_nil, Nat.reduceAdd] at hp)); simp only [put_some, put_none, sSet, zSet]))
  obtain ⟨b1, rfl⟩ := hp.id0
  go_loopg [5] os.length (fun k i wr => ∃ j : Nat, k + j = os.length ∧ i = .int .i64 j ∧ RowKit.Hid (∀ (i : Nat) q, i < j → os[i]? = some q → q.h ≠ t) ∧ Hp w.heap.size w wr [⟨b1, [.int .i64 od, .slice oa os.length oc, .int .i64 nx, .int .i64 t0, .int .i64 t1, .int .i64 t2, .int .i64 t3, .slice fa fl fc], 26, 8⟩])
  case atStart => exact ⟨0, by omega, rfl, Lib.hid (fun i y h => by omega), hp⟩
  case round =>
    clear hp
    obtain ⟨j, hkj, rfl, HY, hp⟩ := hrel
    by_cases hlt : j < os.length
    · obtain ⟨bq, off, rfl, hx⟩ := HA.out.elems 5 obV_len (by omega) (by omega)
      have hj := List.getElem?_eq_getElem hlt
      replace hx := hx j _ hj
      have HJ := Lib.hid hj
      clear hj
      generalize os[j] = x at hx HJ
      obtain ⟨xh, xp, xo, wa, ws, wc, la, ls, lc⟩ := x
      simp only [obV] at hx
      have HX := Lib.hid hx
      clear hx
      have e1 : (0 : Int) ≤ (j : Int) := by omega
      have e2 : (j : Int) < (os.length : Int) := by omega
      by_cases hne : xh = t
      · have HNE := Lib.hid hne
        have e3 : (xh == t) = true := by simpa using hne
        clear hne
        go_wp2_with (first | go_skip | ((first | ((with_reducible refine pre_box _ _ rfl ?_); refine lB hp rfl (sTm rfl) rfl ?_; clear hp; intro b w1 hp) | ((with_reducible refine pre_load _ _ rfl ?_); first | refine lO hp rfl (sTm rfl) ceKPlace1 aa5 ?_ | refine lRO hp rfl (sTm rfl) ceKPlace1 (by first | exact HX.out 0 _ rfl | exact HX.out 1 _ rfl | exact HX.out 2 _ rfl) ?_ | refine lA hp rfl (sTm rfl) gaKPlace0 aa5 ?_ | refine lR hp rfl (sTm rfl) gaKPlace0 HX.out ?_) | ((with_reducible refine pre_store _ _ _ rfl ?_); (first | refine sO hp rfl (sTm rfl) ceKPlace1 aa5 ?_ | refine sA hp rfl (sTm rfl) (sTm rfl) gaKPlace0 aa5 ?_ | refine sG hp rfl (sTm rfl) (sTm rfl) gaKPlace0 aa5 ?_); clear hp; intro w1 hp; simp only [spl, zSet, sSet] at hp) | ((with_reducible refine pre_build _ _ _ rfl ?_); refine lS hp rfl (by intro w; go_simp; rfl) ?_; clear hp; intro b w1 hp; simp only [List.length_cons, List.length_nil, Nat.reduceAdd] at hp)); simp only [put_some, put_none, sSet, zSet]))
        go_ret
        exact ⟨j, rfl, .inr ⟨j, _, rfl, HJ.out, HNE.out, HY.out⟩, hp.below⟩
      · have HNE := Lib.hid hne
        have e3 : (xh == t) = false := by simpa using hne
        clear hne
        go_wp2_with (first | go_skip | ((first | ((with_reducible refine pre_box _ _ rfl ?_); refine lB hp rfl (sTm rfl) rfl ?_; clear hp; intro b w1 hp) | ((with_reducible refine pre_load _ _ rfl ?_); first | refine lO hp rfl (sTm rfl) ceKPlace1 aa5 ?_ | refine lRO hp rfl (sTm rfl) ceKPlace1 (by first | exact HX.out 0 _ rfl | exact HX.out 1 _ rfl | exact HX.out 2 _ rfl) ?_ | refine lA hp rfl (sTm rfl) gaKPlace0 aa5 ?_ | refine lR hp rfl (sTm rfl) gaKPlace0 HX.out ?_) | ((with_reducible refine pre_store _ _ _ rfl ?_); (first | refine sO hp rfl (sTm rfl) ceKPlace1 aa5 ?_ | refine sA hp rfl (sTm rfl) (sTm rfl) gaKPlace0 aa5 ?_ | refine sG hp rfl (sTm rfl) (sTm rfl) gaKPlace0 aa5 ?_); clear hp; intro w1 hp; simp only [spl, zSet, sSet] at hp) | ((with_reducible refine pre_build _ _ _ rfl ?_); refine lS hp rfl (by intro w; go_simp; rfl) ?_; clear hp; intro b w1 hp; simp only [List.length_cons, List.length_nil, Nat.reduceAdd] at hp)); simp only [put_some, put_none, sSet, zSet]))
        go_roundg (gk - 1)
        case measure => omega
        case rel =>
          refine ⟨j + 1, by omega, by go_num, Lib.hid (fun i y hi hy => ?_), hp⟩
          rcases Nat.lt_or_ge i j with h | h
          · exact HY.out i y h hy
          · have : i = j := by omega
            subst this
            rw [HJ.out] at hy; injection hy with hy; subst hy; exact HNE.out
    · have e2 : decide ((j : Int) < (os.length : Int)) = false := by simp; omega
      go_wp2_with (first | go_skip | ((first | ((with_reducible refine pre_box _ _ rfl ?_); refine lB hp rfl (sTm rfl) rfl ?_; clear hp; intro b w1 hp) | ((with_reducible refine pre_load _ _ rfl ?_); first | refine lO hp rfl (sTm rfl) ceKPlace1 aa5 ?_ | refine lRO hp rfl (sTm rfl) ceKPlace1 (by first | exact HX.out 0 _ rfl | exact HX.out 1 _ rfl | exact HX.out 2 _ rfl) ?_ | refine lA hp rfl (sTm rfl) gaKPlace0 aa5 ?_ | refine lR hp rfl (sTm rfl) gaKPlace0 HX.out ?_) | ((with_reducible refine pre_store _ _ _ rfl ?_); (first | refine sO hp rfl (sTm rfl) ceKPlace1 aa5 ?_ | refine sA hp rfl (sTm rfl) (sTm rfl) gaKPlace0 aa5 ?_ | refine sG hp rfl (sTm rfl) (sTm rfl) gaKPlace0 aa5 ?_); clear hp; intro w1 hp; simp only [spl, zSet, sSet] at hp) | ((with_reducible refine pre_build _ _ _ rfl ?_); refine lS hp rfl (by intro w; go_simp; rfl) ?_; clear hp; intro b w1 hp; simp only [List.length_cons, List.length_nil, Nat.reduceAdd] at hp)); simp only [put_some, put_none, sSet, zSet]))
      go_ret
      refine ⟨-1, rfl, .inl ⟨rfl, fun o ho => ?_⟩, hp.below⟩
      obtain ⟨i, hi, rfl⟩ := List.getElem_of_mem ho
      exact HY.out i _ (by omega) (List.getElem?_eq_getElem hi)
theorem RowIs.fix0 {w : World} {b off : Nat} {xs : List Value} (h : RowIs w (some ⟨b, off, none⟩) xs) : ∀ j v, xs[j]? = some v → w.cell? ⟨b, off + j, none⟩ = some v := fun j v hj => by
  obtain ⟨b', off', he, hc⟩ := h j v hj
  injection he with he; injection he with e1 e2; subst e1; subst e2; exact hc
end Go.Proofs.Ytaafajaadfgaoaa
/- The walks of the document's Place, leads, blocks and Words. -/
namespace Go.Proofs.Ytaafajaadfgaoaa
open Go.RowKit
theorem gaKRefA0 {ty : TypeId} {k : Nat} (h : aggB Try.prog ty k = true := by with_reducible first | exact agg26 | exact agg60 | exact agg58) : aggB Try.prog ty k = true := h
theorem ceKRefA1 {ty : TypeId} (h : cellB Try.prog ty = true := by with_reducible first | exact cell3 | exact cell4 | exact cell22 | exact cell24) : cellB Try.prog ty = true := h
set_option maxRecDepth 100000 in
set_option maxHeartbeats 4000000 in
theorem leads69 (od : Int) (oa : Option Addr) (os : List Ob) (oc : Nat) (nx t0 t1 t2 t3 : Int) (fa : Option Addr) (fl fc : Nat) (hol : os.length ≤ 1000) (t : Int) (w : World) (ha : RowIs w oa (os.flatMap obV)) :
    Calls Try.prog 69 #[.agg #[.int .i64 od, .slice oa os.length oc, .int .i64 nx, .int .i64 t0, .int .i64 t1, .int .i64 t2, .int .i64 t3, .slice fa fl fc], .int .i64 t] w fun e w' => e = .returned (.bool (leadsB os t)) ∧ Below w.heap.size w w' := by
  have hp := Hp.start w
  have HA := Lib.hid ha
  clear ha
  by_cases h0 : t = 0
  · subst h0
    go_enter Try.func69, Try.ntmps69
    go_wp2_with (first | go_skip | ((first | ((with_reducible refine pre_box _ _ rfl ?_); refine lB hp rfl (sTm rfl) rfl ?_; clear hp; intro b w1 hp) | ((with_reducible refine pre_load _ _ rfl ?_); first | refine lO hp rfl (sTm rfl) ceKRefA1 aa5 ?_ | refine lRO hp rfl (sTm rfl) ceKRefA1 (by first | exact HX.out 0 _ rfl | exact HX.out 1 _ rfl | exact HX.out 2 _ rfl) ?_ | refine lA hp rfl (sTm rfl) gaKRefA0 aa5 ?_ | refine lR hp rfl (sTm rfl) gaKRefA0 HX.out ?_) | ((with_reducible refine pre_store _ _ _ rfl ?_); (first | refine sO hp rfl (sTm rfl) ceKRefA1 aa5 ?_ | refine sA hp rfl (sTm rfl) (sTm rfl) gaKRefA0 aa5 ?_ | refine sG hp rfl (sTm rfl) (sTm rfl) gaKRefA0 aa5 ?_); clear hp; intro w1 hp; simp only [spl, zSet, sSet] at hp) | ((with_reducible refine pre_build _ _ _ rfl ?_); refine lS hp rfl (by intro w; go_simp; rfl) ?_; clear hp; intro b w1 hp; simp only [List.length_cons, List.length_nil, Nat.reduceAdd] at hp)); simp only [put_some, put_none, sSet, zSet]))
    go_ret
    exact ⟨ret_bool (leads_zero os).symm, hp.below⟩
  · have HN := Lib.hid h0
    have e0 : (t == 0) = false := by simpa using h0
    clear h0
    go_enter Try.func69, Try.ntmps69
    go_wp2_with (first | (go_at_call 91; (with_reducible refine (place91 od oa os oc nx t0 t1 t2 t3 fa fl fc hol t _ (HA.out.below hp.below)).mono ?_); rintro e w1 ⟨pr, rfl, hpr, hb⟩; replace hp := hp.call hb; have HPR := Lib.hid hpr; clear hb hpr) | go_skip | ((first | ((with_reducible refine pre_box _ _ rfl ?_); refine lB hp rfl (sTm rfl) rfl ?_; clear hp; intro b w1 hp) | ((with_reducible refine pre_load _ _ rfl ?_); first | refine lO hp rfl (sTm rfl) ceKRefA1 aa5 ?_ | refine lRO hp rfl (sTm rfl) ceKRefA1 (by first | exact HX.out 0 _ rfl | exact HX.out 1 _ rfl | exact HX.out 2 _ rfl) ?_ | refine lA hp rfl (sTm rfl) gaKRefA0 aa5 ?_ | refine lR hp rfl (sTm rfl) gaKRefA0 HX.out ?_) | ((with_reducible refine pre_store _ _ _ rfl ?_); (first | refine sO hp rfl (sTm rfl) ceKRefA1 aa5 ?_ | refine sA hp rfl (sTm rfl) (sTm rfl) gaKRefA0 aa5 ?_ | refine sG hp rfl (sTm rfl) (sTm rfl) gaKRefA0 aa5 ?_); clear hp; intro w1 hp; simp only [spl, zSet, sSet] at hp) | ((with_reducible refine pre_build _ _ _ rfl ?_); refine lS hp rfl (by intro w; go_simp; rfl) ?_; clear hp; intro b w1 hp; simp only [List.length_cons, List.length_nil, Nat.reduceAdd] at hp)); simp only [put_some, put_none, sSet, zSet]))
    go_ret
    exact ⟨ret_bool (HPR.out.leads HN.out), hp.below⟩
def OwnBl (w : World) (n : Nat) (xs : List Value) (e : Ending) (w' : World) : Prop := ∃ v R, e = .returned v ∧ OwnRow 58 2 v n xs R ∧ Hp w.heap.size w w' R
set_option maxRecDepth 100000 in
set_option maxHeartbeats 4000000 in
theorem owng33 (l : List Bl) (a : Option Addr) (c : Nat) (hl : l.length ≤ 2000) (w : World) (ha : RowIs w a (l.flatMap blV)) : Calls Try.prog 33 #[.slice a l.length c] w (OwnBl w l.length (l.flatMap blV)) := by
  obtain ⟨i0, hi0, hz0, hz1, hz2⟩ := info_parts info58
  have hp := Hp.start w
  have HA := Lib.hid ha
  have sm1 : 0 + l.length ≤ maxLen := by unfold maxLen; omega
  have sm2 : (0 + l.length) * 16 ≤ 140737488355328 := by omega
  clear ha
  go_enter Try.func33, Try.ntmps33
  go_wp2_with (first | ((with_reducible refine pre_append _ _ 24 rfl ?_); refine wpList_appendGrowRow (K := []) (R := []) (M := []) hp _ _ _ rfl wy i0 _ 16 Try.underlying24 hi0 hz0 hz1 hz2 rfl (by decide) (sTm rfl) (OwnRow.nil _ _) a l.length c (sTm rfl) _ (lit_len l) (HA.out.below hp.below) (blsOne l) sm1 sm2 ?_; clear hp; intro v' R' w1 hR' hp; have HR' := Lib.hid hR'; clear hR'; simp only [put_some, put_none, sSet, zSet]) | go_skip)
  go_ret
  exact ⟨v', R', rfl, by simpa using HR'.out, by simpa using hp⟩
set_option maxRecDepth 100000 in
set_option maxHeartbeats 4000000 in
theorem blocks70 (od : Int) (oa : Option Addr) (os : List Ob) (oc : Nat) (nx t0 t1 t2 t3 : Int) (fa : Option Addr) (fs : List Bl) (fc : Nat) (hol : os.length ≤ 1000) (hfl : fs.length ≤ 2000) (w : World) (ha : RowIs w oa (os.flatMap obV)) (hf : RowIs w fa (fs.flatMap blV)) :
    Calls Try.prog 70 #[.agg #[.int .i64 od, .slice oa os.length oc, .int .i64 nx, .int .i64 t0, .int .i64 t1, .int .i64 t2, .int .i64 t3, .slice fa fs.length fc]] w (OwnBl w (fs ++ os.map obBl).length ((fs ++ os.map obBl).flatMap blV)) := by
  obtain ⟨i0, hi0, hz0, hz1, hz2⟩ := info_parts info58
  have hp := Hp.start w
  have HA := Lib.hid ha
  have HF := Lib.hid hf
  clear ha hf
  go_enter Try.func70, Try.ntmps70
  go_wp2_with (first | (go_at_call 33; (with_reducible refine (owng33 fs fa fc hfl _ (HF.out.below hp.below)).mono ?_); rintro e w1 ⟨va, RA, rfl, hra, hpa⟩; replace hp := hp.join hpa; have HRA := Lib.hid hra; clear hpa hra; simp only [List.cons_append, List.nil_append] at hp) | go_skip | ((first | ((with_reducible refine pre_box _ _ rfl ?_); refine lB hp rfl (sTm rfl) rfl ?_; clear hp; intro b w1 hp) | ((with_reducible refine pre_load _ _ rfl ?_); first | refine lO hp rfl (sTm rfl) ceKRefA1 aa5 ?_ | refine lRO hp rfl (sTm rfl) ceKRefA1 (by first | exact HX.out 0 _ rfl | exact HX.out 1 _ rfl | exact HX.out 2 _ rfl) ?_ | refine lA hp rfl (sTm rfl) gaKRefA0 aa5 ?_ | refine lR hp rfl (sTm rfl) gaKRefA0 HX.out ?_) | ((with_reducible refine pre_store _ _ _ rfl ?_); (first | refine sO hp rfl (sTm rfl) ceKRefA1 aa5 ?_ | refine sA hp rfl (sTm rfl) (sTm rfl) gaKRefA0 aa5 ?_ | refine sG hp rfl (sTm rfl) (sTm rfl) gaKRefA0 aa5 ?_); clear hp; intro w1 hp; simp only [spl, zSet, sSet] at hp) | ((with_reducible refine pre_build _ _ _ rfl ?_); refine lS hp rfl (by intro w; go_simp; rfl) ?_; clear hp; intro b w1 hp; simp only [List.length_cons, List.length_nil, Nat.reduceAdd] at hp)); simp only [put_some, put_none, sSet, zSet]))
  obtain ⟨b1, rfl⟩ := hp.id0
  go_loopg [3, 4] os.length (fun k va i wr => ∃ (q : Nat) (RA : List Blk), k + q = os.length ∧ i = .int .i64 q ∧ RowKit.Hid (OwnRow 58 2 va (fs.length + q) ((fs ++ (os.take q).map obBl).flatMap blV) RA) ∧ Hp w.heap.size w wr (⟨b1, [.int .i64 od, .slice oa os.length oc, .int .i64 nx, .int .i64 t0, .int .i64 t1, .int .i64 t2, .int .i64 t3, .slice fa fs.length fc], 26, 8⟩ :: RA))
  case atStart => exact ⟨0, RA, by omega, rfl, Lib.hid (by simpa using HRA.out), hp⟩
  case round =>
    clear hp HRA
    obtain ⟨q, RA, hkq, rfl, HRA, hp⟩ := hrel
    by_cases hlt : q < os.length
    · obtain ⟨bq, off, rfl, hx⟩ := HA.out.elems 5 obV_len (by omega) (by omega)
      have hj := List.getElem?_eq_getElem hlt
      replace hx := hx q _ hj
      have HJ := Lib.hid hj
      clear hj
      generalize os[q] = x at hx HJ
      have HTK : RowKit.Hid (os.take (q + 1) = os.take q ++ [x]) := Lib.hid (by rw [List.take_add_one, HJ.out]; rfl)
      obtain ⟨xh, xp, xo, wa, ws, wc, la, ls, lc⟩ := x
      simp only [obV] at hx
      have HX' := Lib.hid hx
      have HX : RowKit.Hid (∀ (j : Nat) v, [Value.int .i64 xp, .int .i64 xo][j]? = some v → w.cell? ⟨bq, off + q * 5 + 1 + j, none⟩ = some v) := Lib.hid (fun j v hj => by
        have := HX'.out (1 + j) v (by rw [Nat.add_comm]; rw [List.getElem?_cons_succ]; have hlt : j < 2 := by { have := (List.getElem?_eq_some_iff.1 hj).1; simpa using this }
                                      have hc : j = 0 ∨ j = 1 := by omega
                                      rcases hc with rfl | rfl <;> exact hj)
        rw [Nat.add_assoc (off + q * 5)]; exact this)
      clear hx
      have e1 : (0 : Int) ≤ (q : Int) := by omega
      have e2 : (q : Int) < (os.length : Int) := by omega
      have sm1 : fs.length + q + 1 ≤ maxLen := by unfold maxLen; omega
      have sm2 : (fs.length + q + 1) * 16 ≤ 140737488355328 := by omega
      go_wp2_with (first | ((with_reducible refine pre_append _ _ 24 rfl ?_); refine wpList_appendGrow (K := [_]) (R := RA) (M := []) (hp.reorder (by rw [List.append_nil]; exact List.Perm.refl _)) _ _ _ rfl wy i0 _ 16 Try.underlying24 hi0 hz0 hz1 hz2 rfl (by decide) (sTm rfl) HRA.out 1 1 (sTm rfl) (by rfl) (by decide) (by rfl) sm1 sm2 ?_; clear hp HRA; intro va' RA' w1 hra hp; have HRA := Lib.hid hra; clear hra; rw [List.append_nil] at hp; simp only [List.cons_append, List.nil_append] at hp; simp only [put_some, put_none, sSet, zSet]) | go_skip | ((first | ((with_reducible refine pre_box _ _ rfl ?_); refine lB hp rfl (sTm rfl) rfl ?_; clear hp; intro b w1 hp) | ((with_reducible refine pre_load _ _ rfl ?_); first | refine lO hp rfl (sTm rfl) ceKRefA1 aa5 ?_ | refine lRO hp rfl (sTm rfl) ceKRefA1 (by first | exact HX.out 0 _ rfl | exact HX.out 1 _ rfl | exact HX.out 2 _ rfl) ?_ | refine lA hp rfl (sTm rfl) gaKRefA0 aa5 ?_ | refine lR hp rfl (sTm rfl) gaKRefA0 HX.out ?_) | ((with_reducible refine pre_store _ _ _ rfl ?_); (first | refine sO hp rfl (sTm rfl) ceKRefA1 aa5 ?_ | refine sA hp rfl (sTm rfl) (sTm rfl) gaKRefA0 aa5 ?_ | refine sG hp rfl (sTm rfl) (sTm rfl) gaKRefA0 aa5 ?_); clear hp; intro w1 hp; simp only [spl, zSet, sSet] at hp) | ((with_reducible refine pre_build _ _ _ rfl ?_); refine lS hp rfl (by intro w; go_simp; rfl) ?_; clear hp; intro b w1 hp; simp only [List.length_cons, List.length_nil, Nat.reduceAdd] at hp)); simp only [put_some, put_none, sSet, zSet]))
      go_roundg (gk - 1)
      case measure => omega
      case rel =>
        refine ⟨q + 1, RA', by omega, by go_num, Lib.hid ?_, hp⟩
        rw [HTK.out, obs_map_snoc]; exact HRA.out
    · have e2 : decide ((q : Int) < (os.length : Int)) = false := by simp; omega
      have hq : q = os.length := by omega
      subst hq
      rw [List.take_length] at HRA
      go_wp2_with (first | go_skip | ((first | ((with_reducible refine pre_box _ _ rfl ?_); refine lB hp rfl (sTm rfl) rfl ?_; clear hp; intro b w1 hp) | ((with_reducible refine pre_load _ _ rfl ?_); first | refine lO hp rfl (sTm rfl) ceKRefA1 aa5 ?_ | refine lRO hp rfl (sTm rfl) ceKRefA1 (by first | exact HX.out 0 _ rfl | exact HX.out 1 _ rfl | exact HX.out 2 _ rfl) ?_ | refine lA hp rfl (sTm rfl) gaKRefA0 aa5 ?_ | refine lR hp rfl (sTm rfl) gaKRefA0 HX.out ?_) | ((with_reducible refine pre_store _ _ _ rfl ?_); (first | refine sO hp rfl (sTm rfl) ceKRefA1 aa5 ?_ | refine sA hp rfl (sTm rfl) (sTm rfl) gaKRefA0 aa5 ?_ | refine sG hp rfl (sTm rfl) (sTm rfl) gaKRefA0 aa5 ?_); clear hp; intro w1 hp; simp only [spl, zSet, sSet] at hp) | ((with_reducible refine pre_build _ _ _ rfl ?_); refine lS hp rfl (by intro w; go_simp; rfl) ?_; clear hp; intro b w1 hp; simp only [List.length_cons, List.length_nil, Nat.reduceAdd] at hp)); simp only [put_some, put_none, sSet, zSet]))
      go_ret
      exact ⟨_, RA, rfl, by simpa using HRA.out, hp.tail⟩
theorem sumB_le (l : List Bl) (h : ∀ b ∈ l, b.o ≤ 8) : sumB l ≤ l.length * 256 := by
  induction l with
  | nil => simp [sumB]
  | cons b l ih =>
    rw [sumB_cons]
    have := ih (fun c hc => h c (by simp [hc]))
    have := pw_le (h b (by simp))
    simp only [List.length_cons]; omega
theorem sum_take {l : List Bl} {j : Nat} {b : Bl} (h : l[j]? = some b) (hl : l.length ≤ 2000) (ho : ∀ b ∈ l, b.o ≤ 8) : sumB (l.take j) + pw b.o = sumB (l.take (j + 1)) ∧ wrap64 (sumB (l.take j) + pw b.o) = sumB (l.take (j + 1)) := by
  have h1 : sumB (l.take j) + pw b.o = sumB (l.take (j + 1)) := by
    rw [List.take_add_one, h, sumB_append]; simp [sumB]
  refine ⟨h1, ?_⟩
  rw [h1]
  have h2 := sumB_le (l.take (j + 1)) (fun b hb => ho b (List.mem_of_mem_take hb))
  have h3 := sumB_nonneg (l.take (j + 1))
  have h4 : (l.take (j + 1)).length ≤ l.length := by rw [List.length_take]; omega
  exact IntWalk.wrap64_in _ ⟨by omega, by omega⟩
set_option maxRecDepth 100000 in
set_option maxHeartbeats 4000000 in
theorem words72 (l : List Bl) (a : Option Addr) (c : Nat) (hl : l.length ≤ 2000) (ho : ∀ b ∈ l, b.o ≤ 8) (w : World) (ha : RowIs w a (l.flatMap blV)) :
    Calls Try.prog 72 #[.slice a l.length c] w fun e w' => e = .returned (.int .i64 (sumB l)) ∧ Below w.heap.size w w' := by
  have hp := Hp.start w
  have HA := Lib.hid ha
  have HO := Lib.hid ho
  clear ha ho
  go_enter Try.func72, Try.ntmps72
  go_wp2_with (first | go_skip | ((first | ((with_reducible refine pre_box _ _ rfl ?_); refine lB hp rfl (sTm rfl) rfl ?_; clear hp; intro b w1 hp) | ((with_reducible refine pre_load _ _ rfl ?_); first | refine lO hp rfl (sTm rfl) ceKRefA1 aa5 ?_ | refine lRO hp rfl (sTm rfl) ceKRefA1 (by first | exact HX.out 0 _ rfl | exact HX.out 1 _ rfl | exact HX.out 2 _ rfl) ?_ | refine lA hp rfl (sTm rfl) gaKRefA0 aa5 ?_ | refine lR hp rfl (sTm rfl) gaKRefA0 HX.out ?_) | ((with_reducible refine pre_store _ _ _ rfl ?_); (first | refine sO hp rfl (sTm rfl) ceKRefA1 aa5 ?_ | refine sA hp rfl (sTm rfl) (sTm rfl) gaKRefA0 aa5 ?_ | refine sG hp rfl (sTm rfl) (sTm rfl) gaKRefA0 aa5 ?_); clear hp; intro w1 hp; simp only [spl, zSet, sSet] at hp) | ((with_reducible refine pre_build _ _ _ rfl ?_); refine lS hp rfl (by intro w; go_simp; rfl) ?_; clear hp; intro b w1 hp; simp only [List.length_cons, List.length_nil, Nat.reduceAdd] at hp)); simp only [put_some, put_none, sSet, zSet]))
  go_loopg [3, 4] l.length (fun k s i wr => ∃ (j : Nat) (sv : Int), k + j = l.length ∧ s = .int .i64 sv ∧ i = .int .i64 j ∧ RowKit.Hid (sv = sumB (l.take j)) ∧ Hp w.heap.size w wr [])
  case atStart => exact ⟨0, 0, by omega, rfl, rfl, Lib.hid (by simp [sumB]), hp⟩
  case round =>
    clear hp
    obtain ⟨j, sv, hkj, rfl, rfl, HS, hp⟩ := hrel
    by_cases hlt : j < l.length
    · obtain ⟨bq, off, rfl, hx⟩ := HA.out.elems 2 blV_len (by omega) (by omega)
      have hj := List.getElem?_eq_getElem hlt
      replace hx := hx j _ hj
      have HJ := Lib.hid hj
      have ho8 := HO.out _ (List.getElem_mem hlt)
      clear hj
      generalize l[j] = y at hx HJ ho8
      have HST := Lib.hid (sum_take HJ.out hl HO.out)
      obtain ⟨yp, yo⟩ := y
      simp only [blV] at hx
      simp only at ho8 HST
      have HX := Lib.hid hx
      clear hx
      have e1 : (0 : Int) ≤ (j : Int) := by omega
      have e2 : (j : Int) < (l.length : Int) := by omega
      go_wp2_with (first | (go_at_call 73; (with_reducible refine (size73 _ (by omega) _).mono ?_); rintro e w' ⟨rfl, rfl⟩) | go_skip | ((first | ((with_reducible refine pre_box _ _ rfl ?_); refine lB hp rfl (sTm rfl) rfl ?_; clear hp; intro b w1 hp) | ((with_reducible refine pre_load _ _ rfl ?_); first | refine lO hp rfl (sTm rfl) ceKRefA1 aa5 ?_ | refine lRO hp rfl (sTm rfl) ceKRefA1 (by first | exact HX.out 0 _ rfl | exact HX.out 1 _ rfl | exact HX.out 2 _ rfl) ?_ | refine lA hp rfl (sTm rfl) gaKRefA0 aa5 ?_ | refine lR hp rfl (sTm rfl) gaKRefA0 HX.out ?_) | ((with_reducible refine pre_store _ _ _ rfl ?_); (first | refine sO hp rfl (sTm rfl) ceKRefA1 aa5 ?_ | refine sA hp rfl (sTm rfl) (sTm rfl) gaKRefA0 aa5 ?_ | refine sG hp rfl (sTm rfl) (sTm rfl) gaKRefA0 aa5 ?_); clear hp; intro w1 hp; simp only [spl, zSet, sSet] at hp) | ((with_reducible refine pre_build _ _ _ rfl ?_); refine lS hp rfl (by intro w; go_simp; rfl) ?_; clear hp; intro b w1 hp; simp only [List.length_cons, List.length_nil, Nat.reduceAdd] at hp)); simp only [put_some, put_none, sSet, zSet]))
      go_roundg (gk - 1)
      case measure => omega
      case rel => exact ⟨j + 1, _, by omega, rfl, by go_num, Lib.hid (by rw [HS.out]; exact HST.out.2), hp⟩
    · have e2 : decide ((j : Int) < (l.length : Int)) = false := by simp; omega
      go_wp2_with (first | go_skip | ((first | ((with_reducible refine pre_box _ _ rfl ?_); refine lB hp rfl (sTm rfl) rfl ?_; clear hp; intro b w1 hp) | ((with_reducible refine pre_load _ _ rfl ?_); first | refine lO hp rfl (sTm rfl) ceKRefA1 aa5 ?_ | refine lRO hp rfl (sTm rfl) ceKRefA1 (by first | exact HX.out 0 _ rfl | exact HX.out 1 _ rfl | exact HX.out 2 _ rfl) ?_ | refine lA hp rfl (sTm rfl) gaKRefA0 aa5 ?_ | refine lR hp rfl (sTm rfl) gaKRefA0 HX.out ?_) | ((with_reducible refine pre_store _ _ _ rfl ?_); (first | refine sO hp rfl (sTm rfl) ceKRefA1 aa5 ?_ | refine sA hp rfl (sTm rfl) (sTm rfl) gaKRefA0 aa5 ?_ | refine sG hp rfl (sTm rfl) (sTm rfl) gaKRefA0 aa5 ?_); clear hp; intro w1 hp; simp only [spl, zSet, sSet] at hp) | ((with_reducible refine pre_build _ _ _ rfl ?_); refine lS hp rfl (by intro w; go_simp; rfl) ?_; clear hp; intro b w1 hp; simp only [List.length_cons, List.length_nil, Nat.reduceAdd] at hp)); simp only [put_some, put_none, sSet, zSet]))
      go_ret
      refine ⟨ret_int ?_, hp.below⟩
      rw [HS.out, List.take_of_length_le (by omega)]
end Go.Proofs.Ytaafajaadfgaoaa
