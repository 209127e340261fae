/- Parts of the proof. -/
import Derived.Test.YtaafajaadfgaoaaGreatRg8
import Derived.Test.YtaafajaadfgaoaaGreatRg13
import Derived.Test.YtaafajaadfgaoaaGreatRg2
import Derived.Test.YtaafajaadfgaoaaGreatRg3
open List renaming set_cons_zero → zSet, set_cons_succ → sSet
/- What is laid is read: the plain law. No program in sight. -/
set_option linter.unusedSimpArgs false
set_option linter.unusedVariables false
namespace Go.Proofs.YtaafajaadfgaoaaGreat
open Go.RowKit
def I64 (v : Int) : Prop := -9223372036854775808 ≤ v ∧ v ≤ 9223372036854775807
theorem beV_beS4 {n : Nat} (h : n < 4294967296) : beV (beS 4 n) = n := by
  have e : beS 4 n = [n / 2 ^ 24 % 256, n / 2 ^ 16 % 256, n / 2 ^ 8 % 256, n / 2 ^ 0 % 256] := rfl
  rw [e]
  simp only [beV, List.foldl_cons, List.foldl_nil]
  omega
theorem beV_beS8 {n : Nat} (h : n < 18446744073709551616) : beV (beS 8 n) = n := by
  have e : beS 8 n = [n / 2 ^ 56 % 256, n / 2 ^ 48 % 256, n / 2 ^ 40 % 256, n / 2 ^ 32 % 256, n / 2 ^ 24 % 256, n / 2 ^ 16 % 256, n / 2 ^ 8 % 256, n / 2 ^ 0 % 256] := rfl
  rw [e]
  simp only [beV, List.foldl_cons, List.foldl_nil]
  omega
theorem wrap_uN {v : Int} (h : I64 v) : wrap64 ((uN v : Nat) : Int) = v := by
  obtain ⟨h1, h2⟩ := h
  rw [uN_cast]; unfold wrap64; omega
theorem numR_put {n : Nat} (h : n ≤ 2147483647) (r : List Nat) : numR (beS 4 n ++ r) = some n := by
  unfold numR
  have e : (beS 4 n ++ r).take 4 = beS 4 n := by rw [List.take_left' (beS_len 4 n)]
  rw [e, beV_beS4 (by omega), if_pos ⟨by rw [List.length_append, beS_len]; omega, h⟩]
theorem nR_put {n : Nat} (h : n ≤ 2147483647) (r : List Nat) : nR (beS 4 n ++ r) = some ((n : Int), r) := by
  unfold nR
  rw [numR_put h]
  show some ((n : Int), (beS 4 n ++ r).drop 4) = _
  rw [List.drop_left' (beS_len 4 n)]
theorem iR_put {v : Int} (h : I64 v) (r : List Nat) : iR (beS 8 (uN v) ++ r) = some (v, r) := by
  unfold iR intR
  rw [if_pos (by rw [List.length_append, beS_len]; omega), List.take_left' (beS_len 8 _), beV_beS8 (uN_lt v), wrap_uN h, Option.map_some, List.drop_left' (beS_len 8 _)]
theorem rep_put {α β : Type} {one : List Nat → Option (β × List Nat)} (f : α → List Nat) (g : α → β) : ∀ (n : Nat) (l : List α), l.length = n → (∀ x ∈ l, ∀ r, one (f x ++ r) = some (g x, r)) → ∀ r, repR one n (l.flatMap f ++ r) = some (l.map g, r)
  | 0, l, hl, _, r => by
    rw [List.length_eq_zero_iff.1 hl]; rfl
  | n + 1, l, hl, h, r => by
    rcases List.eq_nil_or_concat l with rfl | ⟨k, x, rfl⟩
    · cases hl
    rw [List.concat_eq_append] at hl h ⊢
    have hk : k.length = n := by simpa using hl
    have h1 := rep_put f g n k hk (fun y hy => h y (by simp [hy])) (f x ++ r)
    have h2 := h x (by simp) r
    rw [List.flatMap_append, List.append_assoc, show [x].flatMap f = f x by simp]
    rw [repR_step h1 h2, List.map_append]; rfl
theorem rep_ints {l : List Int} (h : ∀ v ∈ l, I64 v) (r : List Nat) : repR iR l.length (bi8 l ++ r) = some (l, r) := by
  have := rep_put (one := iR) (fun v => beS 8 (uN v)) id l.length l rfl (fun v hv r => iR_put (h v hv) r) r
  rw [List.map_id] at this
  exact this
theorem rep_nats {l : List Nat} (h : ∀ v ∈ l, v ≤ 2147483647) (r : List Nat) : repR nR l.length (bn4 l ++ r) = some (l.map fun (n : Nat) => (n : Int), r) := rep_put (one := nR) (fun v => beS 4 v) (fun n => (n : Int)) l.length l rfl (fun v hv r => nR_put (h v hv) r) r
theorem bn4_cons (n : Nat) (l : List Nat) (r : List Nat) : bn4 (n :: l) ++ r = beS 4 n ++ (bn4 l ++ r) := by unfold bn4; rw [List.flatMap_cons, List.append_assoc]
theorem bn4_nil (r : List Nat) : bn4 [] ++ r = r := rfl
def clearO (o : Ob) : Ob := mkOb o.h o.p o.o o.ws o.ls
theorem toNat_list {l : List Int} (h : ∀ t ∈ l, 0 ≤ t) : ((l.map Int.toNat).map fun (n : Nat) => (n : Int)) = l := by
  rw [List.map_map]
  conv => rhs; rw [← List.map_id l]
  exact List.map_congr_left fun x hx => by have := h x hx; simp only [Function.comp_apply, id]; omega
theorem objR_put {o : Ob} (hl : ObLay o) (hn : needI o.ws.length o.ls.length = o.o) (h0 : 0 ≤ o.o) (hw : ∀ v ∈ o.ws, I64 v) (r : List Nat) : objR (obB o ++ r) = some (clearO o, r) := by
  have g1 := hl.h0
  have g2 := hl.h1
  have g3 := hl.p0
  have g4 := hl.p1
  have g5 := hl.wl
  have g6 := hl.ll
  unfold obB
  rw [List.append_assoc, bn4_cons, bn4_cons, bn4_cons, bn4_cons, bn4_nil, List.append_assoc]
  unfold objR
  rw [nR_put (by omega)]; simp only
  rw [nR_put (by omega)]; simp only
  rw [nR_put (by omega)]; simp only
  rw [nR_put (by omega)]; simp only
  rw [hn, if_neg (by omega), Int.toNat_natCast, Int.toNat_natCast, rep_ints hw]; simp only
  rw [show o.ls.length = (o.ls.map Int.toNat).length by simp, rep_nats (fun v hv => by
    obtain ⟨t, ht, rfl⟩ := List.mem_map.1 hv
    have := hl.ls t ht
    omega)]
  simp only
  rw [toNat_list (fun t ht => (hl.ls t ht).1), Int.toNat_of_nonneg g1, Int.toNat_of_nonneg g3]
  rfl
theorem ObsSm.clear (l : List Ob) : ObsSm (l.map clearO) l := by
  refine ⟨by simp, fun i a b ha hb => ?_⟩
  rw [List.getElem?_map, hb] at ha
  simp only [Option.map_some, Option.some.injEq] at ha
  subst ha
  exact ⟨rfl, rfl, rfl, rfl, rfl⟩
def clearH (x : Hv) : Hv := ⟨x.od, none, x.os.map clearO, 0, x.nx, x.t0, x.t1, x.t2, x.t3, none, x.fs, 0⟩
theorem clearH_sm (x : Hv) : (clearH x).Sm x := ⟨rfl, rfl, rfl, rfl, rfl, rfl, ObsSm.clear _, rfl⟩
def Hv.W64 (x : Hv) : Prop := ∀ o ∈ x.os, ∀ v ∈ o.ws, I64 v
theorem heapR0_put {x : Hv} (hx : HRight x) (hw : x.W64) (r : List Nat) : heapR0 (heapB x ++ r) = some (clearH x, r) := by
  have hlay := hright_lay hx
  have hod := hright_od hx
  have hlo := hx.lo
  have hhi := hx.hi
  have hlen := hx.len
  have l0 := leads_lay hx (hx.tops x.t0 (by simp [tops]))
  have l1 := leads_lay hx (hx.tops x.t1 (by simp [tops]))
  have l2 := leads_lay hx (hx.tops x.t2 (by simp [tops]))
  have l3 := leads_lay hx (hx.tops x.t3 (by simp [tops]))
  have hob : ∀ o ∈ x.os, ∀ r, objR (obB o ++ r) = some (clearO o, r) := fun o ho r => objR_put (hlay o ho) (hx.need o ho).1 (by have := (hx.need o ho).2.1; simpa [obBl] using this) (hw o ho) r
  unfold heapB headB
  rw [List.append_assoc, List.append_assoc, List.append_assoc, bn4_cons, bn4_cons, bn4_nil]
  unfold heapR0
  rw [nR_put (by omega)]; simp only
  rw [nR_put (by omega)]; simp only
  unfold heapR1
  rw [show (4 : Nat) = [x.t0.toNat, x.t1.toNat, x.t2.toNat, x.t3.toNat].length from rfl, rep_nats (by intro v hv; simp at hv; omega)]
  simp only
  unfold heapR2
  rw [bn4_cons, bn4_nil, nR_put (by omega)]
  simp only
  rw [if_neg (by omega), Int.toNat_natCast, rep_put obB clearO x.os.length x.os rfl hob]
  simp only
  unfold heapR3
  rw [Int.toNat_of_nonneg (by omega), Int.toNat_of_nonneg (by omega)]
  have hre : regionB x.od = true := by unfold regionB; simp [hod.1, hod.2]
  have hm : mkHv x.od (x.os.map clearO) x.nx ([x.t0.toNat, x.t1.toNat, x.t2.toNat, x.t3.toNat].map fun (n : Nat) => (n : Int)) (lfN (pw x.od) (x.os.map clearO) x.od.toNat 0) = clearH x := by
    rw [lf_sm (ObsSm.clear x.os), left_free hx]
    unfold mkHv clearH
    simp only [List.map_cons, List.map_nil, List.getD_cons_zero, List.getD_cons_succ, Int.toNat_of_nonneg l0.1, Int.toNat_of_nonneg l1.1, Int.toNat_of_nonneg l2.1, Int.toNat_of_nonneg l3.1]
  rw [if_pos hre, hm, if_pos (by rw [hright_sm (clearH_sm x)]; exact hright_yes hx)]
theorem heapR_put {x : Hv} (hx : HRight x) (hw : x.W64) : heapR (heapB x) = some (clearH x) := by
  have h := heapR0_put hx hw []
  rw [List.append_nil] at h
  unfold heapR wholeR
  rw [h]; rfl
theorem iR_64 {bs r : List Nat} {v : Int} (h : iR bs = some (v, r)) : I64 v := by
  unfold iR at h
  cases h1 : intR bs with
  | none => rw [h1] at h; cases h
  | some u =>
    rw [h1] at h
    simp at h
    obtain ⟨rfl, _⟩ := h
    unfold intR at h1
    split at h1
    · injection h1 with h1
      rw [← h1]; unfold wrap64 I64; omega
    · cases h1
theorem rowR_put {x : Rw} (hc : 0 ≤ x.c ∧ x.c ≤ 4 ∧ 0 ≤ x.s ∧ x.s ≤ 1000000 ∧ 0 ≤ x.e ∧ x.e ≤ 65535) (hv : I64 x.v) (r : List Nat) : rowR (rowB x ++ r) = some (x, r) := by
  unfold rowB
  rw [List.append_assoc, bn4_cons, bn4_cons, bn4_cons, bn4_nil]
  unfold rowR
  rw [nR_put (by omega)]; simp only
  rw [nR_put (by omega)]; simp only
  rw [nR_put (by omega)]; simp only
  rw [show bi8 [x.v] ++ r = beS 8 (uN x.v) ++ r by simp [bi8], iR_put hv]
  simp only
  rw [Int.toNat_of_nonneg hc.1, Int.toNat_of_nonneg hc.2.2.1, Int.toNat_of_nonneg hc.2.2.2.2.1]
structure Sv.W64 (x : Sv) : Prop where
  hv : x.hv.W64
  rows : ∀ r ∈ x.rs, I64 r.v
def clearS (x : Sv) : Sv := ⟨clearH x.hv, none, x.rs, 0⟩
theorem clearS_sm (x : Sv) : (clearS x).Sm x := ⟨clearH_sm _, rfl⟩
theorem textR_put {bs : List Nat} (h : bs.length ≤ 65536) (r : List Nat) : textR ((beS 4 bs.length ++ bs) ++ r) = some (bs, r) := by
  unfold textR
  rw [List.append_assoc, numR_put (by omega)]
  simp only
  rw [List.drop_left' (beS_len 4 _)]
  simp [h, beS_len]
  omega
theorem stateR_put {x : Sv} (hx : StR x) (hw : x.W64) : stateR (stateB x) = some (clearS x) := by
  have hlen := heapB_len hx.hv
  have hrl := rowsOk_len hx.rows (by decide)
  unfold stateR wholeR stateR0 stateB
  rw [textR_put (by omega)]
  simp only
  rw [heapR_put hx.hv hw.hv]
  simp only
  unfold stateR1
  rw [bn4_cons, bn4_nil, nR_put (by omega)]
  simp only
  have hrow := rep_put rowB id x.rs.length x.rs rfl (fun y hy r => rowR_put (by have := rowOk_iff.1 (rowsOk_mem hx.rows y hy); omega) (hw.rows y hy) r) []
  rw [List.append_nil, List.map_id] at hrow
  rw [if_neg (by omega), Int.toNat_natCast, hrow]
  simp only
  rw [show (⟨clearH x.hv, none, x.rs, 0⟩ : Sv) = clearS x from rfl, if_pos (by rw [stB_sm (clearS_sm x)]; exact st_yes hx)]
  rfl
end Go.Proofs.YtaafajaadfgaoaaGreat
/- Bytes that come in, opened. -/
namespace Go.Proofs.YtaafajaadfgaoaaGreat
open Go.RowKit Go.ChangeShapes Go.WideShapes Go.ChangeAt Go.Deep
section
variable {H : Type} {enc : TypeId × Value → H} {w : World} {base : Nat} {spare : Nat → Bool} {held : Bool} {cs : List Value}
theorem reads_by (h : Reads H enc Tryz.prog w base spare held 5 cs) : ∃ x : Nat, cs = byV x ∧ x < 256 := by
  obtain ⟨a0, h0, hr⟩ := h.int Tryz.underlying5
  have h5 : IntKind.u8.max = 255 := by decide
  have h6 : IntKind.u8.min = 0 := by decide
  have h7 := hr.1
  have h8 := hr.2
  rw [h6] at h7
  rw [h5] at h8
  obtain ⟨x, rfl⟩ := Int.eq_ofNat_of_zero_le h7
  exact ⟨x, h0, by omega⟩
theorem reads_bytes {a : Option Addr} {n c : Nat} (h : Reads H enc Tryz.prog w base spare held 57 [.slice a n c]) : ∃ l : List Nat, l.length = n ∧ RdAt w a l ∧ n ≤ c := by
  have hc : n ≤ c := by
    obtain ⟨m, y, h'⟩ := h
    rcases open_slice Tryz.underlying57 h' with ⟨he, _⟩ | ⟨ad, n', cap, m, nn, D, Pl, he, _, hl, _⟩
    · simp at he; omega
    · simp at he; omega
  obtain ⟨a', l, c', h1, h2, hg⟩ := h.slice byV (fun x => x < 256) 1 (by decide) byV_len Tryz.underlying57 (by kernel_rfl) (fun cs h => reads_by h)
  simp at h1
  obtain ⟨rfl, rfl, rfl⟩ := h1
  exact ⟨l, rfl, ⟨h2, hg⟩, hc⟩
end
end Go.Proofs.YtaafajaadfgaoaaGreat
/- Bytes that are read are laid as the same bytes: the plain law of ImageReads. No program in sight. -/
namespace Go.Proofs.YtaafajaadfgaoaaGreat
open Go.RowKit
theorem beS4_of {l : List Nat} (h4 : l.length = 4) (hb : Bytes l) : beS 4 (beV l) = l := by
  match l, h4 with
  | [a, b, c, d], _ =>
    have ha := hb a (by simp)
    have hb' := hb b (by simp)
    have hc := hb c (by simp)
    have hd := hb d (by simp)
    have e : ∀ n, beS 4 n = [n / 2 ^ 24 % 256, n / 2 ^ 16 % 256, n / 2 ^ 8 % 256, n / 2 ^ 0 % 256] := fun _ => rfl
    rw [e]
    simp only [beV, List.foldl_cons, List.foldl_nil]
    congr 1
    · omega
    congr 1
    · omega
    congr 1
    · omega
    congr 1
    omega
theorem beS8_of {l : List Nat} (h8 : l.length = 8) (hb : Bytes l) : beS 8 (beV l) = l := by
  match l, h8 with
  | [a, b, c, d, e, f, g, h], _ =>
    have h1 := hb a (by simp)
    have h2 := hb b (by simp)
    have h3 := hb c (by simp)
    have h4 := hb d (by simp)
    have h5 := hb e (by simp)
    have h6 := hb f (by simp)
    have h7 := hb g (by simp)
    have h8 := hb h (by simp)
    have ee : ∀ n, beS 8 n = [n / 2 ^ 56 % 256, n / 2 ^ 48 % 256, n / 2 ^ 40 % 256, n / 2 ^ 32 % 256, n / 2 ^ 24 % 256, n / 2 ^ 16 % 256, n / 2 ^ 8 % 256, n / 2 ^ 0 % 256] := fun _ => rfl
    rw [ee]
    simp only [beV, List.foldl_cons, List.foldl_nil]
    congr 1
    · omega
    congr 1
    · omega
    congr 1
    · omega
    congr 1
    · omega
    congr 1
    · omega
    congr 1
    · omega
    congr 1
    · omega
    congr 1
    omega
def Rdv {α : Type} (one : List Nat → Option (α × List Nat)) (f : α → List Nat) : Prop := ∀ bs x r, Bytes bs → one bs = some (x, r) → bs = f x ++ r
theorem Bytes.right {a b : List Nat} (h : Bytes (a ++ b)) : Bytes b := fun x hx => h x (List.mem_append_right _ hx)
theorem numR_rv {bs : List Nat} {n : Nat} (hb : Bytes bs) (h : numR bs = some n) : bs = beS 4 n ++ bs.drop 4 ∧ n ≤ 2147483647 := by
  unfold numR at h
  split at h
  · rename_i h1
    injection h with h
    subst h
    refine ⟨?_, h1.2⟩
    rw [beS4_of (by rw [List.length_take]; omega) (hb.take 4), List.take_append_drop]
  · cases h
theorem nR_rv : Rdv nR (fun v => beS 4 v.toNat) := by
  intro bs x r hb h
  unfold nR at h
  cases h1 : numR bs with
  | none => rw [h1] at h; cases h
  | some n =>
    rw [h1] at h
    simp at h
    rw [← h.1, ← h.2]
    simp only [Int.toNat_natCast]
    exact (numR_rv hb h1).1
theorem iR_rv : Rdv iR (fun v => beS 8 (uN v)) := by
  intro bs x r hb h
  unfold iR intR at h
  split at h
  · rename_i h1
    simp at h
    have h2 := beV_lt64 hb (k := 8) (Nat.le_refl 8)
    have h3 : uN x = beV (bs.take 8) := by rw [← h.1]; unfold uN wrap64; omega
    simp only
    rw [h3, ← h.2, beS8_of (by rw [List.length_take]; omega) (hb.take 8), List.take_append_drop]
  · cases h
theorem repR_rv {α : Type} {one : List Nat → Option (α × List Nat)} {f : α → List Nat} (h1 : Rdv one f) : ∀ (n : Nat) (bs : List Nat) (l : List α) (r : List Nat), Bytes bs → repR one n bs = some (l, r) → bs = l.flatMap f ++ r ∧ l.length = n
  | 0 => by
    intro bs l r hb h
    unfold repR at h
    injection h with h; injection h with h2 h3
    subst h2 h3
    exact ⟨rfl, rfl⟩
  | n + 1 => by
    intro bs l r hb h
    unfold repR at h
    cases e1 : repR one n bs with
    | none => rw [e1] at h; cases h
    | some p =>
      obtain ⟨l1, b1⟩ := p
      rw [e1] at h
      simp only at h
      obtain ⟨g1, g2⟩ := repR_rv h1 n _ _ _ hb e1
      have hb1 : Bytes b1 := by rw [g1] at hb; exact hb.right
      cases e2 : one b1 with
      | none => rw [e2] at h; cases h
      | some q =>
        obtain ⟨y, b2⟩ := q
        rw [e2] at h
        simp only at h
        injection h with h; injection h with h2 h3
        subst h2 h3
        refine ⟨?_, by simp [g2]⟩
        rw [g1, h1 _ _ _ hb1 e2]
        simp [List.append_assoc]
theorem ints_rv {n : Nat} {bs r : List Nat} {l : List Int} (hb : Bytes bs) (h : repR iR n bs = some (l, r)) : bs = bi8 l ++ r ∧ l.length = n := repR_rv iR_rv n bs l r hb h
theorem nats_rv {n : Nat} {bs r : List Nat} {l : List Int} (hb : Bytes bs) (h : repR nR n bs = some (l, r)) : bs = bn4 (l.map Int.toNat) ++ r ∧ l.length = n := by
  obtain ⟨h1, h2⟩ := repR_rv nR_rv n bs l r hb h
  refine ⟨?_, h2⟩
  unfold bn4
  rw [h1, List.flatMap_map]
theorem objR_rv : Rdv objR obB := by
  intro bs x r hb h
  unfold objR at h
  cases e1 : nR bs with
  | none => rw [e1] at h; cases h
  | some p1 =>
    obtain ⟨a1, b1⟩ := p1
    rw [e1] at h; simp only at h
    have g1 := nR_rv _ _ _ hb e1
    have k1 : Bytes b1 := by rw [g1] at hb; exact hb.right
    cases e2 : nR b1 with
    | none => rw [e2] at h; cases h
    | some p2 =>
      obtain ⟨a2, b2⟩ := p2
      rw [e2] at h; simp only at h
      have g2 := nR_rv _ _ _ k1 e2
      have k2 : Bytes b2 := by rw [g2] at k1; exact k1.right
      cases e3 : nR b2 with
      | none => rw [e3] at h; cases h
      | some p3 =>
        obtain ⟨a3, b3⟩ := p3
        rw [e3] at h; simp only at h
        have g3 := nR_rv _ _ _ k2 e3
        have k3 : Bytes b3 := by rw [g3] at k2; exact k2.right
        cases e4 : nR b3 with
        | none => rw [e4] at h; cases h
        | some p4 =>
          obtain ⟨a4, b4⟩ := p4
          rw [e4] at h; simp only at h
          have g4 := nR_rv _ _ _ k3 e4
          have k4 : Bytes b4 := by rw [g4] at k3; exact k3.right
          split at h
          · cases h
          · cases e5 : repR iR a3.toNat b4 with
            | none => rw [e5] at h; cases h
            | some p5 =>
              obtain ⟨a5, b5⟩ := p5
              rw [e5] at h; simp only at h
              obtain ⟨g5, l5⟩ := ints_rv k4 e5
              have k5 : Bytes b5 := by rw [g5] at k4; exact k4.right
              cases e6 : repR nR a4.toNat b5 with
              | none => rw [e6] at h; cases h
              | some p6 =>
                obtain ⟨a6, b6⟩ := p6
                rw [e6] at h; simp only at h
                obtain ⟨g6, l6⟩ := nats_rv k5 e6
                injection h with h; injection h with h2 h3
                subst h2 h3
                unfold obB
                simp only [mkOb]
                rw [l5, l6, List.append_assoc, bn4_cons, bn4_cons, bn4_cons, bn4_cons, bn4_nil, List.append_assoc, ← g6, ← g5, ← g4, ← g3, ← g2, ← g1]
theorem headB_app (x : Hv) (r : List Nat) : headB x ++ r = beS 4 x.od.toNat ++ (beS 4 x.nx.toNat ++ (bn4 [x.t0.toNat, x.t1.toNat, x.t2.toNat, x.t3.toNat] ++ (beS 4 x.os.length ++ r))) := by
  unfold headB
  rw [List.append_assoc, List.append_assoc, bn4_cons, bn4_cons, bn4_nil, bn4_cons (x.os.length), bn4_nil]
theorem four_nat {l : List Int} (h : l.length = 4) : l.map Int.toNat = [(l.getD 0 0).toNat, (l.getD 1 0).toNat, (l.getD 2 0).toNat, (l.getD 3 0).toNat] := by
  match l, h with
  | [a, b, c, d], _ => rfl
theorem heapR0_rv : Rdv heapR0 heapB := by
  intro bs x r hb h
  unfold heapR0 at h
  cases e1 : nR bs with
  | none => rw [e1] at h; cases h
  | some p1 =>
    obtain ⟨a1, b1⟩ := p1
    rw [e1] at h; simp only at h
    have g1 := nR_rv _ _ _ hb e1
    have k1 : Bytes b1 := by rw [g1] at hb; exact hb.right
    cases e2 : nR b1 with
    | none => rw [e2] at h; cases h
    | some p2 =>
      obtain ⟨a2, b2⟩ := p2
      rw [e2] at h; simp only at h
      have g2 := nR_rv _ _ _ k1 e2
      have k2 : Bytes b2 := by rw [g2] at k1; exact k1.right
      unfold heapR1 at h
      cases e3 : repR nR 4 b2 with
      | none => rw [e3] at h; cases h
      | some p3 =>
        obtain ⟨a3, b3⟩ := p3
        rw [e3] at h; simp only at h
        obtain ⟨g3, l3⟩ := nats_rv k2 e3
        have k3 : Bytes b3 := by rw [g3] at k2; exact k2.right
        unfold heapR2 at h
        cases e4 : nR b3 with
        | none => rw [e4] at h; cases h
        | some p4 =>
          obtain ⟨a4, b4⟩ := p4
          rw [e4] at h; simp only at h
          have g4 := nR_rv _ _ _ k3 e4
          have k4 : Bytes b4 := by rw [g4] at k3; exact k3.right
          split at h
          · cases h
          · cases e5 : repR objR a4.toNat b4 with
            | none => rw [e5] at h; cases h
            | some p5 =>
              obtain ⟨a5, b5⟩ := p5
              rw [e5] at h; simp only at h
              obtain ⟨g5, l5⟩ := repR_rv objR_rv _ _ _ _ k4 e5
              unfold heapR3 at h
              split at h
              · split at h
                · injection h with h; injection h with h3 h4
                  subst h3 h4
                  unfold heapB
                  rw [List.append_assoc, headB_app]
                  simp only [mkHv]
                  rw [← four_nat l3, l5, ← g5, ← g4, ← g3, ← g2, ← g1]
                · cases h
              · cases h
theorem textR_rv : Rdv textR (fun t => beS 4 t.length ++ t) := by
  intro bs x r hb h
  unfold textR at h
  cases e1 : numR bs with
  | none => rw [e1] at h; cases h
  | some n =>
    rw [e1] at h; simp only at h
    have g1 := (numR_rv hb e1).1
    split at h
    · rename_i h4
      injection h with h; injection h with h5 h6
      have e3 : x.length = n := by rw [← h5, List.length_take, List.length_drop]; omega
      simp only
      rw [e3, List.append_assoc, ← h5, ← h6, List.take_append_drop]
      exact g1
    · cases h
theorem rowR_rv : Rdv rowR rowB := by
  intro bs x r hb h
  unfold rowR at h
  cases e1 : nR bs with
  | none => rw [e1] at h; cases h
  | some p1 =>
    obtain ⟨a1, b1⟩ := p1
    rw [e1] at h; simp only at h
    have g1 := nR_rv _ _ _ hb e1
    have k1 : Bytes b1 := by rw [g1] at hb; exact hb.right
    cases e2 : nR b1 with
    | none => rw [e2] at h; cases h
    | some p2 =>
      obtain ⟨a2, b2⟩ := p2
      rw [e2] at h; simp only at h
      have g2 := nR_rv _ _ _ k1 e2
      have k2 : Bytes b2 := by rw [g2] at k1; exact k1.right
      cases e3 : nR b2 with
      | none => rw [e3] at h; cases h
      | some p3 =>
        obtain ⟨a3, b3⟩ := p3
        rw [e3] at h; simp only at h
        have g3 := nR_rv _ _ _ k2 e3
        have k3 : Bytes b3 := by rw [g3] at k2; exact k2.right
        cases e4 : iR b3 with
        | none => rw [e4] at h; cases h
        | some p4 =>
          obtain ⟨a4, b4⟩ := p4
          rw [e4] at h; simp only at h
          have g4 := iR_rv _ _ _ k3 e4
          injection h with h; injection h with h5 h6
          subst h5 h6
          unfold rowB
          simp only
          rw [List.append_assoc, bn4_cons, bn4_cons, bn4_cons, bn4_nil, show ∀ r, bi8 [a4] ++ r = beS 8 (uN a4) ++ r from fun r => by simp [bi8], ← g4, ← g3, ← g2, ← g1]
theorem whole_rv {α : Type} {one : List Nat → Option (α × List Nat)} {f : α → List Nat} (h1 : Rdv one f) {bs : List Nat} {x : α} (hb : Bytes bs) (h : wholeR one bs = some x) : f x = bs := by
  unfold wholeR at h
  split at h
  · rename_i y r hy
    split at h
    · rename_i hr
      injection h with h
      have := h1 _ _ _ hb hy
      rw [List.length_eq_zero_iff.1 hr, List.append_nil] at this
      rw [← h, ← this]
    · cases h
  · cases h
theorem heapR_back {bs : List Nat} {x : Hv} (hb : Bytes bs) (h : heapR bs = some x) : heapB x = bs := whole_rv heapR0_rv hb h
theorem stateR0_rv : Rdv stateR0 stateB := by
  intro bs x r hb h
  unfold stateR0 at h
  cases e1 : textR bs with
  | none => rw [e1] at h; cases h
  | some p1 =>
    obtain ⟨a1, b1⟩ := p1
    rw [e1] at h; simp only at h
    have g1 := textR_rv _ _ _ hb e1
    have k1 : Bytes b1 := by rw [g1] at hb; exact hb.right
    have k0 : Bytes a1 := by rw [g1] at hb; exact fun x hx => hb x (by simp [hx])
    cases e2 : heapR a1 with
    | none => rw [e2] at h; cases h
    | some y =>
      rw [e2] at h; simp only at h
      have g2 := heapR_back k0 e2
      unfold stateR1 at h
      cases e3 : nR b1 with
      | none => rw [e3] at h; cases h
      | some p3 =>
        obtain ⟨a3, b3⟩ := p3
        rw [e3] at h; simp only at h
        have g3 := nR_rv _ _ _ k1 e3
        have k3 : Bytes b3 := by rw [g3] at k1; exact k1.right
        split at h
        · cases h
        · cases e5 : repR rowR a3.toNat b3 with
          | none => rw [e5] at h; cases h
          | some p5 =>
            obtain ⟨a5, b5⟩ := p5
            rw [e5] at h; simp only at h
            obtain ⟨g5, l5⟩ := repR_rv rowR_rv _ _ _ _ k3 e5
            split at h
            · injection h with h; injection h with h5 h6
              subst h5 h6
              unfold stateB
              simp only
              rw [g2, List.append_assoc, List.append_assoc, bn4_cons, bn4_nil, l5, List.append_assoc, ← g5, ← List.append_assoc]
              simp only at g1 g3
              rw [← g3]
              exact g1
            · cases h
theorem stateR_back {bs : List Nat} {x : Sv} (hb : Bytes bs) (h : stateR bs = some x) : stateB x = bs := whole_rv stateR0_rv hb h
theorem heapR_hright {bs : List Nat} {x : Hv} (h : heapR bs = some x) : hrightB x = true := by
  unfold heapR wholeR at h
  split at h
  · rename_i y r hy
    split at h
    · injection h with h
      subst h
      unfold heapR0 at hy
      split at hy
      · cases hy
      · split at hy
        · cases hy
        · unfold heapR1 at hy
          split at hy
          · cases hy
          · unfold heapR2 at hy
            split at hy
            · cases hy
            · split at hy
              · cases hy
              · split at hy
                · cases hy
                · unfold heapR3 at hy
                  split at hy
                  · split at hy
                    · rename_i h9
                      injection hy with hy
                      injection hy with hy _
                      rw [← hy]; exact h9
                    · cases hy
                  · cases hy
    · cases h
  · cases h
def opR (bs : List Nat) : Option (List Int) := wholeR (fun b => repR iR 7 b) bs
theorem opR_back {bs : List Nat} {l : List Int} (hb : Bytes bs) (h : opR bs = some l) : bi8 l = bs ∧ l.length = 7 := by
  unfold opR wholeR at h
  split at h
  · rename_i k r hy
    split at h
    · rename_i hr
      injection h with h
      obtain ⟨h1, h2⟩ := ints_rv hb hy
      rw [List.length_eq_zero_iff.1 hr, List.append_nil] at h1
      rw [← h]; exact ⟨h1.symm, h2⟩
    · cases h
  · cases h
def intAt (bs : List Nat) (j : Nat) : Int := wrap64 ((beV ((bs.drop (8 * j)).take 8) : Nat) : Int)
theorem iR_at {bs : List Nat} {j : Nat} (h : 8 * (j + 1) ≤ bs.length) : iR (bs.drop (8 * j)) = some (intAt bs j, bs.drop (8 * (j + 1))) := by
  unfold iR intR intAt
  rw [if_pos (by rw [List.length_drop]; omega)]
  simp only [Option.map_some, List.drop_drop]
  congr 3
theorem rep_at {bs : List Nat} : ∀ (n : Nat), 8 * n ≤ bs.length → repR iR n bs = some ((List.range n).map (intAt bs), bs.drop (8 * n))
  | 0, _ => by simp [repR]
  | n + 1, h => by
    rw [repR_step (rep_at n (by omega)) (iR_at h), List.range_succ, List.map_append]; rfl
theorem opR_len (bs : List Nat) : opR bs = if bs.length = 56 then some ((List.range 7).map (intAt bs)) else none := by
  unfold opR wholeR
  by_cases h : 56 ≤ bs.length
  · simp only
    rw [rep_at 7 (by omega)]
    simp only [List.length_drop]
    by_cases h2 : bs.length = 56
    · rw [if_pos (by omega), if_pos h2]
    · rw [if_neg (by omega), if_neg h2]
  · rw [if_neg (by omega)]
    have hq : bs.length / 8 < 7 := by omega
    simp only
    rw [repR_fail (rep_at (bs := bs) (bs.length / 8) (by omega)) (by
      unfold iR intR
      rw [if_neg (by rw [List.length_drop]; omega)]; rfl) 7 hq]
end Go.Proofs.YtaafajaadfgaoaaGreat
/- Heaps that are laid and read, by their parts; the chapter's examples of heaps. -/
namespace Go.Proofs.YtaafajaadfgaoaaGreat
open Go.RowKit
theorem ceXH0 {ty : TypeId} (h : cellB Tryz.prog ty = true := by with_reducible first | exact cell3 | exact cell4 | exact cell37 | exact cell57 | exact cell45) : cellB Tryz.prog ty = true := h
theorem RowIs.fixC {w : World} {b off : Nat} {xs : List Value} (h : RowIs w (some ⟨b, off, none⟩) xs) : ∀ j v, xs[j]? = some v → w.cell? ⟨b, off + j, none⟩ = some v := fun j v hj => by
  obtain ⟨b', off', he, hc⟩ := h j v hj
  injection he with he; injection he with e1 e2; subst e1; subst e2; exact hc
theorem obsB_sm {l k : List Ob} (h : ObsSm l k) : l.flatMap obB = k.flatMap obB := by
  have : l.map obB = k.map obB := by
    apply List.ext_getElem?
    intro i
    rw [List.getElem?_map, List.getElem?_map]
    rcases Nat.lt_or_ge i l.length with hi | hi
    · have ha := List.getElem?_eq_getElem hi
      have hb := List.getElem?_eq_getElem (l := k) (i := i) (by have := h.1; omega)
      obtain ⟨h1, h2, h3, h4, h5⟩ := h.2 i _ _ ha hb
      rw [ha, hb]
      simp only [Option.map_some, obB, h1, h2, h4, h5]
    · rw [List.getElem?_eq_none hi, List.getElem?_eq_none (by have := h.1; omega)]
  rw [List.flatMap_def, List.flatMap_def, this]
theorem heapB_sm {x y : Hv} (h : x.Sm y) : heapB x = heapB y := by
  unfold heapB headB
  rw [h.od, h.nx, h.t0, h.t1, h.t2, h.t3, obsB_sm h.os, h.os.1]
theorem stateB_sm {x y : Sv} (h : x.Sm y) : stateB x = stateB y := by
  unfold stateB; rw [heapB_sm h.1, h.2]
def GotH (w : World) (x : Hv) (e : Ending) (w' : World) : Prop := ∃ od oa os oc nx t0 t1 t2 t3 fa fs fc R, e = .returned (.tuple #[.agg #[.int .i64 od, .slice oa (List.length os) oc, .int .i64 nx, .int .i64 t0, .int .i64 t1, .int .i64 t2, .int .i64 t3, .slice fa (List.length fs) fc], .int .i64 0]) ∧ Hv.Sm ⟨od, oa, os, oc, nx, t0, t1, t2, t3, fa, fs, fc⟩ x ∧ HvO ⟨od, oa, os, oc, nx, t0, t1, t2, t3, fa, fs, fc⟩ R ∧ Hp w.heap.size w w' R
theorem HvO.kept {y : Hv} {R : List Blk} (h : HvO y R) : Kept R fun w => y.Is w := by
  obtain ⟨RO, RF, M, rfl, h⟩ := h
  exact h.kept
theorem geth_yes (bs : List Nat) (x : Hv) (hr : heapR bs = some x) (a : Option Addr) (n c : Nat) (hn : bs.length = n) (hnc : n ≤ c) (w : World) (ha : RdAt w a bs) : Calls Tryz.prog 42 #[.slice a n c] w (GotH w x) := by
  subst hn
  refine (geth42 bs a c hnc w ha).mono fun e w' h => ?_
  rw [hr] at h
  obtain ⟨y, R, h1, h2, h3, h4⟩ := h
  obtain ⟨od, oa, os, oc, nx, t0, t1, t2, t3, fa, fs, fc⟩ := y
  exact ⟨od, oa, os, oc, nx, t0, t1, t2, t3, fa, fs, fc, R, h1, h2, h3, h4⟩
theorem geth_no (bs : List Nat) (hr : heapR bs = none) (a : Option Addr) (n c : Nat) (hn : bs.length = n) (hnc : n ≤ c) (w : World) (ha : RdAt w a bs) : Calls Tryz.prog 42 #[.slice a n c] w fun e w' => e = .returned (.tuple #[.agg #[.int .i64 0, .slice none 0 0, .int .i64 0, .int .i64 0, .int .i64 0, .int .i64 0, .int .i64 0, .slice none 0 0], .int .i64 60]) ∧ Below w.heap.size w w' := by
  subst hn
  refine (geth42 bs a c hnc w ha).mono fun e w' h => ?_
  rw [hr] at h
  exact h
theorem heapR_nil : heapR [] = none := rfl
theorem rd_nil (w : World) : RdAt w none [] := ⟨RowIs.nil _ _, Bytes.nil⟩
theorem geth_nil (w : World) : Calls Tryz.prog 42 #[.slice none 0 0] w fun e w' => e = .returned (.tuple #[.agg #[.int .i64 0, .slice none 0 0, .int .i64 0, .int .i64 0, .int .i64 0, .int .i64 0, .int .i64 0, .slice none 0 0], .int .i64 60]) ∧ Below w.heap.size w w' := geth_no [] heapR_nil none 0 0 rfl (Nat.le_refl _) w (rd_nil w)
theorem SubRow.cap {e : TypeId} {c n m : Nat} {a : Option Addr} {k : Nat} {xs : List Value} {R : List Blk} (h : SubRow e c (.slice a n k) m xs R) (hn : n = m) : m ≤ k := by
  obtain ⟨a', k', hv, hk, _⟩ := h.kept
  injection hv with _ _ hk'
  omega
theorem puth_yes (od : Int) (oa : Option Addr) (os : List Ob) (oc : Nat) (nx t0 t1 t2 t3 : Int) (fa : Option Addr) (fs : List Bl) (fc : Nat) (bs : List Nat) (hbs : heapB ⟨od, oa, os, oc, nx, t0, t1, t2, t3, fa, fs, fc⟩ = bs) (hb : hrightB ⟨od, oa, os, oc, nx, t0, t1, t2, t3, fa, fs, fc⟩ = true) (w : World) (hx0 : Hv.Is w ⟨od, oa, os, oc, nx, t0, t1, t2, t3, fa, fs, fc⟩) :
    Calls Tryz.prog 25 #[.agg #[.int .i64 od, .slice oa os.length oc, .int .i64 nx, .int .i64 t0, .int .i64 t1, .int .i64 t2, .int .i64 t3, .slice fa fs.length fc]] w fun e w' => ∃ a c m R, e = .returned (.tuple #[.slice a m c, .int .i64 0]) ∧ bs.length = m ∧ m ≤ c ∧ SubRow 5 1 (.slice a m c) m (bs.flatMap byV) R ∧ Kept R (fun w => RdAt w a bs) ∧ Hp w.heap.size w w' R := by
  refine (puth_L od oa os oc nx t0 t1 t2 t3 fa fs fc bs hbs hb w hx0).mono fun e w' h => ?_
  obtain ⟨a, c, m, R, h1, h2, h3, h4⟩ := h
  refine ⟨a, c, m, R, h1, h2, h3.cap rfl, h3, ?_, h4⟩
  have hby : Bytes bs := by rw [← hbs]; exact heapB_bytes _
  exact h3.keptS.mono (fun _ hp => hp) fun w hw => ⟨hw, hby⟩
theorem puth_no (od : Int) (oa : Option Addr) (os : List Ob) (oc : Nat) (nx t0 t1 t2 t3 : Int) (fa : Option Addr) (fs : List Bl) (fc : Nat) (hb : hrightB ⟨od, oa, os, oc, nx, t0, t1, t2, t3, fa, fs, fc⟩ = false) (hs : Hv.Small ⟨od, oa, os, oc, nx, t0, t1, t2, t3, fa, fs, fc⟩) (w : World) (hx0 : Hv.Is w ⟨od, oa, os, oc, nx, t0, t1, t2, t3, fa, fs, fc⟩) :
    Calls Tryz.prog 25 #[.agg #[.int .i64 od, .slice oa os.length oc, .int .i64 nx, .int .i64 t0, .int .i64 t1, .int .i64 t2, .int .i64 t3, .slice fa fs.length fc]] w fun e w' => e = .returned (.tuple #[.slice none 0 0, .int .i64 60]) ∧ Below w.heap.size w w' := puth25_no _ hb hs w hx0
theorem puth_zero (w : World) : Calls Tryz.prog 25 #[.agg #[.int .i64 0, .slice none 0 0, .int .i64 0, .int .i64 0, .int .i64 0, .int .i64 0, .int .i64 0, .slice none 0 0]] w fun e w' => e = .returned (.tuple #[.slice none 0 0, .int .i64 60]) ∧ Below w.heap.size w w' :=
  puth_no 0 none [] 0 0 0 0 0 0 none [] 0 hright_zero ⟨⟨by simp, by simp⟩, by simp⟩ w ⟨RowIs.nil _ _, (fun o ho => by cases ho), RowIs.nil _ _⟩
def b28 : List Nat := [0, 0, 0, 3, 0, 0, 0, 1, 0, 0, 0, 0, 0, 0, 0, 0, 0, 0, 0, 0, 0, 0, 0, 0, 0, 0, 0, 0]
theorem heapB_one : heapB (oneHv 3) = b28 := rfl
theorem right_one3 : hrightB (oneHv 3) = true := hright_one (by decide) (by decide)
theorem heapR_one : heapR b28 = some (clearH (oneHv 3)) := by
  rw [← heapB_one]; exact heapR_put (hright_of right_one3) (fun o ho => by cases ho)
def GotK (w : World) (x : Hv) (e : Ending) (w' : World) : Prop := ∃ od oa os oc nx t0 t1 t2 t3 fa fs fc R, e = .returned (.tuple #[.agg #[.int .i64 od, .slice oa (List.length os) oc, .int .i64 nx, .int .i64 t0, .int .i64 t1, .int .i64 t2, .int .i64 t3, .slice fa (List.length fs) fc], .int .i64 0]) ∧ Hv.Sm ⟨od, oa, os, oc, nx, t0, t1, t2, t3, fa, fs, fc⟩ x ∧ Kept R (fun w => Hv.Is w ⟨od, oa, os, oc, nx, t0, t1, t2, t3, fa, fs, fc⟩) ∧ Hp w.heap.size w w' R
theorem newh_3 (w : World) : Calls Tryz.prog 81 #[.int .i64 3] w (GotK w (oneHv 3)) := by
  refine (newh81_yes 3 rfl w).mono fun e w' h => ?_
  obtain ⟨y, R, h1, h2, h3, h4⟩ := h
  obtain ⟨od, oa, os, oc, nx, t0, t1, t2, t3, fa, fs, fc⟩ := y
  exact ⟨od, oa, os, oc, nx, t0, t1, t2, t3, fa, fs, fc, R, h1, h2, h3, h4⟩
theorem puth_one (od : Int) (oa : Option Addr) (os : List Ob) (oc : Nat) (nx t0 t1 t2 t3 : Int) (fa : Option Addr) (fs : List Bl) (fc : Nat) (hsm : Hv.Sm ⟨od, oa, os, oc, nx, t0, t1, t2, t3, fa, fs, fc⟩ (oneHv 3)) (w : World) (hx0 : Hv.Is w ⟨od, oa, os, oc, nx, t0, t1, t2, t3, fa, fs, fc⟩) :
    Calls Tryz.prog 25 #[.agg #[.int .i64 od, .slice oa os.length oc, .int .i64 nx, .int .i64 t0, .int .i64 t1, .int .i64 t2, .int .i64 t3, .slice fa fs.length fc]] w fun e w' => ∃ b off c R, e = .returned (.tuple #[.slice (some ⟨b, off, none⟩) 28 c, .int .i64 0]) ∧ 28 ≤ c ∧ Kept R (fun w => RdAt w (some ⟨b, off, none⟩) b28) ∧ Hp w.heap.size w w' R := by
  refine (puth_yes od oa os oc nx t0 t1 t2 t3 fa fs fc b28 ((heapB_sm hsm).trans heapB_one) ((hright_sm hsm).trans right_one3) w hx0).mono fun e w' h => ?_
  obtain ⟨a, c, m, R, h1, h2, h3, h4, h5, h6⟩ := h
  have hm : m = 28 := h2.symm
  subst hm
  obtain ⟨b, off, rfl, _⟩ := (h5.at h6 (fun p hm => hm)).1.elems 1 byV_len (by decide) (by decide)
  exact ⟨b, off, c, R, h1, h3, h5, h6⟩
theorem geth_one (a : Option Addr) (c : Nat) (hnc : 28 ≤ c) (w : World) (ha : RdAt w a b28) : Calls Tryz.prog 42 #[.slice a 28 c] w fun e w' => ∃ od oa on oc t0 t1 t2 t3 fa fc R, e = .returned (.tuple #[.agg #[.int .i64 od, .slice oa on oc, .int .i64 1, .int .i64 t0, .int .i64 t1, .int .i64 t2, .int .i64 t3, .slice fa 1 fc], .int .i64 0]) ∧ Hp w.heap.size w w' R := by
  refine (geth_yes b28 _ heapR_one a 28 c rfl hnc w ha).mono fun e w' h => ?_
  obtain ⟨od, oa, os, oc, nx, t0, t1, t2, t3, fa, fs, fc, R, h1, h2, h3, h4⟩ := h
  have hnx : nx = 1 := h2.nx
  have hfs : fs = [⟨0, 3⟩] := h2.fs
  subst hnx hfs
  exact ⟨od, oa, os.length, oc, t0, t1, t2, t3, fa, fc, R, h1, h4⟩
theorem get28 {w : World} {b off : Nat} (h : RdAt w (some ⟨b, off, none⟩) b28) : w.cell? ⟨b, off + 3, none⟩ = some (.int .u8 3) ∧ w.cell? ⟨b, off + 7, none⟩ = some (.int .u8 1) := ⟨RowIs.fixC h.1 3 _ rfl, RowIs.fixC h.1 7 _ rfl⟩
set_option maxRecDepth 100000 in
set_option maxHeartbeats 8000000 in
theorem heaps24 (w : World) : Calls Tryz.prog 24 #[] w fun e w' => e = .returned (.bool true) ∧ Below w.heap.size w w' := by
  have hp := Hp.start w
  go_enter Tryz.func24, Tryz.ntmps24
  go_wp2_with (first | (go_at_call 81; (with_reducible refine (newh_3 _).mono ?_); rintro e w1 ⟨od, oa, os, oc, nx, t0, t1, t2, t3, fa, fs, fc, RN, rfl, hsm, hk, hpn⟩; replace hp := hp.join hpn; have HSM := Lib.hid hsm; have HK := Lib.hid hk; clear hpn hsm hk; simp only [List.cons_append, List.nil_append] at hp) | (go_at_call 25; (with_reducible refine (puth_one od oa os oc nx t0 t1 t2 t3 fa fs fc HSM.out _ (HK.out.at hp (fun p hm => by simp [hm]))).mono ?_); rintro e w1 ⟨ab, ob, cb, RB, rfl, hcb, hkb, hpn⟩; replace hp := hp.join hpn; have HCB := Lib.hid hcb; have HKB := Lib.hid hkb; clear hpn hcb hkb; simp only [List.cons_append, List.nil_append] at hp) | (go_at_call 42; (with_reducible refine (geth_one _ cb HCB.out _ (HKB.out.at hp (fun p hm => by simp [hm]))).mono ?_); rintro e w1 ⟨odX, oaX, onX, ocX, t0X, t1X, t2X, t3X, faX, fcX, RX, rfl, hpn⟩; replace hp := hp.join hpn; clear hpn; simp only [List.cons_append, List.nil_append] at hp) | (go_at_call 42; (with_reducible refine (geth_nil _).mono ?_); rintro e w1 ⟨rfl, hb⟩; replace hp := hp.call hb; clear hb) | (go_at_call 25; (with_reducible refine (puth_zero _).mono ?_); rintro e w1 ⟨rfl, hb⟩; replace hp := hp.call hb; clear hb) | ((with_reducible refine pre_load 5 _ rfl ?_); first | refine lRO (Hp.start _) rfl (sTm rfl) cell5 (get28 (HKB.out.at hp (fun p hm => by simp [hm]))).1 ?_ | refine lRO (Hp.start _) rfl (sTm rfl) cell5 (get28 (HKB.out.at hp (fun p hm => by simp [hm]))).2 ?_; simp only [put_some, put_none, sSet, zSet]) | go_skip | ((first | ((with_reducible refine pre_alloc _ rfl ?_); refine lZ hp rfl zero47 ?_; clear hp; intro b w1 hp) | ((with_reducible refine pre_box _ _ rfl ?_); refine lB hp rfl (sTm rfl) rfl ?_; clear hp; intro b w1 hp) | ((with_reducible refine pre_load _ _ rfl ?_); first | refine lO hp rfl (sTm rfl) ceXH0 aa5 ?_ | refine lA hp rfl (sTm rfl) agg47 aa5 ?_) | ((with_reducible refine pre_store _ _ _ rfl ?_); (first | refine sO hp rfl (sTm rfl) ceXH0 aa5 ?_ | refine sA hp rfl (sTm rfl) (sTm rfl) agg47 aa5 ?_ | refine sG hp rfl (sTm rfl) (sTm rfl) agg47 aa5 ?_); clear hp; intro w1 hp; simp only [spl, zSet, sSet] at hp)); simp only [put_some, put_none, sSet, zSet]))
  go_ret
  exact ⟨rfl, hp.below⟩
end Go.Proofs.YtaafajaadfgaoaaGreat
