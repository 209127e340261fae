import Derived.Test.YtjcbpfbifbfkcaaGreatTx9
import Derived.Test.YtjcbpfbifbfkcaaGreatTx2
import Derived.Test.YtjcbpfbifbfkcaaGreatTx8
import Derived.Test.YtjcbpfbifbfkcaaGreatTx1
set_option linter.unusedSimpArgs false
set_option linter.unusedVariables false
set_option maxRecDepth 100000
set_option maxHeartbeats 60000000
namespace Go.Proofs.YtjcbpfbifbfkcaaGreat
open Go.RowKit
theorem ZO.get {l k : List Ob} (h : ZO l k) {i : Nat} {a : Ob} (ha : l[i]? = some a) : ∃ b, k[i]? = some b ∧ a.Sm b := by
 obtain ⟨hlt, _⟩ := List.getElem?_eq_some_iff.1 ha
 have hb := List.getElem?_eq_getElem (l := k) (i := i) (by have := h.1; omega)
 exact ⟨_, hb, h.2 i _ _ ha hb⟩
theorem ZO.mem {l k : List Ob} (h : ZO l k) {a : Ob} (ha : a ∈ l) : ∃ b, b ∈ k ∧ a.Sm b := by
 obtain ⟨i, hi, rfl⟩ := List.getElem_of_mem ha
 obtain ⟨b, hb, hs⟩ := h.get (List.getElem?_eq_getElem hi)
 exact ⟨b, List.mem_of_getElem? hb, hs⟩
theorem ZO.blocks {l k : List Ob} (h : ZO l k) : l.map zav = k.map zav := by
 apply List.ext_getElem?
 intro i
 rw [List.getElem?_map, List.getElem?_map]
 cases ha : l[i]? with
 | none =>
  have : l.length ≤ i := List.getElem?_eq_none_iff.1 ha
  rw [List.getElem?_eq_none (by have := h.1; omega)]
 | some a =>
  obtain ⟨b, hb, _, h2, h3, _⟩ := h.get ha
  rw [hb]; simp [zav, h2, h3]
theorem zeW {l k : List Ob} (h : ZO l k) {t : Int} (ht : Z3 l t) : Z3 k t := by
 rcases ht with h0 | ⟨o, ho, rfl⟩
 ·exact .inl h0
 ·obtain ⟨b, hb, h1, _⟩ := h.mem ho
  exact .inr ⟨b, hb, h1.symm⟩
theorem zc3 {x y : Hv} (h : x.Sm y) (hx : ZF x) : ZF y where
 free := by rw [← h.od, ← h.fs]; exact hx.free
 lo := by rw [← h.nx]; exact hx.lo
 hi := by rw [← h.nx]; exact hx.hi
 len := by rw [← h.os.1]; exact hx.len
 rise := fun i o ho => by
  obtain ⟨a, ha, h1, _⟩ := h.os.symm.get ho
  obtain ⟨r1, r2, r3⟩ := hx.rise i a ha
  rw [h1, ← h.nx]
  refine ⟨r1, r2, fun k q hk hq => ?_⟩
  obtain ⟨c, hc, h2, _⟩ := h.os.symm.get hq
  rw [h2]
  exact r3 k c hk hc
 need := fun o ho => by
  obtain ⟨a, ha, h1, h2, h3, h4, h5⟩ := h.os.symm.mem ho
  have := hx.need a ha
  have e : zav o = zav a := by simp [zav, h2, h3]
  rw [e, h4, h5, h3, ← h.od]; exact this
 apart := by unfold zc4; rw [← h.fs, ← h.os.blocks]; exact hx.apart
 links := fun o ho t ht => by
  obtain ⟨a, ha, h1, h2, h3, h4, h5⟩ := h.os.symm.mem ho
  rw [h5] at ht
  exact zeW h.os (hx.links a ha t ht)
 tops := fun t ht => by
  have e : tops y = tops x := by simp [tops, h.t0, h.t1, h.t2, h.t3]
  rw [e] at ht
  exact zeW h.os (hx.tops t ht)
 words := by unfold zc4; rw [← h.fs, ← h.os.blocks, ← h.od]; exact hx.words
theorem zc2 {x y : Hv} (h : x.Sm y) : Zn x = Zn y := by
 unfold Zn
 exact decide_eq_decide.2 ⟨zc3 h, zc3 h.symm⟩
theorem zgV {o : Int} (h3 : 3 ≤ o) (h8 : o ≤ 8) : Zn (zby o) = true := by
 have hp := zK o
 refine zaZ ⟨zdJ (by simp only [Zd, zby]; simp [h3, h8]) ?_, Int.le_refl 1, (by show (1 : Int) ≤ 1000001; decide), by simp [zby], fun i o ho => by simp [zby] at ho, fun o ho => by simp [zby] at ho, ?_, fun o ho => by simp [zby] at ho, fun t ht => .inl ?_, ?_⟩
 ·intro i y hy
  rcases i with _ | i
  ·simp [zby] at hy
   subst hy
   exact ⟨⟨by show (0 : Int) ≤ o; omega, Int.le_refl _, Int.le_refl _, by show (0 : Int) ≤ pw o - pw o; omega, by simp⟩, fun k x hk => by omega⟩
  ·simp [zby] at hy
 ·simp [zcF, zc4, zby]
 ·simp [tops, zby] at ht; exact ht
 ·simp [zc4, zby, zb2]
theorem zcS (od : Int) (oa : Option Addr) (os : List Ob) (oc : Nat) (nx t0 t1 t2 t3 : Int) (fa : Option Addr) (fs : List Bl) (fc : Nat) (b : Bool) (hb : Zn ⟨od, oa, os, oc, nx, t0, t1, t2, t3, fa, fs, fc⟩ = b) (hs : Hv.Small ⟨od, oa, os, oc, nx, t0, t1, t2, t3, fa, fs, fc⟩) (w : World) (h : Hv.Is w ⟨od, oa, os, oc, nx, t0, t1, t2, t3, fa, fs, fc⟩) : Calls Tryz.prog 85 #[(.agg #[.int .i64 od, .slice oa os.length oc, .int .i64 nx, .int .i64 t0, .int .i64 t1, .int .i64 t2, .int .i64 t3, .slice fa fs.length fc])] w fun e w' => e = .returned (.int .i64 (zg6 b)) ∧ Below w.heap.size w w' := hb ▸ zkA ⟨od, oa, os, oc, nx, t0, t1, t2, t3, fa, fs, fc⟩ hs w h
open Go.RowKit
def HvO (y : Hv) (R : List Blk) : Prop := ∃ RO RF M, R = RO ++ (RF ++ M) ∧ HvR y RO RF M
theorem zbW {x : Hv} (h : Zn x = true) : ZF x := by unfold Zn at h; simpa using h
def zcp (last : Int) (x : Rw) : Bool := decide (last < x.c ∧ x.c ≤ 4 ∧ 1 ≤ x.s ∧ x.s ≤ 1000000 ∧ 0 ≤ x.e ∧ x.e ≤ 65535)
def zbc : Int → List Rw → Bool
 | _, [] => true
 | last, x :: r => zcp last x && zbc x.c r
noncomputable def stB (x : Sv) : Bool := Zn x.hv && zbc 0 x.rs
theorem zdm {last : Int} {x : Rw} {r : List Rw} : zbc last (x :: r) = true ↔ zcp last x = true ∧ zbc x.c r = true := by simp [zbc]
theorem zaO {last : Int} {x : Rw} : zcp last x = true ↔ last < x.c ∧ x.c ≤ 4 ∧ 1 ≤ x.s ∧ x.s ≤ 1000000 ∧ 0 ≤ x.e ∧ x.e ≤ 65535 := by simp [zcp]
theorem zck : ∀ {l : List Rw} {last : Int}, zbc last l = true → ∀ x ∈ l, zcp last x = true
 | [], _, _, x, hx => by cases hx
 | y :: r, last, h, x, hx => by
  obtain ⟨h1, h2⟩ := zdm.1 h
  rcases List.mem_cons.1 hx with rfl | hx
  ·exact h1
  ·have h3 := zaO.1 h1
   have h4 := zaO.1 (zck h2 x hx)
   exact zaO.2 ⟨by omega, h4.2⟩
theorem zbu : ∀ {l : List Rw} {last : Int}, zbc last l = true → last ≤ 4 → (l.length : Int) ≤ 4 - last
 | [], _, _, h => by simp; omega
 | y :: r, last, h, _ => by
  obtain ⟨h1, h2⟩ := zdm.1 h
  have h3 := zaO.1 h1
  have := zbu h2 h3.2.1
  simp only [z0g]; omega
structure StR (x : Sv) : Prop where
 hv : ZF x.hv
 rows : zbc 0 x.rs = true
theorem zmC {x : Sv} (h : stB x = true) : StR x := by
 unfold stB at h
 rw [Bool.and_eq_true] at h
 exact ⟨zbW h.1, h.2⟩
theorem zjH {x : Sv} (h : StR x) : stB x = true := by unfold stB; rw [zaZ h.hv, h.rows]; rfl
theorem StR.small {x : Sv} (h : StR x) : x.Small := ⟨h.hv.small, by have := zbu h.rows (by decide); omega⟩
theorem zic {x y : Sv} (h : x.Sm y) : stB x = stB y := by unfold stB; rw [zc2 h.1, h.2]
open Go.RowKit
theorem zdB {ty : TypeId} {k : Nat} (h : Z6 Tryz.prog ty k = true := by with_reducible first | exact ZH | exact zN | exact zY) : Z6 Tryz.prog ty k = true := h
theorem zhp {ty : TypeId} (h : zx Tryz.prog ty = true := by with_reducible first | exact zn | exact Zy | exact zaN | exact zX) : zx Tryz.prog ty = true := h
theorem ziJ (last : Int) (x : Rw) : (decide (last < x.c) = false ∧ zcp last x = false) ∨ (decide (last < x.c) = true ∧ decide (x.c ≤ 4) = false ∧ zcp last x = false) ∨
  (decide (last < x.c) = true ∧ decide (x.c ≤ 4) = true ∧ decide (1 ≤ x.s) = false ∧ zcp last x = false) ∨ (decide (last < x.c) = true ∧ decide (x.c ≤ 4) = true ∧ decide (1 ≤ x.s) = true ∧ decide (x.s ≤ 1000000) = false ∧ zcp last x = false) ∨
  (decide (last < x.c) = true ∧ decide (x.c ≤ 4) = true ∧ decide (1 ≤ x.s) = true ∧ decide (x.s ≤ 1000000) = true ∧ decide (0 ≤ x.e) = false ∧ zcp last x = false) ∨
  (decide (last < x.c) = true ∧ decide (x.c ≤ 4) = true ∧ decide (1 ≤ x.s) = true ∧ decide (x.s ≤ 1000000) = true ∧ decide (0 ≤ x.e) = true ∧ decide (x.e ≤ 65535) = false ∧ zcp last x = false) ∨
  (decide (last < x.c) = true ∧ decide (x.c ≤ 4) = true ∧ decide (1 ≤ x.s) = true ∧ decide (x.s ≤ 1000000) = true ∧ decide (0 ≤ x.e) = true ∧ decide (x.e ≤ 65535) = true ∧ zcp last x = true) := by
 unfold zcp
 simp only [decide_eq_true_eq, decide_eq_false_iff_not]
 omega
def zln (b : Bool) : Int := if b then 0 else 60
theorem zki (x : Sv) (r : Bool) (hr : stB x = r) (hs : x.Small) (w : World) (hx0 : x.Is w) :
  Calls Tryz.prog 89 #[.agg (svL x).toArray] w fun e w' => e = .returned (.int .i64 (zln r)) ∧ Below w.heap.size w w' := by
 obtain ⟨⟨od, oa, os, oc, nx, t0, t1, t2, t3, fa, fs, fc⟩, ra, rs, rc⟩ := x
 obtain ⟨hb, hhb⟩ : ∃ b, Zn ⟨od, oa, os, oc, nx, t0, t1, t2, t3, fa, fs, fc⟩ = b := ⟨_, rfl⟩
 have hq : (hb && zbc 0 rs) = r := by rw [← hr]; unfold stB; simp only; rw [hhb]
 obtain ⟨hi, hri⟩ := hx0
 simp only at hi hri
 simp only [svL, hvL, z0f, z0e]
 have hl : rs.length ≤ 1000 := hs.2
 have HB := z0j hhb
 have HQ := z0j hq
 have HSS : Hid (Hv.Small ⟨od, oa, os, oc, nx, t0, t1, t2, t3, fa, fs, fc⟩) := z0j hs.1
 have HIS := z0j hi
 have HR : Hid (zm w ra (rs.flatMap rwV)) := z0j hri
 have he : ((zg6 hb == 0) : Bool) = hb := by cases hb <;> rfl
 have hp := Hp.start w
 clear hr hhb hq hi hri hs
 go_enter Tryz.func89, Tryz.ntmps89
 go_wp2_with (first | (go_at_call 85; (with_reducible refine (zcS od oa os oc nx t0 t1 t2 t3 fa fs fc _ HB.out HSS.out _ (HIS.out.below hp.below)).mono ?_); rintro e w1 ⟨rfl, hb⟩; replace hp := hp.call hb; clear hb) | go_skip | ((first | ((refine zf _ rfl ?_); refine lZ hp rfl Zr ?_; clear hp; intro b w1 hp) | ((refine zg _ _ rfl ?_); refine lB hp rfl (za rfl) rfl ?_; clear hp; intro b w1 hp) | ((refine ze _ _ rfl ?_); first | refine lO hp rfl (za rfl) zhp zW ?_ | refine lA hp rfl (za rfl) zdB zW ?_ | refine lR hp rfl (za rfl) zdB HX.out ?_) | ((refine zd _ _ _ rfl ?_); (first | refine sA hp rfl (za rfl) (za rfl) zY zW ?_ | refine sG hp rfl (za rfl) (za rfl) zY zW ?_); clear hp; intro w1 hp; simp only [spl, z0a, z0b] at hp)); simp only [zc, zb, z0b, z0a]))
 obtain ⟨b1, rfl⟩ := hp.id0
 go_loopg [3, 4, 14] rs.length (fun k o l i wr => ∃ (q : Nat) (ok : Bool) (last : Int) (L : List Blk), k + q = rs.length ∧ o = .bool ok ∧ l = .int .i64 last ∧ i = .int .i64 q ∧ Hid ((ok && zbc last (rs.drop q)) = r) ∧ Hp w.heap.size w wr L)
 case atStart => exact ⟨0, hb, 0, _, by omega, by first | rfl | (rw [he]), rfl, rfl, z0j (by simpa using HQ.out), hp⟩
 case round =>
  clear hp
  obtain ⟨q, ok, last, L, hkq, rfl, rfl, rfl, HI, hp⟩ := hrel
  by_cases hlt : q < rs.length
  ·obtain ⟨bq, off, rfl, hx⟩ := HR.out.elems 4 zh8 (by omega) (by omega)
   have hj := List.getElem?_eq_getElem hlt
   replace hx := hx q _ hj
   have hdrop := List.drop_eq_getElem_cons hlt
   have hin := HI.out
   rw [hdrop] at hin
   clear hj hdrop HI
   generalize rs[q] = x at hx hin
   have hw := ziJ last x
   obtain ⟨yc, ys, ye, yv⟩ := x
   simp only [rwV] at hx
   simp only [zbc] at hin
   simp only at hw
   have HX := z0j hx
   have HIN := z0j hin
   have e1 : (0 : Int) ≤ (q : Int) := by omega
   have e2 : (q : Int) < (rs.length : Int) := by omega
   clear hx hin
   cases ok with
   | false =>
    clear hw
    go_wp2_with (first | go_skip | ((first | ((refine zf _ rfl ?_); refine lZ hp rfl Zr ?_; clear hp; intro b w1 hp) | ((refine zg _ _ rfl ?_); refine lB hp rfl (za rfl) rfl ?_; clear hp; intro b w1 hp) | ((refine ze _ _ rfl ?_); first | refine lO hp rfl (za rfl) zhp zW ?_ | refine lA hp rfl (za rfl) zdB zW ?_ | refine lR hp rfl (za rfl) zdB HX.out ?_) | ((refine zd _ _ _ rfl ?_); (first | refine sA hp rfl (za rfl) (za rfl) zY zW ?_ | refine sG hp rfl (za rfl) (za rfl) zY zW ?_); clear hp; intro w1 hp; simp only [spl, z0a, z0b] at hp)); simp only [zc, zb, z0b, z0a]))
    go_roundg (gk - 1)
    case measure => omega
    case rel => exact ⟨q + 1, false, yc, _, by omega, rfl, rfl, by go_num, z0j (by simpa using HIN.out), hp⟩
   | true =>
    rcases hw with ⟨d1, g⟩ | ⟨d1, d2, g⟩ | ⟨d1, d2, d3, g⟩ | ⟨d1, d2, d3, d4, g⟩ | ⟨d1, d2, d3, d4, d5, g⟩ | ⟨d1, d2, d3, d4, d5, d6, g⟩ | ⟨d1, d2, d3, d4, d5, d6, g⟩
    all_goals
     have HG := z0j g
     clear g
     go_wp2_with (first | go_skip | ((first | ((refine zf _ rfl ?_); refine lZ hp rfl Zr ?_; clear hp; intro b w1 hp) | ((refine zg _ _ rfl ?_); refine lB hp rfl (za rfl) rfl ?_; clear hp; intro b w1 hp) | ((refine ze _ _ rfl ?_); first | refine lO hp rfl (za rfl) zhp zW ?_ | refine lA hp rfl (za rfl) zdB zW ?_ | refine lR hp rfl (za rfl) zdB HX.out ?_) | ((refine zd _ _ _ rfl ?_); (first | refine sA hp rfl (za rfl) (za rfl) zY zW ?_ | refine sG hp rfl (za rfl) (za rfl) zY zW ?_); clear hp; intro w1 hp; simp only [spl, z0a, z0b] at hp)); simp only [zc, zb, z0b, z0a]))
     go_roundg (gk - 1)
     case measure => omega
     case rel => exact ⟨q + 1, _, yc, _, by omega, rfl, rfl, by go_num, z0j (by have h := HIN.out; rw [HG.out] at h; simpa using h), hp⟩
  ·have e2 : decide ((q : Int) < (rs.length : Int)) = false := by simp; omega
   have hr : ok = r := by have h := HI.out; rw [List.drop_eq_nil_of_le (by omega)] at h; simpa [zbc] using h
   subst hr
   clear HI HQ
   cases ok with
   | true =>
    go_wp2_with (first | go_skip | ((first | ((refine zf _ rfl ?_); refine lZ hp rfl Zr ?_; clear hp; intro b w1 hp) | ((refine zg _ _ rfl ?_); refine lB hp rfl (za rfl) rfl ?_; clear hp; intro b w1 hp) | ((refine ze _ _ rfl ?_); first | refine lO hp rfl (za rfl) zhp zW ?_ | refine lA hp rfl (za rfl) zdB zW ?_ | refine lR hp rfl (za rfl) zdB HX.out ?_) | ((refine zd _ _ _ rfl ?_); (first | refine sA hp rfl (za rfl) (za rfl) zY zW ?_ | refine sG hp rfl (za rfl) (za rfl) zY zW ?_); clear hp; intro w1 hp; simp only [spl, z0a, z0b] at hp)); simp only [zc, zb, z0b, z0a]))
    go_ret
    exact ⟨rfl, hp.below⟩
   | false =>
    go_wp2_with (first | go_skip | ((first | ((refine zf _ rfl ?_); refine lZ hp rfl Zr ?_; clear hp; intro b w1 hp) | ((refine zg _ _ rfl ?_); refine lB hp rfl (za rfl) rfl ?_; clear hp; intro b w1 hp) | ((refine ze _ _ rfl ?_); first | refine lO hp rfl (za rfl) zhp zW ?_ | refine lA hp rfl (za rfl) zdB zW ?_ | refine lR hp rfl (za rfl) zdB HX.out ?_) | ((refine zd _ _ _ rfl ?_); (first | refine sA hp rfl (za rfl) (za rfl) zY zW ?_ | refine sG hp rfl (za rfl) (za rfl) zY zW ?_); clear hp; intro w1 hp; simp only [spl, z0a, z0b] at hp)); simp only [zc, zb, z0b, z0a]))
    go_ret
    exact ⟨rfl, hp.below⟩
theorem zeb (od : Int) (oa : Option Addr) (os : List Ob) (oc : Nat) (nx t0 t1 t2 t3 : Int) (fa : Option Addr) (fs : List Bl) (fc : Nat) (ra : Option Addr) (rs : List Rw) (rc : Nat) (r : Bool) (hr : stB ⟨⟨od, oa, os, oc, nx, t0, t1, t2, t3, fa, fs, fc⟩, ra, rs, rc⟩ = r)
  (hs : Sv.Small ⟨⟨od, oa, os, oc, nx, t0, t1, t2, t3, fa, fs, fc⟩, ra, rs, rc⟩) (w : World) (h : Sv.Is w ⟨⟨od, oa, os, oc, nx, t0, t1, t2, t3, fa, fs, fc⟩, ra, rs, rc⟩) :
  Calls Tryz.prog 89 #[.agg #[.int .i64 od, .slice oa os.length oc, .int .i64 nx, .int .i64 t0, .int .i64 t1, .int .i64 t2, .int .i64 t3, .slice fa fs.length fc, .slice ra rs.length rc]] w fun e w' => e = .returned (.int .i64 (zln r)) ∧ Below w.heap.size w w' := zki _ r hr hs w h
end Go.Proofs.YtjcbpfbifbfkcaaGreat
