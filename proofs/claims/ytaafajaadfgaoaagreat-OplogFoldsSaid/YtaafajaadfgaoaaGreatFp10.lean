import Derived.Test.YtaafajaadfgaoaaGreatFp9
import Derived.Test.YtaafajaadfgaoaaGreatFp2
import Derived.Test.YtaafajaadfgaoaaGreatFp8
import Derived.Test.YtaafajaadfgaoaaGreatFp1
set_option linter.unusedSimpArgs false
set_option linter.unusedVariables false
set_option maxRecDepth 100000
set_option maxHeartbeats 60000000
namespace Go.Proofs.YtaafajaadfgaoaaGreat
open Go.RowKit
theorem Z7.get {l k : List Ob} (h : Z7 l k) {i : Nat} {a : Ob} (ha : l[i]? = some a) : ∃ b, k[i]? = some b ∧ a.Sm b := by
 obtain ⟨hlt, _⟩ := List.getElem?_eq_some_iff.1 ha
 have hb := List.getElem?_eq_getElem (l := k) (i := i) (by have := h.1; omega)
 exact ⟨_, hb, h.2 i _ _ ha hb⟩
theorem Z7.mem {l k : List Ob} (h : Z7 l k) {a : Ob} (ha : a ∈ l) : ∃ b, b ∈ k ∧ a.Sm b := by
 obtain ⟨i, hi, rfl⟩ := List.getElem_of_mem ha
 obtain ⟨b, hb, hs⟩ := h.get (List.getElem?_eq_getElem hi)
 exact ⟨b, List.mem_of_getElem? hb, hs⟩
theorem Z7.blocks {l k : List Ob} (h : Z7 l k) : l.map zaE = k.map zaE := by
 apply List.ext_getElem?
 intro i
 rw [List.getElem?_map, List.getElem?_map]
 cases ha : l[i]? with
 | none =>
  have : l.length ≤ i := List.getElem?_eq_none_iff.1 ha
  rw [List.getElem?_eq_none (by have := h.1; omega)]
 | some a =>
  obtain ⟨b, hb, _, h2, h3, _⟩ := h.get ha
  rw [hb]; simp [zaE, h2, h3]
theorem zgt {l k : List Ob} (h : Z7 l k) {t : Int} (ht : ZY l t) : ZY k t := by
 rcases ht with h0 | ⟨o, ho, rfl⟩
 ·exact .inl h0
 ·obtain ⟨b, hb, h1, _⟩ := h.mem ho
  exact .inr ⟨b, hb, h1.symm⟩
theorem zeE {x y : Hv} (h : x.Sm y) (hx : zai x) : zai y where
 free := by rw [← h.od, ← h.fs]; exact hx.free
 lo := by rw [← h.nx]; exact hx.lo
 hi := by rw [← h.nx]; exact hx.hi
 len := by rw [← h.os.1]; exact hx.len
 rise := fun i o ho => by
  obtain ⟨a, ha, h1, _⟩ := h.os.symm.get ho
  obtain ⟨r1, r2, r3⟩ := hx.rise i a ha
  rw [h1, ← h.nx]
  refine ⟨r1, r2, fun k q hk hq => ?_⟩
  obtain ⟨c, hc, h2, _⟩ := h.os.symm.get hq
  rw [h2]
  exact r3 k c hk hc
 need := fun o ho => by
  obtain ⟨a, ha, h1, h2, h3, h4, h5⟩ := h.os.symm.mem ho
  have := hx.need a ha
  have e : zaE o = zaE a := by simp [zaE, h2, h3]
  rw [e, h4, h5, h3, ← h.od]; exact this
 apart := by unfold zdM; rw [← h.fs, ← h.os.blocks]; exact hx.apart
 links := fun o ho t ht => by
  obtain ⟨a, ha, h1, h2, h3, h4, h5⟩ := h.os.symm.mem ho
  rw [h5] at ht
  exact zgt h.os (hx.links a ha t ht)
 tops := fun t ht => by
  have e : tops y = tops x := by simp [tops, h.t0, h.t1, h.t2, h.t3]
  rw [e] at ht
  exact zgt h.os (hx.tops t ht)
 words := by unfold zdM; rw [← h.fs, ← h.os.blocks, ← h.od]; exact hx.words
theorem zcC {x y : Hv} (h : x.Sm y) : Zk x = Zk y := by
 unfold Zk
 exact decide_eq_decide.2 ⟨zeE h, zeE h.symm⟩
theorem zin {o : Int} (h3 : 3 ≤ o) (h8 : o ≤ 8) : Zk (zcT o) = true := by
 have hp := zP o
 refine zbt ⟨zdY (by simp only [Zg, zcT]; simp [h3, h8]) ?_, Int.le_refl 1, (by show (1 : Int) ≤ 1000001; decide), by simp [zcT], fun i o ho => by simp [zcT] at ho, fun o ho => by simp [zcT] at ho, ?_, fun o ho => by simp [zcT] at ho, fun t ht => .inl ?_, ?_⟩
 ·intro i y hy
  rcases i with _ | i
  ·simp [zcT] at hy
   subst hy
   exact ⟨⟨by show (0 : Int) ≤ o; omega, Int.le_refl _, Int.le_refl _, by show (0 : Int) ≤ pw o - pw o; omega, by simp⟩, fun k x hk => by omega⟩
  ·simp [zcT] at hy
 ·simp [zbU, zdM, zcT]
 ·simp [tops, zcT] at ht; exact ht
 ·simp [zdM, zcT, zbS]
theorem zei (od : Int) (oa : Option Addr) (os : List Ob) (oc : Nat) (nx t0 t1 t2 t3 : Int) (fa : Option Addr) (fs : List Bl) (fc : Nat) (b : Bool) (hb : Zk ⟨od, oa, os, oc, nx, t0, t1, t2, t3, fa, fs, fc⟩ = b) (hs : Hv.Small ⟨od, oa, os, oc, nx, t0, t1, t2, t3, fa, fs, fc⟩) (w : World) (h : Hv.Is w ⟨od, oa, os, oc, nx, t0, t1, t2, t3, fa, fs, fc⟩) : Calls Tryz.prog 74 #[(.agg #[.int .i64 od, .slice oa os.length oc, .int .i64 nx, .int .i64 t0, .int .i64 t1, .int .i64 t2, .int .i64 t3, .slice fa fs.length fc])] w fun e w' => e = .returned (.int .i64 (ziS b)) ∧ Below w.heap.size w w' := hb ▸ zmn ⟨od, oa, os, oc, nx, t0, t1, t2, t3, fa, fs, fc⟩ hs w h
open Go.RowKit
def HvO (y : Hv) (R : List Blk) : Prop := ∃ RO RF M, R = RO ++ (RF ++ M) ∧ HvR y RO RF M
theorem zcB {x : Hv} (h : Zk x = true) : zai x := by unfold Zk at h; simpa using h
def zb9 (last : Int) (x : Rw) : Bool := decide (last < x.c ∧ x.c ≤ 4 ∧ 1 ≤ x.s ∧ x.s ≤ 1000000 ∧ 0 ≤ x.e ∧ x.e ≤ 65535)
def zaa : Int → List Rw → Bool
 | _, [] => true
 | last, x :: r => zb9 last x && zaa x.c r
noncomputable def stB (x : Sv) : Bool := Zk x.hv && zaa 0 x.rs
theorem zeO {last : Int} {x : Rw} {r : List Rw} : zaa last (x :: r) = true ↔ zb9 last x = true ∧ zaa x.c r = true := by simp [zaa]
theorem zbh {last : Int} {x : Rw} : zb9 last x = true ↔ last < x.c ∧ x.c ≤ 4 ∧ 1 ≤ x.s ∧ x.s ≤ 1000000 ∧ 0 ≤ x.e ∧ x.e ≤ 65535 := by simp [zb9]
theorem zdZ : ∀ {l : List Rw} {last : Int}, zaa last l = true → ∀ x ∈ l, zb9 last x = true
 | [], _, _, x, hx => by cases hx
 | y :: r, last, h, x, hx => by
  obtain ⟨h1, h2⟩ := zeO.1 h
  rcases List.mem_cons.1 hx with rfl | hx
  ·exact h1
  ·have h3 := zbh.1 h1
   have h4 := zbh.1 (zdZ h2 x hx)
   exact zbh.2 ⟨by omega, h4.2⟩
theorem zca : ∀ {l : List Rw} {last : Int}, zaa last l = true → last ≤ 4 → (l.length : Int) ≤ 4 - last
 | [], _, _, h => by simp; omega
 | y :: r, last, h, _ => by
  obtain ⟨h1, h2⟩ := zeO.1 h
  have h3 := zbh.1 h1
  have := zca h2 h3.2.1
  simp only [z0g]; omega
structure StR (x : Sv) : Prop where
 hv : zai x.hv
 rows : zaa 0 x.rs = true
theorem znR {x : Sv} (h : stB x = true) : StR x := by
 unfold stB at h
 rw [Bool.and_eq_true] at h
 exact ⟨zcB h.1, h.2⟩
theorem zma {x : Sv} (h : StR x) : stB x = true := by unfold stB; rw [zbt h.hv, h.rows]; rfl
theorem StR.small {x : Sv} (h : StR x) : x.Small := ⟨h.hv.small, by have := zca h.rows (by decide); omega⟩
theorem zgL {x y : Sv} (h : x.Sm y) : stB x = stB y := by unfold stB; rw [zcC h.1, h.2]
open Go.RowKit
theorem zb0 {ty : TypeId} {k : Nat} (h : zac Tryz.prog ty k = true := by with_reducible first | exact zaR | exact zN | exact zY) : zac Tryz.prog ty k = true := h
theorem ze0 {ty : TypeId} (h : zB Tryz.prog ty = true := by with_reducible first | exact zq | exact zA | exact za9 | exact Ze) : zB Tryz.prog ty = true := h
theorem zlE (last : Int) (x : Rw) : (decide (last < x.c) = false ∧ zb9 last x = false) ∨ (decide (last < x.c) = true ∧ decide (x.c ≤ 4) = false ∧ zb9 last x = false) ∨
  (decide (last < x.c) = true ∧ decide (x.c ≤ 4) = true ∧ decide (1 ≤ x.s) = false ∧ zb9 last x = false) ∨ (decide (last < x.c) = true ∧ decide (x.c ≤ 4) = true ∧ decide (1 ≤ x.s) = true ∧ decide (x.s ≤ 1000000) = false ∧ zb9 last x = false) ∨
  (decide (last < x.c) = true ∧ decide (x.c ≤ 4) = true ∧ decide (1 ≤ x.s) = true ∧ decide (x.s ≤ 1000000) = true ∧ decide (0 ≤ x.e) = false ∧ zb9 last x = false) ∨
  (decide (last < x.c) = true ∧ decide (x.c ≤ 4) = true ∧ decide (1 ≤ x.s) = true ∧ decide (x.s ≤ 1000000) = true ∧ decide (0 ≤ x.e) = true ∧ decide (x.e ≤ 65535) = false ∧ zb9 last x = false) ∨
  (decide (last < x.c) = true ∧ decide (x.c ≤ 4) = true ∧ decide (1 ≤ x.s) = true ∧ decide (x.s ≤ 1000000) = true ∧ decide (0 ≤ x.e) = true ∧ decide (x.e ≤ 65535) = true ∧ zb9 last x = true) := by
 unfold zb9
 simp only [decide_eq_true_eq, decide_eq_false_iff_not]
 omega
def znm (b : Bool) : Int := if b then 0 else 60
theorem zmm (x : Sv) (r : Bool) (hr : stB x = r) (hs : x.Small) (w : World) (hx0 : x.Is w) :
  Calls Tryz.prog 35 #[.agg (svL x).toArray] w fun e w' => e = .returned (.int .i64 (znm r)) ∧ Below w.heap.size w w' := by
 obtain ⟨⟨od, oa, os, oc, nx, t0, t1, t2, t3, fa, fs, fc⟩, ra, rs, rc⟩ := x
 obtain ⟨hb, hhb⟩ : ∃ b, Zk ⟨od, oa, os, oc, nx, t0, t1, t2, t3, fa, fs, fc⟩ = b := ⟨_, rfl⟩
 have hq : (hb && zaa 0 rs) = r := by rw [← hr]; unfold stB; simp only; rw [hhb]
 obtain ⟨hi, hri⟩ := hx0
 simp only at hi hri
 simp only [svL, hvL, z0f, z0e]
 have hl : rs.length ≤ 1000 := hs.2
 have HB := z0j hhb
 have HQ := z0j hq
 have HSS : Hid (Hv.Small ⟨od, oa, os, oc, nx, t0, t1, t2, t3, fa, fs, fc⟩) := z0j hs.1
 have HIS := z0j hi
 have HR : Hid (zr w ra (rs.flatMap rwV)) := z0j hri
 have he : ((ziS hb == 0) : Bool) = hb := by cases hb <;> rfl
 have hp := Hp.start w
 clear hr hhb hq hi hri hs
 go_enter Tryz.func35, Tryz.ntmps35
 go_wp2_with (first | (go_at_call 74; (with_reducible refine (zei od oa os oc nx t0 t1 t2 t3 fa fs fc _ HB.out HSS.out _ (HIS.out.below hp.below)).mono ?_); rintro e w1 ⟨rfl, hb⟩; replace hp := hp.call hb; clear hb) | go_skip | ((first | ((refine zg _ rfl ?_); refine lZ hp rfl ZV ?_; clear hp; intro b w1 hp) | ((refine zh _ _ rfl ?_); refine lB hp rfl (za rfl) rfl ?_; clear hp; intro b w1 hp) | ((refine zf _ _ rfl ?_); first | refine lO hp rfl (za rfl) ze0 zu ?_ | refine lA hp rfl (za rfl) zb0 zu ?_ | refine lR hp rfl (za rfl) zb0 HX.out ?_) | ((refine zd _ _ _ rfl ?_); (first | refine sO hp rfl (za rfl) ze0 zu ?_ | refine sA hp rfl (za rfl) (za rfl) zb0 zu ?_ | refine sG hp rfl (za rfl) (za rfl) zb0 zu ?_); clear hp; intro w1 hp; simp only [spl, z0a, z0b] at hp)); simp only [zc, zb, z0b, z0a]))
 obtain ⟨b1, rfl⟩ := hp.id0
 go_loopg [3, 4, 14] rs.length (fun k o l i wr => ∃ (q : Nat) (ok : Bool) (last : Int) (L : List Blk), k + q = rs.length ∧ o = .bool ok ∧ l = .int .i64 last ∧ i = .int .i64 q ∧ Hid ((ok && zaa last (rs.drop q)) = r) ∧ Hp w.heap.size w wr L)
 case atStart => exact ⟨0, hb, 0, _, by omega, by first | rfl | (rw [he]), rfl, rfl, z0j (by simpa using HQ.out), hp⟩
 case round =>
  clear hp
  obtain ⟨q, ok, last, L, hkq, rfl, rfl, rfl, HI, hp⟩ := hrel
  by_cases hlt : q < rs.length
  ·obtain ⟨bq, off, rfl, hx⟩ := HR.out.elems 4 zho (by omega) (by omega)
   have hj := List.getElem?_eq_getElem hlt
   replace hx := hx q _ hj
   have hdrop := List.drop_eq_getElem_cons hlt
   have hin := HI.out
   rw [hdrop] at hin
   clear hj hdrop HI
   generalize rs[q] = x at hx hin
   have hw := zlE last x
   obtain ⟨yc, ys, ye, yv⟩ := x
   simp only [rwV] at hx
   simp only [zaa] at hin
   simp only at hw
   have HX := z0j hx
   have HIN := z0j hin
   have e1 : (0 : Int) ≤ (q : Int) := by omega
   have e2 : (q : Int) < (rs.length : Int) := by omega
   clear hx hin
   cases ok with
   | false =>
    clear hw
    go_wp2_with (first | go_skip | ((first | ((refine zg _ rfl ?_); refine lZ hp rfl ZV ?_; clear hp; intro b w1 hp) | ((refine zh _ _ rfl ?_); refine lB hp rfl (za rfl) rfl ?_; clear hp; intro b w1 hp) | ((refine zf _ _ rfl ?_); first | refine lO hp rfl (za rfl) ze0 zu ?_ | refine lA hp rfl (za rfl) zb0 zu ?_ | refine lR hp rfl (za rfl) zb0 HX.out ?_) | ((refine zd _ _ _ rfl ?_); (first | refine sO hp rfl (za rfl) ze0 zu ?_ | refine sA hp rfl (za rfl) (za rfl) zb0 zu ?_ | refine sG hp rfl (za rfl) (za rfl) zb0 zu ?_); clear hp; intro w1 hp; simp only [spl, z0a, z0b] at hp)); simp only [zc, zb, z0b, z0a]))
    go_roundg (gk - 1)
    case measure => omega
    case rel => exact ⟨q + 1, false, yc, _, by omega, rfl, rfl, by go_num, z0j (by simpa using HIN.out), hp⟩
   | true =>
    rcases hw with ⟨d1, g⟩ | ⟨d1, d2, g⟩ | ⟨d1, d2, d3, g⟩ | ⟨d1, d2, d3, d4, g⟩ | ⟨d1, d2, d3, d4, d5, g⟩ | ⟨d1, d2, d3, d4, d5, d6, g⟩ | ⟨d1, d2, d3, d4, d5, d6, g⟩
    all_goals
     have HG := z0j g
     clear g
     go_wp2_with (first | go_skip | ((first | ((refine zg _ rfl ?_); refine lZ hp rfl ZV ?_; clear hp; intro b w1 hp) | ((refine zh _ _ rfl ?_); refine lB hp rfl (za rfl) rfl ?_; clear hp; intro b w1 hp) | ((refine zf _ _ rfl ?_); first | refine lO hp rfl (za rfl) ze0 zu ?_ | refine lA hp rfl (za rfl) zb0 zu ?_ | refine lR hp rfl (za rfl) zb0 HX.out ?_) | ((refine zd _ _ _ rfl ?_); (first | refine sO hp rfl (za rfl) ze0 zu ?_ | refine sA hp rfl (za rfl) (za rfl) zb0 zu ?_ | refine sG hp rfl (za rfl) (za rfl) zb0 zu ?_); clear hp; intro w1 hp; simp only [spl, z0a, z0b] at hp)); simp only [zc, zb, z0b, z0a]))
     go_roundg (gk - 1)
     case measure => omega
     case rel => exact ⟨q + 1, _, yc, _, by omega, rfl, rfl, by go_num, z0j (by have h := HIN.out; rw [HG.out] at h; simpa using h), hp⟩
  ·have e2 : decide ((q : Int) < (rs.length : Int)) = false := by simp; omega
   have hr : ok = r := by have h := HI.out; rw [List.drop_eq_nil_of_le (by omega)] at h; simpa [zaa] using h
   subst hr
   clear HI HQ
   cases ok with
   | true =>
    go_wp2_with (first | go_skip | ((first | ((refine zg _ rfl ?_); refine lZ hp rfl ZV ?_; clear hp; intro b w1 hp) | ((refine zh _ _ rfl ?_); refine lB hp rfl (za rfl) rfl ?_; clear hp; intro b w1 hp) | ((refine zf _ _ rfl ?_); first | refine lO hp rfl (za rfl) ze0 zu ?_ | refine lA hp rfl (za rfl) zb0 zu ?_ | refine lR hp rfl (za rfl) zb0 HX.out ?_) | ((refine zd _ _ _ rfl ?_); (first | refine sO hp rfl (za rfl) ze0 zu ?_ | refine sA hp rfl (za rfl) (za rfl) zb0 zu ?_ | refine sG hp rfl (za rfl) (za rfl) zb0 zu ?_); clear hp; intro w1 hp; simp only [spl, z0a, z0b] at hp)); simp only [zc, zb, z0b, z0a]))
    go_ret
    exact ⟨rfl, hp.below⟩
   | false =>
    go_wp2_with (first | go_skip | ((first | ((refine zg _ rfl ?_); refine lZ hp rfl ZV ?_; clear hp; intro b w1 hp) | ((refine zh _ _ rfl ?_); refine lB hp rfl (za rfl) rfl ?_; clear hp; intro b w1 hp) | ((refine zf _ _ rfl ?_); first | refine lO hp rfl (za rfl) ze0 zu ?_ | refine lA hp rfl (za rfl) zb0 zu ?_ | refine lR hp rfl (za rfl) zb0 HX.out ?_) | ((refine zd _ _ _ rfl ?_); (first | refine sO hp rfl (za rfl) ze0 zu ?_ | refine sA hp rfl (za rfl) (za rfl) zb0 zu ?_ | refine sG hp rfl (za rfl) (za rfl) zb0 zu ?_); clear hp; intro w1 hp; simp only [spl, z0a, z0b] at hp)); simp only [zc, zb, z0b, z0a]))
    go_ret
    exact ⟨rfl, hp.below⟩
theorem zfD (od : Int) (oa : Option Addr) (os : List Ob) (oc : Nat) (nx t0 t1 t2 t3 : Int) (fa : Option Addr) (fs : List Bl) (fc : Nat) (ra : Option Addr) (rs : List Rw) (rc : Nat) (r : Bool) (hr : stB ⟨⟨od, oa, os, oc, nx, t0, t1, t2, t3, fa, fs, fc⟩, ra, rs, rc⟩ = r)
  (hs : Sv.Small ⟨⟨od, oa, os, oc, nx, t0, t1, t2, t3, fa, fs, fc⟩, ra, rs, rc⟩) (w : World) (h : Sv.Is w ⟨⟨od, oa, os, oc, nx, t0, t1, t2, t3, fa, fs, fc⟩, ra, rs, rc⟩) :
  Calls Tryz.prog 35 #[.agg #[.int .i64 od, .slice oa os.length oc, .int .i64 nx, .int .i64 t0, .int .i64 t1, .int .i64 t2, .int .i64 t3, .slice fa fs.length fc, .slice ra rs.length rc]] w fun e w' => e = .returned (.int .i64 (znm r)) ∧ Below w.heap.size w w' := zmm _ r hr hs w h
end Go.Proofs.YtaafajaadfgaoaaGreat
