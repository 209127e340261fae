import Derived.Test.YtaafajaadfgaoaaGreatCx17
import Derived.Test.YtaafajaadfgaoaaGreatCx2
import Derived.Test.YtaafajaadfgaoaaGreatCx18
set_option linter.unusedSimpArgs false
set_option linter.unusedVariables false
set_option maxRecDepth 100000
set_option maxHeartbeats 60000000
namespace Go.Proofs.YtaafajaadfgaoaaGreat
open Go.RowKit
theorem ZJ.get {l k : List Ob} (h : ZJ l k) {i : Nat} {a : Ob} (ha : l[i]? = some a) : ∃ b, k[i]? = some b ∧ a.Sm b := by
 obtain ⟨hlt, _⟩ := List.getElem?_eq_some_iff.1 ha
 have hb := List.getElem?_eq_getElem (l := k) (i := i) (by have := h.1; omega)
 exact ⟨_, hb, h.2 i _ _ ha hb⟩
theorem ZJ.mem {l k : List Ob} (h : ZJ l k) {a : Ob} (ha : a ∈ l) : ∃ b, b ∈ k ∧ a.Sm b := by
 obtain ⟨i, hi, rfl⟩ := List.getElem_of_mem ha
 obtain ⟨b, hb, hs⟩ := h.get (List.getElem?_eq_getElem hi)
 exact ⟨b, List.mem_of_getElem? hb, hs⟩
theorem ZJ.blocks {l k : List Ob} (h : ZJ l k) : l.map Z3 = k.map Z3 := by
 apply List.ext_getElem?
 intro i
 rw [List.getElem?_map, List.getElem?_map]
 cases ha : l[i]? with
 | none =>
  have : l.length ≤ i := List.getElem?_eq_none_iff.1 ha
  rw [List.getElem?_eq_none (by have := h.1; omega)]
 | some a =>
  obtain ⟨b, hb, _, h2, h3, _⟩ := h.get ha
  rw [hb]; simp [Z3, h2, h3]
theorem zh1 {l k : List Ob} (h : ZJ l k) {t : Int} (ht : Zd l t) : Zd k t := by
 rcases ht with h0 | ⟨o, ho, rfl⟩
 ·exact .inl h0
 ·obtain ⟨b, hb, h1, _⟩ := h.mem ho
  exact .inr ⟨b, hb, h1.symm⟩
theorem zdm {x y : Hv} (h : x.Sm y) (hx : zJ x) : zJ y where
 free := by rw [← h.od, ← h.fs]; exact hx.free
 lo := by rw [← h.nx]; exact hx.lo
 hi := by rw [← h.nx]; exact hx.hi
 len := by rw [← h.os.1]; exact hx.len
 rise := fun i o ho => by
  obtain ⟨a, ha, h1, _⟩ := h.os.symm.get ho
  obtain ⟨r1, r2, r3⟩ := hx.rise i a ha
  rw [h1, ← h.nx]
  refine ⟨r1, r2, fun k q hk hq => ?_⟩
  obtain ⟨c, hc, h2, _⟩ := h.os.symm.get hq
  rw [h2]
  exact r3 k c hk hc
 need := fun o ho => by
  obtain ⟨a, ha, h1, h2, h3, h4, h5⟩ := h.os.symm.mem ho
  have := hx.need a ha
  have e : Z3 o = Z3 a := by simp [Z3, h2, h3]
  rw [e, h4, h5, h3, ← h.od]; exact this
 apart := by unfold zbY; rw [← h.fs, ← h.os.blocks]; exact hx.apart
 links := fun o ho t ht => by
  obtain ⟨a, ha, h1, h2, h3, h4, h5⟩ := h.os.symm.mem ho
  rw [h5] at ht
  exact zh1 h.os (hx.links a ha t ht)
 tops := fun t ht => by
  have e : tops y = tops x := by simp [tops, h.t0, h.t1, h.t2, h.t3]
  rw [e] at ht
  exact zh1 h.os (hx.tops t ht)
 words := by unfold zbY; rw [← h.fs, ← h.os.blocks, ← h.od]; exact hx.words
theorem zfh {x y : Hv} (h : x.Sm y) : zY x = zY y := by
 unfold zY
 exact decide_eq_decide.2 ⟨zdm h, zdm h.symm⟩
theorem zjd : zY zam = false := zar fun h => by have := h.lo; simp [zam] at this
theorem zlk {o : Int} (h3 : 3 ≤ o) (h8 : o ≤ 8) : zY (zc8 o) = true := by
 have hp := zL o
 refine zag ⟨zc3 (by simp only [zZ, zc8]; simp [h3, h8]) ?_, Int.le_refl 1, (by show (1 : Int) ≤ 1000001; decide), by simp [zc8], fun i o ho => by simp [zc8] at ho, fun o ho => by simp [zc8] at ho, ?_, fun o ho => by simp [zc8] at ho, fun t ht => .inl ?_, ?_⟩
 ·intro i y hy
  rcases i with _ | i
  ·simp [zc8] at hy
   subst hy
   exact ⟨⟨by show (0 : Int) ≤ o; omega, Int.le_refl _, Int.le_refl _, by show (0 : Int) ≤ pw o - pw o; omega, by simp⟩, fun k x hk => by omega⟩
  ·simp [zc8] at hy
 ·simp [zaH, zbY, zc8]
 ·simp [tops, zc8] at ht; exact ht
 ·simp [zbY, zc8, zba]
theorem zcW (od : Int) (oa : Option Addr) (os : List Ob) (oc : Nat) (nx t0 t1 t2 t3 : Int) (fa : Option Addr) (fs : List Bl) (fc : Nat) (b : Bool) (hb : zY ⟨od, oa, os, oc, nx, t0, t1, t2, t3, fa, fs, fc⟩ = b) (hs : Hv.Small ⟨od, oa, os, oc, nx, t0, t1, t2, t3, fa, fs, fc⟩) (w : World) (h : Hv.Is w ⟨od, oa, os, oc, nx, t0, t1, t2, t3, fa, fs, fc⟩) : Calls Tryz.prog 74 #[(.agg #[.int .i64 od, .slice oa os.length oc, .int .i64 nx, .int .i64 t0, .int .i64 t1, .int .i64 t2, .int .i64 t3, .slice fa fs.length fc])] w fun e w' => e = .returned (.int .i64 (zfV b)) ∧ Below w.heap.size w w' := hb ▸ zre ⟨od, oa, os, oc, nx, t0, t1, t2, t3, fa, fs, fc⟩ hs w h
theorem zlW : zam.Small := ⟨⟨by simp [zam], fun x hx => by cases hx⟩, by simp [zam]⟩
open Go.RowKit
theorem zmQ {ty : TypeId} {k : Nat} (h : ZB Tryz.prog ty k = true := by with_reducible first | exact zW | exact zcp | exact Zf | exact ziG) : ZB Tryz.prog ty k = true := h
theorem zu7 {ty : TypeId} (h : zy Tryz.prog ty = true := by with_reducible first | exact zr | exact Ze | exact Zb | exact cell109) : zy Tryz.prog ty = true := h
theorem zvh {x : Hv} (hx : zJ x) (kk hh ii nn cc vv tt : Int) {B bw : Nat} {w0 w : World} {K : List Blk} (hW : zQ B w0 w bw x K) :
    Calls Tryz.prog 77 #[.pointer (some ⟨bw, 0, none⟩), .agg #[.int .i64 kk, .int .i64 hh, .int .i64 ii, .int .i64 nn, .int .i64 cc, .int .i64 vv, .int .i64 tt]] w (zO B w0 bw (doC x ⟨kk, hh, ii, nn, cc, vv, tt⟩).1 (doC x ⟨kk, hh, ii, nn, cc, vv, tt⟩).2.1 (doC x ⟨kk, hh, ii, nn, cc, vv, tt⟩).2.2 K) := by
  unfold doC
  by_cases h1 : kk = 1
  · rw [if_pos h1]
    exact zhH hW (.inl ⟨h1, z0j (fun h => zov hx h)⟩)
  · rw [if_neg h1]
    by_cases h2 : kk = 2 ∨ kk = 3 ∨ kk = 4 ∨ kk = 6 ∨ kk = 7
    · rw [if_pos h2]
      exact zhH hW (.inr ⟨h2, z0j (fun h => zuq hx h2 h)⟩)
    · rw [if_neg h2]
      by_cases h3 : kk = 5 ∨ kk = 8
      · rw [if_pos h3]
        unfold zsv
        simp only
        by_cases hi : ii < 0 ∨ 3 < ii
        · rw [if_pos hi]
          exact zkW h3 (by simp [inB]; omega) hW
        · rw [if_neg hi]
          obtain ⟨q, rfl, hq⟩ : ∃ q : Nat, ii = q ∧ (q = 0 ∨ q = 1 ∨ q = 2 ∨ q = 3) := ⟨ii.toNat, by omega, by omega⟩
          rcases h3 with rfl | rfl
          · simp only [Int.reduceEq, if_false]
            cases hto : Z4 x.os tt with
            | true => rcases hq with rfl | rfl | rfl | rfl
                      · exact zkX hx hto hW
                      · exact zkY hx hto hW
                      · exact zkZ hx hto hW
                      · exact zk0 hx hto hW
            | false => rcases hq with rfl | rfl | rfl | rfl
                       · exact ziY hx hto hW
                       · exact ziZ hx hto hW
                       · exact zi0 hx hto hW
                       · exact zi1 hx hto hW
          · simp only [if_true]
            exact zoY hq hW
      · rw [if_neg h3]
        exact zmA (by omega) hW
def zbA (o : Ob) : Ob := zhe o.h o.p o.o o.ws o.ls
def zqt (x : Hv) : Hv := { x with oa := none, os := x.os.map zbA, oc := 0, fa := none, fc := 0 }
theorem zkz {a b : Ob} : a.Sm b ↔ zbA a = zbA b := by
  unfold Ob.Sm zbA zhe
  constructor
  · rintro ⟨h1, h2, h3, h4, h5⟩; rw [h1, h2, h3, h4, h5]
  · intro h; injection h with h1 h2 h3 h4 h5 h6 h7 h8 h9; exact ⟨h1, h2, h3, h5, h8⟩
theorem zqQ {l k : List Ob} : ZJ l k ↔ l.map zbA = k.map zbA := by
  constructor
  · rintro ⟨h1, h2⟩
    apply List.ext_getElem?
    intro i
    rw [List.getElem?_map, List.getElem?_map]
    cases ha : l[i]? with
    | none => rw [List.getElem?_eq_none (by have := List.getElem?_eq_none_iff.1 ha; omega)]
    | some a =>
      have hl := (List.getElem?_eq_some_iff.1 ha).1
      have hb := List.getElem?_eq_getElem (l := k) (i := i) (by omega)
      rw [hb]
      exact congrArg some (zkz.1 (h2 i a _ ha hb))
  · intro h
    refine ⟨by have := congrArg List.length h; simpa using this, fun i a b ha hb => zkz.2 ?_⟩
    have h3 : (l.map zbA)[i]? = (k.map zbA)[i]? := by rw [h]
    rw [List.getElem?_map, List.getElem?_map, ha, hb] at h3
    injection h3
theorem znW {x y : Hv} : x.Sm y ↔ zqt x = zqt y := by
  unfold zqt
  constructor
  · rintro ⟨h1, h2, h3, h4, h5, h6, h7, h8⟩
    obtain ⟨⟩ := x
    obtain ⟨⟩ := y
    simp only at h1 h2 h3 h4 h5 h6 h7 h8
    rw [h1, h2, h3, h4, h5, h6, h8, zqQ.1 h7]
  · intro h
    obtain ⟨⟩ := x
    obtain ⟨⟩ := y
    simp only at h
    injection h with h1 h2 h3 h4 h5 h6 h7 h8 h9 h10 h11 h12
    exact ⟨h1, h5, h6, h7, h8, h9, zqQ.2 h3, h11⟩
theorem zjt (l : List Ob) (h : Int) : Z2 (l.map zbA) h = Z2 l h := by
  induction l with
  | nil => rfl
  | cons o l ih => simp only [List.map_cons, Z2, ih]; rfl
theorem zfj (l : List Ob) (t : Int) : Z4 (l.map zbA) t = Z4 l t := by
  unfold Z4
  congr 1
  rw [List.any_map]
  rfl
theorem Zw (o : Ob) : zbA (zbA o) = zbA o := rfl
theorem ZE (l : List Ob) : (l.map zbA).map zbA = l.map zbA := by rw [List.map_map]; apply List.map_congr_left; intro o _; rfl
theorem zgL {α β : Type} (f : α → β) (l : List α) (i : Nat) : (l.map f).eraseIdx i = (l.eraseIdx i).map f := by
  induction l generalizing i with
  | nil => rfl
  | cons x l ih => cases i with
    | zero => rfl
    | succ i => simp [ih]
theorem zjZ (x : Hv) (o : Opd) : (doC (zqt x) o).2 = (doC x o).2 ∧ zqt (doC (zqt x) o).1 = zqt (doC x o).1 := by
  obtain ⟨od, oa, os, oc, nx, t0, t1, t2, t3, fa, fs, fc⟩ := x
  have hcut : ∀ h : Int, zbA ∘ zf9 h ∘ zbA = zbA ∘ zf9 h := fun h => rfl
  unfold doC zqt
  split
  · unfold zdA
    simp only
    split
    · exact ⟨rfl, by simp [ZE, Zw]⟩
    · split
      · exact ⟨rfl, by simp [ZE, Zw]⟩
      · split
        · exact ⟨rfl, by simp [ZE, Zw]⟩
        · exact ⟨rfl, by simp [zeE, ZE, zbA, zhe]⟩
  · split
    · unfold atC
      simp only [zjt]
      split
      · exact ⟨rfl, by simp [ZE, Zw]⟩
      · rename_i i hi
        obtain ⟨b, hb, _⟩ := zee hi
        simp only [List.getElem?_map, hb, Option.map_some]
        split
        · refine ⟨rfl, ?_⟩
          simp only [zeF, zgL, List.map_map]
          rfl
        · have hrow : zoo o (zbA b) = zoo o b := by unfold zoo zbA zhe; rfl
          rw [hrow]
          split
          · exact ⟨rfl, by simp [ZE, Zw]⟩
          · split
            · refine ⟨rfl, ?_⟩
              simp only [zgs, List.map_set, ZE]
              rfl
            · split
              · rw [zfj]
                split
                · refine ⟨rfl, ?_⟩
                  simp only [zlr, List.map_set, ZE]
                  rfl
                · exact ⟨rfl, by simp [ZE, Zw]⟩
              · exact ⟨rfl, by simp [ZE, Zw]⟩
    · split
      · unfold zsv
        simp only [zfj]
        split
        · exact ⟨rfl, by simp [ZE, Zw]⟩
        · split
          · exact ⟨rfl, by simp [ZE, Zw]⟩
          · split
            · refine ⟨rfl, ?_⟩
              unfold zop
              split <;> simp [ZE, Zw]
            · exact ⟨rfl, by simp [ZE, Zw]⟩
      · exact ⟨rfl, by simp [ZE, Zw]⟩
theorem zqv {x y : Hv} (h : x.Sm y) (o : Opd) : (doC x o).2 = (doC y o).2 ∧ (doC x o).1.Sm (doC y o).1 := by
  have h1 := zjZ x o
  have h2 := zjZ y o
  rw [znW.1 h] at h1
  exact ⟨h1.1.symm.trans h2.1, znW.2 (h1.2.symm.trans h2.2)⟩
noncomputable def doP (x : Hv) (o : Opd) : Hv × Int × Int := if zY x = true then doC x o else (zam, 1, 0)
theorem zi2 {x : Hv} (h : zJ x) (o : Opd) : doP x o = doC x o := by unfold doP; rw [if_pos (zag h)]
theorem zs3 {x : Hv} (h : zY x = false) (o : Opd) : doP x o = (zam, 1, 0) := by unfold doP; rw [if_neg (by rw [h]; decide)]
def HvO (y : Hv) (R : List Blk) : Prop := ∃ RO RF M, R = RO ++ (RF ++ M) ∧ HvR y RO RF M
def zjK (w : World) (r : Hv × Int × Int) (e : Ending) (w' : World) : Prop :=
  ∃ y R, e = .returned (.tuple #[.agg (hvL y).toArray, .agg #[.int .i64 r.2.1, .int .i64 r.2.2]]) ∧ y.Sm r.1 ∧ ZK R (fun w => y.Is w) ∧ HvO y R ∧ Hp w.heap.size w w' R
theorem zuz {y s : Hv} {rc rv kk hh ii nn cc vv tt : Int} (hx : zJ y) (h2 : (doC y ⟨kk, hh, ii, nn, cc, vv, tt⟩).2 = (rc, rv)) (hs : (doC y ⟨kk, hh, ii, nn, cc, vv, tt⟩).1.Sm s) {B bw : Nat} {w0 w : World} {z1 z2 z3 z4 : Blk} {RO RF M : List Blk} (hR : HvR y RO RF M) (hp : Hp B w0 w (z1 :: z2 :: z3 :: z4 :: ⟨bw, hvL y, 113, 8⟩ :: (RO ++ (RF ++ (M ++ []))))) :
    Calls Tryz.prog 77 #[.pointer (some ⟨bw, 0, none⟩), .agg #[.int .i64 kk, .int .i64 hh, .int .i64 ii, .int .i64 nn, .int .i64 cc, .int .i64 vv, .int .i64 tt]] w fun e w' => e = .returned (.agg #[.int .i64 rc, .int .i64 rv]) ∧ ∃ (y2 : Hv) (RO2 RF2 M2 : List Blk), y2.Sm s ∧ HvR y2 RO2 RF2 M2 ∧ Hp B w0 w' (z1 :: z2 :: z3 :: ⟨bw, hvL y2, 113, 8⟩ :: (RO2 ++ (RF2 ++ M2))) := by
  refine (zvh hx kk hh ii nn cc vv tt (K := [z1, z2, z3]) ⟨RO, RF, M, hR, hp.kp⟩).mono fun e w' ⟨he, y2, hy2, RO2, RF2, M2, hR2, hp2⟩ => ⟨?_, y2, RO2, RF2, M2, hy2.trans hs, hR2, hp2.kp⟩
  rw [he, h2]; rfl
theorem zoD (od : Int) (oa : Option Addr) (os : List Ob) (oc : Nat) (nx t0 t1 t2 t3 : Int) (fa : Option Addr) (fs : List Bl) (fc : Nat) (hs : Hv.Small ⟨od, oa, os, oc, nx, t0, t1, t2, t3, fa, fs, fc⟩) (w : World) (h : Hv.Is w ⟨od, oa, os, oc, nx, t0, t1, t2, t3, fa, fs, fc⟩) :
    Calls Tryz.prog 76 #[.agg #[.int .i64 od, .slice oa os.length oc, .int .i64 nx, .int .i64 t0, .int .i64 t1, .int .i64 t2, .int .i64 t3, .slice fa fs.length fc]] w (zhg w ⟨od, oa, os, oc, nx, t0, t1, t2, t3, fa, fs, fc⟩) := zq8 _ hs w h
theorem zhc : HvO zam [] := ⟨[], [], [], rfl, zA.nil _ _, zA.nil _ _, zeM.nil⟩
theorem zo0 (x : Hv) (kk hh ii nn cc vv tt : Int) (hs : x.Small) (w : World) (h : x.Is w) (hb : zY x = false) : Calls Tryz.prog 21 #[.agg (hvL x).toArray, .agg #[.int .i64 kk, .int .i64 hh, .int .i64 ii, .int .i64 nn, .int .i64 cc, .int .i64 vv, .int .i64 tt]] w (zjK w (doP x ⟨kk, hh, ii, nn, cc, vv, tt⟩)) := by
  rw [zs3 hb]
  obtain ⟨od, oa, os, oc, nx, t0, t1, t2, t3, fa, fs, fc⟩ := x
  have HB := z0j hb
  have HSM := z0j hs
  have HIS := z0j h
  clear hb hs h
  simp only [hvL]
  have hp := Hp.start w
  go_enter Tryz.func21, Tryz.ntmps21
  go_wp2_with (first | (go_at_call 74; (with_reducible refine (zcW od oa os oc nx t0 t1 t2 t3 fa fs fc _ HB.out HSM.out _ (HIS.out.below hp.below)).mono ?_); rintro e w1 ⟨rfl, hb⟩; replace hp := hp.call hb; clear hb; first | rw [zk3]) | (go_at_call 75; (with_reducible refine (zlz _ _).mono ?_); rintro e w1 ⟨rfl, hb⟩; replace hp := hp.call hb; clear hb; unfold zb8) | ((first | ((refine zi _ rfl ?_); refine lZ hp rfl (by with_reducible first | exact Zi | exact Z7) ?_; clear hp; intro b w1 hp) | ((refine zk _ _ rfl ?_); refine lB hp rfl (za rfl) rfl ?_; clear hp; intro b w1 hp) | ((refine zd _ _ rfl ?_); first | refine lA hp rfl (za rfl) zmQ aa5 ?_) | ((refine zg _ _ _ rfl ?_); (first | refine sA hp rfl (za rfl) (za rfl) zmQ aa5 ?_); clear hp; intro w1 hp; simp only [spl, z0a, z0b] at hp)); simp only [zc, zb, z0b, z0a]))
  exact bodyPost_ret (zx (rs := [.cell 4 47, .cell 5 54]) Tryz.results21 (.cell rfl (hp.loadAgg zW at1 0 _ (by rfl) (by rfl)) (.cell rfl (hp.loadAgg Zf at0 0 _ (by rfl) (by rfl)) .nil))) rfl ⟨zam, [], rfl, Hv.Sm.refl _, zd9, zhc, hp.sub0⟩
theorem zmC (x : Hv) (kk hh ii nn cc vv tt : Int) (hs : x.Small) (w : World) (h : x.Is w) (hx : zJ x) : Calls Tryz.prog 21 #[.agg (hvL x).toArray, .agg #[.int .i64 kk, .int .i64 hh, .int .i64 ii, .int .i64 nn, .int .i64 cc, .int .i64 vv, .int .i64 tt]] w (zjK w (doP x ⟨kk, hh, ii, nn, cc, vv, tt⟩)) := by
  rw [zi2 hx]
  have HRT : Hid (∀ y : Hv, y.Sm x → zJ y ∧ (doC y ⟨kk, hh, ii, nn, cc, vv, tt⟩).2 = (doC x ⟨kk, hh, ii, nn, cc, vv, tt⟩).2 ∧ (doC y ⟨kk, hh, ii, nn, cc, vv, tt⟩).1.Sm (doC x ⟨kk, hh, ii, nn, cc, vv, tt⟩).1) := z0j (fun y hy => ⟨zdm hy.symm hx, zqv hy _⟩)
  have hb := zag hx
  generalize doC x ⟨kk, hh, ii, nn, cc, vv, tt⟩ = r at HRT ⊢
  obtain ⟨s, rc, rv⟩ := r
  obtain ⟨od, oa, os, oc, nx, t0, t1, t2, t3, fa, fs, fc⟩ := x
  have HB := z0j hb
  have HSM := z0j hs
  have HIS := z0j h
  clear hb hs h hx
  simp only [hvL]
  have hp := Hp.start w
  go_enter Tryz.func21, Tryz.ntmps21
  go_wp2_with (first | (go_at_call 74; (with_reducible refine (zcW od oa os oc nx t0 t1 t2 t3 fa fs fc _ HB.out HSM.out _ (HIS.out.below hp.below)).mono ?_); rintro e w1 ⟨rfl, hb⟩; replace hp := hp.call hb; clear hb; first | rw [zmI]) | (go_at_call 76; (with_reducible refine (zoD od oa os oc nx t0 t1 t2 t3 fa fs fc HSM.out _ (HIS.out.below hp.below)).mono ?_); rintro e w1 ⟨bw, y, rfl, hy, RO, RF, M, hR, hpx⟩; replace hp := hp.join hpx; have HY := z0j hy; have HR := z0j hR; clear hpx hy hR; simp only [z0f, z0e] at hp) | ((first | ((refine zi _ rfl ?_); refine lZ hp rfl (by with_reducible first | exact Zi | exact Z7) ?_; clear hp; intro b w1 hp) | ((refine zk _ _ rfl ?_); refine lB hp rfl (za rfl) rfl ?_; clear hp; intro b w1 hp) | ((refine zd _ _ rfl ?_); first | refine lA hp rfl (za rfl) zmQ aa5 ?_)); simp only [zc, zb, z0b, z0a]))
  go_wp2_with (first | (go_at_call 77; (with_reducible refine (zuz (HRT.out y HY.out).1 (HRT.out y HY.out).2.1 (HRT.out y HY.out).2.2 HR.out hp).mono ?_); clear hp; rintro e w1 ⟨rfl, ⟨od2, oa2, os2, oc2, nx2, t02, t12, t22, t32, fa2, fs2, fc2⟩, RO2, RF2, M2, hy2, hR2, hp⟩; have HR2 := z0j hR2; have HY2 := z0j hy2; clear hR2 hy2; simp only [hvL] at hp) | ((first | ((refine zi _ rfl ?_); refine lZ hp rfl (by with_reducible first | exact Zi) ?_; clear hp; intro b w1 hp) | ((refine zg _ _ _ rfl ?_); (first | refine sA hp rfl (za rfl) (za rfl) zmQ aa5 ?_); clear hp; intro w1 hp; simp only [spl, z0a, z0b] at hp)); simp only [zc, zb, z0b, z0a]))
  refine zf [_, _] (zt.two hp.drew at0 at4) [6] [(0, true), (1, true), (2, true), (3, true), (4, true), (5, false), (6, false)] (by kernel_rfl) (by kernel_rfl) rfl (by kernel_rfl) (fun _ _ d _ _ h => by cases d <;> exact h) ?_
  replace hp := hp.drew
  repeat' (with_reducible refine zq ?_); first | (with_reducible refine zl ?_) | ((with_reducible refine zw ?_); refine zn rfl ?_; (first | ((with_reducible refine zH _ rfl ?_); refine tM rfl ?_) | ((with_reducible refine zI _ _ rfl ?_); refine tA rfl (za rfl) (by with_reducible first | exact zW | exact Zf) aa5 ?_) | refine tG (fun w _ => (by go_simp; try rfl)) ?_); try simp only [zc, zb, zh, ze, z0b, z0a, z0d, z0c, zj]) | (refine zv rfl (fun K hK => ?_); go_wp2_with (first | (((refine zg _ _ _ rfl ?_); (first | refine sA hp rfl (za rfl) (za rfl) zmQ aa5 ?_); clear hp; intro w1 hp; simp only [spl, z0a, z0b] at hp); simp only [zc, zb, z0b, z0a])); (first | refine hK.out _ _ (.inl rfl) ?_ | refine hK.out _ _ (.inr (zt.two hp aa5 aa5)) ?_); clear hK K; try simp only [zc, zb, zh, ze, z0b, z0a, z0d, z0c, zj])
  go_wp2_with (first | fail)
  exact bodyPost_ret (zx (rs := [.cell 4 47, .cell 5 54]) Tryz.results21 (.cell rfl (hp.loadAgg zW at2 0 _ (by rfl) (by rfl)) (.cell rfl (hp.loadAgg Zf at1 0 _ (by rfl) (by rfl)) .nil))) rfl ⟨⟨od2, oa2, os2, oc2, nx2, t02, t12, t22, t32, fa2, fs2, fc2⟩, _, rfl, HY2.out, HR2.out.kept, ⟨RO2, RF2, M2, rfl, HR2.out⟩, hp.kp⟩
theorem zb4 {x : Hv} (h : zY x = true) : zJ x := by unfold zY at h; simpa using h
theorem zuA (x : Hv) (kk hh ii nn cc vv tt : Int) (hs : x.Small) (w : World) (h : x.Is w) : Calls Tryz.prog 21 #[.agg (hvL x).toArray, .agg #[.int .i64 kk, .int .i64 hh, .int .i64 ii, .int .i64 nn, .int .i64 cc, .int .i64 vv, .int .i64 tt]] w (zjK w (doP x ⟨kk, hh, ii, nn, cc, vv, tt⟩)) := by
  cases hb : zY x with
  | false => exact zo0 x kk hh ii nn cc vv tt hs w h hb
  | true => exact zmC x kk hh ii nn cc vv tt hs w h (zb4 hb)
theorem zhI (od : Int) (oa : Option Addr) (os : List Ob) (oc : Nat) (nx t0 t1 t2 t3 : Int) (fa : Option Addr) (fs : List Bl) (fc : Nat) (kk hh ii nn cc vv tt : Int) (r : Hv × Int × Int) (hr : doP ⟨od, oa, os, oc, nx, t0, t1, t2, t3, fa, fs, fc⟩ ⟨kk, hh, ii, nn, cc, vv, tt⟩ = r)
    (hs : Hv.Small ⟨od, oa, os, oc, nx, t0, t1, t2, t3, fa, fs, fc⟩) (w : World) (h : Hv.Is w ⟨od, oa, os, oc, nx, t0, t1, t2, t3, fa, fs, fc⟩) :
    Calls Tryz.prog 21 #[.agg #[.int .i64 od, .slice oa os.length oc, .int .i64 nx, .int .i64 t0, .int .i64 t1, .int .i64 t2, .int .i64 t3, .slice fa fs.length fc], .agg #[.int .i64 kk, .int .i64 hh, .int .i64 ii, .int .i64 nn, .int .i64 cc, .int .i64 vv, .int .i64 tt]] w (zjK w r) :=
  hr ▸ zuA ⟨od, oa, os, oc, nx, t0, t1, t2, t3, fa, fs, fc⟩ kk hh ii nn cc vv tt hs w h
open Go.RowKit
theorem ztZ {ty : TypeId} {l : List Value} {n : Nat} (h : zbB Tryz.prog ty = some (l, n) := by with_reducible first | exact Zt | exact Z7 | exact zaY) : zbB Tryz.prog ty = some (l, n) := h
theorem zmR {ty : TypeId} {k : Nat} (h : ZB Tryz.prog ty k = true := by with_reducible first | exact zap | exact zW | exact zV) : ZB Tryz.prog ty k = true := h
theorem ze5 {ty : TypeId} (h : zy Tryz.prog ty = true := by with_reducible first | exact zr | exact Ze | exact z7 | exact Zz | exact zaC) : zy Tryz.prog ty = true := h
theorem zjy (l : List Rw) : (l.flatMap rwV).all (·.oneCell') = true := by
 rw [List.all_eq_true]; intro u hu; obtain ⟨x, _, hx⟩ := List.mem_flatMap.1 hu; simp [rwV] at hx; rcases hx with rfl | rfl | rfl | rfl <;> rfl
theorem ztM (x y : Sv) (hs : x.Small) (hxy : x.Sm y) (w : World) (hx0 : x.Is w) (hy0 : y.Is w) : Calls Tryz.prog 26 #[.agg (svL x).toArray, .agg (svL y).toArray] w fun e w' => e = .returned (.bool true) ∧ Below w.heap.size w w' := by
 obtain ⟨hv, ra, rs, rc⟩ := x
 obtain ⟨hv', ra', rs', rc'⟩ := y
 obtain ⟨hs1, hs2⟩ := hs
 obtain ⟨hsm, hrs⟩ := hxy
 obtain ⟨hh, hr⟩ := hx0
 obtain ⟨hh', hr'⟩ := hy0
 simp only at hs1 hs2 hh hr hh' hr' hsm hrs
 subst hrs
 obtain ⟨hv1, hhv⟩ : ∃ v, v = hv := ⟨_, rfl⟩
 obtain ⟨hv2, hhv2⟩ : ∃ v, v = hv' := ⟨_, rfl⟩
 rw [← hhv, ← hhv2]
 obtain ⟨od, oa, os, oc, nx, t0, t1, t2, t3, fa, fs, fc⟩ := hv1
 obtain ⟨od', oa', os', oc', nx', t0', t1', t2', t3', fa', fs', fc'⟩ := hv2
 subst hhv hhv2
 simp only [svL, hvL, z0f, z0e]
 have HH := z0j hh
 have HH' := z0j hh'
 have HR := z0j hr
 have HR' := z0j hr'
 have HSM := z0j hsm
 have hp := Hp.start w
 clear hh hr hh' hr' hsm
 go_enter Tryz.func26, Tryz.ntmps26
 go_wp2_with (first | (go_at_call 27; (with_reducible refine (zsi od oa os oc nx t0 t1 t2 t3 fa fs fc od' oa' os' oc' nx' t0' t1' t2' t3' fa' fs' fc' hs1 HSM.out _ (HH.out.below hp.below) (HH'.out.below hp.below)).mono ?_); rintro e w1 ⟨rfl, hb⟩; replace hp := hp.call hb; clear hb) | ((first | ((refine zk _ _ rfl ?_); refine lB hp rfl (za rfl) rfl ?_; clear hp; intro b w1 hp) | ((refine zd _ _ rfl ?_); first | refine lO hp rfl (za rfl) ze5 zK ?_ | refine lA hp rfl (za rfl) zmR zK ?_)); simp only [zc, zb, z0b, z0a]))
 obtain ⟨b1, rfl⟩ := hp.id1
 go_loopg [5] rs.length (fun k i wr => ∃ j : Nat, k + j = rs.length ∧ i = .int .i64 j ∧ Hp w.heap.size w wr [⟨b, [.int .i64 od', .slice oa' os'.length oc', .int .i64 nx', .int .i64 t0', .int .i64 t1', .int .i64 t2', .int .i64 t3', .slice fa' fs'.length fc', .slice ra' rs.length rc'], 50, 9⟩, ⟨b1, [.int .i64 od, .slice oa os.length oc, .int .i64 nx, .int .i64 t0, .int .i64 t1, .int .i64 t2, .int .i64 t3, .slice fa fs.length fc, .slice ra rs.length rc], 50, 9⟩])
 case atStart => exact ⟨0, by omega, rfl, hp⟩
 case round =>
  clear hp
  obtain ⟨j, hkj, rfl, hp⟩ := hrel
  by_cases hlt : j < rs.length
  ·obtain ⟨bq, off, rfl, hx⟩ := HR.out.elems 4 ZL (by omega) (by omega)
   obtain ⟨bq', off', rfl, hy⟩ := HR'.out.elems 4 ZL (by omega) (by omega)
   have hj := List.getElem?_eq_getElem hlt
   replace hx := hx j _ hj
   replace hy := hy j _ hj
   clear hj
   generalize rs[j] = x at hx hy
   obtain ⟨xc, xs, xe, xv⟩ := x
   simp only [rwV] at hx hy
   have HX := z0j hx
   have HY := z0j hy
   clear hx hy
   have e1 : (0 : Int) ≤ (j : Int) := by omega
   have e2 : (j : Int) < (rs.length : Int) := by omega
   go_wp2_with (first | ((first | ((refine zd _ _ rfl ?_); first | refine lO hp rfl (za rfl) ze5 zK ?_)); simp only [zc, zb, z0b, z0a]))
   refine zf _ (zt.all hp.drew) [] [(0, true), (1, true), (2, true), (3, true), (4, true), (5, true), (6, true), (7, true), (8, true), (9, true), (10, true)] (by kernel_rfl) (by kernel_rfl) rfl (by kernel_rfl) (fun _ _ d _ _ h => by cases d <;> exact h) ?_
   replace hp := hp.drew
   repeat' (with_reducible refine zq ?_); first | (with_reducible refine zl ?_) | ((with_reducible refine zw ?_); refine zn rfl ?_; (first | ((with_reducible refine zH _ rfl ?_); refine tM rfl ?_) | ((with_reducible refine zI _ _ rfl ?_); first | refine tO rfl (za rfl) zaC zK ?_ | refine tR rfl (za rfl) zV HX.out ?_ | refine tR rfl (za rfl) zV HY.out ?_) | refine tG (fun w _ => (by go_simp; try rfl)) ?_); try simp only [zc, zb, zh, ze, z0b, z0a, z0d, z0c, zj])
   go_wp2_with fail
   go_roundg (gk - 1)
   case measure => omega
   case rel => exact ⟨j + 1, by omega, by go_num, hp⟩
  ·have e2 : decide ((j : Int) < (rs.length : Int)) = false := by simp; omega
   go_wp2_with (first | ((first | ((refine zd _ _ rfl ?_); first | refine lO hp rfl (za rfl) ze5 zK ?_)); simp only [zc, zb, z0b, z0a]))
   go_ret
   exact ⟨rfl, hp.below⟩
end Go.Proofs.YtaafajaadfgaoaaGreat
