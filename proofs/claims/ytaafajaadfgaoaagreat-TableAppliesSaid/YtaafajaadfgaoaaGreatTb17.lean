import Derived.Test.YtaafajaadfgaoaaGreatTb15
import Derived.Test.YtaafajaadfgaoaaGreatTb2
import Derived.Test.YtaafajaadfgaoaaGreatTb16
set_option linter.unusedSimpArgs false
set_option linter.unusedVariables false
set_option maxRecDepth 100000
set_option maxHeartbeats 60000000
namespace Go.Proofs.YtaafajaadfgaoaaGreat
open Go.RowKit
theorem zau.get {l k : List Ob} (h : zau l k) {i : Nat} {a : Ob} (ha : l[i]? = some a) : ∃ b, k[i]? = some b ∧ a.Sm b := by
 obtain ⟨hlt, _⟩ := List.getElem?_eq_some_iff.1 ha
 have hb := List.getElem?_eq_getElem (l := k) (i := i) (by have := h.1; omega)
 exact ⟨_, hb, h.2 i _ _ ha hb⟩
theorem zau.mem {l k : List Ob} (h : zau l k) {a : Ob} (ha : a ∈ l) : ∃ b, b ∈ k ∧ a.Sm b := by
 obtain ⟨i, hi, rfl⟩ := List.getElem_of_mem ha
 obtain ⟨b, hb, hs⟩ := h.get (List.getElem?_eq_getElem hi)
 exact ⟨b, List.mem_of_getElem? hb, hs⟩
theorem zau.blocks {l k : List Ob} (h : zau l k) : l.map zaD = k.map zaD := by
 apply List.ext_getElem?
 intro i
 rw [List.getElem?_map, List.getElem?_map]
 cases ha : l[i]? with
 | none =>
  have : l.length ≤ i := List.getElem?_eq_none_iff.1 ha
  rw [List.getElem?_eq_none (by have := h.1; omega)]
 | some a =>
  obtain ⟨b, hb, _, h2, h3, _⟩ := h.get ha
  rw [hb]; simp [zaD, h2, h3]
theorem zhl {l k : List Ob} (h : zau l k) {t : Int} (ht : Zw l t) : Zw k t := by
 rcases ht with h0 | ⟨o, ho, rfl⟩
 ·exact .inl h0
 ·obtain ⟨b, hb, h1, _⟩ := h.mem ho
  exact .inr ⟨b, hb, h1.symm⟩
theorem za5 {x y : Hv} (h : x.Sm y) (hx : zQ x) : zQ y where
 free := by rw [← h.od, ← h.fs]; exact hx.free
 lo := by rw [← h.nx]; exact hx.lo
 hi := by rw [← h.nx]; exact hx.hi
 len := by rw [← h.os.1]; exact hx.len
 rise := fun i o ho => by
  obtain ⟨a, ha, h1, _⟩ := h.os.symm.get ho
  obtain ⟨r1, r2, r3⟩ := hx.rise i a ha
  rw [h1, ← h.nx]
  refine ⟨r1, r2, fun k q hk hq => ?_⟩
  obtain ⟨c, hc, h2, _⟩ := h.os.symm.get hq
  rw [h2]
  exact r3 k c hk hc
 need := fun o ho => by
  obtain ⟨a, ha, h1, h2, h3, h4, h5⟩ := h.os.symm.mem ho
  have := hx.need a ha
  have e : zaD o = zaD a := by simp [zaD, h2, h3]
  rw [e, h4, h5, h3, ← h.od]; exact this
 apart := by unfold zdi; rw [← h.fs, ← h.os.blocks]; exact hx.apart
 links := fun o ho t ht => by
  obtain ⟨a, ha, h1, h2, h3, h4, h5⟩ := h.os.symm.mem ho
  rw [h5] at ht
  exact zhl h.os (hx.links a ha t ht)
 tops := fun t ht => by
  have e : tops y = tops x := by simp [tops, h.t0, h.t1, h.t2, h.t3]
  rw [e] at ht
  exact zhl h.os (hx.tops t ht)
 words := by unfold zdi; rw [← h.fs, ← h.os.blocks, ← h.od]; exact hx.words
theorem zkM {x y : Hv} (h : x.Sm y) : Zv x = Zv y := by
 unfold Zv
 exact decide_eq_decide.2 ⟨za5 h, za5 h.symm⟩
theorem zjL {o : Int} (h3 : 3 ≤ o) (h8 : o ≤ 8) : Zv (zc8 o) = true := by
 have hp := z7 o
 refine zbs ⟨zc2 (by simp only [ZF, zc8]; simp [h3, h8]) ?_, Int.le_refl 1, (by show (1 : Int) ≤ 1000001; decide), by simp [zc8], fun i o ho => by simp [zc8] at ho, fun o ho => by simp [zc8] at ho, ?_, fun o ho => by simp [zc8] at ho, fun t ht => .inl ?_, ?_⟩
 ·intro i y hy
  rcases i with _ | i
  ·simp [zc8] at hy
   subst hy
   exact ⟨⟨by show (0 : Int) ≤ o; omega, Int.le_refl _, Int.le_refl _, by show (0 : Int) ≤ pw o - pw o; omega, by simp⟩, fun k x hk => by omega⟩
  ·simp [zc8] at hy
 ·simp [zaR, zdi, zc8]
 ·simp [tops, zc8] at ht; exact ht
 ·simp [zdi, zc8, zbD]
theorem zgg (od : Int) (oa : Option Addr) (os : List Ob) (oc : Nat) (nx t0 t1 t2 t3 : Int) (fa : Option Addr) (fs : List Bl) (fc : Nat) (b : Bool) (hb : Zv ⟨od, oa, os, oc, nx, t0, t1, t2, t3, fa, fs, fc⟩ = b) (hs : Hv.Small ⟨od, oa, os, oc, nx, t0, t1, t2, t3, fa, fs, fc⟩) (w : World) (h : Hv.Is w ⟨od, oa, os, oc, nx, t0, t1, t2, t3, fa, fs, fc⟩) : Calls Tryz.prog 74 #[(.agg #[.int .i64 od, .slice oa os.length oc, .int .i64 nx, .int .i64 t0, .int .i64 t1, .int .i64 t2, .int .i64 t3, .slice fa fs.length fc])] w fun e w' => e = .returned (.int .i64 (zgL b)) ∧ Below w.heap.size w w' := hb ▸ zng ⟨od, oa, os, oc, nx, t0, t1, t2, t3, fa, fs, fc⟩ hs w h
theorem zka : zdV.Small := ⟨⟨by simp [zdV], fun x hx => by cases hx⟩, by simp [zdV]⟩
open Go.RowKit
theorem zdH {ty : TypeId} {k : Nat} (h : zac Tryz.prog ty k = true := by with_reducible first | exact zL | exact ZK | exact zU | exact zcw) : zac Tryz.prog ty k = true := h
theorem zgf {ty : TypeId} (h : zN Tryz.prog ty = true := by with_reducible first | exact zw | exact Zd | exact zaa | exact cell109) : zN Tryz.prog ty = true := h
theorem zpO {x : Hv} (hx : zQ x) (kk hh ii nn cc vv tt : Int) {B bw : Nat} {w0 w : World} {K : List Blk} (hW : zZ B w0 w bw x K) :
    Calls Tryz.prog 77 #[.pointer (some ⟨bw, 0, none⟩), .agg #[.int .i64 kk, .int .i64 hh, .int .i64 ii, .int .i64 nn, .int .i64 cc, .int .i64 vv, .int .i64 tt]] w (zX B w0 bw (doC x ⟨kk, hh, ii, nn, cc, vv, tt⟩).1 (doC x ⟨kk, hh, ii, nn, cc, vv, tt⟩).2.1 (doC x ⟨kk, hh, ii, nn, cc, vv, tt⟩).2.2 K) := by
  unfold doC
  by_cases h1 : kk = 1
  · rw [if_pos h1]
    exact zhc hW (.inl ⟨h1, z0j (fun h => zlO hx h)⟩)
  · rw [if_neg h1]
    by_cases h2 : kk = 2 ∨ kk = 3 ∨ kk = 4 ∨ kk = 6 ∨ kk = 7
    · rw [if_pos h2]
      exact zhc hW (.inr ⟨h2, z0j (fun h => zpg hx h2 h)⟩)
    · rw [if_neg h2]
      by_cases h3 : kk = 5 ∨ kk = 8
      · rw [if_pos h3]
        unfold zj8
        simp only
        by_cases hi : ii < 0 ∨ 3 < ii
        · rw [if_pos hi]
          exact zjw h3 (by simp [inB]; omega) hW
        · rw [if_neg hi]
          obtain ⟨q, rfl, hq⟩ : ∃ q : Nat, ii = q ∧ (q = 0 ∨ q = 1 ∨ q = 2 ∨ q = 3) := ⟨ii.toNat, by omega, by omega⟩
          rcases h3 with rfl | rfl
          · simp only [Int.reduceEq, if_false]
            cases hto : ZQ x.os tt with
            | true => rcases hq with rfl | rfl | rfl | rfl
                      · exact zjx hx hto hW
                      · exact zjy hx hto hW
                      · exact zjz hx hto hW
                      · exact zjA hx hto hW
            | false => rcases hq with rfl | rfl | rfl | rfl
                       · exact zhY hx hto hW
                       · exact zhZ hx hto hW
                       · exact zh0 hx hto hW
                       · exact zh1 hx hto hW
          · simp only [if_true]
            exact zlX hq hW
      · rw [if_neg h3]
        exact zky (by omega) hW
def zbI (o : Ob) : Ob := zip o.h o.p o.o o.ws o.ls
def zmL (x : Hv) : Hv := { x with oa := none, os := x.os.map zbI, oc := 0, fa := none, fc := 0 }
theorem zjh {a b : Ob} : a.Sm b ↔ zbI a = zbI b := by
  unfold Ob.Sm zbI zip
  constructor
  · rintro ⟨h1, h2, h3, h4, h5⟩; rw [h1, h2, h3, h4, h5]
  · intro h; injection h with h1 h2 h3 h4 h5 h6 h7 h8 h9; exact ⟨h1, h2, h3, h5, h8⟩
theorem zmW {l k : List Ob} : zau l k ↔ l.map zbI = k.map zbI := by
  constructor
  · rintro ⟨h1, h2⟩
    apply List.ext_getElem?
    intro i
    rw [List.getElem?_map, List.getElem?_map]
    cases ha : l[i]? with
    | none => rw [List.getElem?_eq_none (by have := List.getElem?_eq_none_iff.1 ha; omega)]
    | some a =>
      have hl := (List.getElem?_eq_some_iff.1 ha).1
      have hb := List.getElem?_eq_getElem (l := k) (i := i) (by omega)
      rw [hb]
      exact congrArg some (zjh.1 (h2 i a _ ha hb))
  · intro h
    refine ⟨by have := congrArg List.length h; simpa using this, fun i a b ha hb => zjh.2 ?_⟩
    have h3 : (l.map zbI)[i]? = (k.map zbI)[i]? := by rw [h]
    rw [List.getElem?_map, List.getElem?_map, ha, hb] at h3
    injection h3
theorem zlp {x y : Hv} : x.Sm y ↔ zmL x = zmL y := by
  unfold zmL
  constructor
  · rintro ⟨h1, h2, h3, h4, h5, h6, h7, h8⟩
    obtain ⟨⟩ := x
    obtain ⟨⟩ := y
    simp only at h1 h2 h3 h4 h5 h6 h7 h8
    rw [h1, h2, h3, h4, h5, h6, h8, zmW.1 h7]
  · intro h
    obtain ⟨⟩ := x
    obtain ⟨⟩ := y
    simp only at h
    injection h with h1 h2 h3 h4 h5 h6 h7 h8 h9 h10 h11 h12
    exact ⟨h1, h5, h6, h7, h8, h9, zmW.2 h3, h11⟩
theorem zir (l : List Ob) (h : Int) : Z0 (l.map zbI) h = Z0 l h := by
  induction l with
  | nil => rfl
  | cons o l ih => simp only [List.map_cons, Z0, ih]; rfl
theorem ze0 (l : List Ob) (t : Int) : ZQ (l.map zbI) t = ZQ l t := by
  unfold ZQ
  congr 1
  rw [List.any_map]
  rfl
theorem ZM (o : Ob) : zbI (zbI o) = zbI o := rfl
theorem ZU (l : List Ob) : (l.map zbI).map zbI = l.map zbI := by rw [List.map_map]; apply List.map_congr_left; intro o _; rfl
theorem zgl {α β : Type} (f : α → β) (l : List α) (i : Nat) : (l.map f).eraseIdx i = (l.eraseIdx i).map f := by
  induction l generalizing i with
  | nil => rfl
  | cons x l ih => cases i with
    | zero => rfl
    | succ i => simp [ih]
theorem ziU (x : Hv) (o : Opd) : (doC (zmL x) o).2 = (doC x o).2 ∧ zmL (doC (zmL x) o).1 = zmL (doC x o).1 := by
  obtain ⟨od, oa, os, oc, nx, t0, t1, t2, t3, fa, fs, fc⟩ := x
  have hcut : ∀ h : Int, zbI ∘ zfk h ∘ zbI = zbI ∘ zfk h := fun h => rfl
  unfold doC zmL
  split
  · unfold zbm
    simp only
    split
    · exact ⟨rfl, by simp [ZU, ZM]⟩
    · split
      · exact ⟨rfl, by simp [ZU, ZM]⟩
      · split
        · exact ⟨rfl, by simp [ZU, ZM]⟩
        · exact ⟨rfl, by simp [zeO, ZU, zbI, zip]⟩
  · split
    · unfold atC
      simp only [zir]
      split
      · exact ⟨rfl, by simp [ZU, ZM]⟩
      · rename_i i hi
        obtain ⟨b, hb, _⟩ := zc1 hi
        simp only [List.getElem?_map, hb, Option.map_some]
        split
        · refine ⟨rfl, ?_⟩
          simp only [zdl, zgl, List.map_map]
          rfl
        · have hrow : zj1 o (zbI b) = zj1 o b := by unfold zj1 zbI zip; rfl
          rw [hrow]
          split
          · exact ⟨rfl, by simp [ZU, ZM]⟩
          · split
            · refine ⟨rfl, ?_⟩
              simp only [zfi, List.map_set, ZU]
              rfl
            · split
              · rw [ze0]
                split
                · refine ⟨rfl, ?_⟩
                  simp only [zim, List.map_set, ZU]
                  rfl
                · exact ⟨rfl, by simp [ZU, ZM]⟩
              · exact ⟨rfl, by simp [ZU, ZM]⟩
    · split
      · unfold zj8
        simp only [ze0]
        split
        · exact ⟨rfl, by simp [ZU, ZM]⟩
        · split
          · exact ⟨rfl, by simp [ZU, ZM]⟩
          · split
            · refine ⟨rfl, ?_⟩
              unfold zmE
              split <;> simp [ZU, ZM]
            · exact ⟨rfl, by simp [ZU, ZM]⟩
      · exact ⟨rfl, by simp [ZU, ZM]⟩
theorem zfM {x y : Hv} (h : x.Sm y) (o : Opd) : (doC x o).2 = (doC y o).2 ∧ (doC x o).1.Sm (doC y o).1 := by
  have h1 := ziU x o
  have h2 := ziU y o
  rw [zlp.1 h] at h1
  exact ⟨h1.1.symm.trans h2.1, zlp.2 (h1.2.symm.trans h2.2)⟩
noncomputable def doP (x : Hv) (o : Opd) : Hv × Int × Int := if Zv x = true then doC x o else (zdV, 1, 0)
theorem zh2 {x : Hv} (h : zQ x) (o : Opd) : doP x o = doC x o := by unfold doP; rw [if_pos (zbs h)]
theorem zos {x : Hv} (h : Zv x = false) (o : Opd) : doP x o = (zdV, 1, 0) := by unfold doP; rw [if_neg (by rw [h]; decide)]
def HvO (y : Hv) (R : List Blk) : Prop := ∃ RO RF M, R = RO ++ (RF ++ M) ∧ HvR y RO RF M
def zdx (w : World) (r : Hv × Int × Int) (e : Ending) (w' : World) : Prop :=
  ∃ y R, e = .returned (.tuple #[.agg (hvL y).toArray, .agg #[.int .i64 r.2.1, .int .i64 r.2.2]]) ∧ y.Sm r.1 ∧ ZC R (fun w => y.Is w) ∧ HvO y R ∧ Hp w.heap.size w w' R
theorem zpl {y s : Hv} {rc rv kk hh ii nn cc vv tt : Int} (hx : zQ y) (h2 : (doC y ⟨kk, hh, ii, nn, cc, vv, tt⟩).2 = (rc, rv)) (hs : (doC y ⟨kk, hh, ii, nn, cc, vv, tt⟩).1.Sm s) {B bw : Nat} {w0 w : World} {z1 z2 z3 z4 : Blk} {RO RF M : List Blk} (hR : HvR y RO RF M) (hp : Hp B w0 w (z1 :: z2 :: z3 :: z4 :: ⟨bw, hvL y, 113, 8⟩ :: (RO ++ (RF ++ (M ++ []))))) :
    Calls Tryz.prog 77 #[.pointer (some ⟨bw, 0, none⟩), .agg #[.int .i64 kk, .int .i64 hh, .int .i64 ii, .int .i64 nn, .int .i64 cc, .int .i64 vv, .int .i64 tt]] w fun e w' => e = .returned (.agg #[.int .i64 rc, .int .i64 rv]) ∧ ∃ (y2 : Hv) (RO2 RF2 M2 : List Blk), y2.Sm s ∧ HvR y2 RO2 RF2 M2 ∧ Hp B w0 w' (z1 :: z2 :: z3 :: ⟨bw, hvL y2, 113, 8⟩ :: (RO2 ++ (RF2 ++ M2))) := by
  refine (zpO hx kk hh ii nn cc vv tt (K := [z1, z2, z3]) ⟨RO, RF, M, hR, hp.kp⟩).mono fun e w' ⟨he, y2, hy2, RO2, RF2, M2, hR2, hp2⟩ => ⟨?_, y2, RO2, RF2, M2, hy2.trans hs, hR2, hp2.kp⟩
  rw [he, h2]; rfl
theorem zlS (od : Int) (oa : Option Addr) (os : List Ob) (oc : Nat) (nx t0 t1 t2 t3 : Int) (fa : Option Addr) (fs : List Bl) (fc : Nat) (hs : Hv.Small ⟨od, oa, os, oc, nx, t0, t1, t2, t3, fa, fs, fc⟩) (w : World) (h : Hv.Is w ⟨od, oa, os, oc, nx, t0, t1, t2, t3, fa, fs, fc⟩) :
    Calls Tryz.prog 76 #[.agg #[.int .i64 od, .slice oa os.length oc, .int .i64 nx, .int .i64 t0, .int .i64 t1, .int .i64 t2, .int .i64 t3, .slice fa fs.length fc]] w (zgN w ⟨od, oa, os, oc, nx, t0, t1, t2, t3, fa, fs, fc⟩) := znc _ hs w h
theorem zgK : HvO zdV [] := ⟨[], [], [], rfl, zH.nil _ _, zH.nil _ _, zdZ.nil⟩
theorem zlZ (x : Hv) (kk hh ii nn cc vv tt : Int) (hs : x.Small) (w : World) (h : x.Is w) (hb : Zv x = false) : Calls Tryz.prog 21 #[.agg (hvL x).toArray, .agg #[.int .i64 kk, .int .i64 hh, .int .i64 ii, .int .i64 nn, .int .i64 cc, .int .i64 vv, .int .i64 tt]] w (zdx w (doP x ⟨kk, hh, ii, nn, cc, vv, tt⟩)) := by
  rw [zos hb]
  obtain ⟨od, oa, os, oc, nx, t0, t1, t2, t3, fa, fs, fc⟩ := x
  have HB := z0j hb
  have HSM := z0j hs
  have HIS := z0j h
  clear hb hs h
  simp only [hvL]
  have hp := Hp.start w
  go_enter Tryz.func21, Tryz.ntmps21
  go_wp2_with (first | (go_at_call 74; (with_reducible refine (zgg od oa os oc nx t0 t1 t2 t3 fa fs fc _ HB.out HSM.out _ (HIS.out.below hp.below)).mono ?_); rintro e w1 ⟨rfl, hb⟩; replace hp := hp.call hb; clear hb; first | rw [zhh] | rw [zfO]) | (go_at_call 75; (with_reducible refine (zde _ _).mono ?_); rintro e w1 ⟨rfl, hb⟩; replace hp := hp.call hb; clear hb; unfold zaQ) | go_skip | ((first | ((refine zh _ rfl ?_); refine lZ hp rfl (by with_reducible first | exact zJ | exact zT) ?_; clear hp; intro b w1 hp) | ((refine zi _ _ rfl ?_); refine lB hp rfl (zb rfl) rfl ?_; clear hp; intro b w1 hp) | ((refine zg _ _ rfl ?_); first | refine lO hp rfl (zb rfl) zgf aa5 ?_ | refine lA hp rfl (zb rfl) zdH aa5 ?_) | ((refine zf _ _ _ rfl ?_); (first | refine sO hp rfl (zb rfl) zgf aa5 ?_ | refine sA hp rfl (zb rfl) (zb rfl) zdH aa5 ?_ | refine sG hp rfl (zb rfl) (zb rfl) zdH aa5 ?_); clear hp; intro w1 hp; simp only [spl, z0a, z0b] at hp)); simp only [ze, zd, z0b, z0a]))
  exact bodyPost_ret (zx (rs := [.cell 4 47, .cell 5 54]) Tryz.results21 (.cell rfl (hp.loadAgg zL at1 0 _ (by rfl) (by rfl)) (.cell rfl (hp.loadAgg zU at0 0 _ (by rfl) (by rfl)) .nil))) rfl ⟨zdV, [], rfl, Hv.Sm.refl _, zgu, zgK, hp.sub0⟩
theorem zkA (x : Hv) (kk hh ii nn cc vv tt : Int) (hs : x.Small) (w : World) (h : x.Is w) (hx : zQ x) : Calls Tryz.prog 21 #[.agg (hvL x).toArray, .agg #[.int .i64 kk, .int .i64 hh, .int .i64 ii, .int .i64 nn, .int .i64 cc, .int .i64 vv, .int .i64 tt]] w (zdx w (doP x ⟨kk, hh, ii, nn, cc, vv, tt⟩)) := by
  rw [zh2 hx]
  have HRT : Hid (∀ y : Hv, y.Sm x → zQ y ∧ (doC y ⟨kk, hh, ii, nn, cc, vv, tt⟩).2 = (doC x ⟨kk, hh, ii, nn, cc, vv, tt⟩).2 ∧ (doC y ⟨kk, hh, ii, nn, cc, vv, tt⟩).1.Sm (doC x ⟨kk, hh, ii, nn, cc, vv, tt⟩).1) := z0j (fun y hy => ⟨za5 hy.symm hx, zfM hy _⟩)
  have hb := zbs hx
  generalize doC x ⟨kk, hh, ii, nn, cc, vv, tt⟩ = r at HRT ⊢
  obtain ⟨s, rc, rv⟩ := r
  obtain ⟨od, oa, os, oc, nx, t0, t1, t2, t3, fa, fs, fc⟩ := x
  have HB := z0j hb
  have HSM := z0j hs
  have HIS := z0j h
  clear hb hs h hx
  simp only [hvL]
  have hp := Hp.start w
  go_enter Tryz.func21, Tryz.ntmps21
  go_wp2_with (first | (go_at_call 74; (with_reducible refine (zgg od oa os oc nx t0 t1 t2 t3 fa fs fc _ HB.out HSM.out _ (HIS.out.below hp.below)).mono ?_); rintro e w1 ⟨rfl, hb⟩; replace hp := hp.call hb; clear hb; first | rw [zhh] | rw [zfO]) | (go_at_call 75; (with_reducible refine (zde _ _).mono ?_); rintro e w1 ⟨rfl, hb⟩; replace hp := hp.call hb; clear hb; unfold zaQ) | (go_at_call 76; (with_reducible refine (zlS od oa os oc nx t0 t1 t2 t3 fa fs fc HSM.out _ (HIS.out.below hp.below)).mono ?_); rintro e w1 ⟨bw, y, rfl, hy, RO, RF, M, hR, hpx⟩; replace hp := hp.join hpx; have HY := z0j hy; have HR := z0j hR; clear hpx hy hR; simp only [z0f, z0e] at hp) | go_skip | ((first | ((refine zh _ rfl ?_); refine lZ hp rfl (by with_reducible first | exact zJ | exact zT) ?_; clear hp; intro b w1 hp) | ((refine zi _ _ rfl ?_); refine lB hp rfl (zb rfl) rfl ?_; clear hp; intro b w1 hp) | ((refine zg _ _ rfl ?_); first | refine lO hp rfl (zb rfl) zgf aa5 ?_ | refine lA hp rfl (zb rfl) zdH aa5 ?_) | ((refine zf _ _ _ rfl ?_); (first | refine sO hp rfl (zb rfl) zgf aa5 ?_ | refine sA hp rfl (zb rfl) (zb rfl) zdH aa5 ?_ | refine sG hp rfl (zb rfl) (zb rfl) zdH aa5 ?_); clear hp; intro w1 hp; simp only [spl, z0a, z0b] at hp)); simp only [ze, zd, z0b, z0a]))
  go_wp2_with (first | (go_at_call 77; (with_reducible refine (zpl (HRT.out y HY.out).1 (HRT.out y HY.out).2.1 (HRT.out y HY.out).2.2 HR.out hp).mono ?_); clear hp; rintro e w1 ⟨rfl, ⟨od2, oa2, os2, oc2, nx2, t02, t12, t22, t32, fa2, fs2, fc2⟩, RO2, RF2, M2, hy2, hR2, hp⟩; have HR2 := z0j hR2; have HY2 := z0j hy2; clear hR2 hy2; simp only [hvL] at hp) | go_skip | ((first | ((refine zh _ rfl ?_); refine lZ hp rfl (by with_reducible first | exact zJ | exact zT) ?_; clear hp; intro b w1 hp) | ((refine zi _ _ rfl ?_); refine lB hp rfl (zb rfl) rfl ?_; clear hp; intro b w1 hp) | ((refine zg _ _ rfl ?_); first | refine lO hp rfl (zb rfl) zgf aa5 ?_ | refine lA hp rfl (zb rfl) zdH aa5 ?_) | ((refine zf _ _ _ rfl ?_); (first | refine sO hp rfl (zb rfl) zgf aa5 ?_ | refine sA hp rfl (zb rfl) (zb rfl) zdH aa5 ?_ | refine sG hp rfl (zb rfl) (zb rfl) zdH aa5 ?_); clear hp; intro w1 hp; simp only [spl, z0a, z0b] at hp)); simp only [ze, zd, z0b, z0a]))
  refine zk [_, _] (zA.two hp.drew at0 at4) [6] [(0, true), (1, true), (2, true), (3, true), (4, true), (5, false), (6, false)] (by kernel_rfl) (by kernel_rfl) rfl (by kernel_rfl) (fun _ _ d _ _ h => by cases d <;> exact h) ?_
  replace hp := hp.drew
  repeat' (with_reducible refine zB ?_); first | (with_reducible refine zt ?_) | ((with_reducible refine zI ?_); refine zy rfl ?_; (first | ((with_reducible refine zV _ rfl ?_); refine tM rfl ?_) | ((with_reducible refine zS _ _ rfl ?_); refine tA rfl (zb rfl) (by with_reducible first | exact zL | exact zU) aa5 ?_) | refine tG (fun w _ => (by go_simp; try rfl)) ?_); try simp only [ze, zd, zn, zj, z0b, z0a, z0d, z0c, zr]) | (refine zF rfl (fun K hK => ?_); go_wp2_with (first | go_skip | (((refine zf _ _ _ rfl ?_); (first | refine sO hp rfl (zb rfl) zgf aa5 ?_ | refine sA hp rfl (zb rfl) (zb rfl) zdH aa5 ?_ | refine sG hp rfl (zb rfl) (zb rfl) zdH aa5 ?_); clear hp; intro w1 hp; simp only [spl, z0a, z0b] at hp); simp only [ze, zd, z0b, z0a])); (first | refine hK.out _ _ (.inl rfl) ?_ | refine hK.out _ _ (.inr (zA.two hp aa5 aa5)) ?_); clear hK K; try simp only [ze, zd, zn, zj, z0b, z0a, z0d, z0c, zr])
  go_wp2_with (first | go_skip | ((first | ((refine zh _ rfl ?_); refine lZ hp rfl (by with_reducible first | exact zJ | exact zT) ?_; clear hp; intro b w1 hp) | ((refine zi _ _ rfl ?_); refine lB hp rfl (zb rfl) rfl ?_; clear hp; intro b w1 hp) | ((refine zg _ _ rfl ?_); first | refine lO hp rfl (zb rfl) zgf aa5 ?_ | refine lA hp rfl (zb rfl) zdH aa5 ?_) | ((refine zf _ _ _ rfl ?_); (first | refine sO hp rfl (zb rfl) zgf aa5 ?_ | refine sA hp rfl (zb rfl) (zb rfl) zdH aa5 ?_ | refine sG hp rfl (zb rfl) (zb rfl) zdH aa5 ?_); clear hp; intro w1 hp; simp only [spl, z0a, z0b] at hp)); simp only [ze, zd, z0b, z0a]))
  exact bodyPost_ret (zx (rs := [.cell 4 47, .cell 5 54]) Tryz.results21 (.cell rfl (hp.loadAgg zL at2 0 _ (by rfl) (by rfl)) (.cell rfl (hp.loadAgg zU at1 0 _ (by rfl) (by rfl)) .nil))) rfl ⟨⟨od2, oa2, os2, oc2, nx2, t02, t12, t22, t32, fa2, fs2, fc2⟩, _, rfl, HY2.out, HR2.out.kept, ⟨RO2, RF2, M2, rfl, HR2.out⟩, hp.kp⟩
theorem zeY {x : Hv} (h : Zv x = true) : zQ x := by unfold Zv at h; simpa using h
theorem zpm (x : Hv) (kk hh ii nn cc vv tt : Int) (hs : x.Small) (w : World) (h : x.Is w) : Calls Tryz.prog 21 #[.agg (hvL x).toArray, .agg #[.int .i64 kk, .int .i64 hh, .int .i64 ii, .int .i64 nn, .int .i64 cc, .int .i64 vv, .int .i64 tt]] w (zdx w (doP x ⟨kk, hh, ii, nn, cc, vv, tt⟩)) := by
  cases hb : Zv x with
  | false => exact zlZ x kk hh ii nn cc vv tt hs w h hb
  | true => exact zkA x kk hh ii nn cc vv tt hs w h (zeY hb)
theorem zhd (od : Int) (oa : Option Addr) (os : List Ob) (oc : Nat) (nx t0 t1 t2 t3 : Int) (fa : Option Addr) (fs : List Bl) (fc : Nat) (kk hh ii nn cc vv tt : Int) (r : Hv × Int × Int) (hr : doP ⟨od, oa, os, oc, nx, t0, t1, t2, t3, fa, fs, fc⟩ ⟨kk, hh, ii, nn, cc, vv, tt⟩ = r)
    (hs : Hv.Small ⟨od, oa, os, oc, nx, t0, t1, t2, t3, fa, fs, fc⟩) (w : World) (h : Hv.Is w ⟨od, oa, os, oc, nx, t0, t1, t2, t3, fa, fs, fc⟩) :
    Calls Tryz.prog 21 #[.agg #[.int .i64 od, .slice oa os.length oc, .int .i64 nx, .int .i64 t0, .int .i64 t1, .int .i64 t2, .int .i64 t3, .slice fa fs.length fc], .agg #[.int .i64 kk, .int .i64 hh, .int .i64 ii, .int .i64 nn, .int .i64 cc, .int .i64 vv, .int .i64 tt]] w (zdx w r) :=
  hr ▸ zpm ⟨od, oa, os, oc, nx, t0, t1, t2, t3, fa, fs, fc⟩ kk hh ii nn cc vv tt hs w h
open Go.RowKit
theorem zcc {ty : TypeId} {l : List Value} {n : Nat} (h : zbl Tryz.prog ty = some (l, n) := by with_reducible first | exact Z7 | exact zT | exact Z5) : zbl Tryz.prog ty = some (l, n) := h
theorem z6 {ty : TypeId} {k : Nat} (h : zac Tryz.prog ty k = true := by with_reducible first | exact zY | exact zL | exact zC) : zac Tryz.prog ty k = true := h
theorem zag {ty : TypeId} (h : zN Tryz.prog ty = true := by with_reducible first | exact zw | exact Zd | exact Zb | exact Zc | exact zat) : zN Tryz.prog ty = true := h
theorem zgC (l : List Rw) : (l.flatMap rwV).all (·.oneCell') = true := by
 rw [List.all_eq_true]; intro u hu; obtain ⟨x, _, hx⟩ := List.mem_flatMap.1 hu; simp [rwV] at hx; rcases hx with rfl | rfl | rfl | rfl <;> rfl
def zlM (w : World) (x : Sv) (e : Ending) (w' : World) : Prop := ∃ y R, e = .returned (.agg (svL y).toArray) ∧ x.Sm y ∧ ZC R (fun w => y.Is w) ∧ Hp w.heap.size w w' R
theorem zoL (x : Sv) (hs : x.Small) (w : World) (hx0 : x.Is w) : Calls Tryz.prog 20 #[.agg (svL x).toArray] w (zlM w x) := by
 obtain ⟨i1, hi1, hy0, hy1, hy2⟩ := info_parts zeZ
 obtain ⟨hv, ra, rs, rc⟩ := x
 obtain ⟨hs1, hs2⟩ := hs
 obtain ⟨hh, hr⟩ := hx0
 simp only at hs1 hs2 hh hr
 have HH := z0j hh
 have HR := z0j hr
 have sm1 : rs.length ≤ maxLen := by unfold maxLen; omega
 have sm2 : rs.length * 32 ≤ 140737488355328 := by omega
 have hp := Hp.start w
 clear hh hr hs2
 obtain ⟨hv1, hhv⟩ : ∃ v, v = hv := ⟨_, rfl⟩
 rw [← hhv]
 obtain ⟨od, oa, os, oc, nx, t0, t1, t2, t3, fa, fs, fc⟩ := hv1
 subst hhv
 simp only [svL, hvL, z0f, z0e]
 go_enter Tryz.func20, Tryz.ntmps20
 go_wp2_with (first | (go_at_call 73; (with_reducible refine (zoM od oa os oc nx t0 t1 t2 t3 fa fs fc hs1 _ (HH.out.below hp.below)).mono ?_); rintro e w1 ⟨⟨od', oa', os', oc', nx', t0', t1', t2', t3', fa', fs', fc'⟩, R, rfl, hsm, hk, hp5⟩; replace hp := hp.join hp5; have HSM := z0j hsm; have HK := z0j hk; clear hp5 hsm hk; simp only [z0f, z0e, hvL] at hp ⊢) | ((refine zM _ _ 48 rfl ?_); refine ZS hp _ _ _ rfl wy 120 i1 _ 4 32 Tryz.underlying48 hi1 hy0 hy1 hy2 rfl (by decide) (zb rfl) ra rs.length rc (zb rfl) _ (by rw [Zq rwV 4 ZP]) (HR.out.below hp.below) (zgC rs) sm1 sm2 ?_; clear hp; intro a1 c1 R1 w1 hr1 _ hp; have HR1 := z0j hr1; clear hr1; simp only [z0f, z0i] at hp; simp only [ze, zd, z0b, z0a]) | go_skip | ((first | ((refine zh _ rfl ?_); refine lZ hp rfl zcc ?_; clear hp; intro b w1 hp) | ((refine zi _ _ rfl ?_); refine lB hp rfl (zb rfl) rfl ?_; clear hp; intro b w1 hp) | ((refine zg _ _ rfl ?_); first | refine lO hp rfl (zb rfl) zag zq ?_ | refine lA hp rfl (zb rfl) z6 zq ?_ | refine lR hp rfl (zb rfl) z6 HX.out ?_ | refine lR hp rfl (zb rfl) z6 HY.out ?_) | ((refine zf _ _ _ rfl ?_); (first | refine sO hp rfl (zb rfl) zag zq ?_ | refine sA hp rfl (zb rfl) (zb rfl) z6 zq ?_ | refine sG hp rfl (zb rfl) (zb rfl) z6 zq ?_); clear hp; intro w1 hp; simp only [spl, z0a, z0b] at hp)); simp only [ze, zd, z0b, z0a]))
 refine bodyPost_ret (zE (rs := [.cell 2 50]) Tryz.results20 (.cell rfl (hp.loadAgg zY at0 0 _ (by rfl) (by rfl)) .nil)) rfl ⟨⟨⟨od', oa', os', oc', nx', t0', t1', t2', t3', fa', fs', fc'⟩, a1, rs, c1⟩, R ++ R1, rfl, ⟨HSM.out, rfl⟩, ?_, hp.tail.tail⟩
 intro B w0 w' L hpx hm
 exact ⟨HK.out B w0 w' L hpx (fun p hp2 => hm p (by simp [hp2])), HR1.out B w0 w' L hpx (fun p hp2 => hm p (by simp [hp2]))⟩
theorem zoV (x y : Sv) (hs : x.Small) (hxy : x.Sm y) (w : World) (hx0 : x.Is w) (hy0 : y.Is w) : Calls Tryz.prog 26 #[.agg (svL x).toArray, .agg (svL y).toArray] w fun e w' => e = .returned (.bool true) ∧ Below w.heap.size w w' := by
 obtain ⟨hv, ra, rs, rc⟩ := x
 obtain ⟨hv', ra', rs', rc'⟩ := y
 obtain ⟨hs1, hs2⟩ := hs
 obtain ⟨hsm, hrs⟩ := hxy
 obtain ⟨hh, hr⟩ := hx0
 obtain ⟨hh', hr'⟩ := hy0
 simp only at hs1 hs2 hh hr hh' hr' hsm hrs
 subst hrs
 obtain ⟨hv1, hhv⟩ : ∃ v, v = hv := ⟨_, rfl⟩
 obtain ⟨hv2, hhv2⟩ : ∃ v, v = hv' := ⟨_, rfl⟩
 rw [← hhv, ← hhv2]
 obtain ⟨od, oa, os, oc, nx, t0, t1, t2, t3, fa, fs, fc⟩ := hv1
 obtain ⟨od', oa', os', oc', nx', t0', t1', t2', t3', fa', fs', fc'⟩ := hv2
 subst hhv hhv2
 simp only [svL, hvL, z0f, z0e]
 have HH := z0j hh
 have HH' := z0j hh'
 have HR := z0j hr
 have HR' := z0j hr'
 have HSM := z0j hsm
 have hp := Hp.start w
 clear hh hr hh' hr' hsm
 go_enter Tryz.func26, Tryz.ntmps26
 go_wp2_with (first | (go_at_call 27; (with_reducible refine (znR od oa os oc nx t0 t1 t2 t3 fa fs fc od' oa' os' oc' nx' t0' t1' t2' t3' fa' fs' fc' hs1 HSM.out _ (HH.out.below hp.below) (HH'.out.below hp.below)).mono ?_); rintro e w1 ⟨rfl, hb⟩; replace hp := hp.call hb; clear hb) | go_skip | ((first | ((refine zh _ rfl ?_); refine lZ hp rfl zcc ?_; clear hp; intro b w1 hp) | ((refine zi _ _ rfl ?_); refine lB hp rfl (zb rfl) rfl ?_; clear hp; intro b w1 hp) | ((refine zg _ _ rfl ?_); first | refine lO hp rfl (zb rfl) zag zq ?_ | refine lA hp rfl (zb rfl) z6 zq ?_ | refine lR hp rfl (zb rfl) z6 HX.out ?_ | refine lR hp rfl (zb rfl) z6 HY.out ?_) | ((refine zf _ _ _ rfl ?_); (first | refine sO hp rfl (zb rfl) zag zq ?_ | refine sA hp rfl (zb rfl) (zb rfl) z6 zq ?_ | refine sG hp rfl (zb rfl) (zb rfl) z6 zq ?_); clear hp; intro w1 hp; simp only [spl, z0a, z0b] at hp)); simp only [ze, zd, z0b, z0a]))
 obtain ⟨b1, rfl⟩ := hp.id1
 go_loopg [5] rs.length (fun k i wr => ∃ j : Nat, k + j = rs.length ∧ i = .int .i64 j ∧ Hp w.heap.size w wr [⟨b, [.int .i64 od', .slice oa' os'.length oc', .int .i64 nx', .int .i64 t0', .int .i64 t1', .int .i64 t2', .int .i64 t3', .slice fa' fs'.length fc', .slice ra' rs.length rc'], 50, 9⟩, ⟨b1, [.int .i64 od, .slice oa os.length oc, .int .i64 nx, .int .i64 t0, .int .i64 t1, .int .i64 t2, .int .i64 t3, .slice fa fs.length fc, .slice ra rs.length rc], 50, 9⟩])
 case atStart => exact ⟨0, by omega, rfl, hp⟩
 case round =>
  clear hp
  obtain ⟨j, hkj, rfl, hp⟩ := hrel
  by_cases hlt : j < rs.length
  ·obtain ⟨bq, off, rfl, hx⟩ := HR.out.elems 4 ZP (by omega) (by omega)
   obtain ⟨bq', off', rfl, hy⟩ := HR'.out.elems 4 ZP (by omega) (by omega)
   have hj := List.getElem?_eq_getElem hlt
   replace hx := hx j _ hj
   replace hy := hy j _ hj
   clear hj
   generalize rs[j] = x at hx hy
   obtain ⟨xc, xs, xe, xv⟩ := x
   simp only [rwV] at hx hy
   have HX := z0j hx
   have HY := z0j hy
   clear hx hy
   have e1 : (0 : Int) ≤ (j : Int) := by omega
   have e2 : (j : Int) < (rs.length : Int) := by omega
   go_wp2_with (first | go_skip | ((first | ((refine zh _ rfl ?_); refine lZ hp rfl zcc ?_; clear hp; intro b w1 hp) | ((refine zi _ _ rfl ?_); refine lB hp rfl (zb rfl) rfl ?_; clear hp; intro b w1 hp) | ((refine zg _ _ rfl ?_); first | refine lO hp rfl (zb rfl) zag zq ?_ | refine lA hp rfl (zb rfl) z6 zq ?_ | refine lR hp rfl (zb rfl) z6 HX.out ?_ | refine lR hp rfl (zb rfl) z6 HY.out ?_) | ((refine zf _ _ _ rfl ?_); (first | refine sO hp rfl (zb rfl) zag zq ?_ | refine sA hp rfl (zb rfl) (zb rfl) z6 zq ?_ | refine sG hp rfl (zb rfl) (zb rfl) z6 zq ?_); clear hp; intro w1 hp; simp only [spl, z0a, z0b] at hp)); simp only [ze, zd, z0b, z0a]))
   refine zk _ (zA.all hp.drew) [] [(0, true), (1, true), (2, true), (3, true), (4, true), (5, true), (6, true), (7, true), (8, true), (9, true), (10, true)] (by kernel_rfl) (by kernel_rfl) rfl (by kernel_rfl) (fun _ _ d _ _ h => by cases d <;> exact h) ?_
   replace hp := hp.drew
   repeat' (with_reducible refine zB ?_); first | (with_reducible refine zt ?_) | ((with_reducible refine zI ?_); refine zy rfl ?_; (first | ((with_reducible refine zV _ rfl ?_); refine tM rfl ?_) | ((with_reducible refine zS _ _ rfl ?_); first | refine tA rfl (zb rfl) zC zq ?_ | refine tO rfl (zb rfl) zat zq ?_ | refine tR rfl (zb rfl) zC HX.out ?_ | refine tR rfl (zb rfl) zC HY.out ?_) | refine tG (fun w _ => (by go_simp; try rfl)) ?_); try simp only [ze, zd, zn, zj, z0b, z0a, z0d, z0c, zr])
   go_wp2_with fail
   go_roundg (gk - 1)
   case measure => omega
   case rel => exact ⟨j + 1, by omega, by go_num, hp⟩
  ·have e2 : decide ((j : Int) < (rs.length : Int)) = false := by simp; omega
   go_wp2_with (first | go_skip | ((first | ((refine zh _ rfl ?_); refine lZ hp rfl zcc ?_; clear hp; intro b w1 hp) | ((refine zi _ _ rfl ?_); refine lB hp rfl (zb rfl) rfl ?_; clear hp; intro b w1 hp) | ((refine zg _ _ rfl ?_); first | refine lO hp rfl (zb rfl) zag zq ?_ | refine lA hp rfl (zb rfl) z6 zq ?_ | refine lR hp rfl (zb rfl) z6 HX.out ?_ | refine lR hp rfl (zb rfl) z6 HY.out ?_) | ((refine zf _ _ _ rfl ?_); (first | refine sO hp rfl (zb rfl) zag zq ?_ | refine sA hp rfl (zb rfl) (zb rfl) z6 zq ?_ | refine sG hp rfl (zb rfl) (zb rfl) z6 zq ?_); clear hp; intro w1 hp; simp only [spl, z0a, z0b] at hp)); simp only [ze, zd, z0b, z0a]))
   go_ret
   exact ⟨rfl, hp.below⟩
def ziK (w : World) (x : Sv) (e : Ending) (w' : World) : Prop := ∃ b, e = .returned (.bool b) ∧ (b = false → x.Small) ∧ Below w.heap.size w w'
theorem zph (x : Sv) (w : World) (hx0 : x.Is w) : Calls Tryz.prog 19 #[.agg (svL x).toArray] w (ziK w x) := by
 obtain ⟨hv, ra, rs, rc⟩ := x
 obtain ⟨hh, hr⟩ := hx0
 simp only at hh hr
 obtain ⟨hv1, hhv⟩ : ∃ v, v = hv := ⟨_, rfl⟩
 rw [← hhv]
 obtain ⟨od, oa, os, oc, nx, t0, t1, t2, t3, fa, fs, fc⟩ := hv1
 subst hhv
 simp only [svL, hvL, z0f, z0e]
 have HH := z0j hh
 have hp := Hp.start w
 clear hh hr
 by_cases d1 : (1000 : Int) < (rs.length : Int)
 ·go_enter Tryz.func19, Tryz.ntmps19
  go_wp2_with (first | go_skip | ((first | ((refine zh _ rfl ?_); refine lZ hp rfl zcc ?_; clear hp; intro b w1 hp) | ((refine zi _ _ rfl ?_); refine lB hp rfl (zb rfl) rfl ?_; clear hp; intro b w1 hp) | ((refine zg _ _ rfl ?_); first | refine lO hp rfl (zb rfl) zag zq ?_ | refine lA hp rfl (zb rfl) z6 zq ?_ | refine lR hp rfl (zb rfl) z6 HX.out ?_ | refine lR hp rfl (zb rfl) z6 HY.out ?_) | ((refine zf _ _ _ rfl ?_); (first | refine sO hp rfl (zb rfl) zag zq ?_ | refine sA hp rfl (zb rfl) (zb rfl) z6 zq ?_ | refine sG hp rfl (zb rfl) (zb rfl) z6 zq ?_); clear hp; intro w1 hp; simp only [spl, z0a, z0b] at hp)); simp only [ze, zd, z0b, z0a]))
  go_ret
  exact ⟨true, rfl, (by intro h; cases h), hp.below⟩
 ·have d2 : decide ((1000 : Int) < (rs.length : Int)) = false := by simp; omega
  have HL : Hid (rs.length ≤ 1000) := z0j (by omega)
  clear d1
  go_enter Tryz.func19, Tryz.ntmps19
  go_wp2_with (first | (go_at_call 72; (with_reducible refine (zoi od oa os oc nx t0 t1 t2 t3 fa fs fc _ (HH.out.below hp.below)).mono ?_); rintro e w1 ⟨bb, rfl, hbb, hb⟩; replace hp := hp.call hb; have HBB := z0j hbb; clear hb hbb) | go_skip | ((first | ((refine zh _ rfl ?_); refine lZ hp rfl zcc ?_; clear hp; intro b w1 hp) | ((refine zi _ _ rfl ?_); refine lB hp rfl (zb rfl) rfl ?_; clear hp; intro b w1 hp) | ((refine zg _ _ rfl ?_); first | refine lO hp rfl (zb rfl) zag zq ?_ | refine lA hp rfl (zb rfl) z6 zq ?_ | refine lR hp rfl (zb rfl) z6 HX.out ?_ | refine lR hp rfl (zb rfl) z6 HY.out ?_) | ((refine zf _ _ _ rfl ?_); (first | refine sO hp rfl (zb rfl) zag zq ?_ | refine sA hp rfl (zb rfl) (zb rfl) z6 zq ?_ | refine sG hp rfl (zb rfl) (zb rfl) z6 zq ?_); clear hp; intro w1 hp; simp only [spl, z0a, z0b] at hp)); simp only [ze, zd, z0b, z0a]))
  go_ret
  exact ⟨bb, rfl, fun h => ⟨HBB.out h, HL.out⟩, hp.below⟩
end Go.Proofs.YtaafajaadfgaoaaGreat
