import Derived.Test.YtjcbpfbifbfkcaaGreatTq16
import Derived.Test.YtjcbpfbifbfkcaaGreatTq2
import Derived.Test.YtjcbpfbifbfkcaaGreatTq17
set_option linter.unusedSimpArgs false
set_option linter.unusedVariables false
set_option maxRecDepth 100000
set_option maxHeartbeats 60000000
namespace Go.Proofs.YtjcbpfbifbfkcaaGreat
open Go.RowKit
theorem Z4.get {l k : List Ob} (h : Z4 l k) {i : Nat} {a : Ob} (ha : l[i]? = some a) : ∃ b, k[i]? = some b ∧ a.Sm b := by
 obtain ⟨hlt, _⟩ := List.getElem?_eq_some_iff.1 ha
 have hb := List.getElem?_eq_getElem (l := k) (i := i) (by have := h.1; omega)
 exact ⟨_, hb, h.2 i _ _ ha hb⟩
theorem Z4.mem {l k : List Ob} (h : Z4 l k) {a : Ob} (ha : a ∈ l) : ∃ b, b ∈ k ∧ a.Sm b := by
 obtain ⟨i, hi, rfl⟩ := List.getElem_of_mem ha
 obtain ⟨b, hb, hs⟩ := h.get (List.getElem?_eq_getElem hi)
 exact ⟨b, List.mem_of_getElem? hb, hs⟩
theorem Z4.blocks {l k : List Ob} (h : Z4 l k) : l.map zan = k.map zan := by
 apply List.ext_getElem?
 intro i
 rw [List.getElem?_map, List.getElem?_map]
 cases ha : l[i]? with
 | none =>
  have : l.length ≤ i := List.getElem?_eq_none_iff.1 ha
  rw [List.getElem?_eq_none (by have := h.1; omega)]
 | some a =>
  obtain ⟨b, hb, _, h2, h3, _⟩ := h.get ha
  rw [hb]; simp [zan, h2, h3]
theorem zhr {l k : List Ob} (h : Z4 l k) {t : Int} (ht : ZG l t) : ZG k t := by
 rcases ht with h0 | ⟨o, ho, rfl⟩
 ·exact .inl h0
 ·obtain ⟨b, hb, h1, _⟩ := h.mem ho
  exact .inr ⟨b, hb, h1.symm⟩
theorem zdy {x y : Hv} (h : x.Sm y) (hx : zQ x) : zQ y where
 free := by rw [← h.od, ← h.fs]; exact hx.free
 lo := by rw [← h.nx]; exact hx.lo
 hi := by rw [← h.nx]; exact hx.hi
 len := by rw [← h.os.1]; exact hx.len
 rise := fun i o ho => by
  obtain ⟨a, ha, h1, _⟩ := h.os.symm.get ho
  obtain ⟨r1, r2, r3⟩ := hx.rise i a ha
  rw [h1, ← h.nx]
  refine ⟨r1, r2, fun k q hk hq => ?_⟩
  obtain ⟨c, hc, h2, _⟩ := h.os.symm.get hq
  rw [h2]
  exact r3 k c hk hc
 need := fun o ho => by
  obtain ⟨a, ha, h1, h2, h3, h4, h5⟩ := h.os.symm.mem ho
  have := hx.need a ha
  have e : zan o = zan a := by simp [zan, h2, h3]
  rw [e, h4, h5, h3, ← h.od]; exact this
 apart := by unfold zcH; rw [← h.fs, ← h.os.blocks]; exact hx.apart
 links := fun o ho t ht => by
  obtain ⟨a, ha, h1, h2, h3, h4, h5⟩ := h.os.symm.mem ho
  rw [h5] at ht
  exact zhr h.os (hx.links a ha t ht)
 tops := fun t ht => by
  have e : tops y = tops x := by simp [tops, h.t0, h.t1, h.t2, h.t3]
  rw [e] at ht
  exact zhr h.os (hx.tops t ht)
 words := by unfold zcH; rw [← h.fs, ← h.os.blocks, ← h.od]; exact hx.words
theorem zfg {x y : Hv} (h : x.Sm y) : Zr x = Zr y := by
 unfold Zr
 exact decide_eq_decide.2 ⟨zdy h, zdy h.symm⟩
theorem zje : Zr zah = false := zcO fun h => by have := h.lo; simp [zah] at this
theorem zln {o : Int} (h3 : 3 ≤ o) (h8 : o ≤ 8) : Zr (zdf o) = true := by
 have hp := zV o
 refine za7 ⟨zej (by simp only [Zm, zdf]; simp [h3, h8]) ?_, Int.le_refl 1, (by show (1 : Int) ≤ 1000001; decide), by simp [zdf], fun i o ho => by simp [zdf] at ho, fun o ho => by simp [zdf] at ho, ?_, fun o ho => by simp [zdf] at ho, fun t ht => .inl ?_, ?_⟩
 ·intro i y hy
  rcases i with _ | i
  ·simp [zdf] at hy
   subst hy
   exact ⟨⟨by show (0 : Int) ≤ o; omega, Int.le_refl _, Int.le_refl _, by show (0 : Int) ≤ pw o - pw o; omega, by simp⟩, fun k x hk => by omega⟩
  ·simp [zdf] at hy
 ·simp [zbJ, zcH, zdf]
 ·simp [tops, zdf] at ht; exact ht
 ·simp [zcH, zdf, zcA]
theorem zda (od : Int) (oa : Option Addr) (os : List Ob) (oc : Nat) (nx t0 t1 t2 t3 : Int) (fa : Option Addr) (fs : List Bl) (fc : Nat) (b : Bool) (hb : Zr ⟨od, oa, os, oc, nx, t0, t1, t2, t3, fa, fs, fc⟩ = b) (hs : Hv.Small ⟨od, oa, os, oc, nx, t0, t1, t2, t3, fa, fs, fc⟩) (w : World) (h : Hv.Is w ⟨od, oa, os, oc, nx, t0, t1, t2, t3, fa, fs, fc⟩) : Calls Tryz.prog 85 #[(.agg #[.int .i64 od, .slice oa os.length oc, .int .i64 nx, .int .i64 t0, .int .i64 t1, .int .i64 t2, .int .i64 t3, .slice fa fs.length fc])] w fun e w' => e = .returned (.int .i64 (zfS b)) ∧ Below w.heap.size w w' := hb ▸ zqZ ⟨od, oa, os, oc, nx, t0, t1, t2, t3, fa, fs, fc⟩ hs w h
theorem zk9 : zah.Small := ⟨⟨by simp [zah], fun x hx => by cases hx⟩, by simp [zah]⟩
open Go.RowKit
theorem zd8 {ty : TypeId} {k : Nat} (h : ZM Tryz.prog ty k = true := by with_reducible first | exact zP | exact zf8 | exact zt | exact zac) : ZM Tryz.prog ty k = true := h
theorem zt0 {ty : TypeId} (h : zF Tryz.prog ty = true := by with_reducible first | exact zm | exact Zt | exact Za | exact cell129) : zF Tryz.prog ty = true := h
theorem ztW {x : Hv} (hx : zQ x) (kk hh ii nn cc vv tt : Int) {B bw : Nat} {w0 w : World} {K : List Blk} (hW : zY B w0 w bw x K) :
    Calls Tryz.prog 88 #[.pointer (some ⟨bw, 0, none⟩), .agg #[.int .i64 kk, .int .i64 hh, .int .i64 ii, .int .i64 nn, .int .i64 cc, .int .i64 vv, .int .i64 tt]] w (zU B w0 bw (doC x ⟨kk, hh, ii, nn, cc, vv, tt⟩).1 (doC x ⟨kk, hh, ii, nn, cc, vv, tt⟩).2.1 (doC x ⟨kk, hh, ii, nn, cc, vv, tt⟩).2.2 K) := by
  unfold doC
  by_cases h1 : kk = 1
  · rw [if_pos h1]
    exact zie hW (.inl ⟨h1, z0j (fun h => znZ hx h)⟩)
  · rw [if_neg h1]
    by_cases h2 : kk = 2 ∨ kk = 3 ∨ kk = 4 ∨ kk = 6 ∨ kk = 7
    · rw [if_pos h2]
      exact zie hW (.inr ⟨h2, z0j (fun h => ztl hx h2 h)⟩)
    · rw [if_neg h2]
      by_cases h3 : kk = 5 ∨ kk = 8
      · rw [if_pos h3]
        unfold zrM
        simp only
        by_cases hi : ii < 0 ∨ 3 < ii
        · rw [if_pos hi]
          exact zle h3 (by simp [inB]; omega) hW
        · rw [if_neg hi]
          obtain ⟨q, rfl, hq⟩ : ∃ q : Nat, ii = q ∧ (q = 0 ∨ q = 1 ∨ q = 2 ∨ q = 3) := ⟨ii.toNat, by omega, by omega⟩
          rcases h3 with rfl | rfl
          · simp only [Int.reduceEq, if_false]
            cases hto : zaa x.os tt with
            | true => rcases hq with rfl | rfl | rfl | rfl
                      · exact zlv hx hto hW
                      · exact zkY hx hto hW
                      · exact zly hx hto hW
                      · exact zkZ hx hto hW
            | false => rcases hq with rfl | rfl | rfl | rfl
                       · exact ziJ hx hto hW
                       · exact zjH hx hto hW
                       · exact ziX hx hto hW
                       · exact ziR hx hto hW
          · simp only [if_true]
            exact zpd hq hW
      · rw [if_neg h3]
        exact zmE (by omega) hW
def zbL (o : Ob) : Ob := zhm o.h o.p o.o o.ws o.ls
def zpN (x : Hv) : Hv := { x with oa := none, os := x.os.map zbL, oc := 0, fa := none, fc := 0 }
theorem zj5 {a b : Ob} : a.Sm b ↔ zbL a = zbL b := by
  unfold Ob.Sm zbL zhm
  constructor
  · rintro ⟨h1, h2, h3, h4, h5⟩; rw [h1, h2, h3, h4, h5]
  · intro h; injection h with h1 h2 h3 h4 h5 h6 h7 h8 h9; exact ⟨h1, h2, h3, h5, h8⟩
theorem zp2 {l k : List Ob} : Z4 l k ↔ l.map zbL = k.map zbL := by
  constructor
  · rintro ⟨h1, h2⟩
    apply List.ext_getElem?
    intro i
    rw [List.getElem?_map, List.getElem?_map]
    cases ha : l[i]? with
    | none => rw [List.getElem?_eq_none (by have := List.getElem?_eq_none_iff.1 ha; omega)]
    | some a =>
      have hl := (List.getElem?_eq_some_iff.1 ha).1
      have hb := List.getElem?_eq_getElem (l := k) (i := i) (by omega)
      rw [hb]
      exact congrArg some (zj5.1 (h2 i a _ ha hb))
  · intro h
    refine ⟨by have := congrArg List.length h; simpa using this, fun i a b ha hb => zj5.2 ?_⟩
    have h3 : (l.map zbL)[i]? = (k.map zbL)[i]? := by rw [h]
    rw [List.getElem?_map, List.getElem?_map, ha, hb] at h3
    injection h3
theorem zmR {x y : Hv} : x.Sm y ↔ zpN x = zpN y := by
  unfold zpN
  constructor
  · rintro ⟨h1, h2, h3, h4, h5, h6, h7, h8⟩
    obtain ⟨⟩ := x
    obtain ⟨⟩ := y
    simp only at h1 h2 h3 h4 h5 h6 h7 h8
    rw [h1, h2, h3, h4, h5, h6, h8, zp2.1 h7]
  · intro h
    obtain ⟨⟩ := x
    obtain ⟨⟩ := y
    simp only at h
    injection h with h1 h2 h3 h4 h5 h6 h7 h8 h9 h10 h11 h12
    exact ⟨h1, h5, h6, h7, h8, h9, zp2.2 h3, h11⟩
theorem zjC (l : List Ob) (h : Int) : Z3 (l.map zbL) h = Z3 l h := by
  induction l with
  | nil => rfl
  | cons o l ih => simp only [List.map_cons, Z3, ih]; rfl
theorem zfv (l : List Ob) (t : Int) : zaa (l.map zbL) t = zaa l t := by
  unfold zaa
  congr 1
  rw [List.any_map]
  rfl
theorem ZA (o : Ob) : zbL (zbL o) = zbL o := rfl
theorem ZK (l : List Ob) : (l.map zbL).map zbL = l.map zbL := by rw [List.map_map]; apply List.map_congr_left; intro o _; rfl
theorem zgt {α β : Type} (f : α → β) (l : List α) (i : Nat) : (l.map f).eraseIdx i = (l.eraseIdx i).map f := by
  induction l generalizing i with
  | nil => rfl
  | cons x l ih => cases i with
    | zero => rfl
    | succ i => simp [ih]
theorem zkh (x : Hv) (o : Opd) : (doC (zpN x) o).2 = (doC x o).2 ∧ zpN (doC (zpN x) o).1 = zpN (doC x o).1 := by
  obtain ⟨od, oa, os, oc, nx, t0, t1, t2, t3, fa, fs, fc⟩ := x
  have hcut : ∀ h : Int, zbL ∘ zgl h ∘ zbL = zbL ∘ zgl h := fun h => rfl
  unfold doC zpN
  split
  · unfold zeL
    simp only
    split
    · exact ⟨rfl, by simp [ZK, ZA]⟩
    · split
      · exact ⟨rfl, by simp [ZK, ZA]⟩
      · split
        · exact ⟨rfl, by simp [ZK, ZA]⟩
        · exact ⟨rfl, by simp [zfX, ZK, zbL, zhm]⟩
  · split
    · unfold atC
      simp only [zjC]
      split
      · exact ⟨rfl, by simp [ZK, ZA]⟩
      · rename_i i hi
        obtain ⟨b, hb, _⟩ := zef hi
        simp only [List.getElem?_map, hb, Option.map_some]
        split
        · refine ⟨rfl, ?_⟩
          simp only [zfQ, zgt, List.map_map]
          rfl
        · have hrow : zow o (zbL b) = zow o b := by unfold zow zbL zhm; rfl
          rw [hrow]
          split
          · exact ⟨rfl, by simp [ZK, ZA]⟩
          · split
            · refine ⟨rfl, ?_⟩
              simp only [zkq, List.map_set, ZK]
              rfl
            · split
              · rw [zfv]
                split
                · refine ⟨rfl, ?_⟩
                  simp only [zoO, List.map_set, ZK]
                  rfl
                · exact ⟨rfl, by simp [ZK, ZA]⟩
              · exact ⟨rfl, by simp [ZK, ZA]⟩
    · split
      · unfold zrM
        simp only [zfv]
        split
        · exact ⟨rfl, by simp [ZK, ZA]⟩
        · split
          · exact ⟨rfl, by simp [ZK, ZA]⟩
          · split
            · refine ⟨rfl, ?_⟩
              unfold zpM
              split <;> simp [ZK, ZA]
            · exact ⟨rfl, by simp [ZK, ZA]⟩
      · exact ⟨rfl, by simp [ZK, ZA]⟩
theorem zpK {x y : Hv} (h : x.Sm y) (o : Opd) : (doC x o).2 = (doC y o).2 ∧ (doC x o).1.Sm (doC y o).1 := by
  have h1 := zkh x o
  have h2 := zkh y o
  rw [zmR.1 h] at h1
  exact ⟨h1.1.symm.trans h2.1, zmR.2 (h1.2.symm.trans h2.2)⟩
noncomputable def doP (x : Hv) (o : Opd) : Hv × Int × Int := if Zr x = true then doC x o else (zah, 1, 0)
theorem zgz {x : Hv} (h : zQ x) (o : Opd) : doP x o = doC x o := by unfold doP; rw [if_pos (za7 h)]
theorem zs3 {x : Hv} (h : Zr x = false) (o : Opd) : doP x o = (zah, 1, 0) := by unfold doP; rw [if_neg (by rw [h]; decide)]
def HvO (y : Hv) (R : List Blk) : Prop := ∃ RO RF M, R = RO ++ (RF ++ M) ∧ HvR y RO RF M
def zkn (w : World) (r : Hv × Int × Int) (e : Ending) (w' : World) : Prop :=
  ∃ y R, e = .returned (.tuple #[.agg (hvL y).toArray, .agg #[.int .i64 r.2.1, .int .i64 r.2.2]]) ∧ y.Sm r.1 ∧ ZD R (fun w => y.Is w) ∧ HvO y R ∧ Hp w.heap.size w w' R
theorem ztq {y s : Hv} {rc rv kk hh ii nn cc vv tt : Int} (hx : zQ y) (h2 : (doC y ⟨kk, hh, ii, nn, cc, vv, tt⟩).2 = (rc, rv)) (hs : (doC y ⟨kk, hh, ii, nn, cc, vv, tt⟩).1.Sm s) {B bw : Nat} {w0 w : World} {z1 z2 z3 z4 : Blk} {RO RF M : List Blk} (hR : HvR y RO RF M) (hp : Hp B w0 w (z1 :: z2 :: z3 :: z4 :: ⟨bw, hvL y, 133, 8⟩ :: (RO ++ (RF ++ (M ++ []))))) :
    Calls Tryz.prog 88 #[.pointer (some ⟨bw, 0, none⟩), .agg #[.int .i64 kk, .int .i64 hh, .int .i64 ii, .int .i64 nn, .int .i64 cc, .int .i64 vv, .int .i64 tt]] w fun e w' => e = .returned (.agg #[.int .i64 rc, .int .i64 rv]) ∧ ∃ (y2 : Hv) (RO2 RF2 M2 : List Blk), y2.Sm s ∧ HvR y2 RO2 RF2 M2 ∧ Hp B w0 w' (z1 :: z2 :: z3 :: ⟨bw, hvL y2, 133, 8⟩ :: (RO2 ++ (RF2 ++ M2))) := by
  refine (ztW hx kk hh ii nn cc vv tt (K := [z1, z2, z3]) ⟨RO, RF, M, hR, hp.kp⟩).mono fun e w' ⟨he, y2, hy2, RO2, RF2, M2, hR2, hp2⟩ => ⟨?_, y2, RO2, RF2, M2, hy2.trans hs, hR2, hp2.kp⟩
  rw [he, h2]; rfl
theorem zpn (od : Int) (oa : Option Addr) (os : List Ob) (oc : Nat) (nx t0 t1 t2 t3 : Int) (fa : Option Addr) (fs : List Bl) (fc : Nat) (hs : Hv.Small ⟨od, oa, os, oc, nx, t0, t1, t2, t3, fa, fs, fc⟩) (w : World) (h : Hv.Is w ⟨od, oa, os, oc, nx, t0, t1, t2, t3, fa, fs, fc⟩) :
    Calls Tryz.prog 87 #[.agg #[.int .i64 od, .slice oa os.length oc, .int .i64 nx, .int .i64 t0, .int .i64 t1, .int .i64 t2, .int .i64 t3, .slice fa fs.length fc]] w (zhF w ⟨od, oa, os, oc, nx, t0, t1, t2, t3, fa, fs, fc⟩) := zra _ hs w h
theorem zgD : HvO zah [] := ⟨[], [], [], rfl, zB.nil _ _, zB.nil _ _, zeY.nil⟩
theorem zpw (x : Hv) (kk hh ii nn cc vv tt : Int) (hs : x.Small) (w : World) (h : x.Is w) (hb : Zr x = false) : Calls Tryz.prog 34 #[.agg (hvL x).toArray, .agg #[.int .i64 kk, .int .i64 hh, .int .i64 ii, .int .i64 nn, .int .i64 cc, .int .i64 vv, .int .i64 tt]] w (zkn w (doP x ⟨kk, hh, ii, nn, cc, vv, tt⟩)) := by
  rw [zs3 hb]
  obtain ⟨od, oa, os, oc, nx, t0, t1, t2, t3, fa, fs, fc⟩ := x
  have HB := z0j hb
  have HSM := z0j hs
  have HIS := z0j h
  clear hb hs h
  simp only [hvL]
  have hp := Hp.start w
  go_enter Tryz.func34, Tryz.ntmps34
  go_wp2_with (first | (go_at_call 85; (with_reducible refine (zda od oa os oc nx t0 t1 t2 t3 fa fs fc _ HB.out HSM.out _ (HIS.out.below hp.below)).mono ?_); rintro e w1 ⟨rfl, hb⟩; replace hp := hp.call hb; clear hb; first | rw [ziw] | rw [zgo]) | (go_at_call 86; (with_reducible refine (zds _ _).mono ?_); rintro e w1 ⟨rfl, hb⟩; replace hp := hp.call hb; clear hb; unfold zaP) | go_skip | ((first | ((refine zf _ rfl ?_); refine lZ hp rfl (by with_reducible first | exact zL | exact zX) ?_; clear hp; intro b w1 hp) | ((refine zi _ _ rfl ?_); refine lB hp rfl (za rfl) rfl ?_; clear hp; intro b w1 hp) | ((refine ze _ _ rfl ?_); refine lA hp rfl (za rfl) zd8 aa5 ?_) | ((refine zd _ _ _ rfl ?_); (first | refine sA hp rfl (za rfl) (za rfl) zd8 aa5 ?_ | refine sG hp rfl (za rfl) (za rfl) zd8 aa5 ?_); clear hp; intro w1 hp; simp only [spl, z0a, z0b] at hp)); simp only [zc, zb, z0b, z0a]))
  exact bodyPost_ret (zD (rs := [.cell 4 64, .cell 5 71]) Tryz.results34 (.cell rfl (hp.loadAgg zP at1 0 _ (by rfl) (by rfl)) (.cell rfl (hp.loadAgg zt at0 0 _ (by rfl) (by rfl)) .nil))) rfl ⟨zah, [], rfl, Hv.Sm.refl _, ze7, zgD, hp.sub0⟩
theorem zmU (x : Hv) (kk hh ii nn cc vv tt : Int) (hs : x.Small) (w : World) (h : x.Is w) (hx : zQ x) : Calls Tryz.prog 34 #[.agg (hvL x).toArray, .agg #[.int .i64 kk, .int .i64 hh, .int .i64 ii, .int .i64 nn, .int .i64 cc, .int .i64 vv, .int .i64 tt]] w (zkn w (doP x ⟨kk, hh, ii, nn, cc, vv, tt⟩)) := by
  rw [zgz hx]
  have HRT : Hid (∀ y : Hv, y.Sm x → zQ y ∧ (doC y ⟨kk, hh, ii, nn, cc, vv, tt⟩).2 = (doC x ⟨kk, hh, ii, nn, cc, vv, tt⟩).2 ∧ (doC y ⟨kk, hh, ii, nn, cc, vv, tt⟩).1.Sm (doC x ⟨kk, hh, ii, nn, cc, vv, tt⟩).1) := z0j (fun y hy => ⟨zdy hy.symm hx, zpK hy _⟩)
  have hb := za7 hx
  generalize doC x ⟨kk, hh, ii, nn, cc, vv, tt⟩ = r at HRT ⊢
  obtain ⟨s, rc, rv⟩ := r
  obtain ⟨od, oa, os, oc, nx, t0, t1, t2, t3, fa, fs, fc⟩ := x
  have HB := z0j hb
  have HSM := z0j hs
  have HIS := z0j h
  clear hb hs h hx
  simp only [hvL]
  have hp := Hp.start w
  go_enter Tryz.func34, Tryz.ntmps34
  go_wp2_with (first | (go_at_call 85; (with_reducible refine (zda od oa os oc nx t0 t1 t2 t3 fa fs fc _ HB.out HSM.out _ (HIS.out.below hp.below)).mono ?_); rintro e w1 ⟨rfl, hb⟩; replace hp := hp.call hb; clear hb; first | rw [ziw] | rw [zgo]) | (go_at_call 86; (with_reducible refine (zds _ _).mono ?_); rintro e w1 ⟨rfl, hb⟩; replace hp := hp.call hb; clear hb; unfold zaP) | (go_at_call 87; (with_reducible refine (zpn od oa os oc nx t0 t1 t2 t3 fa fs fc HSM.out _ (HIS.out.below hp.below)).mono ?_); rintro e w1 ⟨bw, y, rfl, hy, RO, RF, M, hR, hpx⟩; replace hp := hp.join hpx; have HY := z0j hy; have HR := z0j hR; clear hpx hy hR; simp only [z0f, z0e] at hp) | go_skip | ((first | ((refine zf _ rfl ?_); refine lZ hp rfl (by with_reducible first | exact zL | exact zX) ?_; clear hp; intro b w1 hp) | ((refine zi _ _ rfl ?_); refine lB hp rfl (za rfl) rfl ?_; clear hp; intro b w1 hp) | ((refine ze _ _ rfl ?_); refine lA hp rfl (za rfl) zd8 aa5 ?_) | ((refine zd _ _ _ rfl ?_); (first | refine sA hp rfl (za rfl) (za rfl) zd8 aa5 ?_ | refine sG hp rfl (za rfl) (za rfl) zd8 aa5 ?_); clear hp; intro w1 hp; simp only [spl, z0a, z0b] at hp)); simp only [zc, zb, z0b, z0a]))
  go_wp2_with (first | (go_at_call 88; (with_reducible refine (ztq (HRT.out y HY.out).1 (HRT.out y HY.out).2.1 (HRT.out y HY.out).2.2 HR.out hp).mono ?_); clear hp; rintro e w1 ⟨rfl, ⟨od2, oa2, os2, oc2, nx2, t02, t12, t22, t32, fa2, fs2, fc2⟩, RO2, RF2, M2, hy2, hR2, hp⟩; have HR2 := z0j hR2; have HY2 := z0j hy2; clear hR2 hy2; simp only [hvL] at hp) | go_skip | ((first | ((refine zf _ rfl ?_); refine lZ hp rfl (by with_reducible first | exact zL | exact zX) ?_; clear hp; intro b w1 hp) | ((refine zi _ _ rfl ?_); refine lB hp rfl (za rfl) rfl ?_; clear hp; intro b w1 hp) | ((refine ze _ _ rfl ?_); refine lA hp rfl (za rfl) zd8 aa5 ?_) | ((refine zd _ _ _ rfl ?_); (first | refine sA hp rfl (za rfl) (za rfl) zd8 aa5 ?_ | refine sG hp rfl (za rfl) (za rfl) zd8 aa5 ?_); clear hp; intro w1 hp; simp only [spl, z0a, z0b] at hp)); simp only [zc, zb, z0b, z0a]))
  refine zh [_, _] (zv.two hp.drew at0 at4) [6] [(0, true), (1, true), (2, true), (3, true), (4, true), (5, false), (6, false)] (by kernel_rfl) (by kernel_rfl) rfl (by kernel_rfl) (fun _ _ d _ _ h => by cases d <;> exact h) ?_
  replace hp := hp.drew
  repeat' (with_reducible refine zx ?_); first | (with_reducible refine zq ?_) | ((with_reducible refine zE ?_); refine zu rfl ?_; (first | ((with_reducible refine zT _ rfl ?_); refine tM rfl ?_) | ((with_reducible refine zW _ _ rfl ?_); refine tA rfl (za rfl) (by with_reducible first | exact zP | exact zt) aa5 ?_) | refine tG (fun w _ => (by go_simp; try rfl)) ?_); try simp only [zc, zb, zj, zg, z0b, z0a, z0d, z0c, zl]) | (refine zC rfl (fun K hK => ?_); go_wp2_with (first | go_skip | (((refine zd _ _ _ rfl ?_); (first | refine sA hp rfl (za rfl) (za rfl) zd8 aa5 ?_ | refine sG hp rfl (za rfl) (za rfl) zd8 aa5 ?_); clear hp; intro w1 hp; simp only [spl, z0a, z0b] at hp); simp only [zc, zb, z0b, z0a])); (first | refine hK.out _ _ (.inl rfl) ?_ | refine hK.out _ _ (.inr (zv.two hp aa5 aa5)) ?_); clear hK K; try simp only [zc, zb, zj, zg, z0b, z0a, z0d, z0c, zl])
  go_wp2_with (first | go_skip | ((first | ((refine zf _ rfl ?_); refine lZ hp rfl (by with_reducible first | exact zL | exact zX) ?_; clear hp; intro b w1 hp) | ((refine zi _ _ rfl ?_); refine lB hp rfl (za rfl) rfl ?_; clear hp; intro b w1 hp) | ((refine ze _ _ rfl ?_); refine lA hp rfl (za rfl) zd8 aa5 ?_) | ((refine zd _ _ _ rfl ?_); (first | refine sA hp rfl (za rfl) (za rfl) zd8 aa5 ?_ | refine sG hp rfl (za rfl) (za rfl) zd8 aa5 ?_); clear hp; intro w1 hp; simp only [spl, z0a, z0b] at hp)); simp only [zc, zb, z0b, z0a]))
  exact bodyPost_ret (zD (rs := [.cell 4 64, .cell 5 71]) Tryz.results34 (.cell rfl (hp.loadAgg zP at2 0 _ (by rfl) (by rfl)) (.cell rfl (hp.loadAgg zt at1 0 _ (by rfl) (by rfl)) .nil))) rfl ⟨⟨od2, oa2, os2, oc2, nx2, t02, t12, t22, t32, fa2, fs2, fc2⟩, _, rfl, HY2.out, HR2.out.kept, ⟨RO2, RF2, M2, rfl, HR2.out⟩, hp.kp⟩
theorem zcV {x : Hv} (h : Zr x = true) : zQ x := by unfold Zr at h; simpa using h
theorem zth (x : Hv) (kk hh ii nn cc vv tt : Int) (hs : x.Small) (w : World) (h : x.Is w) : Calls Tryz.prog 34 #[.agg (hvL x).toArray, .agg #[.int .i64 kk, .int .i64 hh, .int .i64 ii, .int .i64 nn, .int .i64 cc, .int .i64 vv, .int .i64 tt]] w (zkn w (doP x ⟨kk, hh, ii, nn, cc, vv, tt⟩)) := by
  cases hb : Zr x with
  | false => exact zpw x kk hh ii nn cc vv tt hs w h hb
  | true => exact zmU x kk hh ii nn cc vv tt hs w h (zcV hb)
theorem zhD (od : Int) (oa : Option Addr) (os : List Ob) (oc : Nat) (nx t0 t1 t2 t3 : Int) (fa : Option Addr) (fs : List Bl) (fc : Nat) (kk hh ii nn cc vv tt : Int) (r : Hv × Int × Int) (hr : doP ⟨od, oa, os, oc, nx, t0, t1, t2, t3, fa, fs, fc⟩ ⟨kk, hh, ii, nn, cc, vv, tt⟩ = r)
    (hs : Hv.Small ⟨od, oa, os, oc, nx, t0, t1, t2, t3, fa, fs, fc⟩) (w : World) (h : Hv.Is w ⟨od, oa, os, oc, nx, t0, t1, t2, t3, fa, fs, fc⟩) :
    Calls Tryz.prog 34 #[.agg #[.int .i64 od, .slice oa os.length oc, .int .i64 nx, .int .i64 t0, .int .i64 t1, .int .i64 t2, .int .i64 t3, .slice fa fs.length fc], .agg #[.int .i64 kk, .int .i64 hh, .int .i64 ii, .int .i64 nn, .int .i64 cc, .int .i64 vv, .int .i64 tt]] w (zkn w r) :=
  hr ▸ zth ⟨od, oa, os, oc, nx, t0, t1, t2, t3, fa, fs, fc⟩ kk hh ii nn cc vv tt hs w h
open Go.RowKit
theorem zsQ {ty : TypeId} {l : List Value} {n : Nat} (h : zaL Tryz.prog ty = some (l, n) := by with_reducible first | exact zN | exact zX | exact Zw) : zaL Tryz.prog ty = some (l, n) := h
theorem zaU {ty : TypeId} {k : Nat} (h : ZM Tryz.prog ty k = true := by with_reducible first | exact zy | exact zP | exact zO) : ZM Tryz.prog ty k = true := h
theorem zsO {ty : TypeId} (h : zF Tryz.prog ty = true := by with_reducible first | exact zm | exact Zt | exact Zd | exact Zj | exact ZS) : zF Tryz.prog ty = true := h
theorem zja (l : List Rw) : (l.flatMap rwV).all (·.oneCell') = true := by
 rw [List.all_eq_true]; intro u hu; obtain ⟨x, _, hx⟩ := List.mem_flatMap.1 hu; simp [rwV] at hx; rcases hx with rfl | rfl | rfl | rfl <;> rfl
theorem zsX (x y : Sv) (hs : x.Small) (hxy : x.Sm y) (w : World) (hx0 : x.Is w) (hy0 : y.Is w) : Calls Tryz.prog 39 #[.agg (svL x).toArray, .agg (svL y).toArray] w fun e w' => e = .returned (.bool true) ∧ Below w.heap.size w w' := by
 obtain ⟨hv, ra, rs, rc⟩ := x
 obtain ⟨hv', ra', rs', rc'⟩ := y
 obtain ⟨hs1, hs2⟩ := hs
 obtain ⟨hsm, hrs⟩ := hxy
 obtain ⟨hh, hr⟩ := hx0
 obtain ⟨hh', hr'⟩ := hy0
 simp only at hs1 hs2 hh hr hh' hr' hsm hrs
 subst hrs
 obtain ⟨hv1, hhv⟩ : ∃ v, v = hv := ⟨_, rfl⟩
 obtain ⟨hv2, hhv2⟩ : ∃ v, v = hv' := ⟨_, rfl⟩
 rw [← hhv, ← hhv2]
 obtain ⟨od, oa, os, oc, nx, t0, t1, t2, t3, fa, fs, fc⟩ := hv1
 obtain ⟨od', oa', os', oc', nx', t0', t1', t2', t3', fa', fs', fc'⟩ := hv2
 subst hhv hhv2
 simp only [svL, hvL, z0f, z0e]
 have HH := z0j hh
 have HH' := z0j hh'
 have HR := z0j hr
 have HR' := z0j hr'
 have HSM := z0j hsm
 have hp := Hp.start w
 clear hh hr hh' hr' hsm
 go_enter Tryz.func39, Tryz.ntmps39
 go_wp2_with (first | (go_at_call 40; (with_reducible refine (zqi od oa os oc nx t0 t1 t2 t3 fa fs fc od' oa' os' oc' nx' t0' t1' t2' t3' fa' fs' fc' hs1 HSM.out _ (HH.out.below hp.below) (HH'.out.below hp.below)).mono ?_); rintro e w1 ⟨rfl, hb⟩; replace hp := hp.call hb; clear hb) | go_skip | ((first | ((refine zi _ _ rfl ?_); refine lB hp rfl (za rfl) rfl ?_; clear hp; intro b w1 hp) | ((refine ze _ _ rfl ?_); first | refine lO hp rfl (za rfl) ZS zn ?_ | refine lA hp rfl (za rfl) zaU zn ?_ | refine lR hp rfl (za rfl) zaU HX.out ?_ | refine lR hp rfl (za rfl) zaU HY.out ?_)); simp only [zc, zb, z0b, z0a]))
 obtain ⟨b1, rfl⟩ := hp.id1
 go_loopg [5] rs.length (fun k i wr => ∃ j : Nat, k + j = rs.length ∧ i = .int .i64 j ∧ Hp w.heap.size w wr [⟨b, [.int .i64 od', .slice oa' os'.length oc', .int .i64 nx', .int .i64 t0', .int .i64 t1', .int .i64 t2', .int .i64 t3', .slice fa' fs'.length fc', .slice ra' rs.length rc'], 67, 9⟩, ⟨b1, [.int .i64 od, .slice oa os.length oc, .int .i64 nx, .int .i64 t0, .int .i64 t1, .int .i64 t2, .int .i64 t3, .slice fa fs.length fc, .slice ra rs.length rc], 67, 9⟩])
 case atStart => exact ⟨0, by omega, rfl, hp⟩
 case round =>
  clear hp
  obtain ⟨j, hkj, rfl, hp⟩ := hrel
  by_cases hlt : j < rs.length
  ·obtain ⟨bq, off, rfl, hx⟩ := HR.out.elems 4 ZY (by omega) (by omega)
   obtain ⟨bq', off', rfl, hy⟩ := HR'.out.elems 4 ZY (by omega) (by omega)
   have hj := List.getElem?_eq_getElem hlt
   replace hx := hx j _ hj
   replace hy := hy j _ hj
   clear hj
   generalize rs[j] = x at hx hy
   obtain ⟨xc, xs, xe, xv⟩ := x
   simp only [rwV] at hx hy
   have HX := z0j hx
   have HY := z0j hy
   clear hx hy
   have e1 : (0 : Int) ≤ (j : Int) := by omega
   have e2 : (j : Int) < (rs.length : Int) := by omega
   go_wp2_with (first | go_skip | ((first | ((refine zi _ _ rfl ?_); refine lB hp rfl (za rfl) rfl ?_; clear hp; intro b w1 hp) | ((refine ze _ _ rfl ?_); first | refine lO hp rfl (za rfl) ZS zn ?_ | refine lA hp rfl (za rfl) zaU zn ?_ | refine lR hp rfl (za rfl) zaU HX.out ?_ | refine lR hp rfl (za rfl) zaU HY.out ?_)); simp only [zc, zb, z0b, z0a]))
   refine zh _ (zv.all hp.drew) [] [(0, true), (1, true), (2, true), (3, true), (4, true), (5, true), (6, true), (7, true), (8, true), (9, true), (10, true)] (by kernel_rfl) (by kernel_rfl) rfl (by kernel_rfl) (fun _ _ d _ _ h => by cases d <;> exact h) ?_
   replace hp := hp.drew
   repeat' (with_reducible refine zx ?_); first | (with_reducible refine zq ?_) | ((with_reducible refine zE ?_); refine zu rfl ?_; (first | ((with_reducible refine zT _ rfl ?_); refine tM rfl ?_) | ((with_reducible refine zW _ _ rfl ?_); first | refine tA rfl (za rfl) zO zn ?_ | refine tO rfl (za rfl) ZS zn ?_ | refine tR rfl (za rfl) zO HX.out ?_ | refine tR rfl (za rfl) zO HY.out ?_) | refine tG (fun w _ => (by go_simp; try rfl)) ?_); try simp only [zc, zb, zj, zg, z0b, z0a, z0d, z0c, zl])
   go_wp2_with fail
   go_roundg (gk - 1)
   case measure => omega
   case rel => exact ⟨j + 1, by omega, by go_num, hp⟩
  ·have e2 : decide ((j : Int) < (rs.length : Int)) = false := by simp; omega
   go_wp2_with (first | go_skip | ((first | ((refine zi _ _ rfl ?_); refine lB hp rfl (za rfl) rfl ?_; clear hp; intro b w1 hp) | ((refine ze _ _ rfl ?_); first | refine lO hp rfl (za rfl) ZS zn ?_ | refine lA hp rfl (za rfl) zaU zn ?_ | refine lR hp rfl (za rfl) zaU HX.out ?_ | refine lR hp rfl (za rfl) zaU HY.out ?_)); simp only [zc, zb, z0b, z0a]))
   go_ret
   exact ⟨rfl, hp.below⟩
def zj0 (w : World) (x : Sv) (e : Ending) (w' : World) : Prop := ∃ b, e = .returned (.bool b) ∧ (b = false → x.Small) ∧ Below w.heap.size w w'
theorem ztu (x : Sv) (w : World) (hx0 : x.Is w) : Calls Tryz.prog 32 #[.agg (svL x).toArray] w (zj0 w x) := by
 obtain ⟨hv, ra, rs, rc⟩ := x
 obtain ⟨hh, hr⟩ := hx0
 simp only at hh hr
 obtain ⟨hv1, hhv⟩ : ∃ v, v = hv := ⟨_, rfl⟩
 rw [← hhv]
 obtain ⟨od, oa, os, oc, nx, t0, t1, t2, t3, fa, fs, fc⟩ := hv1
 subst hhv
 simp only [svL, hvL, z0f, z0e]
 have HH := z0j hh
 have hp := Hp.start w
 clear hh hr
 by_cases d1 : (1000 : Int) < (rs.length : Int)
 ·go_enter Tryz.func32, Tryz.ntmps32
  go_wp2_with (first | go_skip | ((first | ((refine zi _ _ rfl ?_); refine lB hp rfl (za rfl) rfl ?_; clear hp; intro b w1 hp) | ((refine ze _ _ rfl ?_); first | refine lO hp rfl (za rfl) ZS zn ?_ | refine lA hp rfl (za rfl) zP zn ?_ | refine lR hp rfl (za rfl) zP HX.out ?_ | refine lR hp rfl (za rfl) zP HY.out ?_)); simp only [zc, zb, z0b, z0a]))
  go_ret
  exact ⟨true, rfl, (by intro h; cases h), hp.below⟩
 ·have d2 : decide ((1000 : Int) < (rs.length : Int)) = false := by simp; omega
  have HL : Hid (rs.length ≤ 1000) := z0j (by omega)
  clear d1
  go_enter Tryz.func32, Tryz.ntmps32
  go_wp2_with (first | (go_at_call 83; (with_reducible refine (zrB od oa os oc nx t0 t1 t2 t3 fa fs fc _ (HH.out.below hp.below)).mono ?_); rintro e w1 ⟨bb, rfl, hbb, hb⟩; replace hp := hp.call hb; have HBB := z0j hbb; clear hb hbb) | go_skip | ((first | ((refine zi _ _ rfl ?_); refine lB hp rfl (za rfl) rfl ?_; clear hp; intro b w1 hp) | ((refine ze _ _ rfl ?_); first | refine lO hp rfl (za rfl) ZS zn ?_ | refine lA hp rfl (za rfl) zP zn ?_ | refine lR hp rfl (za rfl) zP HX.out ?_ | refine lR hp rfl (za rfl) zP HY.out ?_)); simp only [zc, zb, z0b, z0a]))
  go_ret
  exact ⟨bb, rfl, fun h => ⟨HBB.out h, HL.out⟩, hp.below⟩
end Go.Proofs.YtjcbpfbifbfkcaaGreat
