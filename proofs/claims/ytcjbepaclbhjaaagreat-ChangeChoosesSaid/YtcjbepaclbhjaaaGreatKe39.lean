/- Parts of the proof. -/
import Derived.Test.YtcjbepaclbhjaaaGreatKe1
import Derived.Test.YtcjbepaclbhjaaaGreatKe38
open List renaming set_cons_zero → zSet, set_cons_succ → sSet
/- The walks of Best of views and of its document's twin. -/
set_option linter.unusedSimpArgs false
set_option linter.unusedVariables false
namespace Go.Proofs.YtcjbepaclbhjaaaGreat
open Go.RowKit Go.Lib
def TopVP (w : World) (l : List Vt) (e : Ending) (w' : World) : Prop := ∃ (m : Nat) (y : Vt), e = .returned (.int .i64 (m : Int)) ∧ TopV l m y ∧ Below w.heap.size w w'
set_option maxRecDepth 100000 in
set_option maxHeartbeats 4000000 in
theorem best50 (l : List Vt) (a : Option Addr) (c : Nat) (hl : l.length ≤ 1000) (h0 : 0 < l.length) (w : World) (ha : RowIs w a (l.flatMap vtV)) :
    Calls Tryz.prog 50 #[.slice a l.length c] w (TopVP w l) := by
  have hp := Hp.start w
  have HA := Lib.hid ha
  have HL := Lib.hid hl
  have HPO := Lib.hid h0
  have e0 : ((l.length : Int) == 0) = false := by rw [beq_eq_false_iff_ne]; omega
  have e1 : ¬ l.length = 0 := by omega
  clear ha h0
  go_enter Tryz.func50, Tryz.ntmps50
  go_wp2_with (first | (go_at_call 73; (with_reducible refine (maxf73 l a _ c rfl HL.out HPO.out _ (HA.out.below hp.below)).mono ?_); rintro e w1 ⟨m0, x, rfl, hx, ht, hb⟩; replace hp := hp.call hb; have HX := Lib.hid hx; have HT := Lib.hid ht; clear hb hx ht; obtain ⟨nd, nm, bs, nu, cm, va, es, vc⟩ := x; simp only [vtV]) | (go_at_call 42; (with_reducible refine (idx42_b l a c HL.out nm nu _ _ (HA.out.below hp.below) (hp.ltOf at0) (hp.cell at0 rfl) (hp.cell at0 rfl)).mono ?_); rintro e w1 ⟨r, rfl, hi, hb⟩; replace hp := hp.call hb; clear hb; obtain ⟨mb, yb, rfl, hbe⟩ := TopV.of HX.out HT.out hi; have HBE := Lib.hid hbe; clear hi hbe) | go_skip | (first | (refine hA1 ?_; clear hp; intro b w1 hp) | refine hL0 ?_ | (refine hS0 ?_; clear hp; intro w1 hp)))
  go_ret
  exact ⟨mb, yb, rfl, HBE.out, hp.below⟩
set_option maxRecDepth 100000 in
set_option maxHeartbeats 8000000 in
theorem rbest55 (l : List Vt) (a : Option Addr) (c : Nat) (hl : l.length ≤ 1000) (h0 : 0 < l.length) (w : World) (ha : RowIs w a (l.flatMap vtV)) :
    Calls Tryz.prog 55 #[.slice a l.length c] w (TopVP w l) := by
  have hp := Hp.start w
  obtain ⟨b0, off, rfl, hx0⟩ := ha.elems 6 vtV_len h0 (by omega)
  have HA := Lib.hid hx0
  clear ha hx0
  go_enter Tryz.func55, Tryz.ntmps55
  go_wp2_with (first | go_skip | (first | (refine hA1 ?_; clear hp; intro b w1 hp) | refine hL0 ?_ | (refine hS0 ?_; clear hp; intro w1 hp)))
  go_loopg [3, 4] l.length (fun k v i wr => ∃ (j : Nat) (x : Int), k + j = l.length ∧ v = .int .i64 x ∧ i = .int .i64 (j : Int) ∧ RowKit.Hid ((j = 0 ∧ x = -1) ∨ ∃ (m : Nat) (y : Vt), 0 < j ∧ x = (m : Int) ∧ TopV (l.take j) m y) ∧ Hp w.heap.size w wr [])
  case atStart => exact ⟨0, -1, by omega, rfl, rfl, Lib.hid (.inl ⟨rfl, rfl⟩), hp⟩
  case round =>
    clear hp
    obtain ⟨j, x, hkj, rfl, rfl, HB, hp⟩ := hrel
    by_cases hlt : j < l.length
    · have hj := List.getElem?_eq_getElem hlt
      have hx := HA.out j _ hj
      have HJ := Lib.hid hj
      clear hj
      generalize l[j] = y at hx HJ
      have f1 : (0 : Int) ≤ (j : Int) := by omega
      have f2 : (j : Int) < (l.length : Int) := by omega
      rcases HB.out with ⟨h1, h2⟩ | ⟨m, z, h1, h2, h3⟩
      · subst h1 h2
        obtain ⟨nd, nm, bs, nu, cm, va, es, vc⟩ := y
        simp only [vtV] at hx
        have HX := Lib.hid hx
        have HY := Lib.hid hx
        have HNX : RowKit.Hid (TopV (l.take (0 + 1)) 0 ⟨nd, nm, bs, nu, cm, va, es, vc⟩) := Lib.hid (TopV.one HJ.out)
        clear hx
        go_wp2_with (first | go_skip | (first | (refine hA2 ?_; clear hp; intro b w1 hp) | refine hL22 ?_ | (refine hS0 ?_; clear hp; intro w1 hp)))
        refine wp_region_keeps _ (Keeps.all hp.drew) [] [(0, true), (1, true), (2, true), (3, true), (4, true), (5, true), (6, true), (7, true), (8, true), (9, true), (10, true), (11, true), (12, true), (13, true), (14, true), (15, true), (16, true), (17, true), (18, true), (19, true), (20, true), (21, true), (22, true), (23, true), (24, true), (25, true), (26, true), (27, true), (28, true), (29, true), (30, true), (31, true), (32, true), (33, true), (34, true), (35, true), (36, true), (37, true), (38, true), (39, true), (40, true)] (by kernel_rfl) (by kernel_rfl) rfl (by kernel_rfl) (fun _ _ d _ _ h => by cases d <;> exact h) ?_
        replace hp := hp.drew
        repeat' (with_reducible refine plan_is ?_); first | (with_reducible refine plan_nil ?_) | refine tk23 ?_
        go_wp2_with (first | go_skip | (first | (refine hA2 ?_; clear hp; intro b w1 hp) | refine hL22 ?_ | (refine hS0 ?_; clear hp; intro w1 hp)))
        go_roundg (gk - 1)
        case measure => omega
        case rel => exact ⟨0 + 1, _, by omega, rfl, by go_num, Lib.hid (.inr ⟨0, _, by omega, rfl, HNX.out⟩), hp⟩
      · subst h2
        have hm := (take_get h3.get).2
        have hml := (take_get h3.get).1
        have hy := HA.out m _ hm
        have HB3 := Lib.hid h3
        obtain ⟨nd, nm, bs, nu, cm, va, es, vc⟩ := y
        obtain ⟨nd2, nm2, bs2, nu2, cm2, vb, es2, vd⟩ := z
        simp only [vtV] at hx hy
        have HX := Lib.hid hx
        have HY := Lib.hid hy
        have HJP := Lib.hid h1
        have f3 : (0 : Int) ≤ (m : Int) := by omega
        have f4 : (m : Int) < (l.length : Int) := by omega
        have f5 : decide ((m : Int) < 0) = false := by simp
        clear hx hy hm h1 h3 hml
        by_cases h4 : nm2 < nm
        · have e1 : decide (nm2 < nm) = true := by simpa using h4
          have HNX : RowKit.Hid (TopV (l.take (j + 1)) j ⟨nd, nm, bs, nu, cm, va, es, vc⟩) := Lib.hid (HB3.out.next HJ.out (.inl h4))
          clear h4 HB
          go_wp2_with (first | go_skip | (first | (refine hA2 ?_; clear hp; intro b w1 hp) | refine hL22 ?_ | (refine hS0 ?_; clear hp; intro w1 hp)))
          refine wp_region_keeps _ (Keeps.all hp.drew) [] [(0, true), (1, true), (2, true), (3, true), (4, true), (5, true), (6, true), (7, true), (8, true), (9, true), (10, true), (11, true), (12, true), (13, true), (14, true), (15, true), (16, true), (17, true), (18, true), (19, true), (20, true), (21, true), (22, true), (23, true), (24, true), (25, true), (26, true), (27, true), (28, true), (29, true), (30, true), (31, true), (32, true), (33, true), (34, true), (35, true), (36, true), (37, true), (38, true), (39, true), (40, true)] (by kernel_rfl) (by kernel_rfl) rfl (by kernel_rfl) (fun _ _ d _ _ h => by cases d <;> exact h) ?_
          replace hp := hp.drew
          repeat' (with_reducible refine plan_is ?_); first | (with_reducible refine plan_nil ?_) | refine tk23 ?_
          go_wp2_with (first | go_skip | (first | (refine hA2 ?_; clear hp; intro b w1 hp) | refine hL22 ?_ | (refine hS0 ?_; clear hp; intro w1 hp)))
          go_roundg (gk - 1)
          case measure => omega
          case rel => exact ⟨j + 1, _, by omega, rfl, by go_num, Lib.hid (.inr ⟨j, _, by omega, rfl, HNX.out⟩), hp⟩
        · have e1 : decide (nm2 < nm) = false := by simpa using h4
          by_cases h5 : nm = nm2
          · have e2 : (nm == nm2) = true := by simpa using h5
            by_cases h6 : nu2 < nu
            · have e3 : decide (nu2 < nu) = true := by simpa using h6
              have HNX : RowKit.Hid (TopV (l.take (j + 1)) j ⟨nd, nm, bs, nu, cm, va, es, vc⟩) := Lib.hid (HB3.out.next HJ.out (.inr ⟨h5.symm, h6⟩))
              clear h4 h5 h6 HB
              go_wp2_with (first | go_skip | (first | (refine hA2 ?_; clear hp; intro b w1 hp) | refine hL22 ?_ | (refine hS0 ?_; clear hp; intro w1 hp)))
              refine wp_region_keeps _ (Keeps.all hp.drew) [] [(0, true), (1, true), (2, true), (3, true), (4, true), (5, true), (6, true), (7, true), (8, true), (9, true), (10, true), (11, true), (12, true), (13, true), (14, true), (15, true), (16, true), (17, true), (18, true), (19, true), (20, true), (21, true), (22, true), (23, true), (24, true), (25, true), (26, true), (27, true), (28, true), (29, true), (30, true), (31, true), (32, true), (33, true), (34, true), (35, true), (36, true), (37, true), (38, true), (39, true), (40, true)] (by kernel_rfl) (by kernel_rfl) rfl (by kernel_rfl) (fun _ _ d _ _ h => by cases d <;> exact h) ?_
              replace hp := hp.drew
              repeat' (with_reducible refine plan_is ?_); first | (with_reducible refine plan_nil ?_) | refine tk23 ?_
              go_wp2_with (first | go_skip | (first | (refine hA2 ?_; clear hp; intro b w1 hp) | refine hL22 ?_ | (refine hS0 ?_; clear hp; intro w1 hp)))
              go_roundg (gk - 1)
              case measure => omega
              case rel => exact ⟨j + 1, _, by omega, rfl, by go_num, Lib.hid (.inr ⟨j, _, by omega, rfl, HNX.out⟩), hp⟩
            · have e3 : decide (nu2 < nu) = false := by simpa using h6
              have HNX : RowKit.Hid (TopV (l.take (j + 1)) m ⟨nd2, nm2, bs2, nu2, cm2, vb, es2, vd⟩) := Lib.hid (HB3.out.keep HJ.out (fun h => by unfold ltX at h; simp only at h; omega))
              clear h4 h5 h6 HB
              go_wp2_with (first | go_skip | (first | (refine hA2 ?_; clear hp; intro b w1 hp) | refine hL22 ?_ | (refine hS0 ?_; clear hp; intro w1 hp)))
              refine wp_region_keeps _ (Keeps.all hp.drew) [] [(0, true), (1, true), (2, true), (3, true), (4, true), (5, true), (6, true), (7, true), (8, true), (9, true), (10, true), (11, true), (12, true), (13, true), (14, true), (15, true), (16, true), (17, true), (18, true), (19, true), (20, true), (21, true), (22, true), (23, true), (24, true), (25, true), (26, true), (27, true), (28, true), (29, true), (30, true), (31, true), (32, true), (33, true), (34, true), (35, true), (36, true), (37, true), (38, true), (39, true), (40, true)] (by kernel_rfl) (by kernel_rfl) rfl (by kernel_rfl) (fun _ _ d _ _ h => by cases d <;> exact h) ?_
              replace hp := hp.drew
              repeat' (with_reducible refine plan_is ?_); first | (with_reducible refine plan_nil ?_) | refine tk23 ?_
              go_wp2_with (first | go_skip | (first | (refine hA2 ?_; clear hp; intro b w1 hp) | refine hL22 ?_ | (refine hS0 ?_; clear hp; intro w1 hp)))
              go_roundg (gk - 1)
              case measure => omega
              case rel => exact ⟨j + 1, _, by omega, rfl, by go_num, Lib.hid (.inr ⟨m, _, by omega, rfl, HNX.out⟩), hp⟩
          · have e2 : (nm == nm2) = false := by simpa using h5
            have HNX : RowKit.Hid (TopV (l.take (j + 1)) m ⟨nd2, nm2, bs2, nu2, cm2, vb, es2, vd⟩) := Lib.hid (HB3.out.keep HJ.out (fun h => by unfold ltX at h; simp only at h; omega))
            clear h4 h5 HB
            go_wp2_with (first | go_skip | (first | (refine hA2 ?_; clear hp; intro b w1 hp) | refine hL22 ?_ | (refine hS0 ?_; clear hp; intro w1 hp)))
            refine wp_region_keeps _ (Keeps.all hp.drew) [] [(0, true), (1, true), (2, true), (3, true), (4, true), (5, true), (6, true), (7, true), (8, true), (9, true), (10, true), (11, true), (12, true), (13, true), (14, true), (15, true), (16, true), (17, true), (18, true), (19, true), (20, true), (21, true), (22, true), (23, true), (24, true), (25, true), (26, true), (27, true), (28, true), (29, true), (30, true), (31, true), (32, true), (33, true), (34, true), (35, true), (36, true), (37, true), (38, true), (39, true), (40, true)] (by kernel_rfl) (by kernel_rfl) rfl (by kernel_rfl) (fun _ _ d _ _ h => by cases d <;> exact h) ?_
            replace hp := hp.drew
            repeat' (with_reducible refine plan_is ?_); first | (with_reducible refine plan_nil ?_) | refine tk23 ?_
            go_wp2_with (first | go_skip | (first | (refine hA2 ?_; clear hp; intro b w1 hp) | refine hL22 ?_ | (refine hS0 ?_; clear hp; intro w1 hp)))
            go_roundg (gk - 1)
            case measure => omega
            case rel => exact ⟨j + 1, _, by omega, rfl, by go_num, Lib.hid (.inr ⟨m, _, by omega, rfl, HNX.out⟩), hp⟩
    · obtain rfl : j = l.length := by omega
      have f2 : decide ((l.length : Int) < (l.length : Int)) = false := by simp
      have hb := HB.out
      rw [List.take_length] at hb
      rcases hb with ⟨h, _⟩ | ⟨m, y, _, rfl, hb⟩
      · omega
      · have HB3 := Lib.hid hb
        clear hkj hlt HB hb
        go_wp2_with (first | go_skip | (first | (refine hA1 ?_; clear hp; intro b w1 hp) | refine hL0 ?_ | (refine hS0 ?_; clear hp; intro w1 hp)))
        go_ret
        exact ⟨m, y, rfl, HB3.out, hp.below⟩
end Go.Proofs.YtcjbepaclbhjaaaGreat
/- The walks of Choose's closures, of each with them, of slices.Max (written by mkcx.py). -/
namespace Go.Proofs.YtcjbepaclbhjaaaGreat
open Go.RowKit Go.Lib
def IntsP (w : World) (xs : List Int) (e : Ending) (w' : World) : Prop := ∃ (a : Option Addr) (k : Nat) (R : List Blk), e = .returned (.slice a xs.length k) ∧ Kept R (fun w => RowIs w a (xs.flatMap iV)) ∧ Hp w.heap.size w w' R
set_option maxRecDepth 100000 in
set_option maxHeartbeats 4000000 in
theorem cl49 (nd nm bs nu cm : Int) (va : Option Addr) (n2 vc : Nat) (w : World) :
    Calls Tryz.prog 49 #[.agg #[.int .i64 nd, .int .i64 nm, .int .i64 bs, .int .i64 nu, .int .i64 cm, .slice va n2 vc]] w fun e w' => e = .returned (.int .i64 nd) ∧ Below w.heap.size w w' := by
  have hp := Hp.start w
  go_enter Tryz.func49, Tryz.ntmps49
  go_wp2_with (first | go_skip | (first | (refine hA0 ?_; clear hp; intro b w1 hp) | refine hL0 ?_ | (refine hS0 ?_; clear hp; intro w1 hp)))
  go_ret
  exact ⟨rfl, hp.below⟩
set_option maxRecDepth 100000 in
set_option maxHeartbeats 4000000 in
theorem each48_n (l : List Vt) (a : Option Addr) (c : Nat) (hl : l.length ≤ 1000) (w : World) (ha : RowIs w a (l.flatMap vtV)) :
    Calls Tryz.prog 48 #[.slice a l.length c, .func (.func 49) #[] #[]] w (IntsP w (l.map Vt.nd)) := by
  obtain ⟨i0, hi0, hz0, hz1, hz2⟩ := info_parts info3
  have hp := Hp.start w
  have HA := Lib.hid ha
  clear ha
  go_enter Tryz.func48, Tryz.ntmps48
  go_wp2_with (first | go_skip | (first | (refine hA0 ?_; clear hp; intro b w1 hp) | refine hL0 ?_ | (refine hS0 ?_; clear hp; intro w1 hp)))
  go_loopg [5, 10] l.length (fun k v i wr => ∃ (q : Nat) (R M : List Blk), k + q = l.length ∧ i = .int .i64 q ∧ RowKit.Hid (OwnRow 3 1 v q (((l.take q).map Vt.nd).flatMap iV) R) ∧ Hp w.heap.size w wr (R ++ M))
  case atStart => exact ⟨0, [], [], by omega, rfl, Lib.hid (OwnRow.nil _ _), hp⟩
  case round =>
    clear hp
    obtain ⟨q, R, M, hkq, rfl, HR, hp⟩ := hrel
    by_cases hlt : q < l.length
    · obtain ⟨bq, off, rfl, hx⟩ := HA.out.elems 6 vtV_len (by omega) (by omega)
      have hj := List.getElem?_eq_getElem hlt
      replace hx := hx q _ hj
      have htk : (l.take (q + 1)).map Vt.nd = (l.take q).map Vt.nd ++ [(l[q]).nd] := by rw [List.take_add_one, hj, List.map_append]; rfl
      clear hj
      generalize l[q] = y at hx htk
      obtain ⟨nd, nm, bs, nu, cm, va, es, vc⟩ := y
      simp only [vtV] at hx
      have HX := Lib.hid hx
      have HTK := Lib.hid htk
      clear hx htk
      have e1 : (0 : Int) ≤ (q : Int) := by omega
      have e2 : (q : Int) < (l.length : Int) := by omega
      have HS5 : RowKit.Hid (q + 1 ≤ maxLen) := Lib.hid (by unfold maxLen; omega)
      have HS6 : RowKit.Hid ((q + 1) * 8 ≤ 140737488355328) := Lib.hid (by omega)
      go_wp2_with (first | (go_at_call 49; (with_reducible refine (cl49 nd nm bs nu cm va _ vc _).mono ?_); rintro e w1 ⟨rfl, hb⟩; replace hp := hp.call hb; clear hb) | ((with_reducible refine pre_append _ _ 72 rfl ?_); refine wpList_appendGrow (K := [_]) (R := R) (M := M) hp _ _ _ rfl wy i0 _ 8 Tryz.underlying72 hi0 hz0 hz1 hz2 rfl (by decide) (sTm rfl) HR.out 1 1 (sTm rfl) (by rfl) (by decide) (by rfl) HS5.out HS6.out ?_; clear hp HR; intro v' R' w1 hR' hp; have HR := Lib.hid hR'; clear hR'; simp only [List.cons_append, List.nil_append] at hp; simp only [put_some, put_none, sSet, zSet]) | go_skip | (first | (refine hA0 ?_; clear hp; intro b w1 hp) | refine hL11 ?_ | (refine hS0 ?_; clear hp; intro w1 hp)))
      go_roundg (gk - 1)
      case measure => omega
      case rel => exact ⟨q + 1, R', M, by omega, by go_num, Lib.hid (by rw [HTK.out, List.flatMap_append]; exact HR.out), hp.kp⟩
    · obtain rfl : q = l.length := by omega
      have f2 : decide ((l.length : Int) < (l.length : Int)) = false := by simp
      obtain ⟨ax, kx, rfl, hk⟩ := HR.out.kept
      rw [List.take_length] at hk
      have HKR := Lib.hid hk
      clear hkq hlt hk
      go_wp2_with (first | go_skip | (first | (refine hA0 ?_; clear hp; intro b w1 hp) | refine hL0 ?_ | (refine hS0 ?_; clear hp; intro w1 hp)))
      go_ret
      exact ⟨ax, kx, R, by rw [List.length_map]; rfl, HKR.out, hp.kp⟩
set_option maxRecDepth 100000 in
set_option maxHeartbeats 4000000 in
theorem cl53 (nd nm bs nu cm : Int) (va : Option Addr) (n2 vc : Nat) (w : World) :
    Calls Tryz.prog 53 #[.agg #[.int .i64 nd, .int .i64 nm, .int .i64 bs, .int .i64 nu, .int .i64 cm, .slice va n2 vc]] w fun e w' => e = .returned (.int .i64 cm) ∧ Below w.heap.size w w' := by
  have hp := Hp.start w
  go_enter Tryz.func53, Tryz.ntmps53
  go_wp2_with (first | go_skip | (first | (refine hA0 ?_; clear hp; intro b w1 hp) | refine hL0 ?_ | (refine hS0 ?_; clear hp; intro w1 hp)))
  go_ret
  exact ⟨rfl, hp.below⟩
set_option maxRecDepth 100000 in
set_option maxHeartbeats 4000000 in
theorem each48_c (l : List Vt) (a : Option Addr) (c : Nat) (hl : l.length ≤ 1000) (w : World) (ha : RowIs w a (l.flatMap vtV)) :
    Calls Tryz.prog 48 #[.slice a l.length c, .func (.func 53) #[] #[]] w (IntsP w (l.map Vt.cm)) := by
  obtain ⟨i0, hi0, hz0, hz1, hz2⟩ := info_parts info3
  have hp := Hp.start w
  have HA := Lib.hid ha
  clear ha
  go_enter Tryz.func48, Tryz.ntmps48
  go_wp2_with (first | go_skip | (first | (refine hA0 ?_; clear hp; intro b w1 hp) | refine hL0 ?_ | (refine hS0 ?_; clear hp; intro w1 hp)))
  go_loopg [5, 10] l.length (fun k v i wr => ∃ (q : Nat) (R M : List Blk), k + q = l.length ∧ i = .int .i64 q ∧ RowKit.Hid (OwnRow 3 1 v q (((l.take q).map Vt.cm).flatMap iV) R) ∧ Hp w.heap.size w wr (R ++ M))
  case atStart => exact ⟨0, [], [], by omega, rfl, Lib.hid (OwnRow.nil _ _), hp⟩
  case round =>
    clear hp
    obtain ⟨q, R, M, hkq, rfl, HR, hp⟩ := hrel
    by_cases hlt : q < l.length
    · obtain ⟨bq, off, rfl, hx⟩ := HA.out.elems 6 vtV_len (by omega) (by omega)
      have hj := List.getElem?_eq_getElem hlt
      replace hx := hx q _ hj
      have htk : (l.take (q + 1)).map Vt.cm = (l.take q).map Vt.cm ++ [(l[q]).cm] := by rw [List.take_add_one, hj, List.map_append]; rfl
      clear hj
      generalize l[q] = y at hx htk
      obtain ⟨nd, nm, bs, nu, cm, va, es, vc⟩ := y
      simp only [vtV] at hx
      have HX := Lib.hid hx
      have HTK := Lib.hid htk
      clear hx htk
      have e1 : (0 : Int) ≤ (q : Int) := by omega
      have e2 : (q : Int) < (l.length : Int) := by omega
      have HS5 : RowKit.Hid (q + 1 ≤ maxLen) := Lib.hid (by unfold maxLen; omega)
      have HS6 : RowKit.Hid ((q + 1) * 8 ≤ 140737488355328) := Lib.hid (by omega)
      go_wp2_with (first | (go_at_call 53; (with_reducible refine (cl53 nd nm bs nu cm va _ vc _).mono ?_); rintro e w1 ⟨rfl, hb⟩; replace hp := hp.call hb; clear hb) | ((with_reducible refine pre_append _ _ 72 rfl ?_); refine wpList_appendGrow (K := [_]) (R := R) (M := M) hp _ _ _ rfl wy i0 _ 8 Tryz.underlying72 hi0 hz0 hz1 hz2 rfl (by decide) (sTm rfl) HR.out 1 1 (sTm rfl) (by rfl) (by decide) (by rfl) HS5.out HS6.out ?_; clear hp HR; intro v' R' w1 hR' hp; have HR := Lib.hid hR'; clear hR'; simp only [List.cons_append, List.nil_append] at hp; simp only [put_some, put_none, sSet, zSet]) | go_skip | (first | (refine hA0 ?_; clear hp; intro b w1 hp) | refine hL11 ?_ | (refine hS0 ?_; clear hp; intro w1 hp)))
      go_roundg (gk - 1)
      case measure => omega
      case rel => exact ⟨q + 1, R', M, by omega, by go_num, Lib.hid (by rw [HTK.out, List.flatMap_append]; exact HR.out), hp.kp⟩
    · obtain rfl : q = l.length := by omega
      have f2 : decide ((l.length : Int) < (l.length : Int)) = false := by simp
      obtain ⟨ax, kx, rfl, hk⟩ := HR.out.kept
      rw [List.take_length] at hk
      have HKR := Lib.hid hk
      clear hkq hlt hk
      go_wp2_with (first | go_skip | (first | (refine hA0 ?_; clear hp; intro b w1 hp) | refine hL0 ?_ | (refine hS0 ?_; clear hp; intro w1 hp)))
      go_ret
      exact ⟨ax, kx, R, by rw [List.length_map]; rfl, HKR.out, hp.kp⟩
def IsMax (xs : List Int) (m : Int) : Prop := m ∈ xs ∧ ∀ x ∈ xs, x ≤ m
def MaxIP (w : World) (xs : List Int) (e : Ending) (w' : World) : Prop := ∃ m : Int, e = .returned (.int .i64 m) ∧ IsMax xs m ∧ Below w.heap.size w w'
theorem IsMax.snoc {xs : List Int} {m y z : Int} (h : IsMax xs m) (hz : z = max m y) : IsMax (xs ++ [y]) z := by
  refine ⟨?_, fun x hx => ?_⟩
  · rw [List.mem_append, List.mem_singleton]
    by_cases e : m < y
    · right; omega
    · left; have : z = m := by omega
      rw [this]; exact h.1
  · rw [List.mem_append, List.mem_singleton] at hx
    rcases hx with hx | hx
    · have := h.2 x hx; omega
    · omega
set_option maxRecDepth 100000 in
set_option maxHeartbeats 4000000 in
theorem max52 (l : List Int) (a : Option Addr) (q c : Nat) (hq : l.length = q) (hl : q ≤ 1000) (h0 : 0 < q) (w : World) (ha : RowIs w a (l.flatMap iV)) :
    Calls Tryz.prog 52 #[.slice a q c] w (MaxIP w l) := by
  subst hq
  have hp := Hp.start w
  obtain ⟨b0, off, rfl, hx0⟩ := ha.elems 1 iV_len h0 (by omega)
  have HA := Lib.hid hx0
  have hj0 := List.getElem?_eq_getElem h0
  have hx := hx0 0 _ hj0
  have htk : l.take 1 = [] ++ [l[0]] := by rw [List.take_add_one, hj0]; rfl
  generalize l[0] = y at hx htk
  simp only [iV, Nat.mul_one] at hx
  have HX := Lib.hid hx
  have HB : RowKit.Hid (IsMax (l.take (0 + 1)) y) := Lib.hid (by rw [htk]; exact ⟨by simp, fun x hx => by simp at hx; omega⟩)
  have e0 : decide ((l.length : Int) < 1) = false := by simp; omega
  have f1 : (0 : Int) < (l.length : Int) := by omega
  clear ha hx0 hx hj0 htk
  go_enter Tryz.func52, Tryz.ntmps52
  go_wp2_with (first | go_skip | (first | (refine hA2 ?_; clear hp; intro b w1 hp) | refine hL23 ?_ | (refine hS3 ?_; clear hp; intro w1 hp)))
  clear HX e0
  go_loopg [3, 4] (l.length + 1) (fun k v i wr => ∃ (j : Nat) (m : Int), k + j = l.length + 1 ∧ j < l.length ∧ v = .int .i64 m ∧ i = .int .i64 ((j : Int) + 1) ∧ RowKit.Hid (IsMax (l.take (j + 1)) m) ∧ Hp w.heap.size w wr [])
  case atStart => exact ⟨0, y, by omega, h0, rfl, rfl, HB, hp⟩
  case round =>
    clear hp HB
    obtain ⟨j, m, hkj, hjl, rfl, rfl, HB, hp⟩ := hrel
    have f2 : (0 : Int) ≤ (j : Int) := by omega
    by_cases hlt : j + 1 < l.length
    · have hj := List.getElem?_eq_getElem hlt
      have hx := HA.out (j + 1) _ hj
      have htk : l.take (j + 1 + 1) = l.take (j + 1) ++ [l[j + 1]] := by rw [List.take_add_one, hj]; rfl
      clear hj
      generalize l[j + 1] = z at hx htk
      simp only [iV, Nat.mul_one] at hx
      have HX := Lib.hid hx
      have HTK := Lib.hid htk
      have f3 : (j : Int) + 1 < (l.length : Int) := by omega
      have e6 : wrap64 ((j : Int) + 1 + 1) = (j : Int) + 1 + 1 := by unfold wrap64; omega
      clear hx htk
      by_cases hm : m < z
      · have e1 : decide (m < z) = true := by simpa using hm
        have e2 : max m z = z := by omega
        have HNX : RowKit.Hid (IsMax (l.take (j + 1 + 1)) z) := Lib.hid (by rw [HTK.out]; exact HB.out.snoc e2.symm)
        clear hm
        go_wp2_with (first | go_skip | (first | (refine hA2 ?_; clear hp; intro b w1 hp) | refine hL23 ?_ | (refine hS3 ?_; clear hp; intro w1 hp)))
        go_roundg (gk - 1)
        case measure => omega
        case rel => exact ⟨j + 1, z, by omega, hlt, rfl, by go_num, HNX, hp⟩
      · have e1 : decide (m < z) = false := by simpa using hm
        have e2 : max m z = m := by omega
        have HNX : RowKit.Hid (IsMax (l.take (j + 1 + 1)) m) := Lib.hid (by rw [HTK.out]; exact HB.out.snoc e2.symm)
        clear hm
        go_wp2_with (first | go_skip | (first | (refine hA2 ?_; clear hp; intro b w1 hp) | refine hL23 ?_ | (refine hS3 ?_; clear hp; intro w1 hp)))
        go_roundg (gk - 1)
        case measure => omega
        case rel => exact ⟨j + 1, m, by omega, hlt, rfl, by go_num, HNX, hp⟩
    · have f3 : decide ((j : Int) + 1 < (l.length : Int)) = false := by simp; omega
      have hb := HB.out
      rw [List.take_of_length_le (by omega)] at hb
      have HEND := Lib.hid hb
      clear hlt hb
      go_wp2_with (first | go_skip | (first | (refine hA2 ?_; clear hp; intro b w1 hp) | refine hL21 ?_ | (refine hS3 ?_; clear hp; intro w1 hp)))
      go_ret
      exact ⟨m, rfl, HEND.out, hp.below⟩
end Go.Proofs.YtcjbepaclbhjaaaGreat
