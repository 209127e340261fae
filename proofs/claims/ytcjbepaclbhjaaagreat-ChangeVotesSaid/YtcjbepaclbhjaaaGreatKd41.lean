/- Parts of the proof. -/
import Derived.Test.YtcjbepaclbhjaaaGreatKd1
import Derived.Test.YtcjbepaclbhjaaaGreatKd40
import Derived.Test.YtcjbepaclbhjaaaGreatKd0
import Derived.Test.YtcjbepaclbhjaaaGreatKd39
import Derived.Test.YtcjbepaclbhjaaaGreatKd37
import Derived.Test.YtcjbepaclbhjaaaGreatKd23
import Derived.Test.YtcjbepaclbhjaaaGreatKd35
open List renaming set_cons_zero → zSet, set_cons_succ → sSet
/- The walk of change.Add. -/
set_option linter.unusedSimpArgs false
set_option linter.unusedVariables false
namespace Go.Proofs.YtcjbepaclbhjaaaGreat
open Go.RowKit Go.Lib
theorem place_len (xs : List Vt) (x : Vt) (i : Nat) (h : i ≤ xs.length) : (xs.take i ++ x :: xs.drop i).length = xs.length + 1 := by
  rw [List.length_append, List.length_cons, List.length_take, List.length_drop, Nat.min_eq_left h]
  omega
def AddPost (w : World) (l : List Vt) (v : Vt) (e : Ending) (w' : World) : Prop :=
  ∃ (x : Value) (ys : List Vt) (R M : List Blk), e = .returned x ∧ ys.map vstrip = addV (l.map vstrip) (vstrip v) ∧ OwnRow 27 6 x ys.length (ys.flatMap vtV) R ∧ OwnVs ys M ∧ Hp w.heap.size w w' (R ++ M)
set_option maxRecDepth 100000 in
set_option maxHeartbeats 8000000 in
theorem add15 (l : List Vt) (a : Option Addr) (k : Nat) (hl : l.length ≤ 1000) (hes : ∀ v ∈ l, v.es.length ≤ 100000) (nd nm bs nu cm : Int) (va : Option Addr) (es : List Env) (vc : Nat) (hel : es.length ≤ 100000) (w : World) (ha : RowIs w a (l.flatMap vtV)) (hlv : ∀ v ∈ l, v.Is w) (hva : RowIs w va (es.flatMap envL)) :
    Calls Tryz.prog 15 #[.slice a l.length k, .agg #[.int .i64 nd, .int .i64 nm, .int .i64 bs, .int .i64 nu, .int .i64 cm, .slice va es.length vc]] w (AddPost w l ⟨nd, nm, bs, nu, cm, va, es, vc⟩) := by
  have hp := Hp.start w
  have HA := Lib.hid ha
  have HES := Lib.hid hes
  have HLV := Lib.hid hlv
  have HVA := Lib.hid hva
  clear ha hes hlv hva
  go_enter Tryz.func15, Tryz.ntmps15
  go_wp2_with (first | (go_at_call 40; (with_reducible refine (each40 l a k hl HES.out _ (HA.out.below hp.below) (fun y hy => (HLV.out y hy).below hp.below)).mono ?_); rintro e w1 ⟨v1, ys, R1, M1, rfl, hsm, hr1, hk1, hp2⟩; replace hp := hp.join hp2; rw [hsm.1] at hr1; have HSM := Lib.hid hsm; have HR1 := Lib.hid hr1; have HK1 := Lib.hid hk1; clear hp2 hsm hr1 hk1; have HYL : RowKit.Hid (ys.length ≤ 1000) := Lib.hid (by rw [← HSM.out.1]; exact hl); have HKL : RowKit.Hid ((keepV nd ys).length ≤ 1000) := Lib.hid (Nat.le_trans (List.length_filter_le _ _) HYL.out); simp only [List.cons_append, List.nil_append] at hp) | (go_at_call 39; (with_reducible refine (delf39 ys HYL.out v1 _ nd _ rfl HR1.out hp).mono ?_); clear hp; rintro e w1 ⟨v2, R2, rfl, hr2, hp⟩; obtain ⟨a2, k2, rfl, _⟩ := hr2.kept; have HR2 := Lib.hid hr2; clear hr2) | (go_at_call 42; (with_reducible refine (idx42_O (keepV nd ys) HKL.out _ _ nd _ rfl HR2.out hp).mono ?_); clear hp; rintro e w1 ⟨r, rfl, hi, hp⟩; obtain ⟨i, hil, hir, htw, hdw⟩ := idx_place hi; have HIL := Lib.hid hil; have HTW := Lib.hid htw; have HDW := Lib.hid hdw; clear hi hil htw hdw; rcases hir with ⟨rfl, rfl⟩ | rfl) | (go_at_call 28; (with_reducible refine (own28 nd nm bs nu cm va es vc hel _ (HVA.out.below hp.below)).mono ?_); rintro e w1 ⟨a3, c3, R3, rfl, hk3, hp2⟩; replace hp := hp.join hp2; have HK3 := Lib.hid hk3; clear hp2 hk3; simp only [List.cons_append, List.nil_append, List.append_assoc] at hp) | ((with_reducible refine pre_build _ _ _ rfl ?_); refine wpList_buildSlice_hp hp _ _ _ rfl wy [.int .i64 nd, .int .i64 nm, .int .i64 bs, .int .i64 nu, .int .i64 cm, .slice a3 es.length c3] 27 (by intro w; go_simp; try rfl) ?_; clear hp; intro bb w1 hp; simp only [List.length_cons, List.length_nil, Nat.reduceAdd] at hp; have hq : Hp w.heap.size w w1 (⟨bb, [.int .i64 nd, .int .i64 nm, .int .i64 bs, .int .i64 nu, .int .i64 cm, .slice a3 es.length c3], 27, 6⟩ :: (R2 ++ (M1 ++ R3))) := hp.kp; clear hp; simp only [put_some, put_none, sSet, zSet]) | (go_at_call 44; (with_reducible refine (ins44 (keepV nd ys).length _ HKL.out HIL.out ((keepV nd ys).flatMap vtV) _ [.int .i64 nd, .int .i64 nm, .int .i64 bs, .int .i64 nu, .int .i64 cm, .slice a3 es.length c3] rfl rfl (vts_one _) bb _ _ HR2.out hq).mono ?_); clear hq; rintro e w1 ⟨v', R', rfl, hr', hp⟩; have HR' := Lib.hid hr'; clear hr') | go_skip | (first | (refine hA1 ?_; clear hp; intro b w1 hp) | refine hL0 ?_ | (refine hS0 ?_; clear hp; intro w1 hp)))
  all_goals
    go_ret
    refine ⟨v', addV ys ⟨nd, nm, bs, nu, cm, a3, es, c3⟩, R', M1 ++ R3, rfl, ?_, ?_, ?_, hp⟩
    · rw [addV_strip, ← vts_strip.1 HSM.out]; rfl
    · have h := HR'.out
      rw [show ([.int .i64 nd, .int .i64 nm, .int .i64 bs, .int .i64 nu, .int .i64 cm, .slice a3 es.length c3] : List Value) = vtV ⟨nd, nm, bs, nu, cm, a3, es, c3⟩ from rfl, ins_votes] at h
      unfold addV
      rw [HTW.out, HDW.out]
      rw [place_len _ _ _ HIL.out]; exact h
    · refine OwnVs.perm (ys := ⟨nd, nm, bs, nu, cm, a3, es, c3⟩ :: keepV nd ys) ?_ ⟨R3, M1, HK3.out, List.perm_append_comm, HK1.out.sub List.filter_sublist⟩
      unfold addV
      refine List.Perm.trans ?_ List.perm_middle.symm
      rw [List.takeWhile_append_dropWhile]
end Go.Proofs.YtcjbepaclbhjaaaGreat
/- Rows that rise by a key, and what is put among them: the plain law of ChangeOrder. No program in sight. -/
namespace Go.Proofs.YtcjbepaclbhjaaaGreat
open Go.RowKit
section
variable {α : Type} (k : α → Int)
def addP (l : List α) (v : α) : List α :=
  (l.filter fun x => decide (k x ≠ k v)).takeWhile (fun x => decide (k x ≤ k v)) ++ v :: (l.filter fun x => decide (k x ≠ k v)).dropWhile (fun x => decide (k x ≤ k v))
theorem mem_add {l : List α} {v x : α} : x ∈ addP k l v ↔ (x ∈ l ∧ k x ≠ k v) ∨ x = v := by
  have h := List.takeWhile_append_dropWhile (p := fun x => decide (k x ≤ k v)) (l := l.filter fun x => decide (k x ≠ k v))
  have h2 : x ∈ l.filter (fun x => decide (k x ≠ k v)) ↔ x ∈ l ∧ k x ≠ k v := by simp
  rw [← h2]
  unfold addP
  conv => rhs; rw [← h]
  simp only [List.mem_append, List.mem_cons]
  constructor
  · rintro (h | h | h)
    · exact .inl (.inl h)
    · exact .inr h
    · exact .inl (.inr h)
  · rintro ((h | h) | h)
    · exact .inl h
    · exact .inr (.inr h)
    · exact .inr (.inl h)
end
end Go.Proofs.YtcjbepaclbhjaaaGreat
/- Add of votes, by the law of rows that rise. No program in sight. -/
namespace Go.Proofs.YtcjbepaclbhjaaaGreat
open Go.RowKit
theorem addV_is (l : List Vt) (v : Vt) : addV l v = addP Vt.nd l v := by
  have h : (fun x : Vt => !eqN v.nd x) = fun x => decide (Vt.nd x ≠ Vt.nd v) := by
    funext x
    unfold eqN
    by_cases h : x.nd = v.nd <;> simp [h]
  unfold addV addP keepV
  rw [h]
  rfl
theorem addV_len (l : List Vt) (v : Vt) : (addV l v).length ≤ l.length + 1 := by
  have h1 : (keepV v.nd l).length ≤ l.length := List.length_filter_le _ _
  have h2 := congrArg List.length (List.takeWhile_append_dropWhile (p := leV v.nd) (l := keepV v.nd l))
  unfold addV
  rw [List.length_append] at h2
  rw [List.length_append, List.length_cons]
  omega
theorem mem_addV {l : List Vt} {v x : Vt} (h : x ∈ addV l v) : x ∈ l ∨ x = v := by
  rw [addV_is, mem_add] at h
  rcases h with ⟨h, _⟩ | h
  · exact .inl h
  · exact .inr h
end Go.Proofs.YtcjbepaclbhjaaaGreat
/- The walk of the document's Big of votes. -/
namespace Go.Proofs.YtcjbepaclbhjaaaGreat
open Go.RowKit
theorem big_z (vw nm bs : Int) (im : ByteArray) (ea : Option Addr) (es : List Env) (ec : Nat) (w : World) :
    Calls Tryz.prog 26 #[.agg #[.int .i64 vw, .int .i64 nm, .int .i64 bs, .string im, .slice ea es.length ec], .agg #[.int .i64 0, .int .i64 0, .int .i64 0, .int .i64 0, .string ⟨#[]⟩, .int .i64 0, .int .i64 0, .int .i64 0, .int .i64 0, .int .i64 0, .int .i64 0, .int .i64 0, .int .i64 0, .int .i64 0, .int .i64 0, .int .i64 0, .slice none 0 0]] w (BigP w es.length 0 im.size 0) :=
  big26 vw nm bs im ea es ec 0 0 0 0 ⟨#[]⟩ 0 0 0 0 0 0 0 0 0 0 0 none [] 0 w
def BigVP (w : World) (l : List Vt) (n p : Nat) (e : Ending) (w' : World) : Prop := ∃ bb, e = .returned (.bool bb) ∧ (bb = false → l.length ≤ 50 ∧ n ≤ 300 ∧ p ≤ 100000 ∧ ∀ v ∈ l, v.es.length ≤ 200) ∧ Below w.heap.size w w'
set_option maxRecDepth 100000 in
set_option maxHeartbeats 4000000 in
theorem big7 (l : List Vt) (a : Option Addr) (k : Nat) (vw nm bs : Int) (im : ByteArray) (ea : Option Addr) (es : List Env) (ec : Nat) (w : World) (ha : RowIs w a (l.flatMap vtV)) :
    Calls Tryz.prog 7 #[.slice a l.length k, .agg #[.int .i64 vw, .int .i64 nm, .int .i64 bs, .string im, .slice ea es.length ec]] w (BigVP w l es.length im.size) := by
  have hp := Hp.start w
  have HA := Lib.hid ha
  clear ha
  by_cases hl : l.length ≤ 50
  · have e0 : decide ((50 : Int) < (l.length : Int)) = false := by simp; omega
    go_enter Tryz.func7, Tryz.ntmps7
    go_wp2_with (first | (go_at_call 26; (with_reducible refine (big_z vw nm bs im ea es ec _).mono ?_); rintro e w1 ⟨bb, rfl, hbb, hb⟩; replace hp := hp.call hb; clear hb; cases bb) | go_skip | (first | (refine hA2 ?_; clear hp; intro b w1 hp) | refine hL0 ?_ | (refine hS0 ?_; clear hp; intro w1 hp)))
    · have HBB := Lib.hid (hbb (by first | rfl | trivial))
      clear hbb e0
      go_loopg [5] l.length (fun k i wr => ∃ j : Nat, k + j = l.length ∧ i = .int .i64 j ∧ RowKit.Hid (∀ (i : Nat) y, i < j → l[i]? = some y → y.es.length ≤ 200) ∧ Hp w.heap.size w wr [⟨b, [.int .i64 vw, .int .i64 nm, .int .i64 bs, .string im, .slice ea es.length ec], 24, 5⟩])
      case atStart => exact ⟨0, by omega, rfl, Lib.hid (fun i y h => by omega), hp⟩
      case round =>
        clear hp
        obtain ⟨j, hkj, rfl, HNO, hp⟩ := hrel
        by_cases hlt : j < l.length
        · obtain ⟨bq, off, rfl, hx⟩ := HA.out.elems 6 vtV_len (by omega) (by omega)
          have hj := List.getElem?_eq_getElem hlt
          replace hx := hx j _ hj
          have HJ := Lib.hid hj
          clear hj
          generalize l[j] = y at hx HJ
          obtain ⟨nd, nm2, bs2, nu, cm, va, xs, vc⟩ := y
          simp only [vtV] at hx
          have HX := Lib.hid hx
          clear hx
          have f1 : (0 : Int) ≤ (j : Int) := by omega
          have f2 : (j : Int) < (l.length : Int) := by omega
          by_cases hxs : xs.length ≤ 200
          · have e1 : decide ((200 : Int) < (xs.length : Int)) = false := by simp; omega
            go_wp2_with (first | go_skip | (first | (refine hA2 ?_; clear hp; intro b w1 hp) | refine hL20 ?_ | (refine hS0 ?_; clear hp; intro w1 hp)))
            go_roundg (gk - 1)
            case measure => omega
            case rel => exact ⟨j + 1, by omega, by go_num, Lib.hid (fun i y hi hy => by
              rcases Nat.lt_or_ge i j with h | h
              · exact HNO.out i y h hy
              · obtain rfl : i = j := by omega
                rw [HJ.out] at hy; injection hy with hy; rw [← hy]; exact hxs), hp⟩
          · have e1 : decide ((200 : Int) < (xs.length : Int)) = true := by simp; omega
            go_wp2_with (first | go_skip | (first | (refine hA2 ?_; clear hp; intro b w1 hp) | refine hL20 ?_ | (refine hS0 ?_; clear hp; intro w1 hp)))
            go_ret
            exact ⟨true, rfl, fun h => (by cases h), hp.below⟩
        · have f2 : decide ((j : Int) < (l.length : Int)) = false := by simp; omega
          go_wp2_with (first | go_skip | (first | (refine hA2 ?_; clear hp; intro b w1 hp) | refine hL0 ?_ | (refine hS0 ?_; clear hp; intro w1 hp)))
          go_ret
          exact ⟨false, rfl, fun _ => ⟨hl, HBB.out.1, HBB.out.2.2.1, fun v hv => by
            obtain ⟨i, hi, rfl⟩ := List.getElem_of_mem hv
            exact HNO.out i _ (by omega) (List.getElem?_eq_getElem hi)⟩, hp.below⟩
    · go_wp2_with (first | go_skip | (first | (refine hA2 ?_; clear hp; intro b w1 hp) | refine hL0 ?_ | (refine hS0 ?_; clear hp; intro w1 hp)))
      go_ret
      exact ⟨true, rfl, fun h => (by cases h), hp.below⟩
  · have e0 : decide ((50 : Int) < (l.length : Int)) = true := by simp; omega
    go_enter Tryz.func7, Tryz.ntmps7
    go_wp2_with (first | (go_at_call 26; (with_reducible refine (big_z vw nm bs im ea es ec _).mono ?_); rintro e w1 ⟨bb, rfl, hbb, hb⟩; replace hp := hp.call hb; clear hb; cases bb) | go_skip | (first | (refine hA2 ?_; clear hp; intro b w1 hp) | refine hL0 ?_ | (refine hS0 ?_; clear hp; intro w1 hp)))
    go_ret
    exact ⟨true, rfl, fun h => (by cases h), hp.below⟩
end Go.Proofs.YtcjbepaclbhjaaaGreat
/- Runs of entries over a state: the plain laws. No program in sight. -/
namespace Go.Proofs.YtcjbepaclbhjaaaGreat
noncomputable def runP (s : Sv) : List Env → Sv
  | [] => s
  | e :: r => runP (applyP s e).1 r
end Go.Proofs.YtcjbepaclbhjaaaGreat
/- State by its ways; the chapter's examples of State; the walk of OplogSteps. -/
namespace Go.Proofs.YtcjbepaclbhjaaaGreat
open Go.RowKit
noncomputable def stImg (x : Kv) : Sv := (stateR (strB x.im)).getD zeroSv
noncomputable def stC (x : Kv) (n : Int) : Sv := runP (stImg x) (x.es.take (n - x.bs).toNat)
end Go.Proofs.YtcjbepaclbhjaaaGreat
/- The walks of Known, of the examples' kept, and of the examples of Execute. -/
namespace Go.Proofs.YtcjbepaclbhjaaaGreat
open Go.RowKit
def kE (n : Nat) : List Env := (List.range n).map fun (j : Nat) => En ((j : Int) + 1)
theorem kE_len (n : Nat) : (kE n).length = n := by simp [kE]
def KeptP (w : World) (n : Nat) (e : Ending) (w' : World) : Prop := ∃ a c R, e = .returned (.agg #[.int .i64 0, .int .i64 0, .int .i64 0, .string im3, .slice a n c]) ∧ n ≤ c ∧ Kept R (fun w => RowIs w a ((kE n).flatMap envL)) ∧ Hp w.heap.size w w' R
theorem kE_ok (n : Nat) (h : n ≤ 3) (a : Option Addr) (c : Nat) : okC ⟨0, 0, 0, im3, a, kE n, c⟩ = true := by
  match n, h with
  | 0, _ => exact okC_im3 (by kernel_rfl) rfl
  | 1, _ => exact okC_im3 (by kernel_rfl) rfl
  | 2, _ => exact okC_im3 (by kernel_rfl) rfl
  | 3, _ => exact okC_im3 (by kernel_rfl) rfl
theorem kE_small (n : Nat) (h : n ≤ 3) (a : Option Addr) (c : Nat) : Kv.Small ⟨0, 0, 0, im3, a, kE n, c⟩ := ⟨by simp only [kE_len]; omega, im3_small⟩
end Go.Proofs.YtcjbepaclbhjaaaGreat
/- The walks of change's within, row and Adopt. -/
namespace Go.Proofs.YtcjbepaclbhjaaaGreat
open Go.RowKit
theorem within33 (n lo hi : Int) (b : Bool) (hb : inM n lo hi = b) (w : World) : Calls Tryz.prog 33 #[.int .i64 n, .int .i64 lo, .int .i64 hi] w fun e w' => e = .returned (.bool b) ∧ w = w' := by
  subst hb
  go_enter Tryz.func33, Tryz.ntmps33
  go_wp2
  all_goals go_ret
  all_goals refine ⟨ret_bool ?_, rfl⟩
  all_goals (simp [inM, *]; try omega)
theorem row34 (l : List Env) (fr : Int) (a : Option Addr) (c : Nat) (b : Bool) (hb : folB fr 0 l = b) (hl : l.length ≤ 100000) (w : World) (ha : RowIs w a (l.flatMap envL)) :
    Calls Tryz.prog 34 #[.slice a l.length c, .int .i64 fr] w fun e w' => e = .returned (.bool b) ∧ Below w.heap.size w w' := by
  subst hb
  have hp := Hp.start w
  have HA := Lib.hid ha
  clear ha
  go_enter Tryz.func34, Tryz.ntmps34
  go_wp2_with (first | go_skip | (first | (refine hA1 ?_; clear hp; intro b w1 hp) | refine hL11 ?_ | (refine hS0 ?_; clear hp; intro w1 hp)))
  go_loopg [9] l.length (fun k i wr => ∃ q : Nat, k + q = l.length ∧ i = .int .i64 q ∧ RowKit.Hid (folB fr 0 l = folB fr q (l.drop q)) ∧ Hp w.heap.size w wr [])
  case atStart => exact ⟨0, by omega, rfl, Lib.hid rfl, hp⟩
  case round =>
    clear hp
    obtain ⟨q, hkq, rfl, HF, hp⟩ := hrel
    by_cases hlt : q < l.length
    · obtain ⟨bq, off, rfl, hx⟩ := HA.out.elems 11 envL_len11 (by omega) (by omega)
      have hj := List.getElem?_eq_getElem hlt
      replace hx := hx q _ hj
      have hd := List.drop_eq_getElem_cons hlt
      clear hj
      generalize l[q] = en at hx hd
      obtain ⟨nu, vi, cl, sq, ⟨kk, hh, ii, nn, cc, vv, tt⟩⟩ := en
      simp only [envL, opL, List.cons_append, List.nil_append] at hx
      have HX := Lib.hid hx
      have HF2 : RowKit.Hid (folB fr 0 l = (decide (wrap64 (wrap64 (nu - 1) - (q : Int)) = fr) && folB fr (q + 1) (l.drop (q + 1)))) := Lib.hid (by rw [HF.out, hd]; rfl)
      have f1 : (0 : Int) ≤ (q : Int) := by omega
      have f2 : (q : Int) < (l.length : Int) := by omega
      clear hx hd HF
      by_cases heq : wrap64 (wrap64 (nu - 1) - (q : Int)) = fr
      · have e3 : (wrap64 (wrap64 (nu - 1) - (q : Int)) == fr) = true := by simpa using heq
        have HE := Lib.hid heq
        clear heq
        go_wp2_with (first | go_skip | (first | (refine hA1 ?_; clear hp; intro b w1 hp) | refine hL11 ?_ | (refine hS0 ?_; clear hp; intro w1 hp)))
        go_roundg (gk - 1)
        case measure => omega
        case rel => exact ⟨q + 1, by omega, by go_num, Lib.hid (by rw [HF2.out, HE.out]; simp), hp.tail⟩
      · have e3 : (wrap64 (wrap64 (nu - 1) - (q : Int)) == fr) = false := by simpa using heq
        have HE := Lib.hid heq
        clear heq
        go_wp2_with (first | go_skip | (first | (refine hA1 ?_; clear hp; intro b w1 hp) | refine hL11 ?_ | (refine hS0 ?_; clear hp; intro w1 hp)))
        go_ret
        refine ⟨?_, hp.below⟩
        rw [HF2.out, decide_eq_false HE.out]; rfl
    · obtain rfl : q = l.length := by omega
      have e2 : decide ((l.length : Int) < (l.length : Int)) = false := by simp
      clear hkq hlt
      go_wp2_with (first | go_skip | (first | (refine hA1 ?_; clear hp; intro b w1 hp) | refine hL11 ?_ | (refine hS0 ?_; clear hp; intro w1 hp)))
      go_ret
      refine ⟨?_, hp.below⟩
      rw [HF.out, List.drop_length]; rfl
end Go.Proofs.YtcjbepaclbhjaaaGreat
/- The walks of the examples of Adopt. -/
namespace Go.Proofs.YtcjbepaclbhjaaaGreat
open Go.RowKit
theorem kE_succ (n : Nat) : kE (n + 1) = kE n ++ [En ((n : Int) + 1)] := by
  unfold kE
  rw [List.range_succ, List.map_append]; rfl
theorem grow_permR {B : Nat} {w0 w : World} {x : Blk} {RO : List Blk} (hp : Hp B w0 w (x :: RO)) : Hp B w0 w (x :: ([] ++ (RO ++ []))) := by simpa using hp
def RowP (w : World) (n : Nat) (e : Ending) (w' : World) : Prop := ∃ (a : Option Addr) (c : Nat) (R : List Blk), e = .returned (.slice a n c) ∧ n ≤ c ∧ Kept R (fun w => RowIs w a ((kE n).flatMap envL)) ∧ Hp w.heap.size w w' R
set_option maxRecDepth 100000 in
set_option maxHeartbeats 8000000 in
theorem row68 (n : Nat) (hn : n ≤ 4) (w : World) : Calls Tryz.prog 68 #[.int .i64 (n : Int)] w (RowP w n) := by
  obtain ⟨i0, hi0, hz0, hz1, hz2⟩ := info_parts info47
  have hp := Hp.start w
  go_enter Tryz.func68, Tryz.ntmps68
  go_wp2_with (first | go_skip | (first | (refine hA3 ?_; clear hp; intro b w1 hp) | refine hL0 ?_ | (refine hS0 ?_; clear hp; intro w1 hp)))
  go_loopg [4, 3] n (fun k i v wr => ∃ (j : Nat) (RO : List Blk), k + j = n ∧ i = .int .i64 ((j : Int) + 1) ∧ RowKit.Hid (OwnRow 47 11 v j ((kE j).flatMap envL) RO) ∧ Hp w.heap.size w wr RO)
  case atStart => exact ⟨0, [], by omega, rfl, Lib.hid (OwnRow.nil _ _), hp⟩
  case round =>
    clear hp
    obtain ⟨j, RO, hkj, rfl, HRO, hp⟩ := hrel
    by_cases hlt : j < n
    · have e1 : decide ((j : Int) + 1 ≤ (n : Int)) = true := by simp; omega
      have HL1 : RowKit.Hid (j + 1 ≤ maxLen) := Lib.hid (by unfold maxLen; omega)
      have HL2 : RowKit.Hid ((j + 1) * 88 ≤ 140737488355328) := Lib.hid (by omega)
      have e2 : wrap64 ((j : Int) + 1 + 1) = ((j + 1 : Nat) : Int) + 1 := by unfold wrap64; push_cast; omega
      go_wp2_with (first | ((with_reducible refine pre_append _ _ 22 rfl ?_); refine wpList_appendGrow (K := []) (R := RO) (M := []) (grow_permR hp) _ _ _ rfl wy i0 _ 88 Tryz.underlying22 hi0 hz0 hz1 hz2 rfl (by decide) (sTm rfl) HRO.out 1 1 (sTm rfl) (by rfl) (by decide) (by rfl) HL1.out HL2.out ?_; clear hp HRO; intro v' R' w1 hR' hp; obtain ⟨av, kv, rfl, _⟩ := hR'.kept; have HR' := Lib.hid hR'; clear hR'; simp only [List.cons_append, List.nil_append, List.append_nil] at hp; simp only [put_some, put_none, sSet, zSet]) | go_skip | (first | (refine hA3 ?_; clear hp; intro b w1 hp) | refine hL0 ?_ | (refine hS0 ?_; clear hp; intro w1 hp)))
      go_roundg (gk - 1)
      case measure => omega
      case rel => exact ⟨j + 1, R', by omega, congrArg (Value.int .i64) (by push_cast; omega), Lib.hid (by rw [kE_succ, List.flatMap_append]; exact HR'.out), hp⟩
    · obtain rfl : j = n := by omega
      have e1 : decide ((j : Int) + 1 ≤ (j : Int)) = false := by simp; omega
      obtain ⟨av, kv, rfl, hc, hk⟩ := HRO.out.keptC
      clear hkj hlt HRO
      go_wp2_with (first | go_skip | (first | (refine hA3 ?_; clear hp; intro b w1 hp) | refine hL0 ?_ | (refine hS0 ?_; clear hp; intro w1 hp)))
      go_ret
      exact ⟨av, kv, RO, rfl, hc, hk, hp⟩
theorem row_3 (w : World) : Calls Tryz.prog 68 #[.int .i64 3] w (RowP w 3) := row68 3 (by decide) w
set_option maxRecDepth 100000 in
theorem three46 (w : World) : Calls Tryz.prog 46 #[] w (KeptP w 3) := by
  have hp := Hp.start w
  go_enter Tryz.func46, Tryz.ntmps46
  go_wp2_with (first | (go_at_call 69; (with_reducible refine (newo_3 _).mono ?_); rintro e w1 ⟨rfl, hb⟩; replace hp := hp.call hb; clear hb) | (go_at_call 68; (with_reducible refine (row_3 _).mono ?_); rintro e w1 ⟨a3, c3, RK, rfl, hc3, hk3, hpn⟩; replace hp := hp.join hpn; have HC := Lib.hid hc3; have HK := Lib.hid hk3; clear hpn hc3 hk3; simp only [List.cons_append, List.nil_append] at hp) | go_skip | (first | (refine hA1 ?_; clear hp; intro b w1 hp) | refine hL0 ?_ | (refine hS0 ?_; clear hp; intro w1 hp)))
  exact bodyPost_ret (results_one (rs := [.cell 0 24]) Tryz.results46 (.cell rfl (hp.loadAgg agg24 at1 0 _ (by rfl) (by rfl)) .nil)) rfl ⟨a3, c3, RK, rfl, HC.out, HK.out, hp.kp⟩
end Go.Proofs.YtcjbepaclbhjaaaGreat
