/- table.Apply of any state and entry. -/
import Derived.Test.YtppdjlgjcdmiaaaGreatYA
set_option linter.unusedSimpArgs false
set_option linter.unusedVariables false
namespace Go.Proofs.YtppdjlgjcdmiaaaGreat
open Go.RowKit
theorem apply17L (od : Int) (oa : Option Addr) (os : List Ob) (oc : Nat) (nx t0 t1 t2 t3 : Int) (fa : Option Addr) (fs : List Bl) (fc : Nat) (ra : Option Addr) (rs : List Rw) (rc : Nat) (nu vi cl sq kk hh ii nn cc vv tt : Int) (r : Sv × Int × Int)
    (hr : applyP ⟨⟨od, oa, os, oc, nx, t0, t1, t2, t3, fa, fs, fc⟩, ra, rs, rc⟩ ⟨nu, vi, cl, sq, ⟨kk, hh, ii, nn, cc, vv, tt⟩⟩ = r) (hs : Sv.Small ⟨⟨od, oa, os, oc, nx, t0, t1, t2, t3, fa, fs, fc⟩, ra, rs, rc⟩) (w : World) (hx0 : Sv.Is w ⟨⟨od, oa, os, oc, nx, t0, t1, t2, t3, fa, fs, fc⟩, ra, rs, rc⟩) : Calls Tryz.prog 17 #[.agg #[.int .i64 od, .slice oa os.length oc, .int .i64 nx, .int .i64 t0, .int .i64 t1, .int .i64 t2, .int .i64 t3, .slice fa fs.length fc, .slice ra rs.length rc], .agg #[.int .i64 nu, .int .i64 vi, .int .i64 cl, .int .i64 sq, .int .i64 kk, .int .i64 hh, .int .i64 ii, .int .i64 nn, .int .i64 cc, .int .i64 vv, .int .i64 tt]] w (ApplyPost w r) := by
  subst hr
  cases h1 : stB ⟨⟨od, oa, os, oc, nx, t0, t1, t2, t3, fa, fs, fc⟩, ra, rs, rc⟩ with
  | false =>
    have e : applyP ⟨⟨od, oa, os, oc, nx, t0, t1, t2, t3, fa, fs, fc⟩, ra, rs, rc⟩ ⟨nu, vi, cl, sq, ⟨kk, hh, ii, nn, cc, vv, tt⟩⟩ = (zeroSv, 1, 0) := by unfold applyP; rw [if_neg (by rw [h1]; simp)]
    rw [e]
    exact apply17_no od oa os oc nx t0 t1 t2 t3 fa fs fc ra rs rc nu vi cl sq kk hh ii nn cc vv tt hs w hx0 (.inl h1)
  | true =>
    cases h2 : mayE ⟨nu, vi, cl, sq, ⟨kk, hh, ii, nn, cc, vv, tt⟩⟩ with
    | false =>
      have e : applyP ⟨⟨od, oa, os, oc, nx, t0, t1, t2, t3, fa, fs, fc⟩, ra, rs, rc⟩ ⟨nu, vi, cl, sq, ⟨kk, hh, ii, nn, cc, vv, tt⟩⟩ = (zeroSv, 1, 0) := by unfold applyP; rw [if_neg (by rw [h2]; simp)]
      rw [e]
      exact apply17_no od oa os oc nx t0 t1 t2 t3 fa fs fc ra rs rc nu vi cl sq kk hh ii nn cc vv tt hs w hx0 (.inr ⟨h1, h2⟩)
    | true =>
      have e : applyP ⟨⟨od, oa, os, oc, nx, t0, t1, t2, t3, fa, fs, fc⟩, ra, rs, rc⟩ ⟨nu, vi, cl, sq, ⟨kk, hh, ii, nn, cc, vv, tt⟩⟩ = applyC ⟨⟨od, oa, os, oc, nx, t0, t1, t2, t3, fa, fs, fc⟩, ra, rs, rc⟩ cl sq ⟨kk, hh, ii, nn, cc, vv, tt⟩ := by unfold applyP; rw [if_pos ⟨h1, h2⟩]
      rw [e]
      have hst := st_of h1
      obtain ⟨⟨⟨r1, r2, r3, r4⟩, b⟩, hf⟩ : ∃ q, findR rs cl = q := ⟨_, rfl⟩
      unfold applyC
      simp only [hf]
      by_cases hA : sq < r2
      · rw [if_pos hA]
        exact apply17_same od oa os oc nx t0 t1 t2 t3 fa fs fc ra rs rc nu vi cl sq kk hh ii nn cc vv tt hs w hx0 h1 h2 r1 r2 r3 r4 b hf 0 130 0 (.inl ⟨decide_eq_true hA, rfl, rfl⟩)
      · rw [if_neg hA]
        by_cases hC : cl = 0
        · rw [if_pos (.inl hC)]
          exact apply17_same od oa os oc nx t0 t1 t2 t3 fa fs fc ra rs rc nu vi cl sq kk hh ii nn cc vv tt hs w hx0 h1 h2 r1 r2 r3 r4 b hf 0 r3 r4 (.inr (.inl ⟨decide_eq_false hA, by simp [hC], rfl, rfl⟩))
        · by_cases hE : r2 = sq
          · rw [if_pos (.inr hE)]
            exact apply17_same od oa os oc nx t0 t1 t2 t3 fa fs fc ra rs rc nu vi cl sq kk hh ii nn cc vv tt hs w hx0 h1 h2 r1 r2 r3 r4 b hf 0 r3 r4 (.inr (.inr ⟨decide_eq_false hA, by simp [hC], by simp [hE], rfl, rfl⟩))
          · rw [if_neg (by intro h; rcases h with h | h; exact hC h; exact hE h)]
            obtain ⟨⟨s, c, v⟩, hd⟩ : ∃ q, doC ⟨od, oa, os, oc, nx, t0, t1, t2, t3, fa, fs, fc⟩ ⟨kk, hh, ii, nn, cc, vv, tt⟩ = q := ⟨_, rfl⟩
            have hd' : doP ⟨od, oa, os, oc, nx, t0, t1, t2, t3, fa, fs, fc⟩ ⟨kk, hh, ii, nn, cc, vv, tt⟩ = (s, c, v) := by rw [doP_yes hst.hv]; exact hd
            rw [hd]
            obtain ⟨k, hat⟩ := at_exR (rowsOk_sorted hst.rows) cl
            cases hb : hasBR rs cl k with
            | true => exact apply17_has od oa os oc nx t0 t1 t2 t3 fa fs fc ra rs rc nu vi cl sq kk hh ii nn cc vv tt hs w hx0 h1 h2 r1 r2 r3 r4 b hf s c v (decide_eq_false hA) (by simp [hC]) (by simp [hE]) hd' k hat hb
            | false => exact apply17_put od oa os oc nx t0 t1 t2 t3 fa fs fc ra rs rc nu vi cl sq kk hh ii nn cc vv tt hs w hx0 h1 h2 r1 r2 r3 r4 b hf s c v (decide_eq_false hA) (by simp [hC]) (by simp [hE]) hd' k hat hb
def ApplyPostV (w : World) (c v : Int) (e : Ending) (w' : World) : Prop := ∃ y R, e = .returned (.tuple #[.agg (svL y).toArray, .agg #[.int .i64 c, .int .i64 v]]) ∧ Hp w.heap.size w w' R
theorem apply17V (od : Int) (oa : Option Addr) (os : List Ob) (oc : Nat) (nx t0 t1 t2 t3 : Int) (fa : Option Addr) (fs : List Bl) (fc : Nat) (ra : Option Addr) (rs : List Rw) (rc : Nat) (nu vi cl sq kk hh ii nn cc vv tt c v : Int)
    (hr : (applyP ⟨⟨od, oa, os, oc, nx, t0, t1, t2, t3, fa, fs, fc⟩, ra, rs, rc⟩ ⟨nu, vi, cl, sq, ⟨kk, hh, ii, nn, cc, vv, tt⟩⟩).2 = (c, v)) (hs : Sv.Small ⟨⟨od, oa, os, oc, nx, t0, t1, t2, t3, fa, fs, fc⟩, ra, rs, rc⟩) (w : World) (hx0 : Sv.Is w ⟨⟨od, oa, os, oc, nx, t0, t1, t2, t3, fa, fs, fc⟩, ra, rs, rc⟩) : Calls Tryz.prog 17 #[.agg #[.int .i64 od, .slice oa os.length oc, .int .i64 nx, .int .i64 t0, .int .i64 t1, .int .i64 t2, .int .i64 t3, .slice fa fs.length fc, .slice ra rs.length rc], .agg #[.int .i64 nu, .int .i64 vi, .int .i64 cl, .int .i64 sq, .int .i64 kk, .int .i64 hh, .int .i64 ii, .int .i64 nn, .int .i64 cc, .int .i64 vv, .int .i64 tt]] w (ApplyPostV w c v) :=
  (apply17L od oa os oc nx t0 t1 t2 t3 fa fs fc ra rs rc nu vi cl sq kk hh ii nn cc vv tt _ rfl hs w hx0).mono fun _ _ ⟨y, R, he, _, _, _, hp⟩ => ⟨y, R, by rw [hr] at he; exact he, hp⟩
theorem same19L (odx : Int) (oax : Option Addr) (osx : List Ob) (ocx : Nat) (nxx t0x t1x t2x t3x : Int) (fax : Option Addr) (fsx : List Bl) (fcx : Nat) (rax : Option Addr) (rsx : List Rw) (rcx : Nat) (ody : Int) (oay : Option Addr) (osy : List Ob) (ocy : Nat) (nxy t0y t1y t2y t3y : Int) (fay : Option Addr) (fsy : List Bl) (fcy : Nat) (ray : Option Addr) (rsy : List Rw) (rcy : Nat) (hs : Sv.Small ⟨⟨odx, oax, osx, ocx, nxx, t0x, t1x, t2x, t3x, fax, fsx, fcx⟩, rax, rsx, rcx⟩) (hxy : Sv.Sm ⟨⟨odx, oax, osx, ocx, nxx, t0x, t1x, t2x, t3x, fax, fsx, fcx⟩, rax, rsx, rcx⟩ ⟨⟨ody, oay, osy, ocy, nxy, t0y, t1y, t2y, t3y, fay, fsy, fcy⟩, ray, rsy, rcy⟩) (w : World) (hx0 : Sv.Is w ⟨⟨odx, oax, osx, ocx, nxx, t0x, t1x, t2x, t3x, fax, fsx, fcx⟩, rax, rsx, rcx⟩) (hy0 : Sv.Is w ⟨⟨ody, oay, osy, ocy, nxy, t0y, t1y, t2y, t3y, fay, fsy, fcy⟩, ray, rsy, rcy⟩) :
    Calls Tryz.prog 19 #[.agg #[.int .i64 odx, .slice oax osx.length ocx, .int .i64 nxx, .int .i64 t0x, .int .i64 t1x, .int .i64 t2x, .int .i64 t3x, .slice fax fsx.length fcx, .slice rax rsx.length rcx], .agg #[.int .i64 ody, .slice oay osy.length ocy, .int .i64 nxy, .int .i64 t0y, .int .i64 t1y, .int .i64 t2y, .int .i64 t3y, .slice fay fsy.length fcy, .slice ray rsy.length rcy]] w fun e w' => e = .returned (.bool true) ∧ Below w.heap.size w w' := same19 _ _ hs hxy w hx0 hy0
theorem big15L (od : Int) (oa : Option Addr) (os : List Ob) (oc : Nat) (nx t0 t1 t2 t3 : Int) (fa : Option Addr) (fs : List Bl) (fc : Nat) (ra : Option Addr) (rs : List Rw) (rc : Nat) (w : World) (hx0 : Sv.Is w ⟨⟨od, oa, os, oc, nx, t0, t1, t2, t3, fa, fs, fc⟩, ra, rs, rc⟩) : Calls Tryz.prog 15 #[.agg #[.int .i64 od, .slice oa os.length oc, .int .i64 nx, .int .i64 t0, .int .i64 t1, .int .i64 t2, .int .i64 t3, .slice fa fs.length fc, .slice ra rs.length rc]] w (BigPost6 w ⟨⟨od, oa, os, oc, nx, t0, t1, t2, t3, fa, fs, fc⟩, ra, rs, rc⟩) := big15 _ w hx0
end Go.Proofs.YtppdjlgjcdmiaaaGreat
