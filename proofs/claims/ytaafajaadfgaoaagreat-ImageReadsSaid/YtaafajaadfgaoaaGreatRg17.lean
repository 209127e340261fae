/- Parts of the proof. -/
import Derived.Test.YtaafajaadfgaoaaGreatRg16
import Derived.Test.YtaafajaadfgaoaaGreatRg14
import Derived.Test.YtaafajaadfgaoaaGreatRg2
import Derived.Test.YtaafajaadfgaoaaGreatRg7
import Derived.Test.YtaafajaadfgaoaaGreatRg12
import Derived.Test.YtaafajaadfgaoaaGreatRg6
import Derived.Test.YtaafajaadfgaoaaGreatRg10
import Derived.Test.YtaafajaadfgaoaaGreatRg9
open List renaming set_cons_zero → zSet, set_cons_succ → sSet
/- The walk of New, and what the examples lay. -/
set_option linter.unusedSimpArgs false
set_option linter.unusedVariables false
namespace Go.Proofs.YtaafajaadfgaoaaGreat
open Go.RowKit
def st3 : Sv := ⟨oneHv 3, none, [], 0⟩
end Go.Proofs.YtaafajaadfgaoaaGreat
/- What comes of an entry that comes again, of a client's next one, and of many: the plain laws. No program in sight. -/
namespace Go.Proofs.YtaafajaadfgaoaaGreat
theorem zeroSv_small : zeroSv.Small := ⟨zero_small, by simp [zeroSv]⟩
end Go.Proofs.YtaafajaadfgaoaaGreat
/- Runs of entries over a state: the plain laws. No program in sight. -/
namespace Go.Proofs.YtaafajaadfgaoaaGreat
theorem stB_zero : stB zeroSv = false := by unfold stB; rw [show zeroSv.hv = zeroHv from rfl, hright_zero]; rfl
end Go.Proofs.YtaafajaadfgaoaaGreat
/- Words stay in range: the plain law. No program in sight. -/
namespace Go.Proofs.YtaafajaadfgaoaaGreat
open Go.RowKit
theorem w64_sm {x y : Hv} (h : x.Sm y) (hw : x.W64) : y.W64 := by
  intro o ho v hv
  obtain ⟨i, hi, rfl⟩ := List.getElem_of_mem ho
  have hb := List.getElem?_eq_getElem hi
  have ha := List.getElem?_eq_getElem (l := x.os) (i := i) (by have := h.os.1; omega)
  have hs := h.os.2 i _ _ ha hb
  exact hw _ (List.getElem_mem _) v (by rw [hs.2.2.2.1]; exact hv)
theorem repR_all {α : Type} {one : List Nat → Option (α × List Nat)} {P : α → Prop} (h1 : ∀ bs x r, one bs = some (x, r) → P x) : ∀ {n : Nat} {bs : List Nat} {l : List α} {r : List Nat}, repR one n bs = some (l, r) → ∀ x ∈ l, P x
  | 0, bs, l, r, h, x, hx => by
    unfold repR at h
    injection h with h; injection h with h _
    subst h; cases hx
  | n + 1, bs, l, r, h, x, hx => by
    unfold repR at h
    cases e1 : repR one n bs with
    | none => rw [e1] at h; cases h
    | some p =>
      obtain ⟨l1, b1⟩ := p
      rw [e1] at h
      simp only at h
      cases e2 : one b1 with
      | none => rw [e2] at h; cases h
      | some q =>
        obtain ⟨y, b2⟩ := q
        rw [e2] at h
        injection h with h; injection h with h _
        subst h
        rcases List.mem_append.1 hx with hx | hx
        · exact repR_all h1 e1 x hx
        · rw [List.mem_singleton.1 hx]; exact h1 _ _ _ e2
theorem objR_64 {bs r : List Nat} {o : Ob} (h : objR bs = some (o, r)) : ∀ v ∈ o.ws, I64 v := by
  unfold objR at h
  cases e1 : nR bs with
  | none => rw [e1] at h; cases h
  | some p1 =>
    obtain ⟨a1, b1⟩ := p1
    rw [e1] at h; simp only at h
    cases e2 : nR b1 with
    | none => rw [e2] at h; cases h
    | some p2 =>
      obtain ⟨a2, b2⟩ := p2
      rw [e2] at h; simp only at h
      cases e3 : nR b2 with
      | none => rw [e3] at h; cases h
      | some p3 =>
        obtain ⟨a3, b3⟩ := p3
        rw [e3] at h; simp only at h
        cases e4 : nR b3 with
        | none => rw [e4] at h; cases h
        | some p4 =>
          obtain ⟨a4, b4⟩ := p4
          rw [e4] at h; simp only at h
          split at h
          · cases h
          · cases e5 : repR iR a3.toNat b4 with
            | none => rw [e5] at h; cases h
            | some p5 =>
              obtain ⟨a5, b5⟩ := p5
              rw [e5] at h; simp only at h
              cases e6 : repR nR a4.toNat b5 with
              | none => rw [e6] at h; cases h
              | some p6 =>
                obtain ⟨a6, b6⟩ := p6
                rw [e6] at h; simp only at h
                injection h with h; injection h with h _
                subst h
                exact repR_all (P := I64) (fun bs x r h => iR_64 h) e5
theorem heapR0_64 {bs r : List Nat} {x : Hv} (h : heapR0 bs = some (x, r)) : x.W64 := by
  unfold heapR0 at h
  cases e1 : nR bs with
  | none => rw [e1] at h; cases h
  | some p1 =>
    obtain ⟨a1, b1⟩ := p1
    rw [e1] at h; simp only at h
    cases e2 : nR b1 with
    | none => rw [e2] at h; cases h
    | some p2 =>
      obtain ⟨a2, b2⟩ := p2
      rw [e2] at h; simp only at h
      unfold heapR1 at h
      cases e3 : repR nR 4 b2 with
      | none => rw [e3] at h; cases h
      | some p3 =>
        obtain ⟨a3, b3⟩ := p3
        rw [e3] at h; simp only at h
        unfold heapR2 at h
        cases e4 : nR b3 with
        | none => rw [e4] at h; cases h
        | some p4 =>
          obtain ⟨a4, b4⟩ := p4
          rw [e4] at h; simp only at h
          split at h
          · cases h
          · cases e5 : repR objR a4.toNat b4 with
            | none => rw [e5] at h; cases h
            | some p5 =>
              obtain ⟨a5, b5⟩ := p5
              rw [e5] at h; simp only at h
              unfold heapR3 at h
              split at h
              · split at h
                · injection h with h; injection h with h _
                  subst h
                  exact repR_all (P := fun o : Ob => ∀ v ∈ o.ws, I64 v) (fun bs x r h => objR_64 h) e5
                · cases h
              · cases h
theorem rowR_64 {bs r : List Nat} {x : Rw} (h : rowR bs = some (x, r)) : I64 x.v := by
  unfold rowR at h
  cases e1 : nR bs with
  | none => rw [e1] at h; cases h
  | some p1 =>
    obtain ⟨a1, b1⟩ := p1
    rw [e1] at h; simp only at h
    cases e2 : nR b1 with
    | none => rw [e2] at h; cases h
    | some p2 =>
      obtain ⟨a2, b2⟩ := p2
      rw [e2] at h; simp only at h
      cases e3 : nR b2 with
      | none => rw [e3] at h; cases h
      | some p3 =>
        obtain ⟨a3, b3⟩ := p3
        rw [e3] at h; simp only at h
        cases e4 : iR b3 with
        | none => rw [e4] at h; cases h
        | some p4 =>
          obtain ⟨a4, b4⟩ := p4
          rw [e4] at h; simp only at h
          injection h with h; injection h with h _
          subst h
          exact iR_64 e4
theorem stateR_right {bs : List Nat} {x : Sv} (h : stateR bs = some x) : StR x ∧ x.W64 := by
  unfold stateR wholeR at h
  split at h
  · rename_i y r hy
    split at h
    · injection h with h
      subst h
      unfold stateR0 at hy
      cases e1 : textR bs with
      | none => rw [e1] at hy; cases hy
      | some p1 =>
        obtain ⟨a1, b1⟩ := p1
        rw [e1] at hy; simp only at hy
        cases e2 : heapR a1 with
        | none => rw [e2] at hy; cases hy
        | some z =>
          rw [e2] at hy; simp only at hy
          have hz : z.W64 := by
            unfold heapR wholeR at e2
            split at e2
            · rename_i u ru hu
              split at e2
              · injection e2 with e2
                subst e2
                exact heapR0_64 hu
              · cases e2
            · cases e2
          unfold stateR1 at hy
          cases e3 : nR b1 with
          | none => rw [e3] at hy; cases hy
          | some p3 =>
            obtain ⟨a3, b3⟩ := p3
            rw [e3] at hy; simp only at hy
            split at hy
            · cases hy
            · cases e5 : repR rowR a3.toNat b3 with
              | none => rw [e5] at hy; cases hy
              | some p5 =>
                obtain ⟨a5, b5⟩ := p5
                rw [e5] at hy; simp only at hy
                split at hy
                · rename_i hb
                  injection hy with hy; injection hy with hy _
                  subst hy
                  exact ⟨st_of hb, hz, repR_all (P := fun r : Rw => I64 r.v) (fun bs x r h => rowR_64 h) e5⟩
                · cases hy
    · cases h
  · cases h
end Go.Proofs.YtaafajaadfgaoaaGreat
/- table.Apply of any state and entry. -/
namespace Go.Proofs.YtaafajaadfgaoaaGreat
open Go.RowKit
theorem same26L (odx : Int) (oax : Option Addr) (osx : List Ob) (ocx : Nat) (nxx t0x t1x t2x t3x : Int) (fax : Option Addr) (fsx : List Bl) (fcx : Nat) (rax : Option Addr) (rsx : List Rw) (rcx : Nat) (ody : Int) (oay : Option Addr) (osy : List Ob) (ocy : Nat) (nxy t0y t1y t2y t3y : Int) (fay : Option Addr) (fsy : List Bl) (fcy : Nat) (ray : Option Addr) (rsy : List Rw) (rcy : Nat) (hs : Sv.Small ⟨⟨odx, oax, osx, ocx, nxx, t0x, t1x, t2x, t3x, fax, fsx, fcx⟩, rax, rsx, rcx⟩) (hxy : Sv.Sm ⟨⟨odx, oax, osx, ocx, nxx, t0x, t1x, t2x, t3x, fax, fsx, fcx⟩, rax, rsx, rcx⟩ ⟨⟨ody, oay, osy, ocy, nxy, t0y, t1y, t2y, t3y, fay, fsy, fcy⟩, ray, rsy, rcy⟩) (w : World) (hx0 : Sv.Is w ⟨⟨odx, oax, osx, ocx, nxx, t0x, t1x, t2x, t3x, fax, fsx, fcx⟩, rax, rsx, rcx⟩) (hy0 : Sv.Is w ⟨⟨ody, oay, osy, ocy, nxy, t0y, t1y, t2y, t3y, fay, fsy, fcy⟩, ray, rsy, rcy⟩) :
    Calls Tryz.prog 26 #[.agg #[.int .i64 odx, .slice oax osx.length ocx, .int .i64 nxx, .int .i64 t0x, .int .i64 t1x, .int .i64 t2x, .int .i64 t3x, .slice fax fsx.length fcx, .slice rax rsx.length rcx], .agg #[.int .i64 ody, .slice oay osy.length ocy, .int .i64 nxy, .int .i64 t0y, .int .i64 t1y, .int .i64 t2y, .int .i64 t3y, .slice fay fsy.length fcy, .slice ray rsy.length rcy]] w fun e w' => e = .returned (.bool true) ∧ Below w.heap.size w w' := same26 _ _ hs hxy w hx0 hy0
end Go.Proofs.YtaafajaadfgaoaaGreat
/- The walk of State. -/
namespace Go.Proofs.YtaafajaadfgaoaaGreat
open Go.RowKit
theorem SvO.kept2 {y : Sv} {R : List Blk} (h : SvO y R) : Kept R fun w => y.Is w := by
  obtain ⟨RR, RH, rfl, h1, h2⟩ := h
  obtain ⟨a, c, hv, hk⟩ := h1.kept
  injection hv with e1 e2 e3
  rw [← e1] at hk
  intro B w0 w L hp hm
  exact ⟨h2.kept.at hp (fun p hp2 => hm p (List.mem_append_right _ hp2)), hk.at hp (fun p hp2 => hm p (List.mem_append_left _ hp2))⟩
end Go.Proofs.YtaafajaadfgaoaaGreat
/- The chapter's examples of states; the walk of the law ImageApart. -/
namespace Go.Proofs.YtaafajaadfgaoaaGreat
open Go.RowKit
theorem ceXA0 {ty : TypeId} (h : cellB Tryz.prog ty = true := by with_reducible first | exact cell3 | exact cell4 | exact cell37 | exact cell57 | exact cell48) : cellB Tryz.prog ty = true := h
theorem rowB_bytes (r : Rw) : Bytes (rowB r) := by unfold rowB; exact (bn4_bytes _).app (bi8_bytes _)
theorem stateB_bytes (x : Sv) : Bytes (stateB x) := by
  unfold stateB
  refine Bytes.app (Bytes.app (beS_bytes 4 _) (heapB_bytes _)) (Bytes.app (bn4_bytes _) fun y hy => ?_)
  obtain ⟨r, _, h⟩ := List.mem_flatMap.1 hy
  exact rowB_bytes r y h
theorem puts_no (od : Int) (oa : Option Addr) (os : List Ob) (oc : Nat) (nx t0 t1 t2 t3 : Int) (fa : Option Addr) (fs : List Bl) (fc : Nat) (ra : Option Addr) (rs : List Rw) (rc : Nat) (hb : stB ⟨⟨od, oa, os, oc, nx, t0, t1, t2, t3, fa, fs, fc⟩, ra, rs, rc⟩ = false) (hs : Sv.Small ⟨⟨od, oa, os, oc, nx, t0, t1, t2, t3, fa, fs, fc⟩, ra, rs, rc⟩) (w : World) (hx0 : Sv.Is w ⟨⟨od, oa, os, oc, nx, t0, t1, t2, t3, fa, fs, fc⟩, ra, rs, rc⟩) :
    Calls Tryz.prog 22 #[.agg #[.int .i64 od, .slice oa os.length oc, .int .i64 nx, .int .i64 t0, .int .i64 t1, .int .i64 t2, .int .i64 t3, .slice fa fs.length fc, .slice ra rs.length rc]] w fun e w' => e = .returned (.tuple #[.slice none 0 0, .int .i64 60]) ∧ Below w.heap.size w w' := puts22_no _ hb hs w hx0
theorem puts_yes (od : Int) (oa : Option Addr) (os : List Ob) (oc : Nat) (nx t0 t1 t2 t3 : Int) (fa : Option Addr) (fs : List Bl) (fc : Nat) (ra : Option Addr) (rs : List Rw) (rc : Nat) (bs : List Nat) (hbs : stateB ⟨⟨od, oa, os, oc, nx, t0, t1, t2, t3, fa, fs, fc⟩, ra, rs, rc⟩ = bs) (hb : stB ⟨⟨od, oa, os, oc, nx, t0, t1, t2, t3, fa, fs, fc⟩, ra, rs, rc⟩ = true) (w : World) (hx0 : Sv.Is w ⟨⟨od, oa, os, oc, nx, t0, t1, t2, t3, fa, fs, fc⟩, ra, rs, rc⟩) :
    Calls Tryz.prog 22 #[.agg #[.int .i64 od, .slice oa os.length oc, .int .i64 nx, .int .i64 t0, .int .i64 t1, .int .i64 t2, .int .i64 t3, .slice fa fs.length fc, .slice ra rs.length rc]] w fun e w' => ∃ a c m R, e = .returned (.tuple #[.slice a m c, .int .i64 0]) ∧ bs.length = m ∧ m ≤ c ∧ SubRow 5 1 (.slice a m c) m (bs.flatMap byV) R ∧ Kept R (fun w => RdAt w a bs) ∧ Hp w.heap.size w w' R := by
  subst hbs
  refine (puts22_yes _ hb w hx0).mono fun e w' h => ?_
  obtain ⟨a, c, R, h1, h2, h3⟩ := h
  have hby : Bytes (stateB ⟨⟨od, oa, os, oc, nx, t0, t1, t2, t3, fa, fs, fc⟩, ra, rs, rc⟩) := stateB_bytes _
  exact ⟨a, c, _, R, h1, rfl, h2.cap rfl, h2, h2.keptS.mono (fun _ hp => hp) fun w hw => ⟨hw, hby⟩, h3⟩
def sx3 (ra : Option Addr) (y : Hv) : Sv := ⟨y, ra, [⟨1, 2, 0, -3⟩], 1⟩
theorem sx3_right {y : Hv} (h : y.Sm (oneHv 3)) (ra : Option Addr) : stB (sx3 ra y) = true := by
  unfold stB sx3
  rw [hright_sm h, right_one3]
  kernel_rfl
theorem sx3_W64 {y : Hv} (h : y.Sm (oneHv 3)) (ra : Option Addr) : (sx3 ra y).W64 := by
  refine ⟨w64_sm h.symm (fun o ho => by cases ho), fun r hr => ?_⟩
  have : r = ⟨1, 2, 0, -3⟩ := by simpa [sx3] using hr
  subst this
  exact ⟨by decide, by decide⟩
theorem puts_sx (od : Int) (oa : Option Addr) (os : List Ob) (oc : Nat) (nx t0 t1 t2 t3 : Int) (fa : Option Addr) (fs : List Bl) (fc : Nat) (ra : Option Addr) (h : Hv.Sm ⟨od, oa, os, oc, nx, t0, t1, t2, t3, fa, fs, fc⟩ (oneHv 3)) (w : World) (hx : Hv.Is w ⟨od, oa, os, oc, nx, t0, t1, t2, t3, fa, fs, fc⟩) (hr : RowIs w ra [.int .i64 1, .int .i64 2, .int .i64 0, .int .i64 (-3)]) :
    Calls Tryz.prog 22 #[.agg #[.int .i64 od, .slice oa os.length oc, .int .i64 nx, .int .i64 t0, .int .i64 t1, .int .i64 t2, .int .i64 t3, .slice fa fs.length fc, .slice ra 1 1]] w fun e w' => ∃ a c m R, e = .returned (.tuple #[.slice a m c, .int .i64 0]) ∧ (stateB (sx3 ra ⟨od, oa, os, oc, nx, t0, t1, t2, t3, fa, fs, fc⟩)).length = m ∧ m ≤ c ∧ Kept R (fun w => RdAt w a (stateB (sx3 ra ⟨od, oa, os, oc, nx, t0, t1, t2, t3, fa, fs, fc⟩))) ∧ Hp w.heap.size w w' R :=
  (puts_yes od oa os oc nx t0 t1 t2 t3 fa fs fc ra [⟨1, 2, 0, -3⟩] 1 _ rfl (sx3_right h ra) w ⟨hx, hr⟩).mono fun e w' ⟨a, c, m, R, h1, h2, h3, _, h5, h6⟩ => ⟨a, c, m, R, h1, h2, h3, h5, h6⟩
theorem gets_sx {y : Hv} (ra : Option Addr) (h : y.Sm (oneHv 3)) (a : Option Addr) (m c : Nat) (hm : (stateB (sx3 ra y)).length = m) (hmc : m ≤ c) (w : World) (ha : RdAt w a (stateB (sx3 ra y))) :
    Calls Tryz.prog 37 #[.slice a m c] w fun e w' => ∃ od oa on oc nx t0 t1 t2 t3 fa fn fc b off rc R, e = .returned (.tuple #[.agg #[.int .i64 od, .slice oa on oc, .int .i64 nx, .int .i64 t0, .int .i64 t1, .int .i64 t2, .int .i64 t3, .slice fa fn fc, .slice (some ⟨b, off, none⟩) 1 rc], .int .i64 0]) ∧ Kept R (fun w => w.cell? ⟨b, off + 3, none⟩ = some (.int .i64 (-3))) ∧ Hp w.heap.size w w' R := by
  subst hm
  have hst := st_of (sx3_right h ra)
  have hlen : (stateB (sx3 ra y)).length ≤ 1000000000 := by
    have h1 := heapB_len hst.hv
    unfold stateB
    rw [List.length_append, List.length_append, List.length_append, beS_len, bn4_len, rowsB_len]
    have : (sx3 ra y).rs.length = 1 := rfl
    rw [this]
    simp only [List.length_cons, List.length_nil]; omega
  refine (gets37 _ a c hmc hlen w ha).mono fun e w' h2 => ?_
  rw [stateR_put hst (sx3_W64 h ra)] at h2
  obtain ⟨z, R, h3, h4, h5, h6⟩ := h2
  have hk := h5.kept2
  obtain ⟨⟨od, oa, os, oc, nx, t0, t1, t2, t3, fa, fs, fc⟩, ra2, rs2, rc2⟩ := z
  have hrs : rs2 = [⟨1, 2, 0, -3⟩] := h4.2
  subst hrs
  have hr := (hk.now h6).2
  obtain ⟨b, off, hra, _⟩ := hr.elems 4 rwV_len Nat.zero_lt_one (by decide)
  simp only at hra
  subst hra
  exact ⟨od, oa, _, oc, nx, t0, t1, t2, t3, fa, _, fc, b, off, rc2, R, h3, hk.mono (fun p hp => hp) (fun w hw => RowIs.fixC hw.2 3 _ rfl), h6⟩
theorem check_sx (od : Int) (oa : Option Addr) (os : List Ob) (oc : Nat) (nx t0 t1 t2 t3 : Int) (fa : Option Addr) (fs : List Bl) (fc : Nat) (ra : Option Addr) (h : Hv.Sm ⟨od, oa, os, oc, nx, t0, t1, t2, t3, fa, fs, fc⟩ (oneHv 3)) (w : World) (hx : Hv.Is w ⟨od, oa, os, oc, nx, t0, t1, t2, t3, fa, fs, fc⟩) (hr : RowIs w ra [.int .i64 1, .int .i64 2, .int .i64 0, .int .i64 (-3)]) :
    Calls Tryz.prog 35 #[.agg #[.int .i64 od, .slice oa os.length oc, .int .i64 nx, .int .i64 t0, .int .i64 t1, .int .i64 t2, .int .i64 t3, .slice fa fs.length fc, .slice ra 1 1]] w fun e w' => e = .returned (.int .i64 0) ∧ Below w.heap.size w w' :=
  check35L od oa os oc nx t0 t1 t2 t3 fa fs fc ra [⟨1, 2, 0, -3⟩] 1 true (sx3_right h ra) (st_of (sx3_right h ra)).small w ⟨hx, hr⟩
theorem check_zero (w : World) : Calls Tryz.prog 35 #[.agg #[.int .i64 0, .slice none 0 0, .int .i64 0, .int .i64 0, .int .i64 0, .int .i64 0, .int .i64 0, .slice none 0 0, .slice none 0 0]] w fun e w' => e = .returned (.int .i64 60) ∧ Below w.heap.size w w' :=
  check35L 0 none [] 0 0 0 0 0 0 none [] 0 none [] 0 false stB_zero zeroSv_small w (is_none.at (Hp.start w) (fun p h => by cases h) |> fun h => ⟨h, RowIs.nil _ _⟩)
set_option maxRecDepth 100000 in
set_option maxHeartbeats 8000000 in
theorem states23 (w : World) : Calls Tryz.prog 23 #[] w fun e w' => e = .returned (.bool true) ∧ Below w.heap.size w w' := by
  have hp := Hp.start w
  go_enter Tryz.func23, Tryz.ntmps23
  go_wp2_with (first | (go_at_call 81; (with_reducible refine (newh_3 _).mono ?_); rintro e w1 ⟨od, oa, os, oc, nx, t0, t1, t2, t3, fa, fs, fc, RN, rfl, hsm, hk, hpn⟩; replace hp := hp.join hpn; have HSM := Lib.hid hsm; have HK := Lib.hid hk; clear hpn hsm hk; simp only [List.cons_append, List.nil_append] at hp) | (go_at_call 22; (with_reducible refine (puts_sx od oa os oc nx t0 t1 t2 t3 fa fs fc _ HSM.out _ (HK.out.at hp (fun p hm => by simp [hm])) (hp.rowIs at1)).mono ?_); rintro e w1 ⟨ab, cb, mb, RB, rfl, hmb, hcb, hkb, hpn⟩; replace hp := hp.join hpn; have HMB := Lib.hid hmb; have HCB := Lib.hid hcb; have HKB := Lib.hid hkb; clear hpn hcb hkb hmb; simp only [List.cons_append, List.nil_append] at hp) | (go_at_call 37; (with_reducible refine (gets_sx _ HSM.out ab mb cb HMB.out HCB.out _ (HKB.out.at hp (fun p hm => by simp [hm]))).mono ?_); rintro e w1 ⟨odX, oaX, onX, ocX, nxX, t0X, t1X, t2X, t3X, faX, fnX, fcX, bX, offX, rcX, RX, rfl, hkx, hpn⟩; replace hp := hp.join hpn; have HKX := Lib.hid hkx; clear hpn hkx; simp only [List.cons_append, List.nil_append] at hp) | (go_at_call 35; (with_reducible refine (check_sx od oa os oc nx t0 t1 t2 t3 fa fs fc _ HSM.out _ (HK.out.at hp (fun p hm => by simp [hm])) (hp.rowIs at2)).mono ?_); rintro e w1 ⟨rfl, hb⟩; replace hp := hp.call hb; clear hb) | (go_at_call 35; (with_reducible refine (check_zero _).mono ?_); rintro e w1 ⟨rfl, hb⟩; replace hp := hp.call hb; clear hb) | ((with_reducible refine pre_load 3 _ rfl ?_); refine lRO (Hp.start _) rfl (sTm rfl) cell3 (HKX.out.at hp (fun p hm => by simp [hm])) ?_; simp only [put_some, put_none, sSet, zSet]) | go_skip | ((first | ((with_reducible refine pre_alloc _ rfl ?_); refine lZ hp rfl (by with_reducible first | exact zero47 | exact zero50) ?_; clear hp; intro b w1 hp) | ((with_reducible refine pre_box _ _ rfl ?_); refine lB hp rfl (sTm rfl) rfl ?_; clear hp; intro b w1 hp) | ((with_reducible refine pre_load _ _ rfl ?_); first | refine lO hp rfl (sTm rfl) ceXA0 aa14 ?_ | refine lA hp rfl (sTm rfl) (by with_reducible first | exact agg47 | exact agg50) aa14 ?_) | ((with_reducible refine pre_store _ _ _ rfl ?_); (first | refine sO hp rfl (sTm rfl) ceXA0 aa14 ?_ | refine sA hp rfl (sTm rfl) (sTm rfl) (by with_reducible first | exact agg47 | exact agg50) aa14 ?_ | refine sG hp rfl (sTm rfl) (sTm rfl) (by with_reducible first | exact agg47 | exact agg50) aa14 ?_); clear hp; intro w1 hp; simp only [spl, zSet, sSet] at hp) | ((with_reducible refine pre_build _ _ _ rfl ?_); refine lS hp rfl (by intro w; go_simp; rfl) ?_; clear hp; intro b w1 hp; simp only [List.length_cons, List.length_nil, Nat.reduceAdd] at hp)); simp only [put_some, put_none, sSet, zSet]))
  go_ret
  exact ⟨rfl, hp.below⟩
end Go.Proofs.YtaafajaadfgaoaaGreat
/- The walks of the document that read an object. -/
namespace Go.Proofs.YtaafajaadfgaoaaGreat
open Go.RowKit
theorem ceGO0 {ty : TypeId} (h : cellB Tryz.prog ty = true := by with_reducible first | exact cell3 | exact cell4 | exact cell122) : cellB Tryz.prog ty = true := h
theorem NRel.zero_ {α : Type} (one : List Nat → Option (α × List Nat)) (st : Option (List Nat)) : NRel (repR one 0) st [] st := by
  cases st with
  | none => rfl
  | some b => exact ⟨rfl, rfl⟩
theorem NRel.step {α : Type} {one : List Nat → Option (α × List Nat)} {q : Nat} {st st1 st2 : Option (List Nat)} {l : List α} {x : α} (h1 : NRel (repR one q) st l st1) (h2 : NRel one st1 x st2) : NRel (repR one (q + 1)) st (l ++ [x]) st2 := by
  cases st with
  | none =>
    obtain rfl := h1.none_
    obtain rfl := h2.none_
    rfl
  | some b =>
    cases e1 : repR one q b with
    | none =>
      obtain rfl := h1.bad e1
      obtain rfl := h2.none_
      have e2 : repR one (q + 1) b = none := by unfold repR; rw [e1]
      unfold NRel
      rw [show (some b).bind (repR one (q + 1)) = none from e2]
    | some p =>
      obtain ⟨l0, b1⟩ := p
      obtain ⟨rfl, rfl⟩ := h1.good e1
      cases e2 : one b1 with
      | none =>
        obtain rfl := h2.bad e2
        unfold NRel
        rw [show (some b).bind (repR one (q + 1)) = none from repR_fail e1 e2 (q + 1) (Nat.lt_succ_self q)]
      | some p2 =>
        obtain ⟨x0, b2⟩ := p2
        obtain ⟨rfl, rfl⟩ := h2.good e2
        unfold NRel
        rw [show (some b).bind (repR one (q + 1)) = some (l ++ [x], b2) from repR_step e1 e2]
        exact ⟨rfl, rfl⟩
def ORel (st : Option (List Nat)) (y : Ob) (st' : Option (List Nat)) : Prop := match st.bind objR with
  | some (o, b1) => y.Sm o ∧ st' = some b1
  | none => st' = none
theorem orel_neg {st0 st1 st2 st3 st4 : Option (List Nat)} {h p nw nl : Int} (h1 : NRel nR st0 h st1) (h2 : NRel nR st1 p st2) (h3 : NRel nR st2 nw st3) (h4 : NRel nR st3 nl st4) (hn : needI nw nl < 0) (y : Ob) : ORel st0 y none := by
  cases st0 with
  | none => rfl
  | some b0 =>
    unfold ORel
    show match objR b0 with | some (o, b1) => y.Sm o ∧ none = some b1 | none => none = none
    unfold objR
    cases e1 : nR b0 with
    | none => first | rfl | trivial
    | some p1 =>
      obtain ⟨x1, b1⟩ := p1
      obtain ⟨rfl, rfl⟩ := h1.good e1
      simp only
      cases e2 : nR b1 with
      | none => first | rfl | trivial
      | some p2 =>
        obtain ⟨x2, b2⟩ := p2
        obtain ⟨rfl, rfl⟩ := h2.good e2
        simp only
        cases e3 : nR b2 with
        | none => first | rfl | trivial
        | some p3 =>
          obtain ⟨x3, b3⟩ := p3
          obtain ⟨rfl, rfl⟩ := h3.good e3
          simp only
          cases e4 : nR b3 with
          | none => first | rfl | trivial
          | some p4 =>
            obtain ⟨x4, b4⟩ := p4
            obtain ⟨rfl, rfl⟩ := h4.good e4
            simp only
            rw [if_pos hn]
            trivial
theorem orel_of {st0 st1 st2 st3 st4 st5 st6 : Option (List Nat)} {h p : Int} {nw nl : Nat} {ws ls : List Int} (h1 : NRel nR st0 h st1) (h2 : NRel nR st1 p st2) (h3 : NRel nR st2 (nw : Int) st3) (h4 : NRel nR st3 (nl : Int) st4)
    (hn : ¬ needI nw nl < 0) (h5 : NRel (repR iR nw) st4 ws st5) (h6 : NRel (repR nR nl) st5 ls st6) {y : Ob} (hy : y.Sm (mkOb h p (needI nw nl) ws ls)) : ORel st0 y st6 := by
  cases st0 with
  | none =>
    obtain rfl := h1.none_
    obtain rfl := h2.none_
    obtain rfl := h3.none_
    obtain rfl := h4.none_
    obtain rfl := h5.none_
    obtain rfl := h6.none_
    rfl
  | some b0 =>
    unfold ORel
    show match objR b0 with | some (o, b1) => y.Sm o ∧ st6 = some b1 | none => st6 = none
    unfold objR
    cases e1 : nR b0 with
    | none =>
      obtain rfl := h1.bad e1
      obtain rfl := h2.none_
      obtain rfl := h3.none_
      obtain rfl := h4.none_
      obtain rfl := h5.none_
      obtain rfl := h6.none_
      rfl
    | some p1 =>
      obtain ⟨x1, b1⟩ := p1
      obtain ⟨rfl, rfl⟩ := h1.good e1
      simp only
      cases e2 : nR b1 with
      | none =>
        obtain rfl := h2.bad e2
        obtain rfl := h3.none_
        obtain rfl := h4.none_
        obtain rfl := h5.none_
        obtain rfl := h6.none_
        rfl
      | some p2 =>
        obtain ⟨x2, b2⟩ := p2
        obtain ⟨rfl, rfl⟩ := h2.good e2
        simp only
        cases e3 : nR b2 with
        | none =>
          obtain rfl := h3.bad e3
          obtain rfl := h4.none_
          obtain rfl := h5.none_
          obtain rfl := h6.none_
          rfl
        | some p3 =>
          obtain ⟨x3, b3⟩ := p3
          obtain ⟨e, rfl⟩ := h3.good e3
          subst e
          simp only
          cases e4 : nR b3 with
          | none =>
            obtain rfl := h4.bad e4
            obtain rfl := h5.none_
            obtain rfl := h6.none_
            rfl
          | some p4 =>
            obtain ⟨x4, b4⟩ := p4
            obtain ⟨e, rfl⟩ := h4.good e4
            subst e
            simp only
            rw [if_neg hn, Int.toNat_natCast, Int.toNat_natCast]
            cases e5 : repR iR nw b4 with
            | none =>
              obtain rfl := h5.bad e5
              obtain rfl := h6.none_
              rfl
            | some p5 =>
              obtain ⟨x5, b5⟩ := p5
              obtain ⟨rfl, rfl⟩ := h5.good e5
              simp only
              cases e6 : repR nR nl b5 with
              | none =>
                obtain rfl := h6.bad e6
                rfl
              | some p6 =>
                obtain ⟨x6, b6⟩ := p6
                obtain ⟨rfl, rfl⟩ := h6.good e6
                exact ⟨hy, rfl⟩
def ObPostN (w0 : World) (br : Nat) (st : Option (List Nat)) (L : List Blk) (e : Ending) (w' : World) : Prop := ∃ y R st', e = .returned (.agg (obV y).toArray) ∧ ORel st y st' ∧ ObR y R ∧ y.ws.length ≤ 32 ∧ y.ls.length ≤ 16 ∧ NSt w0 br st' (R ++ L) w'
theorem rd_in {B : Nat} {w0 w : World} {x y r : Blk} {L : List Blk} (hp : Hp B w0 w (x :: y :: r :: L)) : Hp B w0 w (r :: x :: y :: L) := hp.kp
theorem rd_out {B : Nat} {w0 w : World} {x y r : Blk} {L : List Blk} (hp : Hp B w0 w (r :: x :: y :: L)) : Hp B w0 w (x :: y :: r :: L) := hp.kp
set_option maxRecDepth 100000 in
set_option maxHeartbeats 8000000 in
theorem obj114 (br : Nat) (st : Option (List Nat)) {w0 w : World} {L : List Blk} (hs : NSt w0 br st L w) :
    Calls Tryz.prog 114 #[.pointer (some ⟨br, 0, none⟩)] w (ObPostN w0 br st L) := by
  obtain ⟨i0, hi0, hz0, hz1, hz2⟩ := info_parts info3
  obtain ⟨a, bs, c, bad, hnc, ha, hni, hp⟩ := hs
  have HNC := Lib.hid hnc
  have HA := Lib.hid ha
  have HNI := Lib.hid hni
  clear hnc ha hni
  go_enter Tryz.func114, Tryz.ntmps114
  go_wp2_with (first | (go_at_call 113; have hst : NSt w0 br st _ _ := ⟨a, bs, c, bad, HNC.out, HA.out, HNI.out, rd_in hp⟩; (with_reducible refine (num113 br st hst).mono ?_); clear hst; clear hp HNC HA HNI; rintro e w1 ⟨xh, st1, hx1, rfl, hr1, a, bs, c, bad, hnc, ha, hni, hp⟩; have HR1 := Lib.hid hr1; clear hr1; replace hp := rd_out hp; have HNC := Lib.hid hnc; have HA := Lib.hid ha; have HNI := Lib.hid hni; clear hnc ha hni) | go_skip | ((first | ((with_reducible refine pre_alloc _ rfl ?_); refine lZ hp rfl zero126 ?_; clear hp; intro b w1 hp) | ((with_reducible refine pre_box _ _ rfl ?_); refine lB hp rfl (sTm rfl) rfl ?_; clear hp; intro b w1 hp) | ((with_reducible refine pre_load _ _ rfl ?_); first | refine lO hp rfl (sTm rfl) ceGO0 aa5 ?_ | refine lA hp rfl (sTm rfl) agg126 aa5 ?_) | ((with_reducible refine pre_store _ _ _ rfl ?_); (first | refine sO hp rfl (sTm rfl) ceGO0 aa5 ?_ | refine sA hp rfl (sTm rfl) (sTm rfl) agg126 aa5 ?_ | refine sG hp rfl (sTm rfl) (sTm rfl) agg126 aa5 ?_); clear hp; intro w1 hp; simp only [spl, zSet, sSet] at hp) | ((with_reducible refine pre_build _ _ _ rfl ?_); refine lS hp rfl (by intro w; go_simp; rfl) ?_; clear hp; intro b w1 hp; simp only [List.length_cons, List.length_nil, Nat.reduceAdd] at hp)); simp only [put_some, put_none, sSet, zSet]))
  go_wp2_with (first | (go_at_call 113; have hst : NSt w0 br st1 _ _ := ⟨a, bs, c, bad, HNC.out, HA.out, HNI.out, rd_in hp⟩; (with_reducible refine (num113 br st1 hst).mono ?_); clear hst; clear hp HNC HA HNI; rintro e w1 ⟨xp, st2, hx2, rfl, hr2, a, bs, c, bad, hnc, ha, hni, hp⟩; have HR2 := Lib.hid hr2; clear hr2; replace hp := rd_out hp; have HNC := Lib.hid hnc; have HA := Lib.hid ha; have HNI := Lib.hid hni; clear hnc ha hni) | go_skip | ((first | ((with_reducible refine pre_alloc _ rfl ?_); refine lZ hp rfl zero126 ?_; clear hp; intro b w1 hp) | ((with_reducible refine pre_box _ _ rfl ?_); refine lB hp rfl (sTm rfl) rfl ?_; clear hp; intro b w1 hp) | ((with_reducible refine pre_load _ _ rfl ?_); first | refine lO hp rfl (sTm rfl) ceGO0 aa5 ?_ | refine lA hp rfl (sTm rfl) agg126 aa5 ?_) | ((with_reducible refine pre_store _ _ _ rfl ?_); (first | refine sO hp rfl (sTm rfl) ceGO0 aa5 ?_ | refine sA hp rfl (sTm rfl) (sTm rfl) agg126 aa5 ?_ | refine sG hp rfl (sTm rfl) (sTm rfl) agg126 aa5 ?_); clear hp; intro w1 hp; simp only [spl, zSet, sSet] at hp) | ((with_reducible refine pre_build _ _ _ rfl ?_); refine lS hp rfl (by intro w; go_simp; rfl) ?_; clear hp; intro b w1 hp; simp only [List.length_cons, List.length_nil, Nat.reduceAdd] at hp)); simp only [put_some, put_none, sSet, zSet]))
  go_wp2_with (first | (go_at_call 113; have hst : NSt w0 br st2 _ _ := ⟨a, bs, c, bad, HNC.out, HA.out, HNI.out, rd_in hp⟩; (with_reducible refine (num113 br st2 hst).mono ?_); clear hst; clear hp HNC HA HNI; rintro e w1 ⟨nw, st3, hx3, rfl, hr3, a, bs, c, bad, hnc, ha, hni, hp⟩; have HR3 := Lib.hid hr3; clear hr3; replace hp := rd_out hp; have HNC := Lib.hid hnc; have HA := Lib.hid ha; have HNI := Lib.hid hni; clear hnc ha hni) | go_skip | ((first | ((with_reducible refine pre_alloc _ rfl ?_); refine lZ hp rfl zero126 ?_; clear hp; intro b w1 hp) | ((with_reducible refine pre_box _ _ rfl ?_); refine lB hp rfl (sTm rfl) rfl ?_; clear hp; intro b w1 hp) | ((with_reducible refine pre_load _ _ rfl ?_); first | refine lO hp rfl (sTm rfl) ceGO0 aa5 ?_ | refine lA hp rfl (sTm rfl) agg126 aa5 ?_) | ((with_reducible refine pre_store _ _ _ rfl ?_); (first | refine sO hp rfl (sTm rfl) ceGO0 aa5 ?_ | refine sA hp rfl (sTm rfl) (sTm rfl) agg126 aa5 ?_ | refine sG hp rfl (sTm rfl) (sTm rfl) agg126 aa5 ?_); clear hp; intro w1 hp; simp only [spl, zSet, sSet] at hp) | ((with_reducible refine pre_build _ _ _ rfl ?_); refine lS hp rfl (by intro w; go_simp; rfl) ?_; clear hp; intro b w1 hp; simp only [List.length_cons, List.length_nil, Nat.reduceAdd] at hp)); simp only [put_some, put_none, sSet, zSet]))
  go_wp2_with (first | (go_at_call 113; have hst : NSt w0 br st3 _ _ := ⟨a, bs, c, bad, HNC.out, HA.out, HNI.out, rd_in hp⟩; (with_reducible refine (num113 br st3 hst).mono ?_); clear hst; clear hp HNC HA HNI; rintro e w1 ⟨nl, st4, hx4, rfl, hr4, a, bs, c, bad, hnc, ha, hni, hp⟩; have HR4 := Lib.hid hr4; clear hr4; replace hp := rd_out hp; have HNC := Lib.hid hnc; have HA := Lib.hid ha; have HNI := Lib.hid hni; clear hnc ha hni) | go_skip | ((first | ((with_reducible refine pre_alloc _ rfl ?_); refine lZ hp rfl zero126 ?_; clear hp; intro b w1 hp) | ((with_reducible refine pre_box _ _ rfl ?_); refine lB hp rfl (sTm rfl) rfl ?_; clear hp; intro b w1 hp) | ((with_reducible refine pre_load _ _ rfl ?_); first | refine lO hp rfl (sTm rfl) ceGO0 aa5 ?_ | refine lA hp rfl (sTm rfl) agg126 aa5 ?_) | ((with_reducible refine pre_store _ _ _ rfl ?_); (first | refine sO hp rfl (sTm rfl) ceGO0 aa5 ?_ | refine sA hp rfl (sTm rfl) (sTm rfl) agg126 aa5 ?_ | refine sG hp rfl (sTm rfl) (sTm rfl) agg126 aa5 ?_); clear hp; intro w1 hp; simp only [spl, zSet, sSet] at hp) | ((with_reducible refine pre_build _ _ _ rfl ?_); refine lS hp rfl (by intro w; go_simp; rfl) ?_; clear hp; intro b w1 hp; simp only [List.length_cons, List.length_nil, Nat.reduceAdd] at hp)); simp only [put_some, put_none, sSet, zSet]))
  obtain ⟨nd, hnd⟩ : ∃ nd, needI nw nl = nd := ⟨_, rfl⟩
  have HND := Lib.hid hnd
  by_cases hneg : nd < 0
  · have e1 : decide (nd < 0) = true := decide_eq_true hneg
    have HNG : RowKit.Hid (needI nw nl < 0) := Lib.hid (by rw [hnd]; exact hneg)
    clear hneg hnd
    go_wp2_with (first | (go_at_call 164; (with_reducible refine (need164 _ _ _).mono ?_); rintro e w' ⟨rfl, rfl⟩; rw [HND.out]) | go_skip | ((first | ((with_reducible refine pre_alloc _ rfl ?_); refine lZ hp rfl zero126 ?_; clear hp; intro b w1 hp) | ((with_reducible refine pre_box _ _ rfl ?_); refine lB hp rfl (sTm rfl) rfl ?_; clear hp; intro b w1 hp) | ((with_reducible refine pre_load _ _ rfl ?_); first | refine lO hp rfl (sTm rfl) ceGO0 aa5 ?_ | refine lA hp rfl (sTm rfl) agg126 aa5 ?_) | ((with_reducible refine pre_store _ _ _ rfl ?_); (first | refine sO hp rfl (sTm rfl) ceGO0 aa5 ?_ | refine sA hp rfl (sTm rfl) (sTm rfl) agg126 aa5 ?_ | refine sG hp rfl (sTm rfl) (sTm rfl) agg126 aa5 ?_); clear hp; intro w1 hp; simp only [spl, zSet, sSet] at hp) | ((with_reducible refine pre_build _ _ _ rfl ?_); refine lS hp rfl (by intro w; go_simp; rfl) ?_; clear hp; intro b w1 hp; simp only [List.length_cons, List.length_nil, Nat.reduceAdd] at hp)); simp only [put_some, put_none, sSet, zSet]))
    refine bodyPost_ret (results_one (rs := [.cell 2 126]) Tryz.results114 (.cell rfl (hp.loadAgg agg126 at1 0 _ (by rfl) (by rfl)) .nil)) rfl ?_
    exact ⟨⟨xh, xp, nd, none, [], 0, none, [], 0⟩, [], none, rfl, orel_neg HR1.out HR2.out HR3.out HR4.out HNG.out _, ⟨[], [], rfl, OwnRow.nil _ _, OwnRow.nil _ _⟩, by simp, by simp, a, bs, c, true, HNC.out, HA.out, rfl, hp.kp⟩
  · have e1 : decide (nd < 0) = false := decide_eq_false hneg
    have HNG : RowKit.Hid (¬ needI nw nl < 0) := Lib.hid (by rw [hnd]; exact hneg)
    obtain ⟨n1, n2, n3, n4⟩ := needI_ok (a := nw) (b := nl) (by omega)
    have hw32 : nw ≤ 32 := by omega
    have hl16 : nl ≤ 16 := by omega
    clear hneg hnd n1 n2 n3 n4
    go_wp2_with (first | (go_at_call 164; (with_reducible refine (need164 _ _ _).mono ?_); rintro e w' ⟨rfl, rfl⟩; rw [HND.out]) | go_skip | ((first | ((with_reducible refine pre_alloc _ rfl ?_); refine lZ hp rfl zero126 ?_; clear hp; intro b w1 hp) | ((with_reducible refine pre_box _ _ rfl ?_); refine lB hp rfl (sTm rfl) rfl ?_; clear hp; intro b w1 hp) | ((with_reducible refine pre_load _ _ rfl ?_); first | refine lO hp rfl (sTm rfl) ceGO0 aa5 ?_ | refine lA hp rfl (sTm rfl) agg126 aa5 ?_) | ((with_reducible refine pre_store _ _ _ rfl ?_); (first | refine sO hp rfl (sTm rfl) ceGO0 aa5 ?_ | refine sA hp rfl (sTm rfl) (sTm rfl) agg126 aa5 ?_ | refine sG hp rfl (sTm rfl) (sTm rfl) agg126 aa5 ?_); clear hp; intro w1 hp; simp only [spl, zSet, sSet] at hp) | ((with_reducible refine pre_build _ _ _ rfl ?_); refine lS hp rfl (by intro w; go_simp; rfl) ?_; clear hp; intro b w1 hp; simp only [List.length_cons, List.length_nil, Nat.reduceAdd] at hp)); simp only [put_some, put_none, sSet, zSet]))
    obtain ⟨bx, rfl⟩ := hp.id0
    obtain ⟨b2, rfl⟩ := hp.id1
    obtain ⟨M0, hM0⟩ : ∃ M0, M0 = L := ⟨_, rfl⟩
    go_loopg [6] nw (fun k i wr => ∃ (q : Nat) (l : List Int) (stq : Option (List Nat)) (wa : Option Addr) (wc : Nat) (R : List Blk) (a : Option Addr) (bs : List Nat) (c : Nat) (bad : Bool), k + q = nw ∧ i = .int .i64 q ∧ RowKit.Hid (l.length = q) ∧ RowKit.Hid (NRel (repR iR q) st4 l stq) ∧ RowKit.Hid (OwnRow 3 1 (.slice wa q wc) q (l.flatMap iV) R) ∧ RowKit.Hid (bs.length ≤ c) ∧ RowKit.Hid (RdAt w0 a bs) ∧ RowKit.Hid (NIs stq bs bad) ∧
      Hp w0.heap.size w0 wr (⟨bx, [.int .i64 xh, .int .i64 xp, .int .i64 nd, .slice wa q wc, .slice none 0 0], 126, 5⟩ :: ⟨b2, [.int .i64 0, .int .i64 0, .int .i64 0, .slice none 0 0, .slice none 0 0], 126, 5⟩ :: ⟨br, [.slice a bs.length c, .bool bad], 162, 2⟩ :: (R ++ M0)))
    case atStart => exact ⟨0, [], st4, none, 0, [], a, bs, c, bad, by omega, rfl, Lib.hid rfl, Lib.hid (NRel.zero_ _ _), Lib.hid (OwnRow.nil _ _), HNC, HA, HNI, by rw [hM0]; exact hp⟩
    case round =>
      clear hp HNC HA HNI
      obtain ⟨q, l, stq, wa, wc, R, a, bs, c, bad, hkq, rfl, HLQ, HRQ, HRW, HNC, HA, HNI, hp⟩ := hrel
      by_cases hlt : q < nw
      · have f1 : (0 : Int) ≤ (q : Int) := by omega
        have f2 : (q : Int) < (nw : Int) := by omega
        go_wp2_with (first | (go_at_call 118; have hst : NSt w0 br stq _ _ := ⟨a, bs, c, bad, HNC.out, HA.out, HNI.out, rd_in hp⟩; (with_reducible refine (int118 br stq hst).mono ?_); clear hst; clear hp HNC HA HNI; rintro e w1 ⟨v, sts, rfl, hr, a, bs, c, bad, hnc, ha, hni, hp⟩; have HRS := Lib.hid hr; clear hr; replace hp := rd_out hp; have HNC := Lib.hid hnc; have HA := Lib.hid ha; have HNI := Lib.hid hni; clear hnc ha hni) | ((with_reducible refine pre_append _ _ 122 rfl ?_); refine wpList_appendGrow (K := [_, _, _]) (R := R) (M := M0) hp _ _ _ rfl wy i0 _ 8 Tryz.underlying122 hi0 hz0 hz1 hz2 rfl (by decide) (sTm rfl) HRW.out 1 1 (sTm rfl) (by rfl) (by decide) (by rfl) (by unfold maxLen; omega) (by omega) ?_; clear hp; intro v' R' w1 hR' hp; obtain ⟨wa', wc', rfl, _⟩ := hR'.kept; have HRW' := Lib.hid hR'; clear hR'; simp only [List.cons_append, List.nil_append] at hp; simp only [put_some, put_none, sSet, zSet]) | go_skip | ((first | ((with_reducible refine pre_alloc _ rfl ?_); refine lZ hp rfl zero126 ?_; clear hp; intro b w1 hp) | ((with_reducible refine pre_box _ _ rfl ?_); refine lB hp rfl (sTm rfl) rfl ?_; clear hp; intro b w1 hp) | ((with_reducible refine pre_load _ _ rfl ?_); first | refine lO hp rfl (sTm rfl) ceGO0 aa5 ?_ | refine lA hp rfl (sTm rfl) agg126 aa5 ?_) | ((with_reducible refine pre_store _ _ _ rfl ?_); (first | refine sO hp rfl (sTm rfl) ceGO0 aa5 ?_ | refine sA hp rfl (sTm rfl) (sTm rfl) agg126 aa5 ?_ | refine sG hp rfl (sTm rfl) (sTm rfl) agg126 aa5 ?_); clear hp; intro w1 hp; simp only [spl, zSet, sSet] at hp) | ((with_reducible refine pre_build _ _ _ rfl ?_); refine lS hp rfl (by intro w; go_simp; rfl) ?_; clear hp; intro b w1 hp; simp only [List.length_cons, List.length_nil, Nat.reduceAdd] at hp)); simp only [put_some, put_none, sSet, zSet]))
        go_roundg (gk - 1)
        case measure => omega
        case rel => exact ⟨q + 1, l ++ [v], sts, wa', wc', R', a, bs, c, bad, by omega, by go_num, Lib.hid (by rw [List.length_append, HLQ.out]; rfl), Lib.hid (HRQ.out.step HRS.out), Lib.hid (by have := HRW'.out; rw [List.flatMap_append]; exact this), HNC, HA, HNI, hp⟩
      · obtain rfl : q = nw := by omega
        have f2 : decide ((q : Int) < (q : Int)) = false := by simp
        obtain ⟨ws, hws⟩ : ∃ ws, ws = l := ⟨_, rfl⟩
        obtain ⟨st5, hst5⟩ : ∃ st5, st5 = stq := ⟨_, rfl⟩
        rw [← hst5] at HRQ HNI
        obtain ⟨Rw, hRw⟩ : ∃ Rw, Rw = R := ⟨_, rfl⟩
        have HLW := HLQ
        have HR5 := HRQ
        have HRW1 := HRW
        rw [← hws] at HLW HR5 HRW1
        rw [← hRw] at HRW1 hp
        clear HLQ HRQ HRW hkq hlt hws hRw hst5
        go_wp2_with (first | go_skip | ((first | ((with_reducible refine pre_alloc _ rfl ?_); refine lZ hp rfl zero126 ?_; clear hp; intro b w1 hp) | ((with_reducible refine pre_box _ _ rfl ?_); refine lB hp rfl (sTm rfl) rfl ?_; clear hp; intro b w1 hp) | ((with_reducible refine pre_load _ _ rfl ?_); first | refine lO hp rfl (sTm rfl) ceGO0 aa5 ?_ | refine lA hp rfl (sTm rfl) agg126 aa5 ?_) | ((with_reducible refine pre_store _ _ _ rfl ?_); (first | refine sO hp rfl (sTm rfl) ceGO0 aa5 ?_ | refine sA hp rfl (sTm rfl) (sTm rfl) agg126 aa5 ?_ | refine sG hp rfl (sTm rfl) (sTm rfl) agg126 aa5 ?_); clear hp; intro w1 hp; simp only [spl, zSet, sSet] at hp) | ((with_reducible refine pre_build _ _ _ rfl ?_); refine lS hp rfl (by intro w; go_simp; rfl) ?_; clear hp; intro b w1 hp; simp only [List.length_cons, List.length_nil, Nat.reduceAdd] at hp)); simp only [put_some, put_none, sSet, zSet]))
        clear f2
        obtain ⟨M1, hM1⟩ : ∃ M1, M1 = Rw ++ M0 := ⟨_, rfl⟩
        rw [← hM1] at hp
        go_loopg [8] nl (fun k i wr => ∃ (q2 : Nat) (l : List Int) (stq : Option (List Nat)) (la : Option Addr) (lc : Nat) (R : List Blk) (a : Option Addr) (bs : List Nat) (c : Nat) (bad : Bool), k + q2 = nl ∧ i = .int .i64 q2 ∧ RowKit.Hid (l.length = q2) ∧ RowKit.Hid (NRel (repR nR q2) st5 l stq) ∧ RowKit.Hid (OwnRow 3 1 (.slice la q2 lc) q2 (l.flatMap iV) R) ∧ RowKit.Hid (bs.length ≤ c) ∧ RowKit.Hid (RdAt w0 a bs) ∧ RowKit.Hid (NIs stq bs bad) ∧
          Hp w0.heap.size w0 wr (⟨bx, [.int .i64 xh, .int .i64 xp, .int .i64 nd, .slice wa q wc, .slice la q2 lc], 126, 5⟩ :: ⟨b2, [.int .i64 0, .int .i64 0, .int .i64 0, .slice none 0 0, .slice none 0 0], 126, 5⟩ :: ⟨br, [.slice a bs.length c, .bool bad], 162, 2⟩ :: (R ++ M1)))
        case atStart => exact ⟨0, [], st5, none, 0, [], a, bs, c, bad, by omega, rfl, Lib.hid rfl, Lib.hid (NRel.zero_ _ _), Lib.hid (OwnRow.nil _ _), HNC, HA, HNI, hp⟩
        case round =>
          clear hp HNC HA HNI
          obtain ⟨q2, l, stq, la, lc, R, a, bs, c, bad, hkq, rfl, HLQ, HRQ, HRW, HNC, HA, HNI, hp⟩ := hrel
          by_cases hlt : q2 < nl
          · have f1 : (0 : Int) ≤ (q2 : Int) := by omega
            have f2 : (q2 : Int) < (nl : Int) := by omega
            go_wp2_with (first | (go_at_call 113; have hst : NSt w0 br stq _ _ := ⟨a, bs, c, bad, HNC.out, HA.out, HNI.out, rd_in hp⟩; (with_reducible refine (num113 br stq hst).mono ?_); clear hst; clear hp HNC HA HNI; rintro e w1 ⟨v, sts, _, rfl, hr, a, bs, c, bad, hnc, ha, hni, hp⟩; have HRS := Lib.hid hr; clear hr; replace hp := rd_out hp; have HNC := Lib.hid hnc; have HA := Lib.hid ha; have HNI := Lib.hid hni; clear hnc ha hni) | ((with_reducible refine pre_append _ _ 122 rfl ?_); refine wpList_appendGrow (K := [_, _, _]) (R := R) (M := M1) hp _ _ _ rfl wy i0 _ 8 Tryz.underlying122 hi0 hz0 hz1 hz2 rfl (by decide) (sTm rfl) HRW.out 1 1 (sTm rfl) (by rfl) (by decide) (by rfl) (by unfold maxLen; omega) (by omega) ?_; clear hp; intro v' R' w1 hR' hp; obtain ⟨wa', wc', rfl, _⟩ := hR'.kept; have HRW' := Lib.hid hR'; clear hR'; simp only [List.cons_append, List.nil_append] at hp; simp only [put_some, put_none, sSet, zSet]) | go_skip | ((first | ((with_reducible refine pre_alloc _ rfl ?_); refine lZ hp rfl zero126 ?_; clear hp; intro b w1 hp) | ((with_reducible refine pre_box _ _ rfl ?_); refine lB hp rfl (sTm rfl) rfl ?_; clear hp; intro b w1 hp) | ((with_reducible refine pre_load _ _ rfl ?_); first | refine lO hp rfl (sTm rfl) ceGO0 aa5 ?_ | refine lA hp rfl (sTm rfl) agg126 aa5 ?_) | ((with_reducible refine pre_store _ _ _ rfl ?_); (first | refine sO hp rfl (sTm rfl) ceGO0 aa5 ?_ | refine sA hp rfl (sTm rfl) (sTm rfl) agg126 aa5 ?_ | refine sG hp rfl (sTm rfl) (sTm rfl) agg126 aa5 ?_); clear hp; intro w1 hp; simp only [spl, zSet, sSet] at hp) | ((with_reducible refine pre_build _ _ _ rfl ?_); refine lS hp rfl (by intro w; go_simp; rfl) ?_; clear hp; intro b w1 hp; simp only [List.length_cons, List.length_nil, Nat.reduceAdd] at hp)); simp only [put_some, put_none, sSet, zSet]))
            go_roundg (gk - 1)
            case measure => omega
            case rel => exact ⟨q2 + 1, l ++ [(v : Int)], sts, wa', wc', R', a, bs, c, bad, by omega, by go_num, Lib.hid (by rw [List.length_append, HLQ.out]; rfl), Lib.hid (HRQ.out.step HRS.out), Lib.hid (by have := HRW'.out; rw [List.flatMap_append]; exact this), HNC, HA, HNI, hp⟩
          · obtain rfl : q2 = nl := by omega
            have f2 : decide ((q2 : Int) < (q2 : Int)) = false := by simp
            clear hkq hlt
            go_wp2_with (first | go_skip | ((first | ((with_reducible refine pre_alloc _ rfl ?_); refine lZ hp rfl zero126 ?_; clear hp; intro b w1 hp) | ((with_reducible refine pre_box _ _ rfl ?_); refine lB hp rfl (sTm rfl) rfl ?_; clear hp; intro b w1 hp) | ((with_reducible refine pre_load _ _ rfl ?_); first | refine lO hp rfl (sTm rfl) ceGO0 aa5 ?_ | refine lA hp rfl (sTm rfl) agg126 aa5 ?_) | ((with_reducible refine pre_store _ _ _ rfl ?_); (first | refine sO hp rfl (sTm rfl) ceGO0 aa5 ?_ | refine sA hp rfl (sTm rfl) (sTm rfl) agg126 aa5 ?_ | refine sG hp rfl (sTm rfl) (sTm rfl) agg126 aa5 ?_); clear hp; intro w1 hp; simp only [spl, zSet, sSet] at hp) | ((with_reducible refine pre_build _ _ _ rfl ?_); refine lS hp rfl (by intro w; go_simp; rfl) ?_; clear hp; intro b w1 hp; simp only [List.length_cons, List.length_nil, Nat.reduceAdd] at hp)); simp only [put_some, put_none, sSet, zSet]))
            have HOR : RowKit.Hid (ORel st ⟨xh, xp, nd, wa, ws, wc, la, l, lc⟩ stq) := Lib.hid (orel_of HR1.out HR2.out HR3.out HR4.out (by have := HNG.out; omega) HR5.out HRQ.out ⟨rfl, rfl, HND.out.symm, rfl, rfl⟩)
            have h1 := HLW.out
            have h2 := HLQ.out
            subst h1 h2
            refine bodyPost_ret (results_one (rs := [.cell 2 126]) Tryz.results114 (.cell rfl (hp.loadAgg agg126 at1 0 _ (by rfl) (by rfl)) .nil)) rfl ?_
            exact ⟨⟨xh, xp, nd, wa, ws, wc, la, l, lc⟩, Rw ++ R, stq, rfl, HOR.out, ⟨Rw, R, rfl, HRW1.out, HRW.out⟩, hw32, hl16, a, bs, c, bad, HNC.out, HA.out, HNI.out, by rw [hM1, hM0] at hp; exact hp.kp⟩
end Go.Proofs.YtaafajaadfgaoaaGreat
/- What the document leaves of a region is what the program leaves: the plain law. No program in sight. -/
namespace Go.Proofs.YtaafajaadfgaoaaGreat
def meetsO (os : List Ob) (b : Bl) : Bool := os.any fun x => meetB b.p b.o x.p x.o
def clearB (od : Int) (os : List Ob) (b : Bl) : Bool := !meetsO os b && mayB od b.p b.o
def pickO (od : Int) (os : List Ob) (p : Int) : Nat → Nat
  | 0 => 0
  | k + 1 => if clearB od os ⟨p, ((k + 1 : Nat) : Int)⟩ = true then k + 1 else pickO od os p k
def frL (od : Int) (os : List Ob) : Nat → Int → List Bl
  | 0, _ => []
  | n + 1, p => if p < pw od then (if clearB od os ⟨p, (pickO od os p od.toNat : Nat)⟩ = true then [⟨p, (pickO od os p od.toNat : Nat)⟩] else []) ++ frL od os n (p + pw (pickO od os p od.toNat : Nat)) else []
theorem pick_facts (od : Int) (os : List Ob) (p : Int) : ∀ K : Nat, pickO od os p K ≤ K ∧ (∀ j : Nat, pickO od os p K < j → j ≤ K → clearB od os ⟨p, (j : Int)⟩ = false) ∧ (0 < pickO od os p K → clearB od os ⟨p, (pickO od os p K : Nat)⟩ = true)
  | 0 => ⟨Nat.le_refl _, fun j h1 h2 => by unfold pickO at h1; omega, fun h => by unfold pickO at h; omega⟩
  | K + 1 => by
    obtain ⟨h1, h2, h3⟩ := pick_facts od os p K
    unfold pickO
    split
    · rename_i hc
      exact ⟨Nat.le_refl _, fun j g1 g2 => by omega, fun _ => hc⟩
    · rename_i hc
      refine ⟨by omega, fun j g1 g2 => ?_, h3⟩
      by_cases hj : j = K + 1
      · subst hj; simpa using hc
      · exact h2 j g1 (by omega)
theorem meetsO_iff {os : List Ob} {b : Bl} : meetsO os b = true ↔ ∃ w, InW b w ∧ hasW os w := by
  unfold meetsO
  rw [List.any_eq_true]
  constructor
  · rintro ⟨x, hx, hm⟩
    unfold meetB at hm
    simp only [Bool.and_eq_true, decide_eq_true_eq] at hm
    obtain ⟨h1, h2⟩ := hm
    have p1 := pw_pos x.o
    have p2 := pw_pos b.o
    by_cases h : x.p ≤ b.p
    · exact ⟨b.p, ⟨Int.le_refl _, by omega⟩, x, hx, by simp only [obBl]; exact h, by simp only [obBl]; omega⟩
    · exact ⟨x.p, ⟨by omega, by omega⟩, x, hx, by simp only [obBl]; omega, by simp only [obBl]; omega⟩
  · rintro ⟨w, ⟨h1, h2⟩, x, hx, h3, h4⟩
    simp only [obBl] at h3 h4
    refine ⟨x, hx, ?_⟩
    unfold meetB
    simp only [Bool.and_eq_true, decide_eq_true_eq]
    omega
theorem clearB_iff {od : Int} {os : List Ob} {b : Bl} : clearB od os b = true ↔ MayP od b ∧ ∀ w, InW b w → ¬ hasW os w := by
  unfold clearB
  rw [Bool.and_eq_true, Bool.not_eq_true', ← Bool.not_eq_true, meetsO_iff]
  constructor
  · rintro ⟨h1, h2⟩
    exact ⟨mayB_may h2, fun w hw hh => h1 ⟨w, hw, hh⟩⟩
  · rintro ⟨h1, h2⟩
    exact ⟨fun ⟨w, hw, hh⟩ => h2 w hw hh, by unfold mayB; exact decide_eq_true h1⟩
theorem fr_facts {od : Int} {os : List Ob} (h3 : 0 ≤ od) : ∀ (n : Nat) (p : Int), 0 ≤ p → pw od ≤ p + n →
    (∀ b ∈ frL od os n p, MayP od b ∧ p ≤ b.p ∧ ∀ k : Nat, b.o < k → (k : Int) ≤ od → clearB od os ⟨b.p, (k : Int)⟩ = false) ∧ Disj (frL od os n p) ∧ (∀ w, cov (frL od os n p) w ↔ p ≤ w ∧ w < pw od ∧ ¬ hasW os w)
  | 0, p, h0, hn => by
    refine ⟨fun b hb => (by cases hb), List.Pairwise.nil, fun w => ⟨fun ⟨x, hx, _⟩ => (by cases hx), fun ⟨h1, h2, _⟩ => ?_⟩⟩
    omega
  | n + 1, p, h0, hn => by
    by_cases hp : ¬ p < pw od
    · unfold frL
      rw [if_neg hp]
      refine ⟨fun b hb => (by cases hb), List.Pairwise.nil, fun w => ⟨fun ⟨x, hx, _⟩ => (by cases hx), fun ⟨h1, h2, _⟩ => ?_⟩⟩
      omega
    replace hp := Decidable.not_not.1 hp
    obtain ⟨k1, k2, k3⟩ := pick_facts od os p od.toNat
    unfold frL
    rw [if_pos hp]
    generalize pickO od os p od.toNat = k at k1 k2 k3 ⊢
    have hpk := pw_pos (k : Int)
    obtain ⟨r1, r2, r3⟩ := fr_facts h3 n (p + pw (k : Int)) (by omega) (by omega)
    by_cases hc : clearB od os ⟨p, (k : Int)⟩ = true
    · rw [if_pos hc]
      obtain ⟨c1, c2⟩ := clearB_iff.1 hc
      refine ⟨fun b hb => ?_, ?_, fun w => ?_⟩
      · rcases List.mem_append.1 hb with hb | hb
        · obtain rfl := List.mem_singleton.1 hb
          exact ⟨c1, Int.le_refl _, fun j g1 g2 => k2 j (by simp only at g1; omega) (by omega)⟩
        · obtain ⟨a1, a2, a3⟩ := r1 b hb
          exact ⟨a1, by omega, a3⟩
      · refine List.pairwise_append.2 ⟨List.pairwise_singleton _ _, r2, fun a ha b hb => ?_⟩
        obtain rfl := List.mem_singleton.1 ha
        exact (r1 b hb).2.1
      · have hend : p + pw (k : Int) ≤ pw od := by have := c1.2.2.2.1; simp only at this; omega
        have hsplit : cov ([⟨p, (k : Int)⟩] ++ frL od os n (p + pw (k : Int))) w ↔ InW ⟨p, (k : Int)⟩ w ∨ cov (frL od os n (p + pw (k : Int))) w := by
          constructor
          · rintro ⟨x, hx, hw⟩
            rcases List.mem_append.1 hx with hx | hx
            · obtain rfl := List.mem_singleton.1 hx; exact .inl hw
            · exact .inr ⟨x, hx, hw⟩
          · rintro (hw | ⟨x, hx, hw⟩)
            · exact ⟨_, List.mem_append_left _ (List.mem_singleton.2 rfl), hw⟩
            · exact ⟨x, List.mem_append_right _ hx, hw⟩
        rw [hsplit, r3]
        constructor
        · rintro (hw | ⟨g1, g2, g3⟩)
          · have := c2 w hw
            unfold InW at hw
            simp only at hw
            exact ⟨hw.1, by omega, this⟩
          · exact ⟨by omega, g2, g3⟩
        · rintro ⟨g1, g2, g3⟩
          by_cases g : w < p + pw (k : Int)
          · exact .inl ⟨g1, g⟩
          · exact .inr ⟨by omega, g2, g3⟩
    · rw [if_neg hc, List.nil_append]
      have hk0 : k = 0 := by
        rcases Nat.eq_zero_or_pos k with h | h
        · exact h
        · exact absurd (k3 h) hc
      subst hk0
      have p0 : pw ((0 : Nat) : Int) = 1 := by decide
      rw [p0] at r1 r2 r3 ⊢
      have hmay : MayP od ⟨p, ((0 : Nat) : Int)⟩ := ⟨by simp, by simpa using h3, h0, by simp only [p0]; omega, by simp only [p0]; omega⟩
      have hasp : hasW os p := Classical.byContradiction fun hno => hc (clearB_iff.2 ⟨hmay, fun w hw => by
        unfold InW at hw
        simp only [p0] at hw
        rw [show w = p by omega]; exact hno⟩)
      refine ⟨fun b hb => ?_, r2, fun w => ?_⟩
      · obtain ⟨a1, a2, a3⟩ := r1 b hb
        exact ⟨a1, by omega, a3⟩
      · rw [r3]
        constructor
        · rintro ⟨g1, g2, g3⟩; exact ⟨by omega, g2, g3⟩
        · rintro ⟨g1, g2, g3⟩
          refine ⟨?_, g2, g3⟩
          by_cases hw : w = p
          · subst hw; exact absurd hasp g3
          · omega
theorem fr_can {od : Int} {os : List Ob} (h3 : 0 ≤ od) (h8 : od ≤ 8) (n : Nat) (hn : pw od ≤ n) : Can od (frL od os n 0) := by
  obtain ⟨f1, f2, f3⟩ := fr_facts (os := os) h3 n 0 (Int.le_refl _) (by omega)
  refine ⟨f2, fun x hx => (f1 x hx).1, fun x hx y hy ho ht => ?_⟩
  have hmy := (f1 y hy).1
  have hmx := (f1 x hx).1
  have hmm := merge_may hmy h8 ho
  have hpy := pw_pos y.o
  have hs := pw_succ (o := y.o) hmy.1
  have hc := twin_cases hmy h8 ho
  rw [ht] at hc
  have hxo : x.o = y.o := by rw [← ht, twin_o]
  have hpar : (mergeB y).p = min y.p x.p := by unfold mergeB; rw [ht]
  have hpo : (mergeB y).o = y.o + 1 := rfl
  have hfree : ∀ w, InW (mergeB y) w → ¬ hasW os w := fun w hw => by
    unfold InW at hw
    rw [hpar, hpo, hs] at hw
    have hcw : cov (frL od os n 0) w := by
      rcases hc with ⟨e, _, _⟩ | ⟨e, _, _⟩
      · have e' : x.p = y.p + pw y.o := by rw [e]
        by_cases g : w < y.p + pw y.o
        · exact ⟨y, hy, by unfold InW; omega⟩
        · exact ⟨x, hx, by unfold InW; rw [hxo]; omega⟩
      · have e' : x.p = y.p - pw y.o := by rw [e]
        by_cases g : w < y.p
        · exact ⟨x, hx, by unfold InW; rw [hxo]; omega⟩
        · exact ⟨y, hy, by unfold InW; omega⟩
    exact ((f3 w).1 hcw).2.2
  have hcl := clearB_iff.2 ⟨hmm, hfree⟩
  obtain ⟨m, hm⟩ : ∃ m : Nat, y.o + 1 = (m : Int) := ⟨(y.o + 1).toNat, by have := hmy.1; omega⟩
  have hmb : mergeB y = ⟨min y.p x.p, (m : Int)⟩ := by
    rw [← hm, ← hpar, ← hpo]
  rw [hmb] at hcl
  rcases hc with ⟨e, _, _⟩ | ⟨e, _, _⟩
  · have e' : x.p = y.p + pw y.o := by rw [e]
    have := (f1 y hy).2.2 m (by omega) (by omega)
    rw [show min y.p x.p = y.p by omega] at hcl
    rw [hcl] at this; cases this
  · have e' : x.p = y.p - pw y.o := by rw [e]
    have := (f1 x hx).2.2 m (by omega) (by omega)
    rw [show min y.p x.p = x.p by omega] at hcl
    rw [hcl] at this; cases this
theorem fr_left {od : Int} {os : List Ob} (h3 : 0 ≤ od) (h8 : od ≤ 8) (n : Nat) (hn : pw od ≤ n) : frL od os n 0 = lfN (pw od) os od.toNat 0 := by
  have hnn : ((od.toNat : Nat) : Int) = od := by omega
  have h0 : AtK od od.toNat 0 := ⟨by omega, Int.le_refl _, by rw [hnn]; omega, by simp⟩
  refine Can.uniq h8 (fr_can h3 h8 n hn) (lf_can h3 h8) (fun w => ?_)
  rw [(lf_facts (os := os) od.toNat 0 h0).2.2 w, (fr_facts (os := os) h3 n 0 (Int.le_refl _) (by omega)).2.2 w]
  unfold InW
  simp only [hnn]
  constructor
  · rintro ⟨a, b, c⟩; exact ⟨⟨a, by omega⟩, c⟩
  · rintro ⟨⟨a, b⟩, c⟩; exact ⟨a, by omega, c⟩
theorem fr_step {od : Int} {os : List Ob} {n : Nat} {p : Int} {res ou : List Bl} (hp : p < pw od) (h : ou ++ frL od os (n + 1) p = res) :
    ou ++ (if clearB od os ⟨p, (pickO od os p od.toNat : Nat)⟩ = true then [⟨p, (pickO od os p od.toNat : Nat)⟩] else []) ++ frL od os n (p + pw (pickO od os p od.toNat : Nat)) = res := by
  unfold frL at h
  rw [if_pos hp] at h
  rw [List.append_assoc]; exact h
theorem fr_end {od : Int} {os : List Ob} {n : Nat} {p : Int} {res ou : List Bl} (hp : ¬ p < pw od) (h : ou ++ frL od os n p = res) : ou = res := by
  cases n with
  | zero => simpa [frL] using h
  | succ n => unfold frL at h; rw [if_neg hp, List.append_nil] at h; exact h
end Go.Proofs.YtaafajaadfgaoaaGreat
