import Derived.Test.YtjcbpfbifbfkcaaGreatTq34
import Derived.Test.YtjcbpfbifbfkcaaGreatTq40
set_option linter.unusedSimpArgs false
set_option linter.unusedVariables false
set_option maxRecDepth 100000
set_option maxHeartbeats 60000000
namespace Go.Proofs.YtjcbpfbifbfkcaaGreat
open Go.RowKit
theorem ziu (od : Int) (oa : Option Addr) (os : List Ob) (oc : Nat) (nx t0 t1 t2 t3 : Int) (fa : Option Addr) (fs : List Bl) (fc : Nat) (ra : Option Addr) (rs : List Rw) (rc : Nat) (hsm : Sv.Sm ⟨⟨od, oa, os, oc, nx, t0, t1, t2, t3, fa, fs, fc⟩, ra, rs, rc⟩ ZL) (w : World) (hx : Sv.Is w ⟨⟨od, oa, os, oc, nx, t0, t1, t2, t3, fa, fs, fc⟩, ra, rs, rc⟩) : Calls Tryz.prog 39 #[.agg #[.int .i64 od, .slice oa os.length oc, .int .i64 nx, .int .i64 t0, .int .i64 t1, .int .i64 t2, .int .i64 t3, .slice fa fs.length fc, .slice ra rs.length rc], .agg #[.int .i64 0, .slice none 0 0, .int .i64 0, .int .i64 0, .int .i64 0, .int .i64 0, .int .i64 0, .slice none 0 0, .slice none 0 0]] w fun e w' => e = .returned (.bool true) ∧ Below w.heap.size w w' :=
 zgx od oa os oc nx t0 t1 t2 t3 fa fs fc ra rs rc 0 none [] 0 0 0 0 0 0 none [] 0 none [] 0 (zeH.sm hsm.symm) hsm w hx (ze7.at (Hp.start w) (fun p h => by cases h) |> fun h => ⟨h, zr.nil _ _⟩)
theorem zfc (od : Int) (oa : Option Addr) (os : List Ob) (oc : Nat) (nx t0 t1 t2 t3 : Int) (fa : Option Addr) (fs : List Bl) (fc : Nat) (ra : Option Addr) (rs : List Rw) (rc : Nat) (hst : od ≠ 0) (w : World) : Calls Tryz.prog 39 #[.agg #[.int .i64 od, .slice oa os.length oc, .int .i64 nx, .int .i64 t0, .int .i64 t1, .int .i64 t2, .int .i64 t3, .slice fa fs.length fc, .slice ra rs.length rc], .agg #[.int .i64 0, .slice none 0 0, .int .i64 0, .int .i64 0, .int .i64 0, .int .i64 0, .int .i64 0, .slice none 0 0, .slice none 0 0]] w fun e w' => e = .returned (.bool false) ∧ Below w.heap.size w w' :=
 zmn od oa os.length oc nx t0 t1 t2 t3 fa fs.length fc ra rs.length rc 0 none 0 0 0 0 0 0 0 none 0 0 none 0 0 hst w
theorem zjB {x y : Sv} (h : y.Sm x) (hx : StR x) : y.hv.od ≠ 0 := by
 have h1 := ze4 hx.hv
 have h2 := h.1.od
 omega
theorem zby {x : Sv} {l : List Env} (hx : StR x) (hm : ∀ e ∈ l, zbn e = true) : zaO x l = (za2 x l, zbu x l) := by unfold zaO; rw [if_pos ⟨zd2 hx, hm⟩]
theorem zgX {x : Sv} {l : List Env} (h : ¬ (stB x = true ∧ ∀ e ∈ l, zbn e = true)) : zaO x l = (ZL, []) := by unfold zaO; rw [if_neg h]
end Go.Proofs.YtjcbpfbifbfkcaaGreat
