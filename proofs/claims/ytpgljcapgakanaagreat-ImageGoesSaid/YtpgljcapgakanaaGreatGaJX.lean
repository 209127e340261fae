import Derived.Test.YtpgljcapgakanaaGreatGaJW
import Derived.Test.YtpgljcapgakanaaGreatGaJT
/- The walk that lays a state as bytes. -/
set_option linter.unusedSimpArgs false
set_option linter.unusedVariables false
namespace Go.Proofs.YtpgljcapgakanaaGreat
open Go.RowKit
theorem bn4_bytes (l : List Nat) : Bytes (bn4 l) := by
  intro x hx
  obtain ⟨n, _, h⟩ := List.mem_flatMap.1 hx
  exact beS_bytes 4 n x h
theorem bi8_bytes (l : List Int) : Bytes (bi8 l) := by
  intro x hx
  obtain ⟨n, _, h⟩ := List.mem_flatMap.1 hx
  exact beS_bytes 8 _ x h
theorem heapB_bytes (x : Hv) : Bytes (heapB x) := by
  unfold heapB headB
  refine Bytes.app ((bn4_bytes _).app ((bn4_bytes _).app (bn4_bytes _))) fun y hy => ?_
  obtain ⟨o, _, h⟩ := List.mem_flatMap.1 hy
  unfold obB at h
  exact ((bn4_bytes _).app ((bi8_bytes _).app (bn4_bytes _))) y h
theorem puth_L (od : Int) (oa : Option Addr) (os : List Ob) (oc : Nat) (nx t0 t1 t2 t3 : Int) (fa : Option Addr) (fs : List Bl) (fc : Nat) (bs : List Nat) (hbs : heapB ⟨od, oa, os, oc, nx, t0, t1, t2, t3, fa, fs, fc⟩ = bs) (hb : hrightB ⟨od, oa, os, oc, nx, t0, t1, t2, t3, fa, fs, fc⟩ = true) (w : World) (hx0 : Hv.Is w ⟨od, oa, os, oc, nx, t0, t1, t2, t3, fa, fs, fc⟩) :
    Calls Tryz.prog 30 #[.agg #[.int .i64 od, .slice oa os.length oc, .int .i64 nx, .int .i64 t0, .int .i64 t1, .int .i64 t2, .int .i64 t3, .slice fa fs.length fc]] w fun e w' => ∃ a c m R, e = .returned (.tuple #[.slice a m c, .int .i64 0]) ∧ bs.length = m ∧ SubRow 5 1 (.slice a m c) m (bs.flatMap byV) R ∧ Hp w.heap.size w w' R := by
  subst hbs
  refine (puth30_yes _ hb w hx0).mono fun e w' h => ?_
  obtain ⟨a, c, R, h1, h2, h3⟩ := h
  exact ⟨a, c, _, R, h1, rfl, h2, h3⟩
end Go.Proofs.YtpgljcapgakanaaGreat
