/- Parts of the proof. -/
import Derived.Test.YtaafajaadfgaoaaGreatAz43
/- The walk of the law ImageApart. -/
set_option linter.unusedSimpArgs false
set_option linter.unusedVariables false
namespace Go.Proofs.YtaafajaadfgaoaaGreat
open Go.RowKit
theorem law4 (x y : Sv) (kk hh ii nn cc vv tt : Int) (on : Bool) (hov : I64 vv) (w : World) (hx : x.Is w ∧ x.W64) (hy : y.Is w ∧ y.W64) :
    Calls Tryz.prog 4 #[.agg (svL x).toArray, .agg (svL y).toArray, .agg #[.int .i64 kk, .int .i64 hh, .int .i64 ii, .int .i64 nn, .int .i64 cc, .int .i64 vv, .int .i64 tt], .bool on] w fun e w' => e = .returned (.bool true) ∧ Below w.heap.size w w' := by
  obtain ⟨⟨od, oa, os, oc, nx, t0, t1, t2, t3, fa, fs, fc⟩, ra, rs, rc⟩ := x
  obtain ⟨⟨odU, oaU, osU, ocU, nxU, t0U, t1U, t2U, t3U, faU, fsU, fcU⟩, raU, rsU, rcU⟩ := y
  cases on
  · exact apart_off od oa os oc nx t0 t1 t2 t3 fa fs fc ra rs rc odU oaU osU ocU nxU t0U t1U t2U t3U faU fsU fcU raU rsU rcU kk hh ii nn cc vv tt hov w hx.1 hy.1 hx.2 hy.2
  · exact apart_on od oa os oc nx t0 t1 t2 t3 fa fs fc ra rs rc odU oaU osU ocU nxU t0U t1U t2U t3U faU fsU fcU raU rsU rcU kk hh ii nn cc vv tt hov w hx.1 hy.1 hx.2 hy.2
end Go.Proofs.YtaafajaadfgaoaaGreat
