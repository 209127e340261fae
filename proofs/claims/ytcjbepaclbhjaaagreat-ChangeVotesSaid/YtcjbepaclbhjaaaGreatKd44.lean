/- Parts of the proof. -/
import Derived.Test.YtcjbepaclbhjaaaGreatKd1
import Derived.Test.YtcjbepaclbhjaaaGreatKd42
import Derived.Test.YtcjbepaclbhjaaaGreatKd43
open List renaming set_cons_zero → zSet, set_cons_succ → sSet
/- The walks of the examples of votes. -/
set_option linter.unusedSimpArgs false
set_option linter.unusedVariables false
namespace Go.Proofs.YtcjbepaclbhjaaaGreat
open Go.RowKit
def VotePL (w : World) (nd nm : Int) (n : Nat) (e : Ending) (w' : World) : Prop := ∃ (a : Option Addr) (c : Nat) (R : List Blk), e = .returned (.agg #[.int .i64 nd, .int .i64 nm, .int .i64 0, .int .i64 (n : Int), .int .i64 0, .slice a n c]) ∧ Kept R (fun w => RowIs w a ((kE n).flatMap envL)) ∧ Hp w.heap.size w w' R
set_option maxRecDepth 100000 in
set_option maxHeartbeats 4000000 in
theorem vote45 (nd nm : Int) (n : Nat) (hn : n ≤ 4) (w : World) : Calls Tryz.prog 45 #[.int .i64 nd, .int .i64 nm, .int .i64 (n : Int)] w (VotePL w nd nm n) := by
  have hp := Hp.start w
  have HN := Lib.hid hn
  clear hn
  go_enter Tryz.func45, Tryz.ntmps45
  go_wp2_with (first | (go_at_call 68; (with_reducible refine (row68 n HN.out _).mono ?_); rintro e w1 ⟨a, c, R, rfl, _, hk, hpn⟩; replace hp := hp.join hpn; have HK := Lib.hid hk; clear hpn hk; simp only [List.cons_append, List.nil_append] at hp) | go_skip | (first | (refine hA0 ?_; clear hp; intro b w1 hp) | refine hL0 ?_ | (refine hS0 ?_; clear hp; intro w1 hp)))
  exact bodyPost_ret (results_one (rs := [.cell 6 27]) Tryz.results45 (.cell rfl (hp.loadAgg agg27 at0 0 _ (by rfl) (by rfl)) .nil)) rfl ⟨a, c, R, rfl, HK.out, hp.kp⟩
theorem vote_201 (w : World) : Calls Tryz.prog 45 #[.int .i64 2, .int .i64 0, .int .i64 1] w (VotePL w 2 0 1) := vote45 2 0 1 (by decide) w
theorem vote_102 (w : World) : Calls Tryz.prog 45 #[.int .i64 1, .int .i64 0, .int .i64 2] w (VotePL w 1 0 2) := vote45 1 0 2 (by decide) w
theorem vote_203 (w : World) : Calls Tryz.prog 45 #[.int .i64 2, .int .i64 0, .int .i64 3] w (VotePL w 2 0 3) := vote45 2 0 3 (by decide) w
theorem add_lit (l : List Vt) (a : Option Addr) (q k : Nat) (hq : l.length = q) (hl : q ≤ 1000) (hes : ∀ v ∈ l, v.es.length ≤ 100000) (nd nm bs nu cm : Int) (va : Option Addr) (es : List Env) (m vc : Nat) (hm : es.length = m) (hel : m ≤ 100000) (w : World) (ha : RowIs w a (l.flatMap vtV)) (hlv : ∀ v ∈ l, v.Is w) (hva : RowIs w va (es.flatMap envL)) :
    Calls Tryz.prog 15 #[.slice a q k, .agg #[.int .i64 nd, .int .i64 nm, .int .i64 bs, .int .i64 nu, .int .i64 cm, .slice va m vc]] w (AddPost w l ⟨nd, nm, bs, nu, cm, va, es, vc⟩) := by
  subst hq hm
  exact add15 l a k hl hes nd nm bs nu cm va es vc hel w ha hlv hva
theorem own_row {e : TypeId} {c n : Nat} {v : Value} {xs : List Value} {R : List Blk} (h : OwnRow e c v n xs R) (hn : 0 < n) : ∃ g cap, v = .slice (some ⟨g, 0, none⟩) n cap ∧ R = [⟨g, xs, e, cap * c⟩] := by
  obtain ⟨_, ⟨h0, _⟩ | ⟨g, cap, hv, _, _, hr⟩⟩ := h
  · omega
  · exact ⟨g, cap, hv, hr⟩
def AddA (w : World) (e : Ending) (w' : World) : Prop := ∃ (g cap : Nat) (x1 x2 x3 x4 x5 x6 x7 x8 x9 x10 : Value), e = .returned (.slice (some ⟨g, 0, none⟩) 2 cap) ∧ Hp w.heap.size w w' [⟨g, [.int .i64 1, x1, x2, x3, x4, x5, .int .i64 2, x6, x7, x8, x9, x10], 27, cap * 6⟩]
def AddB (w : World) (e : Ending) (w' : World) : Prop := ∃ (g cap : Nat) (x1 x2 x3 x4 x5 : Value), e = .returned (.slice (some ⟨g, 0, none⟩) 1 cap) ∧ Hp w.heap.size w w' [⟨g, [x1, x2, x3, .int .i64 3, x4, x5], 27, cap * 6⟩]
theorem add_A (ad a1 a2 : Option Addr) (c1 c2 : Nat) (w : World) (ha : RowIs w ad [.int .i64 2, .int .i64 0, .int .i64 0, .int .i64 1, .int .i64 0, .slice a1 1 c1]) (h1 : RowIs w a1 ((kE 1).flatMap envL)) (h2 : RowIs w a2 ((kE 2).flatMap envL)) :
    Calls Tryz.prog 15 #[.slice ad 1 1, .agg #[.int .i64 1, .int .i64 0, .int .i64 0, .int .i64 2, .int .i64 0, .slice a2 2 c2]] w (AddA w) := by
  refine (add_lit [⟨2, 0, 0, 1, 0, a1, kE 1, c1⟩] ad 1 1 rfl (by decide) (by intro v hv; obtain rfl := List.mem_singleton.1 hv; exact (by decide : (kE 1).length ≤ 100000)) 1 0 0 2 0 a2 (kE 2) 2 c2 rfl (by decide) w ha (by intro v hv; obtain rfl := List.mem_singleton.1 hv; exact h1) h2).mono fun e w' h => ?_
  obtain ⟨x, ys, R, M, rfl, hy, hr, _, hp⟩ := h
  have hy' : ys.map vstrip = [⟨1, 0, 0, 2, 0, none, kE 2, 0⟩, ⟨2, 0, 0, 1, 0, none, kE 1, 0⟩] := hy.trans rfl
  have h2 : ys.length = 2 := by have := congrArg List.length hy'; simpa using this
  rcases ys with _ | ⟨y0, _ | ⟨y1, _ | ⟨y2, ys⟩⟩⟩
  · simp at h2
  · simp at h2
  · simp only [List.map_cons, List.map_nil, List.cons.injEq, and_true, vstrip, Vt.mk.injEq] at hy'
    obtain ⟨g, cap, rfl, rfl⟩ := own_row hr (by simp)
    have e0 := hy'.1.1
    have e1 := hy'.2.1
    have h : Hp w.heap.size w w' [⟨g, [y0, y1].flatMap vtV, 27, cap * 6⟩] := hp.kp
    simp only [List.flatMap_cons, List.flatMap_nil, vtV, List.cons_append, List.nil_append, e0, e1] at h
    exact ⟨g, cap, _, _, _, _, _, _, _, _, _, _, rfl, h⟩
  · simp at h2
theorem add_B (ad a1 a2 : Option Addr) (c1 c2 : Nat) (w : World) (ha : RowIs w ad [.int .i64 2, .int .i64 0, .int .i64 0, .int .i64 1, .int .i64 0, .slice a1 1 c1]) (h1 : RowIs w a1 ((kE 1).flatMap envL)) (h2 : RowIs w a2 ((kE 3).flatMap envL)) :
    Calls Tryz.prog 15 #[.slice ad 1 1, .agg #[.int .i64 2, .int .i64 0, .int .i64 0, .int .i64 3, .int .i64 0, .slice a2 3 c2]] w (AddB w) := by
  refine (add_lit [⟨2, 0, 0, 1, 0, a1, kE 1, c1⟩] ad 1 1 rfl (by decide) (by intro v hv; obtain rfl := List.mem_singleton.1 hv; exact (by decide : (kE 1).length ≤ 100000)) 2 0 0 3 0 a2 (kE 3) 3 c2 rfl (by decide) w ha (by intro v hv; obtain rfl := List.mem_singleton.1 hv; exact h1) h2).mono fun e w' h => ?_
  obtain ⟨x, ys, R, M, rfl, hy, hr, _, hp⟩ := h
  have hy' : ys.map vstrip = [⟨2, 0, 0, 3, 0, none, kE 3, 0⟩] := hy.trans rfl
  have h2 : ys.length = 1 := by have := congrArg List.length hy'; simpa using this
  obtain ⟨y0, rfl⟩ := List.length_eq_one_iff.1 h2
  simp only [List.map_cons, List.map_nil, List.cons.injEq, and_true, vstrip, Vt.mk.injEq] at hy'
  obtain ⟨g, cap, rfl, rfl⟩ := own_row hr (by simp)
  have e0 := hy'.2.2.2.1
  have h : Hp w.heap.size w w' [⟨g, [y0].flatMap vtV, 27, cap * 6⟩] := hp.kp
  simp only [List.flatMap_cons, List.flatMap_nil, vtV, List.cons_append, List.nil_append, e0] at h
  exact ⟨g, cap, _, _, _, _, _, rfl, h⟩
def RetI (w : World) (n : Int) (e : Ending) (w' : World) : Prop := e = .returned (.int .i64 n) ∧ Below w.heap.size w w'
theorem check_lit (nd nm bs nu cm : Int) (va : Option Addr) (es : List Env) (m vc : Nat) (hm : es.length = m) (hl : m ≤ 100000) (w : World) (ha : RowIs w va (es.flatMap envL)) (b : Bool) (hb : checkV nd nm bs nu cm es = b) :
    Calls Tryz.prog 13 #[.agg #[.int .i64 nd, .int .i64 nm, .int .i64 bs, .int .i64 nu, .int .i64 cm, .slice va m vc]] w (CkPost w b) := by
  subst hm hb
  exact check13L nd nm bs nu cm va es vc hl w ha
theorem check_3 (a : Option Addr) (c : Nat) (w : World) (ha : RowIs w a ((kE 3).flatMap envL)) : Calls Tryz.prog 13 #[.agg #[.int .i64 2, .int .i64 0, .int .i64 0, .int .i64 3, .int .i64 1, .slice a 3 c]] w (RetI w 0) :=
  check_lit 2 0 0 3 1 a (kE 3) 3 c rfl (by decide) w ha true (by kernel_rfl)
theorem check_0 (w : World) : Calls Tryz.prog 13 #[.agg #[.int .i64 0, .int .i64 0, .int .i64 0, .int .i64 0, .int .i64 0, .slice none 0 0]] w (RetI w 150) :=
  check_lit 0 0 0 0 0 none [] 0 0 rfl (by decide) w (RowIs.nil _ _) false (by kernel_rfl)
set_option maxRecDepth 100000 in
set_option maxHeartbeats 8000000 in
theorem votes19 (w : World) : Calls Tryz.prog 19 #[] w fun e w' => e = .returned (.bool true) ∧ Below w.heap.size w w' := by
  have hp := Hp.start w
  go_enter Tryz.func19, Tryz.ntmps19
  go_wp2_with (first | (go_at_call 45; (with_reducible refine (vote_201 _).mono ?_); rintro e w1 ⟨a1, c1, R1, rfl, hk, hpn⟩; replace hp := hp.join hpn; have HK1 := Lib.hid hk; clear hpn hk; simp only [List.cons_append, List.nil_append] at hp) | (go_at_call 45; (with_reducible refine (vote_102 _).mono ?_); rintro e w1 ⟨a2, c2, R2, rfl, hk, hpn⟩; replace hp := hp.join hpn; have HK2 := Lib.hid hk; clear hpn hk; simp only [List.cons_append, List.nil_append] at hp) | (go_at_call 45; (with_reducible refine (vote_203 _).mono ?_); rintro e w1 ⟨a2, c2, R2, rfl, hk, hpn⟩; replace hp := hp.join hpn; have HK2 := Lib.hid hk; clear hpn hk; simp only [List.cons_append, List.nil_append] at hp) | (go_at_call 15; (with_reducible refine (add_A _ _ _ _ _ _ (hp.rowIs at0) (HK1.out.at hp (fun p hm => by simp [hm])) (HK2.out.at hp (fun p hm => by simp [hm]))).mono ?_); rintro e w1 ⟨g1, k1, x1, x2, x3, x4, x5, x6, x7, x8, x9, x10, rfl, hpn⟩; have hq : Hp w.heap.size w w1 [⟨g1, [.int .i64 1, x1, x2, x3, x4, x5, .int .i64 2, x6, x7, x8, x9, x10], 27, k1 * 6⟩] := (hp.join hpn).kp; clear hp hpn HK1 HK2; have hp := hq; clear hq) | (go_at_call 15; (with_reducible refine (add_B _ _ _ _ _ _ (hp.rowIs at0) (HK1.out.at hp (fun p hm => by simp [hm])) (HK2.out.at hp (fun p hm => by simp [hm]))).mono ?_); rintro e w1 ⟨g2, k2, y1, y2, y3, y4, y5, rfl, hpn⟩; have hq : Hp w.heap.size w w1 [⟨g1, [.int .i64 1, x1, x2, x3, x4, x5, .int .i64 2, x6, x7, x8, x9, x10], 27, k1 * 6⟩, ⟨g2, [y1, y2, y3, .int .i64 3, y4, y5], 27, k2 * 6⟩] := (hp.join hpn).kp; clear hp hpn HK1 HK2; have hp := hq; clear hq) | (go_at_call 46; (with_reducible refine (three46 _).mono ?_); rintro e w1 ⟨ak, ck, RK, rfl, _, hkk, hpn⟩; replace hp := hp.join hpn; have HKK := Lib.hid hkk; clear hpn hkk; simp only [List.cons_append, List.nil_append] at hp) | (go_at_call 10; (with_reducible refine (vote_3 _ _ _ (HKK.out.at hp (fun p hm => by simp [hm]))).mono ?_); rintro e w1 ⟨av, cv, RV, rfl, hk, hpn⟩; replace hp := hp.join hpn; have HKV := Lib.hid hk; clear hpn hk HKK; simp only [List.cons_append, List.nil_append] at hp) | (go_at_call 13; (with_reducible refine (check_3 _ _ _ (HKV.out.at hp (fun p hm => by simp [hm]))).mono ?_); rintro e w1 ⟨rfl, hb⟩; replace hp := hp.call hb; clear hb) | (go_at_call 13; (with_reducible refine (check_0 _).mono ?_); rintro e w1 ⟨rfl, hb⟩; replace hp := hp.call hb; clear hb) | go_skip | (first | (refine hA0 ?_; clear hp; intro b w1 hp) | refine hL0 ?_ | (refine hS0 ?_; clear hp; intro w1 hp)))
  go_ret
  exact ⟨rfl, hp.below⟩
end Go.Proofs.YtcjbepaclbhjaaaGreat
