/- Parts of the proof. -/
import Derived.Test.YtaafajaadfgaoaaGreatPk45
open List renaming set_cons_zero → zSet, set_cons_succ → sSet
/- The walk of the examples of Join. -/
set_option linter.unusedSimpArgs false
set_option linter.unusedVariables false
namespace Go.Proofs.YtaafajaadfgaoaaGreat
open Go.RowKit
theorem ceVBa0 {ty : TypeId} (h : cellB Tryz.prog ty = true := by with_reducible first | exact cell3 | exact cell4 | exact cell22 | exact cell87 | exact cell26) : cellB Tryz.prog ty = true := h
def JoinL (w : World) (b : Bool) (f : List Env) (m : Nat) (e : Ending) (w' : World) : Prop := ∃ (a : Option Addr) (k : Nat) (R : List Blk), e = .returned (.tuple #[.slice a m k, .bool b]) ∧ Kept R (fun w => RowIs w a (f.flatMap recL)) ∧ Hp w.heap.size w w' R
theorem join_lit (vw nm bs : Int) (im : ByteArray) (ea : Option Addr) (es : List Env) (s ec : Nat) (hsl : es.length = s) (n : Int) (la : Option Addr) (l : List Env) (m lc : Nat) (hlm : l.length = m) (hs : Kv.Small ⟨vw, nm, bs, im, ea, es, ec⟩) (hl : m ≤ 100000) (w : World) (ha : RowIs w ea (es.flatMap envL)) (hla : RowIs w la (l.flatMap envL)) (b : Bool) (f : List Env) (q : Nat) (hb : joinB ⟨vw, nm, bs, im, ea, es, ec⟩ n l = b) (hf : (if b = true then joinF ⟨vw, nm, bs, im, ea, es, ec⟩ l else []) = f) (hq : f.length = q) :
    Calls Tryz.prog 55 #[.agg #[.int .i64 vw, .int .i64 nm, .int .i64 bs, .string im, .slice ea s ec], .int .i64 n, .slice la m lc] w (JoinL w b f q) := by
  subst hsl hlm hq
  refine (join55L vw nm bs im ea es ec n la l lc hs hl w ha hla b f hb hf).mono fun e w' h => ?_
  obtain ⟨v, R, rfl, ho, hp⟩ := h
  obtain ⟨a, k, rfl, hk⟩ := ho.kept
  exact ⟨a, k, R, rfl, hk, hp⟩
theorem jx_b (a : Option Addr) (c : Nat) : joinB ⟨0, 0, 0, im3, a, kE 3, c⟩ 2 [En 3, En 4] = true := by
  unfold joinB
  rw [kE_ok 3 (by decide)]
  kernel_rfl
theorem jx_f (a : Option Addr) (c : Nat) : (if true = true then joinF ⟨0, 0, 0, im3, a, kE 3, c⟩ [En 3, En 4] else []) = [En 4] := by
  rw [if_pos rfl]
  unfold joinF lastK
  rw [kE_len]
  simp [En]
theorem jx_n (a : Option Addr) (c : Nat) : joinB ⟨0, 0, 0, im3, a, kE 3, c⟩ 4 [] = false := by
  unfold joinB lastK
  rw [kE_len, kE_ok 3 (by decide)]
  kernel_rfl
theorem join_a (a : Option Addr) (c : Nat) (la : Option Addr) (w : World) (ha : RowIs w a ((kE 3).flatMap envL)) (hla : RowIs w la ([En 3, En 4].flatMap envL)) :
    Calls Tryz.prog 55 #[.agg #[.int .i64 0, .int .i64 0, .int .i64 0, .string im3, .slice a 3 c], .int .i64 2, .slice la 2 2] w fun e w' => ∃ b off c R, e = .returned (.tuple #[.slice (some ⟨b, off, none⟩) 1 c, .bool true]) ∧ Kept R (fun w => ∀ j v, [Value.int .i64 2, .int .i64 0, .int .i64 0, .int .i64 0, .string ⟨#[]⟩, .int .i64 4][j]? = some v → w.cell? ⟨b, off + j, none⟩ = some v) ∧ Hp w.heap.size w w' R := by
  refine (join_lit 0 0 0 im3 a (kE 3) 3 c (kE_len 3) 2 la [En 3, En 4] 2 2 rfl (kE_small 3 (by decide) a c) (by decide) w ha hla true [En 4] 1 (jx_b a c) (jx_f a c) rfl).mono fun e w' h => ?_
  obtain ⟨a, c, R, rfl, hm, hp⟩ := h
  have hr := hm.at hp (fun p hq => hq)
  obtain ⟨b, off, rfl, _⟩ := hr.elems 17 recL_len Nat.zero_lt_one (by decide)
  refine ⟨b, off, c, R, rfl, hm.mono (fun p hq => hq) (fun w hw => ?_), hp⟩
  have h5 := hw.fixC
  intro j v hj
  refine h5 j v ?_
  have hj2 : j < 6 := by
    have := (List.getElem?_eq_some_iff.1 hj).1
    simpa using this
  have : j = 0 ∨ j = 1 ∨ j = 2 ∨ j = 3 ∨ j = 4 ∨ j = 5 := by omega
  rcases this with rfl | rfl | rfl | rfl | rfl | rfl <;> exact hj
theorem join_b (a : Option Addr) (c : Nat) (w : World) (ha : RowIs w a ((kE 3).flatMap envL)) :
    Calls Tryz.prog 55 #[.agg #[.int .i64 0, .int .i64 0, .int .i64 0, .string im3, .slice a 3 c], .int .i64 4, .slice none 0 0] w fun e w' => ∃ a k R, e = .returned (.tuple #[.slice a 0 k, .bool false]) ∧ Hp w.heap.size w w' R :=
  (join_lit 0 0 0 im3 a (kE 3) 3 c (kE_len 3) 4 none [] 0 0 rfl (kE_small 3 (by decide) a c) (by decide) w ha (RowIs.nil _ _) false [] 0 (jx_n a c) rfl rfl).mono fun e w' ⟨a, k, R, h1, _, h2⟩ => ⟨a, k, R, h1, h2⟩
theorem two_34 {B : Nat} {w0 w : World} {L : List Blk} {b t n : Nat} (hp : Hp B w0 w (⟨b, [.int .i64 3, .int .i64 0, .int .i64 0, .int .i64 0, .int .i64 0, .int .i64 0, .int .i64 0, .int .i64 0, .int .i64 0, .int .i64 0, .int .i64 0, .int .i64 4, .int .i64 0, .int .i64 0, .int .i64 0, .int .i64 0, .int .i64 0, .int .i64 0, .int .i64 0, .int .i64 0, .int .i64 0, .int .i64 0], t, n⟩ :: L)) : RowIs w (some ⟨b, 0, none⟩) ([En 3, En 4].flatMap envL) := hp.rowIs (i := 0) rfl
set_option maxRecDepth 100000 in
set_option maxHeartbeats 16000000 in
theorem joins57 (w : World) : Calls Tryz.prog 57 #[] w fun e w' => e = .returned (.bool true) ∧ Below w.heap.size w w' := by
  have hp := Hp.start w
  go_enter Tryz.func57, Tryz.ntmps57
  go_wp2_with (first | (go_at_call 132; (with_reducible refine (kept_3 _).mono ?_); rintro e w1 ⟨ak, ck, RK, rfl, hck, hkk, hpn⟩; replace hp := hp.join hpn; have HKK := Lib.hid hkk; clear hpn hkk hck; simp only [List.cons_append, List.nil_append, List.append_assoc] at hp) | (go_at_call 55; (with_reducible refine (join_a _ _ _ _ (HKK.out.at hp (fun p hm => by simp [hm])) (two_34 hp)).mono ?_); rintro e w1 ⟨bm, om, cm, RM, rfl, hkm, hpn⟩; replace hp := hp.join hpn; have HKM := Lib.hid hkm; clear hpn hkm; simp only [List.cons_append, List.nil_append, List.append_assoc] at hp) | (go_at_call 55; (with_reducible refine (join_b _ _ _ (HKK.out.at hp (fun p hm => by simp [hm]))).mono ?_); rintro e w1 ⟨an, cn, RN, rfl, hpn⟩; replace hp := hp.join hpn; clear hpn; simp only [List.cons_append, List.nil_append, List.append_assoc] at hp) | ((with_reducible refine pre_load _ _ rfl ?_); first | (refine lRO (Hp.start _) rfl (sTm rfl) cell26 (HKM.out.at hp (fun p hm => by simp [hm]) 0 _ rfl) ?_; simp only [put_some, put_none, sSet, zSet]) | (refine lRO (Hp.start _) rfl (sTm rfl) cell3 (HKM.out.at hp (fun p hm => by simp [hm]) 5 _ rfl) ?_; simp only [put_some, put_none, sSet, zSet])) | go_skip | ((first | ((with_reducible refine pre_alloc _ rfl ?_); refine lZ hp rfl zero24 ?_; clear hp; intro b w1 hp) | ((with_reducible refine pre_box _ _ rfl ?_); refine lB hp rfl (sTm rfl) rfl ?_; clear hp; intro b w1 hp) | ((with_reducible refine pre_load _ _ rfl ?_); first | refine lO hp rfl (sTm rfl) ceVBa0 aa5 ?_ | refine lA hp rfl (sTm rfl) (by with_reducible first | exact agg24 | exact agg31) aa5 ?_) | ((with_reducible refine pre_store _ _ _ rfl ?_); (first | refine sO hp rfl (sTm rfl) ceVBa0 aa5 ?_ | refine sA hp rfl (sTm rfl) (sTm rfl) (by with_reducible first | exact agg24 | exact agg31) aa5 ?_ | refine sG hp rfl (sTm rfl) (sTm rfl) (by with_reducible first | exact agg24 | exact agg31) aa5 ?_); clear hp; intro w1 hp; simp only [spl, zSet, sSet] at hp) | ((with_reducible refine pre_build _ _ _ rfl ?_); refine lS hp rfl (by intro w; go_simp; rfl) ?_; clear hp; intro b w1 hp; simp only [List.length_cons, List.length_nil, Nat.reduceAdd] at hp)); simp only [put_some, put_none, sSet, zSet]))
  go_ret
  exact ⟨rfl, hp.below⟩
end Go.Proofs.YtaafajaadfgaoaaGreat
