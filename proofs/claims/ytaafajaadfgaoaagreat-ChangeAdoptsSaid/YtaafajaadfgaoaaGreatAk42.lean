/- Parts of the proof. -/
import Derived.Test.YtaafajaadfgaoaaGreatAk27
import Derived.Test.YtaafajaadfgaoaaGreatAk28
open List renaming set_cons_zero → zSet, set_cons_succ → sSet
/- The walk of the law PrepareSaved. -/
set_option linter.unusedSimpArgs false
set_option linter.unusedVariables false
namespace Go.Proofs.YtaafajaadfgaoaaGreat
open Go.RowKit
def Std (w0 : World) (R : List Blk) (P : World → Prop) : Prop := ∀ (w : World) (L : List Blk), Hp w0.heap.size w0 w L → (∀ p ∈ R, p ∈ L) → P w
theorem Std.at {w0 : World} {R : List Blk} {P : World → Prop} (h : Std w0 R P) {w : World} {L : List Blk} (hp : Hp w0.heap.size w0 w L) (hm : ∀ p ∈ R, p ∈ L) : P w := h w L hp hm
theorem Std.ofRow {w0 : World} {a : Option Addr} {xs : List Value} (h : RowIs w0 a xs) : Std w0 [] (fun w => RowIs w a xs) := fun w L hp _ => h.below hp.below
theorem Std.mono {w0 : World} {R R' : List Blk} {P : World → Prop} (h : Std w0 R P) (hs : ∀ p ∈ R, p ∈ R') : Std w0 R' P := fun w L hp hm => h w L hp (fun p hq => hm p (hs p hq))
theorem big_s (vw nm bs : Int) (im : ByteArray) (ea : Option Addr) (es : List Env) (ec : Nat) (ra : Option Addr) (rs : List Env) (rc : Nat) (w : World) : Calls Tryz.prog 13 #[.agg #[.int .i64 vw, .int .i64 nm, .int .i64 bs, .string im, .slice ea es.length ec], .agg #[.int .i64 0, .int .i64 0, .int .i64 0, .int .i64 0, .string ⟨#[]⟩, .int .i64 0, .int .i64 0, .int .i64 0, .int .i64 0, .int .i64 0, .int .i64 0, .int .i64 0, .int .i64 0, .int .i64 0, .int .i64 0, .int .i64 0, .slice ra rs.length rc]] w (BigP w es.length rs.length im.size 0) :=
  big13 vw nm bs im ea es ec 0 0 0 0 ⟨#[]⟩ 0 0 0 0 0 0 0 0 0 0 0 ra rs rc w
end Go.Proofs.YtaafajaadfgaoaaGreat
/- The walks of the examples of Adopt. -/
namespace Go.Proofs.YtaafajaadfgaoaaGreat
open Go.RowKit
theorem ceWBa0 {ty : TypeId} (h : cellB Tryz.prog ty = true := by with_reducible first | exact cell3 | exact cell4 | exact cell22) : cellB Tryz.prog ty = true := h
theorem ceWBa1 {ty : TypeId} (h : cellB Tryz.prog ty = true := by with_reducible first | exact cell3 | exact cell4 | exact cell22 | exact cell37) : cellB Tryz.prog ty = true := h
theorem ceWBa2 {ty : TypeId} (h : cellB Tryz.prog ty = true := by with_reducible first | exact cell3 | exact cell4 | exact cell22 | exact cell37 | exact cell26) : cellB Tryz.prog ty = true := h
theorem kE_succ (n : Nat) : kE (n + 1) = kE n ++ [En ((n : Int) + 1)] := by
  unfold kE
  rw [List.range_succ, List.map_append]; rfl
theorem grow_permR {B : Nat} {w0 w : World} {x : Blk} {RO : List Blk} (hp : Hp B w0 w (x :: RO)) : Hp B w0 w (x :: ([] ++ (RO ++ []))) := by simpa using hp
def RowP (w : World) (n : Nat) (e : Ending) (w' : World) : Prop := ∃ (a : Option Addr) (c : Nat) (R : List Blk), e = .returned (.slice a n c) ∧ n ≤ c ∧ Kept R (fun w => RowIs w a ((kE n).flatMap envL)) ∧ Hp w.heap.size w w' R
set_option maxRecDepth 100000 in
set_option maxHeartbeats 8000000 in
theorem row69 (n : Nat) (hn : n ≤ 4) (w : World) : Calls Tryz.prog 69 #[.int .i64 (n : Int)] w (RowP w n) := by
  obtain ⟨i0, hi0, hz0, hz1, hz2⟩ := info_parts info31
  have hp := Hp.start w
  go_enter Tryz.func69, Tryz.ntmps69
  go_wp2_with (first | go_skip | ((first | ((with_reducible refine pre_box _ _ rfl ?_); refine lB hp rfl (sTm rfl) rfl ?_; clear hp; intro b w1 hp) | ((with_reducible refine pre_load _ _ rfl ?_); first | refine lO hp rfl (sTm rfl) ceWBa0 aa5 ?_ | refine lA hp rfl (sTm rfl) agg31 aa5 ?_) | ((with_reducible refine pre_store _ _ _ rfl ?_); (first | refine sO hp rfl (sTm rfl) ceWBa0 aa5 ?_ | refine sA hp rfl (sTm rfl) (sTm rfl) agg31 aa5 ?_ | refine sG hp rfl (sTm rfl) (sTm rfl) agg31 aa5 ?_); clear hp; intro w1 hp; simp only [spl, zSet, sSet] at hp) | ((with_reducible refine pre_build _ _ _ rfl ?_); refine lS hp rfl (by intro w; go_simp; rfl) ?_; clear hp; intro b w1 hp; simp only [List.length_cons, List.length_nil, Nat.reduceAdd] at hp)); simp only [put_some, put_none, sSet, zSet]))
  go_loopg [4, 3] n (fun k i v wr => ∃ (j : Nat) (RO : List Blk), k + j = n ∧ i = .int .i64 ((j : Int) + 1) ∧ RowKit.Hid (OwnRow 31 11 v j ((kE j).flatMap envL) RO) ∧ Hp w.heap.size w wr RO)
  case atStart => exact ⟨0, [], by omega, rfl, Lib.hid (OwnRow.nil _ _), hp⟩
  case round =>
    clear hp
    obtain ⟨j, RO, hkj, rfl, HRO, hp⟩ := hrel
    by_cases hlt : j < n
    · have e1 : decide ((j : Int) + 1 ≤ (n : Int)) = true := by simp; omega
      have HL1 : RowKit.Hid (j + 1 ≤ maxLen) := Lib.hid (by unfold maxLen; omega)
      have HL2 : RowKit.Hid ((j + 1) * 88 ≤ 140737488355328) := Lib.hid (by omega)
      have e2 : wrap64 ((j : Int) + 1 + 1) = ((j + 1 : Nat) : Int) + 1 := by unfold wrap64; push_cast; omega
      go_wp2_with (first | ((with_reducible refine pre_append _ _ 22 rfl ?_); refine wpList_appendGrow (K := []) (R := RO) (M := []) (grow_permR hp) _ _ _ rfl wy i0 _ 88 Tryz.underlying22 hi0 hz0 hz1 hz2 rfl (by decide) (sTm rfl) HRO.out 1 1 (sTm rfl) (by rfl) (by decide) (by rfl) HL1.out HL2.out ?_; clear hp HRO; intro v' R' w1 hR' hp; obtain ⟨av, kv, rfl, _⟩ := hR'.kept; have HR' := Lib.hid hR'; clear hR'; simp only [List.cons_append, List.nil_append, List.append_nil] at hp; simp only [put_some, put_none, sSet, zSet]) | go_skip | ((first | ((with_reducible refine pre_box _ _ rfl ?_); refine lB hp rfl (sTm rfl) rfl ?_; clear hp; intro b w1 hp) | ((with_reducible refine pre_load _ _ rfl ?_); first | refine lO hp rfl (sTm rfl) ceWBa0 aa5 ?_ | refine lA hp rfl (sTm rfl) agg31 aa5 ?_) | ((with_reducible refine pre_store _ _ _ rfl ?_); (first | refine sO hp rfl (sTm rfl) ceWBa0 aa5 ?_ | refine sA hp rfl (sTm rfl) (sTm rfl) agg31 aa5 ?_ | refine sG hp rfl (sTm rfl) (sTm rfl) agg31 aa5 ?_); clear hp; intro w1 hp; simp only [spl, zSet, sSet] at hp) | ((with_reducible refine pre_build _ _ _ rfl ?_); refine lS hp rfl (by intro w; go_simp; rfl) ?_; clear hp; intro b w1 hp; simp only [List.length_cons, List.length_nil, Nat.reduceAdd] at hp)); simp only [put_some, put_none, sSet, zSet]))
      go_roundg (gk - 1)
      case measure => omega
      case rel => exact ⟨j + 1, R', by omega, congrArg (Value.int .i64) (by push_cast; omega), Lib.hid (by rw [kE_succ, List.flatMap_append]; exact HR'.out), hp⟩
    · obtain rfl : j = n := by omega
      have e1 : decide ((j : Int) + 1 ≤ (j : Int)) = false := by simp; omega
      obtain ⟨av, kv, rfl, hc, hk⟩ := HRO.out.keptC
      clear hkj hlt HRO
      go_wp2_with (first | go_skip | ((first | ((with_reducible refine pre_box _ _ rfl ?_); refine lB hp rfl (sTm rfl) rfl ?_; clear hp; intro b w1 hp) | ((with_reducible refine pre_load _ _ rfl ?_); first | refine lO hp rfl (sTm rfl) ceWBa0 aa5 ?_ | refine lA hp rfl (sTm rfl) agg31 aa5 ?_) | ((with_reducible refine pre_store _ _ _ rfl ?_); (first | refine sO hp rfl (sTm rfl) ceWBa0 aa5 ?_ | refine sA hp rfl (sTm rfl) (sTm rfl) agg31 aa5 ?_ | refine sG hp rfl (sTm rfl) (sTm rfl) agg31 aa5 ?_); clear hp; intro w1 hp; simp only [spl, zSet, sSet] at hp) | ((with_reducible refine pre_build _ _ _ rfl ?_); refine lS hp rfl (by intro w; go_simp; rfl) ?_; clear hp; intro b w1 hp; simp only [List.length_cons, List.length_nil, Nat.reduceAdd] at hp)); simp only [put_some, put_none, sSet, zSet]))
      go_ret
      exact ⟨av, kv, RO, rfl, hc, hk, hp⟩
theorem row_1 (w : World) : Calls Tryz.prog 69 #[.int .i64 1] w (RowP w 1) := row69 1 (by decide) w
theorem row_3 (w : World) : Calls Tryz.prog 69 #[.int .i64 3] w (RowP w 3) := row69 3 (by decide) w
theorem row_4 (w : World) : Calls Tryz.prog 69 #[.int .i64 4] w (RowP w 4) := row69 4 (by decide) w
set_option maxRecDepth 100000 in
theorem three68 (w : World) : Calls Tryz.prog 68 #[] w (KeptP w 3) := by
  have hp := Hp.start w
  go_enter Tryz.func68, Tryz.ntmps68
  go_wp2_with (first | (go_at_call 89; (with_reducible refine (newo_3 _).mono ?_); rintro e w1 ⟨rfl, hb⟩; replace hp := hp.call hb; clear hb) | (go_at_call 69; (with_reducible refine (row_3 _).mono ?_); rintro e w1 ⟨a3, c3, RK, rfl, hc3, hk3, hpn⟩; replace hp := hp.join hpn; have HC := Lib.hid hc3; have HK := Lib.hid hk3; clear hpn hc3 hk3; simp only [List.cons_append, List.nil_append] at hp) | go_skip | ((first | ((with_reducible refine pre_alloc _ rfl ?_); refine lZ hp rfl zero24 ?_; clear hp; intro b w1 hp) | ((with_reducible refine pre_box _ _ rfl ?_); refine lB hp rfl (sTm rfl) rfl ?_; clear hp; intro b w1 hp) | ((with_reducible refine pre_load _ _ rfl ?_); first | refine lO hp rfl (sTm rfl) ceWBa1 aa5 ?_ | refine lA hp rfl (sTm rfl) agg24 aa5 ?_) | ((with_reducible refine pre_store _ _ _ rfl ?_); (first | refine sO hp rfl (sTm rfl) ceWBa1 aa5 ?_ | refine sA hp rfl (sTm rfl) (sTm rfl) agg24 aa5 ?_ | refine sG hp rfl (sTm rfl) (sTm rfl) agg24 aa5 ?_); clear hp; intro w1 hp; simp only [spl, zSet, sSet] at hp)); simp only [put_some, put_none, sSet, zSet]))
  exact bodyPost_ret (results_one (rs := [.cell 0 24]) Tryz.results68 (.cell rfl (hp.loadAgg agg24 at1 0 _ (by rfl) (by rfl)) .nil)) rfl ⟨a3, c3, RK, rfl, HC.out, HK.out, hp.kp⟩
theorem adopt_no (vw nm bs : Int) (im : ByteArray) (ea : Option Addr) (es : List Env) (s ec : Nat) (hsl : es.length = s) (cm nv nb : Int) (la : Option Addr) (l : List Env) (m lc : Nat) (hlm : l.length = m) (hs : Kv.Small ⟨vw, nm, bs, im, ea, es, ec⟩) (hl : m ≤ 100000) (w : World) (ha : RowIs w ea (es.flatMap envL)) (hla : RowIs w la (l.flatMap envL)) (hb : adoptB ⟨vw, nm, bs, im, ea, es, ec⟩ cm nv nb l = false) :
    Calls Tryz.prog 14 #[.agg #[.int .i64 vw, .int .i64 nm, .int .i64 bs, .string im, .slice ea s ec], .int .i64 cm, .int .i64 nv, .int .i64 nb, .slice la m lc] w fun e w' => e = .returned (.tuple #[.agg #[.int .i64 0, .int .i64 0, .int .i64 0, .int .i64 0, .string ⟨#[]⟩, .int .i64 0, .int .i64 0, .int .i64 0, .int .i64 0, .int .i64 0, .int .i64 0, .int .i64 0, .int .i64 0, .int .i64 0, .int .i64 0, .int .i64 0, .slice none 0 0], .bool false]) ∧ Below w.heap.size w w' := by
  subst hsl hlm
  exact adopt14_no vw nm bs im ea es ec cm nv nb la l lc hs hl w ha hla hb
theorem adopt_yes (vw nm bs : Int) (im : ByteArray) (ea : Option Addr) (es : List Env) (s ec : Nat) (hsl : es.length = s) (cm nv nb : Int) (la : Option Addr) (l : List Env) (m lc : Nat) (hlm : l.length = m) (hs : Kv.Small ⟨vw, nm, bs, im, ea, es, ec⟩) (hl : m ≤ 100000) (w : World) (ha : RowIs w ea (es.flatMap envL)) (hla : RowIs w la (l.flatMap envL)) (hlc : m ≤ lc) (hb : adoptB ⟨vw, nm, bs, im, ea, es, ec⟩ cm nv nb l = true) (f : List Env) (q : Nat) (hf : adoptL cm nb l = f) (hq : f.length = q) :
    Calls Tryz.prog 14 #[.agg #[.int .i64 vw, .int .i64 nm, .int .i64 bs, .string im, .slice ea s ec], .int .i64 cm, .int .i64 nv, .int .i64 nb, .slice la m lc] w (AdoptPost w nv cm f q) := by
  subst hsl hlm hf
  exact adopt14_yes vw nm bs im ea es ec cm nv nb la l lc hs hl w ha hla hlc hb q hq
theorem ax_b (a : Option Addr) (c : Nat) : adoptB ⟨0, 0, 0, im3, a, kE 3, c⟩ 2 4 0 (kE 4) = true := by
  unfold adoptB lastK
  rw [kE_ok 3 (by decide), kE_len, kE_len]
  kernel_rfl
theorem ax_n (a : Option Addr) (c : Nat) : adoptB ⟨0, 0, 0, im3, a, kE 3, c⟩ 2 4 3 [] = false := by
  unfold adoptB lastK
  rw [kE_ok 3 (by decide), kE_len]
  kernel_rfl
theorem ax_s (a : Option Addr) (c : Nat) : adoptB ⟨0, 0, 0, im3, a, kE 3, c⟩ 2 4 0 (kE 1) = false := by
  unfold adoptB lastK
  rw [kE_ok 3 (by decide), kE_len, kE_len]
  kernel_rfl
theorem adopt_a (a : Option Addr) (c : Nat) (la : Option Addr) (lc : Nat) (hlc : 4 ≤ lc) (w : World) (ha : RowIs w a ((kE 3).flatMap envL)) (hla : RowIs w la ((kE 4).flatMap envL)) :
    Calls Tryz.prog 14 #[.agg #[.int .i64 0, .int .i64 0, .int .i64 0, .string im3, .slice a 3 c], .int .i64 2, .int .i64 4, .int .i64 0, .slice la 4 lc] w fun e w' => ∃ b off c R, e = .returned (.tuple #[.agg #[.int .i64 3, .int .i64 4, .int .i64 2, .int .i64 0, .string ⟨#[]⟩, .int .i64 0, .int .i64 0, .int .i64 0, .int .i64 0, .int .i64 0, .int .i64 0, .int .i64 0, .int .i64 0, .int .i64 0, .int .i64 0, .int .i64 0, .slice (some ⟨b, off, none⟩) 2 c], .bool true]) ∧ Kept R (fun w => w.cell? ⟨b, off, none⟩ = some (.int .i64 3)) ∧ Hp w.heap.size w w' R := by
  refine (adopt_yes 0 0 0 im3 a (kE 3) 3 c (kE_len 3) 2 4 0 la (kE 4) 4 lc (kE_len 4) (kE_small 3 (by decide) a c) (by decide) w ha hla hlc (ax_b a c) [En 3, En 4] 2 rfl rfl).mono fun e w' h => ?_
  obtain ⟨a, c, R, rfl, _, hm, hp⟩ := h
  have hr := hm.at hp (fun p hq => hq)
  obtain ⟨b, off, rfl, _⟩ := hr.elems 11 envL_len11 (by decide) (by decide)
  exact ⟨b, off, c, R, rfl, hm.mono (fun p hq => hq) (fun w hw => hw.fixC 0 _ rfl), hp⟩
def NoP (w : World) (e : Ending) (w' : World) : Prop := e = .returned (.tuple #[.agg #[.int .i64 0, .int .i64 0, .int .i64 0, .int .i64 0, .string ⟨#[]⟩, .int .i64 0, .int .i64 0, .int .i64 0, .int .i64 0, .int .i64 0, .int .i64 0, .int .i64 0, .int .i64 0, .int .i64 0, .int .i64 0, .int .i64 0, .slice none 0 0], .bool false]) ∧ Below w.heap.size w w'
theorem adopt_n (a : Option Addr) (c : Nat) (w : World) (ha : RowIs w a ((kE 3).flatMap envL)) :
    Calls Tryz.prog 14 #[.agg #[.int .i64 0, .int .i64 0, .int .i64 0, .string im3, .slice a 3 c], .int .i64 2, .int .i64 4, .int .i64 3, .slice none 0 0] w (NoP w) :=
  adopt_no 0 0 0 im3 a (kE 3) 3 c (kE_len 3) 2 4 3 none [] 0 0 rfl (kE_small 3 (by decide) a c) (by decide) w ha (RowIs.nil _ _) (ax_n a c)
theorem adopt_s (a : Option Addr) (c : Nat) (la : Option Addr) (lc : Nat) (w : World) (ha : RowIs w a ((kE 3).flatMap envL)) (hla : RowIs w la ((kE 1).flatMap envL)) :
    Calls Tryz.prog 14 #[.agg #[.int .i64 0, .int .i64 0, .int .i64 0, .string im3, .slice a 3 c], .int .i64 2, .int .i64 4, .int .i64 0, .slice la 1 lc] w (NoP w) :=
  adopt_no 0 0 0 im3 a (kE 3) 3 c (kE_len 3) 2 4 0 la (kE 1) 1 lc (kE_len 1) (kE_small 3 (by decide) a c) (by decide) w ha hla (ax_s a c)
set_option maxRecDepth 100000 in
set_option maxHeartbeats 16000000 in
theorem adopts15 (w : World) : Calls Tryz.prog 15 #[] w fun e w' => e = .returned (.bool true) ∧ Below w.heap.size w w' := by
  have hp := Hp.start w
  go_enter Tryz.func15, Tryz.ntmps15
  go_wp2_with (first | (go_at_call 68; (with_reducible refine (three68 _).mono ?_); rintro e w1 ⟨ak, ck, RK, rfl, _, hkk, hpn⟩; replace hp := hp.join hpn; have HKK := Lib.hid hkk; clear hpn hkk; try simp only [List.cons_append, List.nil_append, List.append_assoc] at hp) | (go_at_call 69; (with_reducible refine (row_4 _).mono ?_); rintro e w1 ⟨ap, cp, RP, rfl, hcp, hpp, hpn⟩; replace hp := hp.join hpn; have HCP := Lib.hid hcp; have HPP := Lib.hid hpp; clear hpn hcp hpp; try simp only [List.cons_append, List.nil_append, List.append_assoc] at hp) | (go_at_call 69; (with_reducible refine (row_1 _).mono ?_); rintro e w1 ⟨ap, cp, RP, rfl, hcp, hpp, hpn⟩; replace hp := hp.join hpn; have HCP := Lib.hid hcp; have HPP := Lib.hid hpp; clear hpn hcp hpp; try simp only [List.cons_append, List.nil_append, List.append_assoc] at hp) | (go_at_call 14; (with_reducible refine (adopt_a _ _ _ _ HCP.out _ (HKK.out.at hp (fun p hm => by simp [hm])) (HPP.out.at hp (fun p hm => by simp [hm]))).mono ?_); rintro e w1 ⟨bm, om, cm, RM, rfl, hkm, hpn⟩; replace hp := hp.join hpn; have HKM := Lib.hid hkm; clear hpn hkm HKK HPP HCP; try simp only [List.cons_append, List.nil_append, List.append_assoc] at hp) | (go_at_call 14; (with_reducible refine (adopt_n _ _ _ (HKK.out.at hp (fun p hm => by simp [hm]))).mono ?_); rintro e w1 ⟨rfl, hb⟩; replace hp := hp.call hb; clear hb HKK) | (go_at_call 14; (with_reducible refine (adopt_s _ _ _ _ _ (HKK.out.at hp (fun p hm => by simp [hm])) (HPP.out.at hp (fun p hm => by simp [hm]))).mono ?_); rintro e w1 ⟨rfl, hb⟩; replace hp := hp.call hb; clear hb) | ((with_reducible refine pre_load _ _ rfl ?_); refine lRO (Hp.start _) rfl (sTm rfl) cell3 (HKM.out.at hp (fun p hm => by simp [hm])) ?_; simp only [put_some, put_none, sSet, zSet]) | go_skip | ((first | ((with_reducible refine pre_alloc _ rfl ?_); refine lZ hp rfl zero33 ?_; clear hp; intro b w1 hp) | ((with_reducible refine pre_box _ _ rfl ?_); refine lB hp rfl (sTm rfl) rfl ?_; clear hp; intro b w1 hp) | ((with_reducible refine pre_load _ _ rfl ?_); first | refine lO hp rfl (sTm rfl) ceWBa2 aa5 ?_ | refine lA hp rfl (sTm rfl) (by with_reducible first | exact agg24 | exact agg33) aa5 ?_) | ((with_reducible refine pre_store _ _ _ rfl ?_); (first | refine sO hp rfl (sTm rfl) ceWBa2 aa5 ?_ | refine sA hp rfl (sTm rfl) (sTm rfl) (by with_reducible first | exact agg24 | exact agg33) aa5 ?_ | refine sG hp rfl (sTm rfl) (sTm rfl) (by with_reducible first | exact agg24 | exact agg33) aa5 ?_); clear hp; intro w1 hp; simp only [spl, zSet, sSet] at hp) | ((with_reducible refine pre_build _ _ _ rfl ?_); refine lS hp rfl (by intro w; go_simp; rfl) ?_; clear hp; intro b w1 hp; simp only [List.length_cons, List.length_nil, Nat.reduceAdd] at hp)); simp only [put_some, put_none, sSet, zSet]))
  go_ret
  exact ⟨rfl, hp.below⟩
end Go.Proofs.YtaafajaadfgaoaaGreat
