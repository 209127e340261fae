import Derived.Test.YtjcbpfbifbfkcaaGreatTx30
import Derived.Test.YtjcbpfbifbfkcaaGreatTx28
import Derived.Test.YtjcbpfbifbfkcaaGreatTx21
set_option linter.unusedSimpArgs false
set_option linter.unusedVariables false
set_option maxRecDepth 100000
set_option maxHeartbeats 60000000
namespace Go.Proofs.YtjcbpfbifbfkcaaGreat
open Go.RowKit
theorem zmL {ty : TypeId} (h : zx Tryz.prog ty = true := by with_reducible first | exact zn | exact Zy | exact zB | exact zhC | exact zX) : zx Tryz.prog ty = true := h
def Std (w0 : World) (R : List Blk) (P : World → Prop) : Prop := ∀ (w : World) (L : List Blk), Hp w0.heap.size w0 w L → (∀ p ∈ R, p ∈ L) → P w
theorem Std.at {w0 : World} {R : List Blk} {P : World → Prop} (h : Std w0 R P) {w : World} {L : List Blk} (hp : Hp w0.heap.size w0 w L) (hm : ∀ p ∈ R, p ∈ L) : P w := h w L hp hm
theorem Std.ofKept {w0 : World} {R : List Blk} {P : World → Prop} (h : zaa R P) : Std w0 R P := fun w L hp hm => h _ _ _ _ hp hm
theorem Std.ofRow {w0 : World} {a : Option Addr} {xs : List Value} (h : zm w0 a xs) : Std w0 [] (fun w => zm w a xs) := fun w L hp _ => h.below hp.below
theorem Std.mono {w0 : World} {R R' : List Blk} {P : World → Prop} (h : Std w0 R P) (hs : ∀ p ∈ R, p ∈ R') : Std w0 R' P := fun w L hp hm => h w L hp (fun p hq => hm p (hs p hq))
theorem zlk (vw nm bs : Int) (im : ByteArray) (ea : Option Addr) (es : List Env) (ec : Nat) (ra : Option Addr) (rs : List Env) (rc : Nat) (w : World) : Calls Tryz.prog 18 #[.agg #[.int .i64 vw, .int .i64 nm, .int .i64 bs, .string im, .slice ea es.length ec], .agg #[.int .i64 0, .int .i64 0, .int .i64 0, .int .i64 0, .string ⟨#[]⟩, .int .i64 0, .int .i64 0, .int .i64 0, .int .i64 0, .int .i64 0, .int .i64 0, .int .i64 0, .int .i64 0, .int .i64 0, .int .i64 0, .int .i64 0, .slice ra rs.length rc]] w (zmD w es.length rs.length im.size 0) :=
 zmf vw nm bs im ea es ec 0 0 0 0 ⟨#[]⟩ 0 0 0 0 0 0 0 0 0 0 0 ra rs rc w
theorem zkL (vw nm bs : Int) (im : ByteArray) (a : Option Addr) (ex : List Env) (c : Nat) (nu vi cl sq kk hh ii nn cc vv tt : Int) (m : Nat) (hm : (ex ++ [(⟨nu, vi, cl, sq, ⟨kk, hh, ii, nn, cc, vv, tt⟩⟩ : Env)]).length = m) (hf : zaT ⟨vw, nm, bs, im, a, ex, c⟩ (zjC (⟨nu, vi, cl, sq, ⟨kk, hh, ii, nn, cc, vv, tt⟩⟩ : Env)) = (0, zcH ⟨vw, nm, bs, im, a, ex, c⟩ [(⟨nu, vi, cl, sq, ⟨kk, hh, ii, nn, cc, vv, tt⟩⟩ : Env)])) (hes : ex.length ≤ 1500) (him : im.size ≤ 1000000) (w : World) (ha : zm w a (ex.flatMap zQ)) :
  Calls Tryz.prog 19 #[.agg #[.int .i64 vw, .int .i64 nm, .int .i64 bs, .string im, .slice a ex.length c], .agg #[.int .i64 2, .int .i64 0, .int .i64 0, .int .i64 0, .string ⟨#[]⟩, .int .i64 nu, .int .i64 vi, .int .i64 cl, .int .i64 sq, .int .i64 kk, .int .i64 hh, .int .i64 ii, .int .i64 nn, .int .i64 cc, .int .i64 vv, .int .i64 tt, .slice none 0 0]] w fun e w' => ∃ a c R, e = .returned (.tuple #[.agg #[.int .i64 vw, .int .i64 nm, .int .i64 bs, .string im, .slice a m c], .int .i64 0]) ∧ zaa R (fun w => zm w a ((ex ++ [(⟨nu, vi, cl, sq, ⟨kk, hh, ii, nn, cc, vv, tt⟩⟩ : Env)]).flatMap zQ)) ∧ Hp w.heap.size w w' R :=
 (zh0 vw nm bs im a ex _ c rfl 2 0 0 0 ⟨#[]⟩ nu vi cl sq kk hh ii nn cc vv tt none [] 0 0 rfl vw nm bs im (ex ++ [(⟨nu, vi, cl, sq, ⟨kk, hh, ii, nn, cc, vv, tt⟩⟩ : Env)]) m hm _ _ hf hes him (by decide) (by decide) zb9 w ha (zm.nil _ _)).mono fun _ _ ⟨a, c, R, h1, _, h3, h4⟩ => ⟨a, c, R, h1, h3.keptS, h4⟩
theorem zkY (vw nm bs : Int) (im : ByteArray) (a : Option Addr) (ex : List Env) (c : Nat) (nu vi cl sq kk hh ii nn cc vv tt : Int) (y : Kv) (hf : zaT ⟨vw, nm, bs, im, a, ex, c⟩ (zjC (⟨nu, vi, cl, sq, ⟨kk, hh, ii, nn, cc, vv, tt⟩⟩ : Env)) = (141, y)) (hes : ex.length ≤ 1500) (him : im.size ≤ 1000000) (w : World) (ha : zm w a (ex.flatMap zQ)) :
  Calls Tryz.prog 19 #[.agg #[.int .i64 vw, .int .i64 nm, .int .i64 bs, .string im, .slice a ex.length c], .agg #[.int .i64 2, .int .i64 0, .int .i64 0, .int .i64 0, .string ⟨#[]⟩, .int .i64 nu, .int .i64 vi, .int .i64 cl, .int .i64 sq, .int .i64 kk, .int .i64 hh, .int .i64 ii, .int .i64 nn, .int .i64 cc, .int .i64 vv, .int .i64 tt, .slice none 0 0]] w fun e w' => e = .returned (.tuple #[.agg #[.int .i64 0, .int .i64 0, .int .i64 0, .string ⟨#[]⟩, .slice none 0 0], .int .i64 141]) ∧ Below w.heap.size w w' :=
 zj3 vw nm bs im a ex _ c rfl 2 0 0 0 ⟨#[]⟩ nu vi cl sq kk hh ii nn cc vv tt none [] 0 0 rfl 141 y (by decide) hf hes him (by decide) (by decide) zb9 w ha (zm.nil _ _)
theorem zm3 (vw nm bs : Int) (im : ByteArray) (ea : Option Addr) (es : List Env) (ec : Nat) (n : Int) (la : Option Addr) (l : List Env) (lc : Nat) (h64 : ∀ e ∈ l, I64 e.nu) (w : World) (ha : zm w ea (es.flatMap zQ)) (hla : zm w la (l.flatMap zQ)) :
  Calls Tryz.prog 5 #[.agg #[.int .i64 vw, .int .i64 nm, .int .i64 bs, .string im, .slice ea es.length ec], .int .i64 n, .slice la l.length lc] w fun e w' => e = .returned (.bool true) ∧ Below w.heap.size w w' := by
 have hp := Hp.start w
 have HA := z0j ha
 have HLA := z0j hla
 have H64 := z0j h64
 clear ha hla h64
 go_enter Tryz.func5, Tryz.ntmps5
 go_wp2_with (first | (go_at_call 18; (with_reducible refine (zlk vw nm bs im ea es ec la l lc _).mono ?_); rintro e w1 ⟨bb, rfl, hbb, hb⟩; replace hp := hp.call hb; clear hb; cases bb) | go_skip | ((first | ((refine zf _ rfl ?_); refine lZ hp rfl Zz ?_; clear hp; intro b w1 hp) | ((refine zg _ _ rfl ?_); refine lB hp rfl (za rfl) rfl ?_; clear hp; intro b w1 hp) | ((refine ze _ _ rfl ?_); refine lA hp rfl (za rfl) zk aa5 ?_) | ((refine zd _ _ _ rfl ?_); (first | refine sA hp rfl (za rfl) (za rfl) zk aa5 ?_ | refine sG hp rfl (za rfl) (za rfl) zk aa5 ?_); clear hp; intro w1 hp; simp only [spl, z0a, z0b] at hp)); simp only [zc, zb, z0b, z0a]))
 ·obtain ⟨s1, s2, s3, _⟩ := hbb (by first | rfl | trivial)
  clear hbb
  have HSX : Hid (Kv.Small ⟨vw, nm, bs, im, ea, es, ec⟩) := z0j ⟨by simp only; omega, by simp only; omega⟩
  have HLL : Hid (l.length ≤ 100000) := z0j (by omega)
  have HIM : Hid (im.size ≤ 1000000) := z0j (by omega)
  have HS1 := z0j s1
  have HS2 := z0j s2
  clear s1 s2 s3
  cases hjb : zaA ⟨vw, nm, bs, im, ea, es, ec⟩ n l with
  | false =>
   have HJB := z0j hjb
   have HJF : Hid ((if false = true then joinF ⟨vw, nm, bs, im, ea, es, ec⟩ l else []) = []) := z0j rfl
   clear hjb
   go_wp2_with (first | (go_at_call 24; (with_reducible refine (zb3 vw nm bs im ea es _ ec rfl n la l _ lc rfl HSX.out HLL.out _ (HA.out.below hp.below) (HLA.out.below hp.below) _ _ _ HJB.out HJF.out rfl).mono ?_); rintro e w1 ⟨ar, kr, RR, rfl, hk, hpn⟩; replace hp := hp.join hpn; have HRR := z0j hk; clear hk hpn) | (go_at_call 25; (with_reducible refine (zfN _).mono ?_); rintro e w1 ⟨rfl, hb⟩; replace hp := hp.call hb; clear hb) | go_skip | ((first | ((refine zf _ rfl ?_); refine lZ hp rfl Zz ?_; clear hp; intro b w1 hp) | ((refine zg _ _ rfl ?_); refine lB hp rfl (za rfl) rfl ?_; clear hp; intro b w1 hp) | ((refine ze _ _ rfl ?_); refine lA hp rfl (za rfl) zk aa5 ?_) | ((refine zd _ _ _ rfl ?_); (first | refine sA hp rfl (za rfl) (za rfl) zk aa5 ?_ | refine sG hp rfl (za rfl) (za rfl) zk aa5 ?_); clear hp; intro w1 hp; simp only [spl, z0a, z0b] at hp)); simp only [zc, zb, z0b, z0a]))
   go_ret
   exact ⟨rfl, hp.below⟩
  | true =>
   obtain ⟨b3, hb3⟩ := hp.id0
   subst hb3
   obtain ⟨J, hJ⟩ : ∃ J, joinF ⟨vw, nm, bs, im, ea, es, ec⟩ l = J := ⟨_, rfl⟩
   have HJB := z0j hjb
   have HJF : Hid ((if true = true then joinF ⟨vw, nm, bs, im, ea, es, ec⟩ l else []) = J) := z0j (by rw [if_pos rfl]; exact hJ)
   obtain ⟨hb, g0, g1, _⟩ := zaC hjb
   have hjl : J.length ≤ l.length := by rw [← hJ]; exact List.length_filter_le _ _
   have HJL : Hid (J.length ≤ 300) := z0j (by have := HS2.out; omega)
   have HNX : Hid (∀ (i : Nat) (hi : i < J.length), J[i].nu = zO (zcH ⟨vw, nm, bs, im, ea, es, ec⟩ (J.take i)) + 1) := z0j (by subst hJ; exact zib hjb HLL.out H64.out)
   have HAG : Hid (okC (zcH ⟨vw, nm, bs, im, ea, es, ec⟩ J) = true → zaA (zcH ⟨vw, nm, bs, im, ea, es, ec⟩ J) n l = true ∧ joinF (zcH ⟨vw, nm, bs, im, ea, es, ec⟩ J) l = [] ∧ zO (zcH ⟨vw, nm, bs, im, ea, es, ec⟩ J) = max (zO ⟨vw, nm, bs, im, ea, es, ec⟩) (n + l.length)) := z0j (by subst hJ; exact zgq hjb HLL.out H64.out)
   have hf := Ze hb
   simp only at hf
   have HB := z0j hb
   have HBS : Hid (0 ≤ bs ∧ bs ≤ 900000000 ∧ 0 ≤ n ∧ n ≤ bs + es.length) := z0j ⟨by omega, by omega, g0, g1⟩
   clear hjb hJ hb g0 g1 hjl hf
   go_wp2_with (first | (go_at_call 24; (with_reducible refine (zb3 vw nm bs im ea es _ ec rfl n la l _ lc rfl HSX.out HLL.out _ (HA.out.below hp.below) (HLA.out.below hp.below) _ _ _ HJB.out HJF.out rfl).mono ?_); rintro e wz ⟨ar, kr, RR, rfl, hk, hpn⟩; replace hp := hp.join hpn; have hp2 : Hp w.heap.size w wz (⟨b3, [.int .i64 vw, .int .i64 nm, .int .i64 bs, .string im, .slice ea es.length ec], 28, 5⟩ :: RR) := hp.kp; have HK3 := z0j (hp2.rowIs (i := 0) rfl).fixC; have HR1 : Hid (zm wz ar (J.flatMap zk7)) := z0j (hk.at hp2 (fun p hm => List.mem_cons_of_mem _ hm)); have HA1 := z0j (HA.out.below hp2.below); have HLA1 := z0j (HLA.out.below hp2.below); have HBW := z0j hp2.below; clear hp2 HA HLA hk hpn; replace hp := Hp.start wz) | go_skip | ((first | ((refine zf _ rfl ?_); refine lZ hp rfl Zz ?_; clear hp; intro b w1 hp) | ((refine zg _ _ rfl ?_); refine lB hp rfl (za rfl) rfl ?_; clear hp; intro b w1 hp) | ((refine ze _ _ rfl ?_); first | refine lA hp rfl (za rfl) zk aa5 ?_ | refine lR hp rfl (za rfl) zk HX.out ?_ | refine lR hp rfl (za rfl) zk HK3.out ?_) | ((refine zd _ _ _ rfl ?_); (first | refine sA hp rfl (za rfl) (za rfl) zk aa5 ?_ | refine sG hp rfl (za rfl) (za rfl) zk aa5 ?_); clear hp; intro w1 hp; simp only [spl, z0a, z0b] at hp)); simp only [zc, zb, z0b, z0a]))
   obtain ⟨b9, hb9⟩ := hp.id0
   subst hb9
   go_loopg [10] J.length (fun k i wr => ∃ (q : Nat) (a : Option Addr) (ex : List Env) (c : Nat) (R : List Blk), k + q = J.length ∧ i = .int .i64 q ∧ Hid (ex = es ++ J.take q) ∧ Hid (okC ⟨vw, nm, bs, im, a, ex, c⟩ = true) ∧ Hid (Std wz R fun w => zm w a (ex.flatMap zQ)) ∧ Hp wz.heap.size wz wr (⟨b9, [.int .i64 vw, .int .i64 nm, .int .i64 bs, .string im, .slice a ex.length c], 28, 5⟩ :: R))
   case atStart => exact ⟨0, ea, es, ec, [], by omega, rfl, z0j (by simp), z0j HB.out, z0j (Std.ofRow HA1.out), hp⟩
   case round =>
    clear hp
    obtain ⟨q, a, ex, c, R, hkq, rfl, HEQ, HOX, HXA, hp⟩ := hrel
    have HSY : Hid (Kv.Small ⟨vw, nm, bs, im, a, ex, c⟩) := z0j ⟨by simp only; rw [HEQ.out, List.length_append, List.length_take]; have := HS1.out; have := HJL.out; omega, HIM.out⟩
    have HEX : Hid (ex.length ≤ 1500) := z0j (by rw [HEQ.out, List.length_append, List.length_take]; have := HS1.out; have := HJL.out; omega)
    by_cases hlt : q < J.length
    ·obtain ⟨br, off, rfl, hx⟩ := HR1.out.elems 17 zgp (by omega) (by omega)
     have hj := List.getElem?_eq_getElem hlt
     replace hx := hx q _ hj
     have hnx := HNX.out q hlt
     have htk : J.take (q + 1) = J.take q ++ [J[q]] := by rw [List.take_add_one, hj]; rfl
     clear hj
     generalize J[q] = en at hx hnx htk
     obtain ⟨nu, vi, cl, sq, ⟨kk, hh, ii, nn, cc, vv, tt⟩⟩ := en
     have hnu : nu = zO ⟨vw, nm, bs, im, a, ex, c⟩ + 1 := by have h := hnx; unfold zO zcH at h; unfold zO; simp only at h ⊢; rw [HEQ.out]; exact h
     have hfr := zjp (e := (⟨nu, vi, cl, sq, ⟨kk, hh, ii, nn, cc, vv, tt⟩⟩ : Env)) HOX.out hnu
     have HEY : Hid (ex ++ [(⟨nu, vi, cl, sq, ⟨kk, hh, ii, nn, cc, vv, tt⟩⟩ : Env)] = es ++ J.take (q + 1)) := z0j (by rw [htk, HEQ.out, List.append_assoc])
     have HNL : Hid ((ex ++ [(⟨nu, vi, cl, sq, ⟨kk, hh, ii, nn, cc, vv, tt⟩⟩ : Env)]).length = ex.length + 1) := z0j (by simp)
     simp only [zk7, rvL, zjC, zQ, opL, z0f, z0e, z0h] at hx
     have HX := z0j hx
     have f1 : (0 : Int) ≤ (q : Int) := by omega
     have f2 : (q : Int) < (J.length : Int) := by omega
     clear hx hnx htk hnu
     cases hoy : okC (zcH ⟨vw, nm, bs, im, a, ex, c⟩ [(⟨nu, vi, cl, sq, ⟨kk, hh, ii, nn, cc, vv, tt⟩⟩ : Env)]) with
     | true =>
      have HFY : Hid (zaT ⟨vw, nm, bs, im, a, ex, c⟩ (zjC (⟨nu, vi, cl, sq, ⟨kk, hh, ii, nn, cc, vv, tt⟩⟩ : Env)) = (0, zcH ⟨vw, nm, bs, im, a, ex, c⟩ [(⟨nu, vi, cl, sq, ⟨kk, hh, ii, nn, cc, vv, tt⟩⟩ : Env)])) := z0j (by rw [hfr, if_pos hoy])
      have HOY := z0j hoy
      clear hfr hoy
      go_wp2_with (first | go_skip | ((first | ((refine zf _ rfl ?_); refine lZ hp rfl Zz ?_; clear hp; intro b w1 hp) | ((refine zg _ _ rfl ?_); refine lB hp rfl (za rfl) rfl ?_; clear hp; intro b w1 hp) | ((refine ze _ _ rfl ?_); first | refine lA hp rfl (za rfl) zk aa5 ?_ | refine lR hp rfl (za rfl) zk HX.out ?_ | refine lR hp rfl (za rfl) zk HK3.out ?_) | ((refine zd _ _ _ rfl ?_); (first | refine sA hp rfl (za rfl) (za rfl) zk aa5 ?_ | refine sG hp rfl (za rfl) (za rfl) zk aa5 ?_); clear hp; intro w1 hp; simp only [spl, z0a, z0b] at hp)); simp only [zc, zb, z0b, z0a]))
      apply zen (R := fun bk a2 c2 w' => ∃ RX, Hid (zaa RX fun w => zm w a2 ((ex ++ [(⟨nu, vi, cl, sq, ⟨kk, hh, ii, nn, cc, vv, tt⟩⟩ : Env)]).flatMap zQ)) ∧ Hp wz.heap.size wz w' (⟨bk, [.int .i64 vw, .int .i64 nm, .int .i64 bs, .string im, .slice a2 (ex.length + 1) c2], 28, 5⟩ :: ⟨b9, [.int .i64 vw, .int .i64 nm, .int .i64 bs, .string im, .slice a ex.length c], 28, 5⟩ :: (RX ++ R)))
      case h =>
       refine zap [_] (zC.one hp.drew at0) [] (.take 0 (.take 1 (.take 2 (.take 3 (.take 4 (.two 5 (.take 6 (.take 7 (.take 8 (.one 9 (.one 10 (.one 11 .nil)))))) 9 (.one 5 (.take 6 (.take 7 (.take 8 (.one 10 (.one 11 .nil)))))))))))) (by kernel_rfl) (by kernel_rfl) (by kernel_rfl) (by kernel_rfl) (fun _ _ d _ _ h => by cases d <;> exact h) ?_
       replace hp := hp.drew
       repeat' (with_reducible refine zfM ?_); first | (with_reducible refine zep ?_) | ((with_reducible refine zdw ?_); refine zA rfl ?_; (first | ((with_reducible refine Zk _ rfl ?_); refine tM rfl ?_) | ((with_reducible refine Zg _ _ rfl ?_); first | refine tA rfl (za rfl) (by with_reducible first | exact zk | exact zF) aa5 ?_ | refine tR rfl (za rfl) (by with_reducible first | exact zk | exact zF) HX.out ?_) | refine tG (fun w _ => (by go_simp; try rfl)) ?_); refine zfD ?_; try simp only [zc, zb, zl, zh, z0b, z0a, z0d, z0c, zq]) | ((first | refine zeu (zca rfl (fun K hK => ?_)) | refine zd8 (zca rfl (fun K hK => ?_)) (zca rfl (fun K hK => ?_))) <;> (go_wp2_with (first | (go_at_call 19; (with_reducible refine (zkL vw nm bs im a ex c nu vi cl sq kk hh ii nn cc vv tt _ HNL.out HFY.out HEX.out HIM.out _ (HXA.out.at hp (fun p hm => by simp [hm]))).mono ?_); rintro e w1 ⟨ax, cx, RX, rfl, hkx, hpn⟩; replace hp := hp.join hpn; have HKX := z0j hkx; clear hpn hkx; simp only [z0f, z0e, z0i] at hp) | ((refine zf 28 rfl ?_); refine lZ hp rfl Zz ?_; clear hp; intro bk w1 hp; simp only [zc, zb, z0b, z0a]) | go_skip | ((first | ((refine zf _ rfl ?_); refine lZ hp rfl Zz ?_; clear hp; intro b w1 hp) | ((refine zd _ _ _ rfl ?_); (first | refine sA hp rfl (za rfl) (za rfl) zk aa5 ?_ | refine sG hp rfl (za rfl) (za rfl) zk aa5 ?_); clear hp; intro w1 hp; simp only [spl, z0a, z0b] at hp)); simp only [zc, zb, z0b, z0a])); (refine hK.out _ _ (.inr (zC.one hp aa5)) ?_); clear hK K; try simp only [zc, zb, zl, zh, z0b, z0a, z0d, z0c, zq]))
       all_goals exact ⟨bk, ax, cx, rfl, RX, HKX, hp.kp⟩
      clear hp
      rintro b11 ax cx w2 ⟨RX, HKX, hp⟩
      go_wp2_with (first | go_skip | ((first | ((refine zf _ rfl ?_); refine lZ hp rfl Zz ?_; clear hp; intro b w1 hp) | ((refine zg _ _ rfl ?_); refine lB hp rfl (za rfl) rfl ?_; clear hp; intro b w1 hp) | ((refine ze _ _ rfl ?_); first | refine lA hp rfl (za rfl) zk aa5 ?_ | refine lR hp rfl (za rfl) zk HX.out ?_ | refine lR hp rfl (za rfl) zk HK3.out ?_) | ((refine zd _ _ _ rfl ?_); (first | refine sA hp rfl (za rfl) (za rfl) zk aa5 ?_ | refine sG hp rfl (za rfl) (za rfl) zk aa5 ?_); clear hp; intro w1 hp; simp only [spl, z0a, z0b] at hp)); simp only [zc, zb, z0b, z0a]))
      go_roundg (gk - 1)
      case measure => omega
      case rel => exact ⟨q + 1, ax, ex ++ [(⟨nu, vi, cl, sq, ⟨kk, hh, ii, nn, cc, vv, tt⟩⟩ : Env)], cx, RX ++ R, by omega, congrArg (Value.int .i64) (by have := HJL.out; push_cast; unfold wrap64; omega), HEY, z0j ((zbm ⟨rfl, rfl, rfl, rfl, rfl⟩).trans HOY.out), z0j ((Std.ofKept HKX.out).mono (fun p hm => List.mem_append_left _ hm)), by rw [HNL.out]; exact hp.tail.kp⟩
     | false =>
      have HFN : Hid (zaT ⟨vw, nm, bs, im, a, ex, c⟩ (zjC (⟨nu, vi, cl, sq, ⟨kk, hh, ii, nn, cc, vv, tt⟩⟩ : Env)) = (141, ⟨vw, nm, bs, im, a, ex, c⟩)) := z0j (by rw [hfr, if_neg (by rw [hoy]; decide)])
      clear hfr hoy
      go_wp2_with (first | go_skip | ((first | ((refine zf _ rfl ?_); refine lZ hp rfl Zz ?_; clear hp; intro b w1 hp) | ((refine zg _ _ rfl ?_); refine lB hp rfl (za rfl) rfl ?_; clear hp; intro b w1 hp) | ((refine ze _ _ rfl ?_); first | refine lA hp rfl (za rfl) zk aa5 ?_ | refine lR hp rfl (za rfl) zk HX.out ?_ | refine lR hp rfl (za rfl) zk HK3.out ?_) | ((refine zd _ _ _ rfl ?_); (first | refine sA hp rfl (za rfl) (za rfl) zk aa5 ?_ | refine sG hp rfl (za rfl) (za rfl) zk aa5 ?_); clear hp; intro w1 hp; simp only [spl, z0a, z0b] at hp)); simp only [zc, zb, z0b, z0a]))
      apply zeh (R := fun bk w' => Hp wz.heap.size wz w' (⟨bk, [.int .i64 0, .int .i64 0, .int .i64 0, .string ⟨#[]⟩, .slice none 0 0], 28, 5⟩ :: ⟨b9, [.int .i64 vw, .int .i64 nm, .int .i64 bs, .string im, .slice a ex.length c], 28, 5⟩ :: R))
      case h =>
       refine zap [_] (zC.one hp.drew at0) [] (.take 0 (.take 1 (.take 2 (.take 3 (.take 4 (.two 5 (.take 6 (.take 7 (.take 8 (.one 9 (.one 10 (.one 11 .nil)))))) 9 (.one 5 (.take 6 (.take 7 (.take 8 (.one 10 (.one 11 .nil)))))))))))) (by kernel_rfl) (by kernel_rfl) (by kernel_rfl) (by kernel_rfl) (fun _ _ d _ _ h => by cases d <;> exact h) ?_
       replace hp := hp.drew
       repeat' (with_reducible refine zfM ?_); first | (with_reducible refine zep ?_) | ((with_reducible refine zdw ?_); refine zA rfl ?_; (first | ((with_reducible refine Zk _ rfl ?_); refine tM rfl ?_) | ((with_reducible refine Zg _ _ rfl ?_); first | refine tA rfl (za rfl) (by with_reducible first | exact zk | exact zF) aa5 ?_ | refine tR rfl (za rfl) (by with_reducible first | exact zk | exact zF) HX.out ?_) | refine tG (fun w _ => (by go_simp; try rfl)) ?_); refine zfD ?_; try simp only [zc, zb, zl, zh, z0b, z0a, z0d, z0c, zq]) | ((first | refine zeu (zca rfl (fun K hK => ?_)) | refine zd8 (zca rfl (fun K hK => ?_)) (zca rfl (fun K hK => ?_))) <;> (go_wp2_with (first | (go_at_call 19; (with_reducible refine (zkY vw nm bs im a ex c nu vi cl sq kk hh ii nn cc vv tt _ HFN.out HEX.out HIM.out _ (HXA.out.at hp (fun p hm => by simp [hm]))).mono ?_); rintro e w1 ⟨rfl, hb⟩; replace hp := hp.call hb; clear hb) | ((refine zf 28 rfl ?_); refine lZ hp rfl Zz ?_; clear hp; intro bk w1 hp; simp only [zc, zb, z0b, z0a]) | go_skip | ((first | ((refine zf _ rfl ?_); refine lZ hp rfl Zz ?_; clear hp; intro b w1 hp) | ((refine zd _ _ _ rfl ?_); (first | refine sA hp rfl (za rfl) (za rfl) zk aa5 ?_ | refine sG hp rfl (za rfl) (za rfl) zk aa5 ?_); clear hp; intro w1 hp; simp only [spl, z0a, z0b] at hp)); simp only [zc, zb, z0b, z0a])); (refine hK.out _ _ (.inr (zC.one hp aa5)) ?_); clear hK K; try simp only [zc, zb, zl, zh, z0b, z0a, z0d, z0c, zq]))
       all_goals exact ⟨bk, rfl, hp.kp⟩
      clear hp
      rintro b11 w2 hp
      go_wp2_with (first | (go_at_call 25; (with_reducible refine (zfN _).mono ?_); rintro e w1 ⟨rfl, hb⟩; replace hp := hp.call hb; clear hb) | go_skip | ((first | ((refine zf _ rfl ?_); refine lZ hp rfl Zz ?_; clear hp; intro b w1 hp) | ((refine zg _ _ rfl ?_); refine lB hp rfl (za rfl) rfl ?_; clear hp; intro b w1 hp) | ((refine ze _ _ rfl ?_); first | refine lA hp rfl (za rfl) zk aa5 ?_ | refine lR hp rfl (za rfl) zk HX.out ?_ | refine lR hp rfl (za rfl) zk HK3.out ?_) | ((refine zd _ _ _ rfl ?_); (first | refine sA hp rfl (za rfl) (za rfl) zk aa5 ?_ | refine sG hp rfl (za rfl) (za rfl) zk aa5 ?_); clear hp; intro w1 hp; simp only [spl, z0a, z0b] at hp)); simp only [zc, zb, z0b, z0a]))
      go_ret
      exact ⟨rfl, HBW.out.trans (hp.below.mono HBW.out.size)⟩
    ·obtain rfl : q = J.length := by omega
     have f2 : decide ((J.length : Int) < (J.length : Int)) = false := by simp
     have heq := HEQ.out
     rw [List.take_length] at heq
     have hoJ : okC (zcH ⟨vw, nm, bs, im, ea, es, ec⟩ J) = true := (zbm (x := zcH ⟨vw, nm, bs, im, ea, es, ec⟩ J) (y := ⟨vw, nm, bs, im, a, ex, c⟩) ⟨rfl, rfl, rfl, rfl, heq.symm⟩).trans HOX.out
     obtain ⟨k1, k2, k3⟩ := HAG.out hoJ
     have hsm : Kv.Sm ⟨vw, nm, bs, im, a, ex, c⟩ (zcH ⟨vw, nm, bs, im, ea, es, ec⟩ J) := ⟨rfl, rfl, rfl, rfl, heq⟩
     have HJB2 : Hid (zaA ⟨vw, nm, bs, im, a, ex, c⟩ n l = true) := z0j ((zjz hsm n l).trans k1)
     have HJF2 : Hid ((if true = true then joinF ⟨vw, nm, bs, im, a, ex, c⟩ l else []) = []) := z0j (by rw [if_pos rfl, ziN hsm l]; exact k2)
     have k4 : bs + (ex.length : Int) = max (bs + (es.length : Int)) (n + (l.length : Int)) := by
      rw [heq]; exact k3
     have hle := HEX.out
     have hs2 := HS2.out
     have hs1 := HS1.out
     obtain ⟨t1, t2, t3, t4⟩ := HBS.out
     have e1 : wrap64 (bs + ex.length) = bs + ex.length := by unfold wrap64; omega
     have e2 : wrap64 (bs + es.length) = bs + es.length := by unfold wrap64; omega
     have e3 : wrap64 (n + l.length) = n + l.length := by unfold wrap64; omega
     have e4 : (bs + (ex.length : Int) == max (bs + (es.length : Int)) (n + (l.length : Int))) = true := by rw [k4]; exact beq_self_eq_true _
     clear hkq hlt heq hoJ k1 k2 k3 k4 hsm hle hs2 hs1 t1 t2 t3 t4
     go_wp2_with (first | (go_at_call 24; (with_reducible refine (zb3 vw nm bs im a ex _ c rfl n la l _ lc rfl HSY.out HLL.out _ (HXA.out.at hp (fun p hm => by simp [hm])) (HLA1.out.below hp.below) _ [] 0 HJB2.out HJF2.out rfl).mono ?_); rintro e w1 ⟨aq, kq, RQ, rfl, _, hpn⟩; replace hp := hp.join hpn; clear hpn; simp only [z0f, z0e, z0i] at hp) | go_skip | ((first | ((refine zf _ rfl ?_); refine lZ hp rfl Zz ?_; clear hp; intro b w1 hp) | ((refine zg _ _ rfl ?_); refine lB hp rfl (za rfl) rfl ?_; clear hp; intro b w1 hp) | ((refine ze _ _ rfl ?_); first | refine lA hp rfl (za rfl) zk aa5 ?_ | refine lR hp rfl (za rfl) zk HX.out ?_ | refine lR hp rfl (za rfl) zk HK3.out ?_) | ((refine zd _ _ _ rfl ?_); (first | refine sA hp rfl (za rfl) (za rfl) zk aa5 ?_ | refine sG hp rfl (za rfl) (za rfl) zk aa5 ?_); clear hp; intro w1 hp; simp only [spl, z0a, z0b] at hp)); simp only [zc, zb, z0b, z0a]))
     refine zi _ (zC.all hp.drew) [] [(0, false), (1, true), (2, true), (3, true), (4, true), (5, true), (6, true), (7, true), (8, true), (9, true), (10, true), (12, true), (14, true), (15, true), (16, true), (17, true), (11, false), (13, false), (18, true), (19, true), (20, true), (21, true), (22, true), (23, false), (24, true), (25, true), (26, false)] (by kernel_rfl) (by kernel_rfl) rfl (by kernel_rfl) (fun _ _ d _ _ h => by cases d <;> exact h) ?_
     replace hp := hp.drew
     repeat' (with_reducible refine zD ?_); first | (with_reducible refine zv ?_) | ((with_reducible refine zM ?_); refine zA rfl ?_; (first | ((with_reducible refine zad _ _ rfl ?_); refine tS (by first | exact zI rfl rfl rfl rfl | exact zJ rfl rfl rfl rfl) ?_) | ((with_reducible refine Zk _ rfl ?_); refine tM rfl ?_) | ((with_reducible refine Zg _ _ rfl ?_); first | refine tA rfl (za rfl) zk aa5 ?_ | refine tR rfl (za rfl) zk HK3.out ?_) | refine tG (fun w _ => (by go_simp; try rfl)) ?_); try simp only [zc, zb, zl, zh, z0b, z0a, z0d, z0c, zq, e1, e2, e3, e4]) | (refine zT rfl (fun K hK => ?_); go_wp2_with (first | (go_at_call 25; (with_reducible refine (zfN _).mono ?_); rintro e w1 ⟨rfl, hb⟩; replace hp := hp.call hb; clear hb) | (go_at_call 22; (with_reducible refine (ZD vw nm bs im ea es ec _ HB.out HSX.out _ (HA1.out.below hp.below)).mono ?_); rintro e w1 ⟨rfl, hb⟩; replace hp := hp.call hb; clear hb; simp only [if_true]) | (go_at_call 22; (with_reducible refine (ZD vw nm bs im a ex c _ HOX.out HSY.out _ (HXA.out.at hp (fun p hm => by simp [hm]))).mono ?_); rintro e w1 ⟨rfl, hb⟩; replace hp := hp.call hb; clear hb; simp only [if_true]) | (go_at_call 21; (with_reducible refine (Zb vw nm bs im a ex c _ HOX.out HSY.out _ (HXA.out.at hp (fun p hm => by simp [hm]))).mono ?_); rintro e w1 ⟨rfl, hb⟩; replace hp := hp.call hb; clear hb; simp only [if_true]) | go_skip); (refine hK.out _ _ (.inr (zdM hp)) ?_); clear hK K; try simp only [zc, zb, zl, zh, z0b, z0a, z0d, z0c, zq, e1, e2, e3, e4])
     go_wp2_with (first | go_skip | ((first | ((refine zf _ rfl ?_); refine lZ hp rfl Zz ?_; clear hp; intro b w1 hp) | ((refine zg _ _ rfl ?_); refine lB hp rfl (za rfl) rfl ?_; clear hp; intro b w1 hp) | ((refine ze _ _ rfl ?_); first | refine lA hp rfl (za rfl) zk aa5 ?_ | refine lR hp rfl (za rfl) zk HX.out ?_ | refine lR hp rfl (za rfl) zk HK3.out ?_) | ((refine zd _ _ _ rfl ?_); (first | refine sA hp rfl (za rfl) (za rfl) zk aa5 ?_ | refine sG hp rfl (za rfl) (za rfl) zk aa5 ?_); clear hp; intro w1 hp; simp only [spl, z0a, z0b] at hp)); simp only [zc, zb, z0b, z0a]))
     go_ret
     exact ⟨rfl, HBW.out.trans (hp.below.mono HBW.out.size)⟩
 ·go_wp2_with (first | go_skip | ((first | ((refine zf _ rfl ?_); refine lZ hp rfl Zz ?_; clear hp; intro b w1 hp) | ((refine zg _ _ rfl ?_); refine lB hp rfl (za rfl) rfl ?_; clear hp; intro b w1 hp) | ((refine ze _ _ rfl ?_); refine lA hp rfl (za rfl) zk aa5 ?_) | ((refine zd _ _ _ rfl ?_); (first | refine sA hp rfl (za rfl) (za rfl) zk aa5 ?_ | refine sG hp rfl (za rfl) (za rfl) zk aa5 ?_); clear hp; intro w1 hp; simp only [spl, z0a, z0b] at hp)); simp only [zc, zb, z0b, z0a]))
  go_ret
  exact ⟨rfl, hp.below⟩
open Go.RowKit Go.ChangeShapes Go.WideShapes Go.ChangeAt Go.Deep
section
variable {H : Type} {enc : TypeId × Value → H} {w : World} {base : Nat} {spare : Nat → Bool} {held : Bool} {cs : List Value}
theorem zdC {a : Option Addr} {n c : Nat} (h : zaz H enc Tryz.prog w base spare held 23 [.slice a n c]) : ∃ l : List Env, l.length = n ∧ zm w a (l.flatMap zQ) ∧ (n ≤ c ∧ ∀ e ∈ l, I64 e.nu) := by
 obtain ⟨l, h1, h2, h3⟩ := zbF h
 obtain ⟨_, _, _, h4⟩ := zbE h
 exact ⟨l, h1, h2, h4, h3⟩
end
end Go.Proofs.YtjcbpfbifbfkcaaGreat
