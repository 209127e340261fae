import Derived.Test.YtjcbpfbifbfkcaaGreatTx29
set_option linter.unusedSimpArgs false
set_option linter.unusedVariables false
set_option maxRecDepth 100000
set_option maxHeartbeats 60000000
namespace Go.Proofs.YtjcbpfbifbfkcaaGreat
open Go.RowKit
theorem zm7 {ty : TypeId} (h : zx Tryz.prog ty = true := by with_reducible first | exact zn | exact Zy | exact zB) : zx Tryz.prog ty = true := h
theorem zlM : (Tryz.prog.info? 40).map (fun i => (i.zero, i.size, i.bytes)) = some (some (.agg #[.int .i64 0, .int .i64 0, .int .i64 0, .int .i64 0, .string ⟨#[]⟩, .int .i64 0, .int .i64 0, .int .i64 0, .int .i64 0, .int .i64 0, .int .i64 0, .int .i64 0, .int .i64 0, .int .i64 0, .int .i64 0, .int .i64 0, .slice none 0 0]), 17, 160) := by kernel_rfl
theorem zhC : zx Tryz.prog 48 = true := by kernel_rfl
def zk7 (e : Env) : List Value := rvL (zjC e)
theorem zgp (e : Env) : (zk7 e).length = 17 := rfl
theorem zlA (l : List Env) (fr : Int) (a : Option Addr) (c : Nat) (b : Bool) (hb : zaB fr 0 l = b) (hl : l.length ≤ 100000) (w : World) (ha : zm w a (l.flatMap zQ)) :
  Calls Tryz.prog 72 #[.slice a l.length c, .int .i64 fr] w fun e w' => e = .returned (.bool b) ∧ Below w.heap.size w w' := by
 subst hb
 have hp := Hp.start w
 have HA := z0j ha
 clear ha
 go_enter Tryz.func72, Tryz.ntmps72
 go_wp2_with (first | go_skip | ((first | ((refine zf _ rfl ?_); refine lZ hp rfl zZ ?_; clear hp; intro b w1 hp) | ((refine ze _ _ rfl ?_); first | refine lO hp rfl (za rfl) zn aa5 ?_ | refine lA hp rfl (za rfl) zr aa5 ?_ | refine lR hp rfl (za rfl) zr HX.out ?_) | ((refine zd _ _ _ rfl ?_); (first | refine sA hp rfl (za rfl) (za rfl) zr aa5 ?_ | refine sG hp rfl (za rfl) (za rfl) zr aa5 ?_); clear hp; intro w1 hp; simp only [spl, z0a, z0b] at hp)); simp only [zc, zb, z0b, z0a]))
 go_loopg [9] l.length (fun k i wr => ∃ q : Nat, k + q = l.length ∧ i = .int .i64 q ∧ Hid (zaB fr 0 l = zaB fr q (l.drop q)) ∧ Hp w.heap.size w wr [])
 case atStart => exact ⟨0, by omega, rfl, z0j rfl, hp⟩
 case round =>
  clear hp
  obtain ⟨q, hkq, rfl, HF, hp⟩ := hrel
  by_cases hlt : q < l.length
  ·obtain ⟨bq, off, rfl, hx⟩ := HA.out.elems 11 zP (by omega) (by omega)
   have hj := List.getElem?_eq_getElem hlt
   replace hx := hx q _ hj
   have hd := List.drop_eq_getElem_cons hlt
   clear hj
   generalize l[q] = en at hx hd
   obtain ⟨nu, vi, cl, sq, ⟨kk, hh, ii, nn, cc, vv, tt⟩⟩ := en
   simp only [zQ, opL, z0f, z0e] at hx
   have HX := z0j hx
   have HF2 : Hid (zaB fr 0 l = (decide (wrap64 (wrap64 (nu - 1) - (q : Int)) = fr) && zaB fr (q + 1) (l.drop (q + 1)))) := z0j (by rw [HF.out, hd]; rfl)
   have f1 : (0 : Int) ≤ (q : Int) := by omega
   have f2 : (q : Int) < (l.length : Int) := by omega
   clear hx hd HF
   by_cases heq : wrap64 (wrap64 (nu - 1) - (q : Int)) = fr
   ·have e3 : (wrap64 (wrap64 (nu - 1) - (q : Int)) == fr) = true := by simpa using heq
    have HE := z0j heq
    clear heq
    go_wp2_with (first | go_skip | ((first | ((refine zf _ rfl ?_); refine lZ hp rfl zZ ?_; clear hp; intro b w1 hp) | ((refine ze _ _ rfl ?_); first | refine lO hp rfl (za rfl) zn aa5 ?_ | refine lA hp rfl (za rfl) zr aa5 ?_ | refine lR hp rfl (za rfl) zr HX.out ?_) | ((refine zd _ _ _ rfl ?_); (first | refine sA hp rfl (za rfl) (za rfl) zr aa5 ?_ | refine sG hp rfl (za rfl) (za rfl) zr aa5 ?_); clear hp; intro w1 hp; simp only [spl, z0a, z0b] at hp)); simp only [zc, zb, z0b, z0a]))
    go_roundg (gk - 1)
    case measure => omega
    case rel => exact ⟨q + 1, by omega, by go_num, z0j (by rw [HF2.out, HE.out]; simp), hp.tail⟩
   ·have e3 : (wrap64 (wrap64 (nu - 1) - (q : Int)) == fr) = false := by simpa using heq
    have HE := z0j heq
    clear heq
    go_wp2_with (first | go_skip | ((first | ((refine zf _ rfl ?_); refine lZ hp rfl zZ ?_; clear hp; intro b w1 hp) | ((refine ze _ _ rfl ?_); first | refine lO hp rfl (za rfl) zn aa5 ?_ | refine lA hp rfl (za rfl) zr aa5 ?_ | refine lR hp rfl (za rfl) zr HX.out ?_) | ((refine zd _ _ _ rfl ?_); (first | refine sA hp rfl (za rfl) (za rfl) zr aa5 ?_ | refine sG hp rfl (za rfl) (za rfl) zr aa5 ?_); clear hp; intro w1 hp; simp only [spl, z0a, z0b] at hp)); simp only [zc, zb, z0b, z0a]))
    go_ret
    refine ⟨?_, hp.below⟩
    rw [HF2.out, decide_eq_false HE.out]; rfl
  ·obtain rfl : q = l.length := by omega
   have e2 : decide ((l.length : Int) < (l.length : Int)) = false := by simp
   clear hkq hlt
   go_wp2_with (first | go_skip | ((first | ((refine zf _ rfl ?_); refine lZ hp rfl zZ ?_; clear hp; intro b w1 hp) | ((refine ze _ _ rfl ?_); first | refine lO hp rfl (za rfl) zn aa5 ?_ | refine lA hp rfl (za rfl) zr aa5 ?_ | refine lR hp rfl (za rfl) zr HX.out ?_) | ((refine zd _ _ _ rfl ?_); (first | refine sA hp rfl (za rfl) (za rfl) zr aa5 ?_ | refine sG hp rfl (za rfl) (za rfl) zr aa5 ?_); clear hp; intro w1 hp; simp only [spl, z0a, z0b] at hp)); simp only [zc, zb, z0b, z0a]))
   go_ret
   refine ⟨?_, hp.below⟩
   rw [HF.out, List.drop_length]; rfl
def zcJ (w : World) (b : Bool) (l : List Env) (e : Ending) (w' : World) : Prop := ∃ (v : Value) (R : List Blk), e = .returned (.tuple #[v, .bool b]) ∧ zy 40 17 v l.length (l.flatMap zk7) R ∧ Hp w.heap.size w w' R
theorem zcj {w w' : World} (hb : Below w.heap.size w w') : zcJ w false [] (.returned (.tuple #[.slice none 0 0, .bool false])) w' := ⟨_, [], rfl, zy.nil _ _, (Hp.start w).call hb⟩
theorem zhZ (vw nm bs : Int) (im : ByteArray) (ea : Option Addr) (es : List Env) (ec : Nat) (n : Int) (la : Option Addr) (l : List Env) (lc : Nat) (hs : Kv.Small ⟨vw, nm, bs, im, ea, es, ec⟩) (hl : l.length ≤ 100000) (w : World) (ha : zm w ea (es.flatMap zQ)) (hla : zm w la (l.flatMap zQ)) (h : zaA ⟨vw, nm, bs, im, ea, es, ec⟩ n l = false) : Calls Tryz.prog 24 #[.agg #[.int .i64 vw, .int .i64 nm, .int .i64 bs, .string im, .slice ea es.length ec], .int .i64 n, .slice la l.length lc] w (zcJ w false []) := by
 have hp := Hp.start w; have HSS := z0j hs; have HA := z0j ha; have HLA := z0j hla; have HL := z0j hl; clear hs ha hla
 cases hb : okC ⟨vw, nm, bs, im, ea, es, ec⟩ with
 | false =>
  have HB := z0j hb
  clear h hb hl
  go_enter Tryz.func24, Tryz.ntmps24
  go_wp2_with (first | (go_at_call 21; (with_reducible refine (Zb vw nm bs im ea es ec _ HB.out HSS.out _ (HA.out.below hp.below)).mono ?_); rintro e w1 ⟨rfl, hb⟩; replace hp := hp.call hb; clear hb; simp only [if_true, Bool.false_eq_true, if_false]) | (go_at_call 22; (with_reducible refine (ZD vw nm bs im ea es ec _ HB.out HSS.out _ (HA.out.below hp.below)).mono ?_); rintro e w1 ⟨rfl, hb⟩; replace hp := hp.call hb; clear hb; simp only [if_true, Bool.false_eq_true, if_false]) | go_skip | ((first | ((refine zf _ rfl ?_); refine lZ hp rfl zZ ?_; clear hp; intro b w1 hp) | ((refine zg _ _ rfl ?_); refine lB hp rfl (za rfl) rfl ?_; clear hp; intro b w1 hp) | ((refine ze _ _ rfl ?_); first | refine lO hp rfl (za rfl) zn aa5 ?_ | refine lA hp rfl (za rfl) (by with_reducible first | exact zr | exact zk) aa5 ?_ | refine lR hp rfl (za rfl) (by with_reducible first | exact zr | exact zk) HX.out ?_) | ((refine zd _ _ _ rfl ?_); (first | refine sA hp rfl (za rfl) (za rfl) zr aa5 ?_ | refine sG hp rfl (za rfl) (za rfl) zr aa5 ?_); clear hp; intro w1 hp; simp only [spl, z0a, z0b] at hp) | ((refine zj _ _ _ rfl ?_); refine lS hp rfl (by intro w; go_simp; rfl) ?_; clear hp; intro b w1 hp; simp only [z0g, z0h, Nat.reduceAdd] at hp)); simp only [zc, zb, z0b, z0a]))
  exact bodyPost_ret (zu (rs := [.tmp 6, .tmp 7]) Tryz.results24 (.tmp rfl (.tmp rfl .nil))) rfl (zcj hp.below)
 | true =>
  have hf := Ze hb
  simp only at hf
  have HB := z0j hb
  have e1 : wrap64 (bs + es.length) = bs + es.length := by unfold wrap64; omega
  have h0 : (decide (0 ≤ n) && (decide (n ≤ zO ⟨vw, nm, bs, im, ea, es, ec⟩) && zaB n 0 l)) = false := by unfold zaA at h; rw [hb, Bool.true_and] at h; exact h
  have e4 : zO ⟨vw, nm, bs, im, ea, es, ec⟩ = bs + es.length := rfl
  rw [e4] at h0
  clear h hb hl hf e4
  by_cases h1 : n < 0
  ·have e2 : decide (n < 0) = true := by simpa using h1
   clear h0
   go_enter Tryz.func24, Tryz.ntmps24
   go_wp2_with (first | (go_at_call 21; (with_reducible refine (Zb vw nm bs im ea es ec _ HB.out HSS.out _ (HA.out.below hp.below)).mono ?_); rintro e w1 ⟨rfl, hb⟩; replace hp := hp.call hb; clear hb; simp only [if_true, Bool.false_eq_true, if_false]) | (go_at_call 22; (with_reducible refine (ZD vw nm bs im ea es ec _ HB.out HSS.out _ (HA.out.below hp.below)).mono ?_); rintro e w1 ⟨rfl, hb⟩; replace hp := hp.call hb; clear hb; simp only [if_true, Bool.false_eq_true, if_false]) | go_skip | ((first | ((refine zf _ rfl ?_); refine lZ hp rfl zZ ?_; clear hp; intro b w1 hp) | ((refine zg _ _ rfl ?_); refine lB hp rfl (za rfl) rfl ?_; clear hp; intro b w1 hp) | ((refine ze _ _ rfl ?_); first | refine lO hp rfl (za rfl) zn aa5 ?_ | refine lA hp rfl (za rfl) (by with_reducible first | exact zr | exact zk) aa5 ?_ | refine lR hp rfl (za rfl) (by with_reducible first | exact zr | exact zk) HX.out ?_) | ((refine zd _ _ _ rfl ?_); (first | refine sA hp rfl (za rfl) (za rfl) zr aa5 ?_ | refine sG hp rfl (za rfl) (za rfl) zr aa5 ?_); clear hp; intro w1 hp; simp only [spl, z0a, z0b] at hp) | ((refine zj _ _ _ rfl ?_); refine lS hp rfl (by intro w; go_simp; rfl) ?_; clear hp; intro b w1 hp; simp only [z0g, z0h, Nat.reduceAdd] at hp)); simp only [zc, zb, z0b, z0a]))
   exact bodyPost_ret (zu (rs := [.tmp 6, .tmp 7]) Tryz.results24 (.tmp rfl (.tmp rfl .nil))) rfl (zcj hp.below)
  ·have e2 : decide (n < 0) = false := by simpa using h1
   by_cases h2 : bs + es.length < n
   ·have e3 : decide (bs + (es.length : Int) < n) = true := by simpa using h2
    clear h0
    go_enter Tryz.func24, Tryz.ntmps24
    go_wp2_with (first | (go_at_call 21; (with_reducible refine (Zb vw nm bs im ea es ec _ HB.out HSS.out _ (HA.out.below hp.below)).mono ?_); rintro e w1 ⟨rfl, hb⟩; replace hp := hp.call hb; clear hb; simp only [if_true, Bool.false_eq_true, if_false]) | (go_at_call 22; (with_reducible refine (ZD vw nm bs im ea es ec _ HB.out HSS.out _ (HA.out.below hp.below)).mono ?_); rintro e w1 ⟨rfl, hb⟩; replace hp := hp.call hb; clear hb; simp only [if_true, Bool.false_eq_true, if_false]) | go_skip | ((first | ((refine zf _ rfl ?_); refine lZ hp rfl zZ ?_; clear hp; intro b w1 hp) | ((refine zg _ _ rfl ?_); refine lB hp rfl (za rfl) rfl ?_; clear hp; intro b w1 hp) | ((refine ze _ _ rfl ?_); first | refine lO hp rfl (za rfl) zn aa5 ?_ | refine lA hp rfl (za rfl) (by with_reducible first | exact zr | exact zk) aa5 ?_ | refine lR hp rfl (za rfl) (by with_reducible first | exact zr | exact zk) HX.out ?_) | ((refine zd _ _ _ rfl ?_); (first | refine sA hp rfl (za rfl) (za rfl) zr aa5 ?_ | refine sG hp rfl (za rfl) (za rfl) zr aa5 ?_); clear hp; intro w1 hp; simp only [spl, z0a, z0b] at hp) | ((refine zj _ _ _ rfl ?_); refine lS hp rfl (by intro w; go_simp; rfl) ?_; clear hp; intro b w1 hp; simp only [z0g, z0h, Nat.reduceAdd] at hp)); simp only [zc, zb, z0b, z0a]))
    exact bodyPost_ret (zu (rs := [.tmp 6, .tmp 7]) Tryz.results24 (.tmp rfl (.tmp rfl .nil))) rfl (zcj hp.below)
   ·have e3 : decide (bs + (es.length : Int) < n) = false := by simpa using h2
    have HF : Hid (zaB n 0 l = false) := z0j (by rw [decide_eq_true (show 0 ≤ n by omega), decide_eq_true (show n ≤ bs + (es.length : Int) by omega)] at h0; exact h0)
    clear h0
    go_enter Tryz.func24, Tryz.ntmps24
    go_wp2_with (first | (go_at_call 21; (with_reducible refine (Zb vw nm bs im ea es ec _ HB.out HSS.out _ (HA.out.below hp.below)).mono ?_); rintro e w1 ⟨rfl, hb⟩; replace hp := hp.call hb; clear hb; simp only [if_true, Bool.false_eq_true, if_false]) | (go_at_call 22; (with_reducible refine (ZD vw nm bs im ea es ec _ HB.out HSS.out _ (HA.out.below hp.below)).mono ?_); rintro e w1 ⟨rfl, hb⟩; replace hp := hp.call hb; clear hb; simp only [if_true, Bool.false_eq_true, if_false]) | (go_at_call 72; (with_reducible refine (zlA l n la lc _ HF.out HL.out _ (HLA.out.below hp.below)).mono ?_); rintro e w1 ⟨rfl, hb⟩; replace hp := hp.call hb; clear hb) | go_skip | ((first | ((refine zf _ rfl ?_); refine lZ hp rfl zZ ?_; clear hp; intro b w1 hp) | ((refine zg _ _ rfl ?_); refine lB hp rfl (za rfl) rfl ?_; clear hp; intro b w1 hp) | ((refine ze _ _ rfl ?_); first | refine lO hp rfl (za rfl) zn aa5 ?_ | refine lA hp rfl (za rfl) (by with_reducible first | exact zr | exact zk) aa5 ?_ | refine lR hp rfl (za rfl) (by with_reducible first | exact zr | exact zk) HX.out ?_) | ((refine zd _ _ _ rfl ?_); (first | refine sA hp rfl (za rfl) (za rfl) zr aa5 ?_ | refine sG hp rfl (za rfl) (za rfl) zr aa5 ?_); clear hp; intro w1 hp; simp only [spl, z0a, z0b] at hp) | ((refine zj _ _ _ rfl ?_); refine lS hp rfl (by intro w; go_simp; rfl) ?_; clear hp; intro b w1 hp; simp only [z0g, z0h, Nat.reduceAdd] at hp)); simp only [zc, zb, z0b, z0a]))
    exact bodyPost_ret (zu (rs := [.tmp 6, .tmp 7]) Tryz.results24 (.tmp rfl (.tmp rfl .nil))) rfl (zcj hp.below)
theorem zgS {B : Nat} {w0 w : World} {x a : Blk} {b : Blk} {RO : List Blk} (hp : Hp B w0 w (x :: a :: b :: RO)) : Hp B w0 w (x :: ([a, b] ++ (RO ++ []))) := hp.kp
theorem zgZ (x : Kv) (l : List Env) (q : Nat) (e : Env) (h : l[q]? = some e) : joinF x (l.take (q + 1)) = joinF x (l.take q) ++ (if zO x < e.nu then [e] else []) := by
 rw [List.take_add_one, h]
 unfold joinF
 rw [List.filter_append]
 congr 1
 by_cases h1 : zO x < e.nu
 ·simp [h1]
 ·simp [h1]
theorem zgI (vw nm bs : Int) (im : ByteArray) (ea : Option Addr) (es : List Env) (ec : Nat) (n : Int) (la : Option Addr) (l : List Env) (lc : Nat) (hs : Kv.Small ⟨vw, nm, bs, im, ea, es, ec⟩) (hl : l.length ≤ 100000) (w : World) (ha : zm w ea (es.flatMap zQ)) (hla : zm w la (l.flatMap zQ)) (h : zaA ⟨vw, nm, bs, im, ea, es, ec⟩ n l = true) : Calls Tryz.prog 24 #[.agg #[.int .i64 vw, .int .i64 nm, .int .i64 bs, .string im, .slice ea es.length ec], .int .i64 n, .slice la l.length lc] w (zcJ w true (joinF ⟨vw, nm, bs, im, ea, es, ec⟩ l)) := by
 have hp := Hp.start w; have HSS := z0j hs; have HA := z0j ha; have HLA := z0j hla; have HL := z0j hl; clear hs ha hla
 obtain ⟨i0, hi0, hz0, hz1, hz2⟩ := info_parts zlM
 obtain ⟨hb, h0, h1, h2⟩ := zaC h
 have hf := Ze hb
 simp only at hf
 have HB := z0j hb
 have e1 : wrap64 (bs + es.length) = bs + es.length := by unfold wrap64; omega
 have e4 : zO ⟨vw, nm, bs, im, ea, es, ec⟩ = bs + es.length := rfl
 rw [e4] at h1
 have HF := z0j h2
 have e2 : decide (n < 0) = false := by simp; omega
 have e3 : decide (bs + (es.length : Int) < n) = false := by simp; omega
 clear h hb hf h0 h1 h2
 go_enter Tryz.func24, Tryz.ntmps24
 go_wp2_with (first | (go_at_call 21; (with_reducible refine (Zb vw nm bs im ea es ec _ HB.out HSS.out _ (HA.out.below hp.below)).mono ?_); rintro e w1 ⟨rfl, hb⟩; replace hp := hp.call hb; clear hb; simp only [if_true, Bool.false_eq_true, if_false]) | (go_at_call 22; (with_reducible refine (ZD vw nm bs im ea es ec _ HB.out HSS.out _ (HA.out.below hp.below)).mono ?_); rintro e w1 ⟨rfl, hb⟩; replace hp := hp.call hb; clear hb; simp only [if_true, Bool.false_eq_true, if_false]) | (go_at_call 72; (with_reducible refine (zlA l n la lc _ HF.out HL.out _ (HLA.out.below hp.below)).mono ?_); rintro e w1 ⟨rfl, hb⟩; replace hp := hp.call hb; clear hb) | go_skip | ((first | ((refine zf _ rfl ?_); refine lZ hp rfl zZ ?_; clear hp; intro b w1 hp) | ((refine zg _ _ rfl ?_); refine lB hp rfl (za rfl) rfl ?_; clear hp; intro b w1 hp) | ((refine ze _ _ rfl ?_); first | refine lO hp rfl (za rfl) zn aa5 ?_ | refine lA hp rfl (za rfl) (by with_reducible first | exact zr | exact zk) aa5 ?_ | refine lR hp rfl (za rfl) (by with_reducible first | exact zr | exact zk) HX.out ?_) | ((refine zd _ _ _ rfl ?_); (first | refine sA hp rfl (za rfl) (za rfl) zr aa5 ?_ | refine sG hp rfl (za rfl) (za rfl) zr aa5 ?_); clear hp; intro w1 hp; simp only [spl, z0a, z0b] at hp) | ((refine zj _ _ _ rfl ?_); refine lS hp rfl (by intro w; go_simp; rfl) ?_; clear hp; intro b w1 hp; simp only [z0g, z0h, Nat.reduceAdd] at hp)); simp only [zc, zb, z0b, z0a]))
 obtain ⟨b3, hb3⟩ := hp.id0
 subst hb3
 clear e2 e3
 go_loopg [34, 9] l.length (fun k i v wr => ∃ (q : Nat) (RO : List Blk), k + q = l.length ∧ i = .int .i64 q ∧ Hid (zy 40 17 v (joinF ⟨vw, nm, bs, im, ea, es, ec⟩ (l.take q)).length ((joinF ⟨vw, nm, bs, im, ea, es, ec⟩ (l.take q)).flatMap zk7) RO) ∧ Hp w.heap.size w wr (⟨b3, [.int .i64 vw, .int .i64 nm, .int .i64 bs, .string im, .slice ea es.length ec], 28, 5⟩ :: RO))
 case atStart => exact ⟨0, [], by omega, rfl, z0j (zy.nil _ _), hp⟩
 case round =>
  clear hp
  obtain ⟨q, RO, hkq, rfl, HRO, hp⟩ := hrel
  by_cases hlt : q < l.length
  ·obtain ⟨bq, off, rfl, hx⟩ := HLA.out.elems 11 zP (by omega) (by omega)
   have hj := List.getElem?_eq_getElem hlt
   have hsn := zgZ ⟨vw, nm, bs, im, ea, es, ec⟩ l q _ hj
   replace hx := hx q _ hj
   clear hj
   generalize l[q] = en at hx hsn
   obtain ⟨nu, vi, cl, sq, ⟨kk, hh, ii, nn, cc, vv, tt⟩⟩ := en
   simp only [zQ, opL, z0f, z0e] at hx
   have HX := z0j hx
   rw [e4] at hsn
   have hlen : (joinF ⟨vw, nm, bs, im, ea, es, ec⟩ (l.take q)).length ≤ q := by
    have := List.length_filter_le (fun e : Env => decide (zO ⟨vw, nm, bs, im, ea, es, ec⟩ < e.nu)) (l.take q)
    rw [List.length_take] at this
    unfold joinF; omega
   have HL1 : Hid ((joinF ⟨vw, nm, bs, im, ea, es, ec⟩ (l.take q)).length + 1 ≤ maxLen) := z0j (by unfold maxLen; omega)
   have HL2 : Hid (((joinF ⟨vw, nm, bs, im, ea, es, ec⟩ (l.take q)).length + 1) * 160 ≤ 140737488355328) := z0j (by omega)
   have f1 : (0 : Int) ≤ (q : Int) := by omega
   have f2 : (q : Int) < (l.length : Int) := by omega
   clear hx hlen
   by_cases hg : bs + (es.length : Int) < nu
   ·have e5 : decide (bs + (es.length : Int) < nu) = true := by simpa using hg
    have HSN : Hid (joinF ⟨vw, nm, bs, im, ea, es, ec⟩ (l.take (q + 1)) = joinF ⟨vw, nm, bs, im, ea, es, ec⟩ (l.take q) ++ [⟨nu, vi, cl, sq, ⟨kk, hh, ii, nn, cc, vv, tt⟩⟩]) := z0j (by rw [hsn]; simp only; rw [if_pos hg])
    clear hg hsn
    go_wp2_with (first | ((refine zU _ _ 48 rfl ?_); refine zL (K := [_, _]) (R := RO) (M := []) (zgS hp) _ _ _ rfl wy i0 _ 160 Tryz.underlying48 hi0 hz0 hz1 hz2 rfl (by decide) (za rfl) HRO.out 1 1 (za rfl) (by rfl) (by decide) (by rfl) HL1.out HL2.out ?_; clear hp HRO; intro v' R' w1 hR' hp; obtain ⟨av, kv, rfl, _⟩ := hR'.kept; have HR' := z0j hR'; clear hR'; simp only [z0f, z0e, List.append_nil] at hp; simp only [zc, zb, z0b, z0a]) | go_skip | ((first | ((refine zf _ rfl ?_); refine lZ hp rfl zZ ?_; clear hp; intro b w1 hp) | ((refine zg _ _ rfl ?_); refine lB hp rfl (za rfl) rfl ?_; clear hp; intro b w1 hp) | ((refine ze _ _ rfl ?_); first | refine lO hp rfl (za rfl) zn aa5 ?_ | refine lA hp rfl (za rfl) (by with_reducible first | exact zr | exact zk) aa5 ?_ | refine lR hp rfl (za rfl) (by with_reducible first | exact zr | exact zk) HX.out ?_) | ((refine zd _ _ _ rfl ?_); (first | refine sA hp rfl (za rfl) (za rfl) zr aa5 ?_ | refine sG hp rfl (za rfl) (za rfl) zr aa5 ?_); clear hp; intro w1 hp; simp only [spl, z0a, z0b] at hp) | ((refine zj _ _ _ rfl ?_); refine lS hp rfl (by intro w; go_simp; rfl) ?_; clear hp; intro b w1 hp; simp only [z0g, z0h, Nat.reduceAdd] at hp)); simp only [zc, zb, z0b, z0a]))
    go_roundg (gk - 1)
    case measure => omega
    case rel => exact ⟨q + 1, R', by omega, by go_num, z0j (by rw [HSN.out, List.length_append, List.flatMap_append]; exact HR'.out), by skip; exact hp.tail.kp⟩
   ·have e5 : decide (bs + (es.length : Int) < nu) = false := by simpa using hg
    have HSN : Hid (joinF ⟨vw, nm, bs, im, ea, es, ec⟩ (l.take (q + 1)) = joinF ⟨vw, nm, bs, im, ea, es, ec⟩ (l.take q)) := z0j (by rw [hsn]; simp only; rw [if_neg hg, List.append_nil])
    clear hg hsn
    go_wp2_with (first | go_skip | ((first | ((refine zf _ rfl ?_); refine lZ hp rfl zZ ?_; clear hp; intro b w1 hp) | ((refine zg _ _ rfl ?_); refine lB hp rfl (za rfl) rfl ?_; clear hp; intro b w1 hp) | ((refine ze _ _ rfl ?_); first | refine lO hp rfl (za rfl) zn aa5 ?_ | refine lA hp rfl (za rfl) (by with_reducible first | exact zr | exact zk) aa5 ?_ | refine lR hp rfl (za rfl) (by with_reducible first | exact zr | exact zk) HX.out ?_) | ((refine zd _ _ _ rfl ?_); (first | refine sA hp rfl (za rfl) (za rfl) zr aa5 ?_ | refine sG hp rfl (za rfl) (za rfl) zr aa5 ?_); clear hp; intro w1 hp; simp only [spl, z0a, z0b] at hp) | ((refine zj _ _ _ rfl ?_); refine lS hp rfl (by intro w; go_simp; rfl) ?_; clear hp; intro b w1 hp; simp only [z0g, z0h, Nat.reduceAdd] at hp)); simp only [zc, zb, z0b, z0a]))
    go_roundg (gk - 1)
    case measure => omega
    case rel => exact ⟨q + 1, RO, by omega, by go_num, z0j (by rw [HSN.out]; exact HRO.out), hp.tail⟩
  ·obtain rfl : q = l.length := by omega
   have e5 : decide ((l.length : Int) < (l.length : Int)) = false := by simp
   have hro := HRO.out
   rw [List.take_length] at hro
   have HRO2 := z0j hro
   clear hkq hlt HRO hro
   go_wp2_with (first | go_skip | ((first | ((refine zf _ rfl ?_); refine lZ hp rfl zZ ?_; clear hp; intro b w1 hp) | ((refine zg _ _ rfl ?_); refine lB hp rfl (za rfl) rfl ?_; clear hp; intro b w1 hp) | ((refine ze _ _ rfl ?_); first | refine lO hp rfl (za rfl) zn aa5 ?_ | refine lA hp rfl (za rfl) (by with_reducible first | exact zr | exact zk) aa5 ?_ | refine lR hp rfl (za rfl) (by with_reducible first | exact zr | exact zk) HX.out ?_) | ((refine zd _ _ _ rfl ?_); (first | refine sA hp rfl (za rfl) (za rfl) zr aa5 ?_ | refine sG hp rfl (za rfl) (za rfl) zr aa5 ?_); clear hp; intro w1 hp; simp only [spl, z0a, z0b] at hp) | ((refine zj _ _ _ rfl ?_); refine lS hp rfl (by intro w; go_simp; rfl) ?_; clear hp; intro b w1 hp; simp only [z0g, z0h, Nat.reduceAdd] at hp)); simp only [zc, zb, z0b, z0a]))
   exact bodyPost_ret (zu (rs := [.tmp 6, .tmp 7]) Tryz.results24 (.tmp rfl (.tmp rfl .nil))) rfl ⟨_, RO, rfl, HRO2.out, hp.tail⟩
theorem zj6 (vw nm bs : Int) (im : ByteArray) (ea : Option Addr) (es : List Env) (ec : Nat) (n : Int) (la : Option Addr) (l : List Env) (lc : Nat) (hs : Kv.Small ⟨vw, nm, bs, im, ea, es, ec⟩) (hl : l.length ≤ 100000) (w : World) (ha : zm w ea (es.flatMap zQ)) (hla : zm w la (l.flatMap zQ)) (b : Bool) (f : List Env) (hb : zaA ⟨vw, nm, bs, im, ea, es, ec⟩ n l = b) (hf : (if b = true then joinF ⟨vw, nm, bs, im, ea, es, ec⟩ l else []) = f) : Calls Tryz.prog 24 #[.agg #[.int .i64 vw, .int .i64 nm, .int .i64 bs, .string im, .slice ea es.length ec], .int .i64 n, .slice la l.length lc] w (zcJ w b f) := by
 subst hf
 cases b
 ·exact zhZ vw nm bs im ea es ec n la l lc hs hl w ha hla hb
 ·exact zgI vw nm bs im ea es ec n la l lc hs hl w ha hla hb
open Go.RowKit
theorem zlx (w : World) : Calls Tryz.prog 73 #[.int .i64 3] w (zkz w 3) := zl0 3 (by decide) w
open Go.RowKit
theorem zmd {ty : TypeId} (h : zx Tryz.prog ty = true := by with_reducible first | exact zn | exact Zy | exact zB | exact zhC | exact zaQ) : zx Tryz.prog ty = true := h
theorem zjz {x y : Kv} (h : Kv.Sm x y) (n : Int) (l : List Env) : zaA x n l = zaA y n l := by
 unfold zaA zO
 rw [zbm h, h.bs, h.es]
theorem ziN {x y : Kv} (h : Kv.Sm x y) (l : List Env) : joinF x l = joinF y l := by
 unfold joinF zO
 rw [h.bs, h.es]
def zmk (w : World) (b : Bool) (f : List Env) (m : Nat) (e : Ending) (w' : World) : Prop := ∃ (a : Option Addr) (k : Nat) (R : List Blk), e = .returned (.tuple #[.slice a m k, .bool b]) ∧ zaa R (fun w => zm w a (f.flatMap zk7)) ∧ Hp w.heap.size w w' R
theorem zb3 (vw nm bs : Int) (im : ByteArray) (ea : Option Addr) (es : List Env) (s ec : Nat) (hsl : es.length = s) (n : Int) (la : Option Addr) (l : List Env) (m lc : Nat) (hlm : l.length = m) (hs : Kv.Small ⟨vw, nm, bs, im, ea, es, ec⟩) (hl : m ≤ 100000) (w : World) (ha : zm w ea (es.flatMap zQ)) (hla : zm w la (l.flatMap zQ)) (b : Bool) (f : List Env) (q : Nat) (hb : zaA ⟨vw, nm, bs, im, ea, es, ec⟩ n l = b) (hf : (if b = true then joinF ⟨vw, nm, bs, im, ea, es, ec⟩ l else []) = f) (hq : f.length = q) :
  Calls Tryz.prog 24 #[.agg #[.int .i64 vw, .int .i64 nm, .int .i64 bs, .string im, .slice ea s ec], .int .i64 n, .slice la m lc] w (zmk w b f q) := by
 subst hsl hlm hq
 refine (zj6 vw nm bs im ea es ec n la l lc hs hl w ha hla b f hb hf).mono fun e w' h => ?_
 obtain ⟨v, R, rfl, ho, hp⟩ := h
 obtain ⟨a, k, rfl, hk⟩ := ho.kept
 exact ⟨a, k, R, rfl, hk, hp⟩
theorem zm1 (a : Option Addr) (c : Nat) : zaA ⟨0, 0, 0, im3, a, kE 3, c⟩ 2 [En 3, En 4] = true := by
 unfold zaA
 rw [zih 3 (by decide)]
 kernel_rfl
theorem zmS (a : Option Addr) (c : Nat) : (if true = true then joinF ⟨0, 0, 0, im3, a, kE 3, c⟩ [En 3, En 4] else []) = [En 4] := by
 rw [if_pos rfl]
 unfold joinF zO
 rw [zam]
 simp [En]
theorem zm8 (a : Option Addr) (c : Nat) : zaA ⟨0, 0, 0, im3, a, kE 3, c⟩ 4 [] = false := by
 unfold zaA zO
 rw [zam, zih 3 (by decide)]
 kernel_rfl
theorem zlV (a : Option Addr) (c : Nat) (la : Option Addr) (w : World) (ha : zm w a ((kE 3).flatMap zQ)) (hla : zm w la ([En 3, En 4].flatMap zQ)) :
  Calls Tryz.prog 24 #[.agg #[.int .i64 0, .int .i64 0, .int .i64 0, .string im3, .slice a 3 c], .int .i64 2, .slice la 2 2] w fun e w' => ∃ b off c R, e = .returned (.tuple #[.slice (some ⟨b, off, none⟩) 1 c, .bool true]) ∧ zaa R (fun w => ∀ j v, [Value.int .i64 2, .int .i64 0, .int .i64 0, .int .i64 0, .string ⟨#[]⟩, .int .i64 4][j]? = some v → w.cell? ⟨b, off + j, none⟩ = some v) ∧ Hp w.heap.size w w' R := by
 refine (zb3 0 0 0 im3 a (kE 3) 3 c (zam 3) 2 la [En 3, En 4] 2 2 rfl (zbX 3 (by decide) a c) (by decide) w ha hla true [En 4] 1 (zm1 a c) (zmS a c) rfl).mono fun e w' h => ?_
 obtain ⟨a, c, R, rfl, hm, hp⟩ := h
 have hr := hm.at hp (fun p hq => hq)
 obtain ⟨b, off, rfl, _⟩ := hr.elems 17 zgp Nat.zero_lt_one (by decide)
 refine ⟨b, off, c, R, rfl, hm.mono (fun p hq => hq) (fun w hw => ?_), hp⟩
 have h5 := hw.fixC
 intro j v hj
 refine h5 j v ?_
 have hj2 : j < 6 := by
  have := (List.getElem?_eq_some_iff.1 hj).1
  simpa using this
 have : j = 0 ∨ j = 1 ∨ j = 2 ∨ j = 3 ∨ j = 4 ∨ j = 5 := by omega
 rcases this with rfl | rfl | rfl | rfl | rfl | rfl <;> exact hj
theorem zlg (a : Option Addr) (c : Nat) (w : World) (ha : zm w a ((kE 3).flatMap zQ)) :
  Calls Tryz.prog 24 #[.agg #[.int .i64 0, .int .i64 0, .int .i64 0, .string im3, .slice a 3 c], .int .i64 4, .slice none 0 0] w fun e w' => ∃ a k R, e = .returned (.tuple #[.slice a 0 k, .bool false]) ∧ Hp w.heap.size w w' R :=
 (zb3 0 0 0 im3 a (kE 3) 3 c (zam 3) 4 none [] 0 0 rfl (zbX 3 (by decide) a c) (by decide) w ha (zm.nil _ _) false [] 0 (zm8 a c) rfl rfl).mono fun e w' ⟨a, k, R, h1, _, h2⟩ => ⟨a, k, R, h1, h2⟩
theorem zlb {B : Nat} {w0 w : World} {L : List Blk} {b t n : Nat} (hp : Hp B w0 w (⟨b, [.int .i64 3, .int .i64 0, .int .i64 0, .int .i64 0, .int .i64 0, .int .i64 0, .int .i64 0, .int .i64 0, .int .i64 0, .int .i64 0, .int .i64 0, .int .i64 4, .int .i64 0, .int .i64 0, .int .i64 0, .int .i64 0, .int .i64 0, .int .i64 0, .int .i64 0, .int .i64 0, .int .i64 0, .int .i64 0], t, n⟩ :: L)) : zm w (some ⟨b, 0, none⟩) ([En 3, En 4].flatMap zQ) := hp.rowIs (i := 0) rfl
theorem zfN (w : World) : Calls Tryz.prog 25 #[] w fun e w' => e = .returned (.bool true) ∧ Below w.heap.size w w' := by
 have hp := Hp.start w
 go_enter Tryz.func25, Tryz.ntmps25
 go_wp2_with (first | (go_at_call 73; (with_reducible refine (zlx _).mono ?_); rintro e w1 ⟨ak, ck, RK, rfl, hck, hkk, hpn⟩; replace hp := hp.join hpn; have HKK := z0j hkk; clear hpn hkk hck; simp only [z0f, z0e, z0i] at hp) | (go_at_call 24; (with_reducible refine (zlV _ _ _ _ (HKK.out.at hp (fun p hm => by simp [hm])) (zlb hp)).mono ?_); rintro e w1 ⟨bm, om, cm, RM, rfl, hkm, hpn⟩; replace hp := hp.join hpn; have HKM := z0j hkm; clear hpn hkm; simp only [z0f, z0e, z0i] at hp) | (go_at_call 24; (with_reducible refine (zlg _ _ _ (HKK.out.at hp (fun p hm => by simp [hm]))).mono ?_); rintro e w1 ⟨an, cn, RN, rfl, hpn⟩; replace hp := hp.join hpn; clear hpn; simp only [z0f, z0e, z0i] at hp) | ((refine ze _ _ rfl ?_); first | (refine lRO (Hp.start _) rfl (za rfl) zaQ (HKM.out.at hp (fun p hm => by simp [hm]) 0 _ rfl) ?_; simp only [zc, zb, z0b, z0a]) | (refine lRO (Hp.start _) rfl (za rfl) zn (HKM.out.at hp (fun p hm => by simp [hm]) 5 _ rfl) ?_; simp only [zc, zb, z0b, z0a])) | go_skip | ((first | ((refine zf _ rfl ?_); refine lZ hp rfl Zz ?_; clear hp; intro b w1 hp) | ((refine ze _ _ rfl ?_); first | refine lO hp rfl (za rfl) zmd aa5 ?_ | refine lA hp rfl (za rfl) zk aa5 ?_) | ((refine zd _ _ _ rfl ?_); (first | refine sA hp rfl (za rfl) (za rfl) zk aa5 ?_ | refine sG hp rfl (za rfl) (za rfl) zk aa5 ?_); clear hp; intro w1 hp; simp only [spl, z0a, z0b] at hp) | ((refine zj _ _ _ rfl ?_); refine lS hp rfl (by intro w; go_simp; rfl) ?_; clear hp; intro b w1 hp; simp only [z0g, z0h, Nat.reduceAdd] at hp)); simp only [zc, zb, z0b, z0a]))
 go_ret
 exact ⟨rfl, hp.below⟩
end Go.Proofs.YtjcbpfbifbfkcaaGreat
