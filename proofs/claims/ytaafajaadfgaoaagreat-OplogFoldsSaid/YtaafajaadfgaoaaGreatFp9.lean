import Derived.Test.YtaafajaadfgaoaaGreatFp6
import Derived.Test.YtaafajaadfgaoaaGreatFp2
import Derived.Test.YtaafajaadfgaoaaGreatFp0
set_option linter.unusedSimpArgs false
set_option linter.unusedVariables false
set_option maxRecDepth 100000
set_option maxHeartbeats 60000000
namespace Go.Proofs.YtaafajaadfgaoaaGreat
open Go.RowKit Go.Lib Go.Shelf Go.Sort
theorem zkV (args : Array Value) (w : World) : (callFunc 145 args).run Tryz.prog w = .ok (.enter 145 args) w := enters_of Tryz.func145 (by kernel_rfl) rfl args w
theorem zg1 : zfv 145 := by
 intro x y W
 have hcon := zlT x.p y.p
 generalize zgQ x.p y.p = r at hcon ⊢
 go_enter Tryz.func145, Tryz.ntmps145
 go_wp2_with (go_at_call 124; (with_reducible refine (hcon _).mono ?_); rintro e w' ⟨rfl, rfl⟩)
 go_ret
 exact ⟨rfl, 0, _, by rw [alloc_eq_grow, alloc_eq_grow, grow_grow]; rfl⟩
open Go.RowKit
theorem zjc {ty : TypeId} (h : zB Tryz.prog ty = true := by with_reducible first | exact zq | exact za8 | exact zcq) : zB Tryz.prog ty = true := h
theorem zx {ty : TypeId} {k : Nat} (h : zac Tryz.prog ty k = true := by with_reducible first | exact zN | exact zv | exact zt) : zac Tryz.prog ty k = true := h
theorem zZ {ty : TypeId} (h : zB Tryz.prog ty = true := by with_reducible first | exact zq | exact zA | exact zbi | exact za8 | exact zcq | exact Ze) : zB Tryz.prog ty = true := h
theorem zjh {x : Hv} {s : List Bl} {en : Int} {r : Bool} (hi : zai x ↔ Tl (pw x.od) 0 s ∧ (∀ t ∈ ZG x.os, ZY x.os t) ∧ ∀ t ∈ tops x, ZY x.os t) (hd : Tl (pw x.od) 0 s ↔ en = pw x.od) (hno : ¬ zai x → r = false) (hyes : zai x → r = true) :
  ((en == pw x.od) = false ∧ (en != pw x.od) = true ∧ r = false) ∨
  ((en == pw x.od) = true ∧ (en != pw x.od) = false ∧ zdr x.os (ZG x.os) = true ∧ r = false) ∨
  ((en == pw x.od) = true ∧ (en != pw x.od) = false ∧ zdr x.os (ZG x.os) = false ∧ zdr x.os (tops x) = true ∧ r = false) ∨
  ((en == pw x.od) = true ∧ (en != pw x.od) = false ∧ zdr x.os (ZG x.os) = false ∧ zdr x.os (tops x) = false ∧ r = true) := by
 by_cases h1 : en = pw x.od
 ·right
  cases h2 : zdr x.os (ZG x.os) with
  | true =>
   left
   refine ⟨by simp [h1], by simp [h1], rfl, hno fun h => ?_⟩
   obtain ⟨t, ht, hn⟩ := zb2.1 h2
   exact hn ((hi.1 h).2.1 t ht)
  | false =>
   right
   cases h3 : zdr x.os (tops x) with
   | true =>
    left
    refine ⟨by simp [h1], by simp [h1], rfl, rfl, hno fun h => ?_⟩
    obtain ⟨t, ht, hn⟩ := zb2.1 h3
    exact hn ((hi.1 h).2.2 t ht)
   | false =>
    right
    refine ⟨by simp [h1], by simp [h1], rfl, rfl, hyes (hi.2 ⟨hd.2 h1, fun t ht => Classical.byContradiction fun hn => ?_, fun t ht => Classical.byContradiction fun hn => ?_⟩)⟩
    ·rw [zb2.2 ⟨t, ht, hn⟩] at h2; cases h2
    ·rw [zb2.2 ⟨t, ht, hn⟩] at h3; cases h3
 ·left
  exact ⟨by simp [h1], by simp [h1], hno fun h => h1 (hd.1 (hi.1 h).1)⟩
theorem zha (os : List Ob) (oa : Option Addr) (oc : Nat) (hol : os.length ≤ 1000) (hs : zbu os) (b : Nat) (t0 t1 t2 t3 : Int) (w : World) (hb : b < w.heap.size) (hc : w.cell? ⟨b, 1, none⟩ = some (.slice oa os.length oc)) (hoa : zr w oa (os.flatMap obV)) (ha : zr w (some ⟨b, 3, none⟩) ([t0, t1, t2, t3].flatMap iV)) :
  Calls Tryz.prog 148 #[.slice (some ⟨b, 3, none⟩) 4 4, .func (.func 146) #[] #[.pointer (some ⟨b, 0, none⟩)]] w fun e w' => e = .returned (.bool (zdr os [t0, t1, t2, t3])) ∧ Below w.heap.size w w' :=
 zeA os oa oc hol hs b [t0, t1, t2, t3] (some ⟨b, 3, none⟩) 4 (by simp) w hb hc hoa ha
theorem zr.fix {w : World} {b off : Nat} {xs : List Value} (h : zr w (some ⟨b, off, none⟩) xs) : ∀ j v, xs[j]? = some v → w.cell? ⟨b, off + j, none⟩ = some v := fun j v hj => by
 obtain ⟨b', off', he, hc⟩ := h j v hj
 injection he with he; injection he with e1 e2; subst e1; subst e2; exact hc
structure ziT (w w1 : World) (b1 : Nat) (s d : List Bl) (os : List Ob) (aa oa al : Option Addr) (cells : List Value) (ts : List Int) : Prop where
 perm : s.Perm d
 sort : s.Pairwise fun x y => x.p ≤ y.p
 inr : InR s
 rs : zr w1 aa (s.flatMap blV)
 rl : zr w1 al ((ZG os).flatMap iV)
 rt : zr w1 (some ⟨b1, 3, none⟩) (ts.flatMap iV)
 ro : zr w1 oa (os.flatMap obV)
 rb : ∀ j v, cells[j]? = some v → w1.cell? ⟨b1, 0 + j, none⟩ = some v
 lt : b1 < w1.heap.size
 bw : Below w.heap.size w w1
theorem zh8 {w w1 : World} {b1 T N : Nat} {od : Int} {fs s : List Bl} {os : List Ob} {oa fa : Option Addr} {oc fc n : Nat} {nx t0 t1 t2 t3 : Int} {va vl : Value} {R' RL : List Blk}
  (hperm : s.Perm (fs ++ os.map zaE)) (hsort : s.Pairwise fun x y => x.p ≤ y.p) (hrow : zJ 124 2 va (fs ++ os.map zaE).length (s.flatMap blV) R')
  (hl : zJ 3 1 vl n ((ZG os).flatMap iV) RL)
  (hp : Hp w.heap.size w w1 (R' ++ (⟨b1, [.int .i64 od, .slice oa os.length oc, .int .i64 nx, .int .i64 t0, .int .i64 t1, .int .i64 t2, .int .i64 t3, .slice fa fs.length fc], T, N⟩ :: RL)))
  (ho : zr w oa (os.flatMap obV)) (hg : zcu od fs) (hn : zd3 od os) (h8 : od ≤ 8) :
  ∃ aa ka al kl, va = .slice aa s.length ka ∧ vl = .slice al (ZG os).length kl ∧ ziT w w1 b1 s (fs ++ os.map zaE) os aa oa al [.int .i64 od, .slice oa os.length oc, .int .i64 nx, .int .i64 t0, .int .i64 t1, .int .i64 t2, .int .i64 t3, .slice fa fs.length fc] [t0, t1, t2, t3] := by
 have hn' : n = (ZG os).length := by have := hl.1; rw [ZH iV 1 zgq] at this; omega
 subst hn'
 rw [← hperm.length_eq] at hrow
 obtain ⟨aa, ka, hva, KA⟩ := hrow.kept
 obtain ⟨al, kl, hvl, KL⟩ := hl.kept
 have hb := (hp.reorder List.perm_middle).rowIs at0
 have hb' := hb.fix
 refine ⟨aa, ka, al, kl, hva, hvl, hperm, hsort, zl2 h8 hg hperm hn, KA.at hp (fun p h => List.mem_append_left _ h), KL.at hp (fun p h => List.mem_append_right _ (List.mem_cons_of_mem _ h)), ?_, ho.below hp.below, hb', (hp.lt (p := ⟨b1, _, T, N⟩) (List.mem_append_right _ (List.mem_cons_self ..))).2, hp.below⟩
 intro j v hj
 refine ⟨b1, 3, rfl, ?_⟩
 have h4 : j < 4 := by have := (List.getElem?_eq_some_iff.1 hj).1; simpa [iV] using this
 have hc : j = 0 ∨ j = 1 ∨ j = 2 ∨ j = 3 := by omega
 rcases hc with rfl | rfl | rfl | rfl
 ·exact hb' 3 v hj
 ·exact hb' 4 v hj
 ·exact hb' 5 v hj
 ·exact hb' 6 v hj
theorem zmn (x : Hv) (hs : x.Small) (w : World) (hx0 : x.Is w) : Calls Tryz.prog 74 #[.agg (hvL x).toArray] w fun e w' => e = .returned (.int .i64 (ziS (Zk x))) ∧ Below w.heap.size w w' := by
 obtain ⟨i0, hi0, hz0, hz1, hz2⟩ := info_parts zcD
 obtain ⟨i1, hi1, hy0, hy1, hy2⟩ := info_parts zk6
 obtain ⟨od, oa, os, oc, nx, t0, t1, t2, t3, fa, fs, fc⟩ := x
 have W9 := z0j (zjf ⟨od, oa, os, oc, nx, t0, t1, t2, t3, fa, fs, fc⟩)
 obtain ⟨⟨hol, hosm⟩, hfl⟩ := hs
 obtain ⟨ho, hoo, hf⟩ := hx0
 simp only at hol hosm hfl ho hoo hf W9
 simp only [hvL]
 have HNO := z0j (zaN (x := ⟨od, oa, os, oc, nx, t0, t1, t2, t3, fa, fs, fc⟩))
 have HYES := z0j (zbt (x := ⟨od, oa, os, oc, nx, t0, t1, t2, t3, fa, fs, fc⟩))
 generalize Zk ⟨od, oa, os, oc, nx, t0, t1, t2, t3, fa, fs, fc⟩ = r at W9 HNO HYES ⊢
 have hp := Hp.start w
 have HO := z0j ho
 have HOO := z0j hoo
 have HOS := z0j hosm
 have HF := z0j hf
 clear ho hoo hosm hf
 go_enter Tryz.func74, Tryz.ntmps74
 go_wp2_with (first | go_skip | ((first | ((refine zg _ rfl ?_); refine lZ hp rfl (by with_reducible first | exact zC | exact zI) ?_; clear hp; intro b w1 hp) | ((refine zh _ _ rfl ?_); refine lB hp rfl (za rfl) rfl ?_; clear hp; intro b w1 hp) | ((refine zf _ _ rfl ?_); first | refine lO hp rfl (za rfl) zZ aa5 ?_ | refine lA hp rfl (za rfl) zx aa5 ?_) | ((refine zd _ _ _ rfl ?_); (first | refine sO hp rfl (za rfl) zZ aa5 ?_ | refine sA hp rfl (za rfl) (za rfl) zx aa5 ?_ | refine sG hp rfl (za rfl) (za rfl) zx aa5 ?_); clear hp; intro w1 hp; simp only [spl, z0a, z0b] at hp) | ((refine zi _ _ _ rfl ?_); refine lS hp rfl (by intro w; go_simp; rfl) ?_; clear hp; intro b w1 hp; simp only [z0g, z0h, Nat.reduceAdd] at hp)); simp only [zc, zb, z0b, z0a]))
 refine zk _ (zE.all hp.drew) [] [(0, true), (1, true), (2, true), (3, true), (4, false), (5, true), (6, true), (7, true), (8, true), (9, false), (10, true), (11, true), (12, true), (13, true), (14, true), (15, true), (16, false), (17, true), (18, true)] (by kernel_rfl) (by kernel_rfl) rfl (by kernel_rfl) (fun _ _ d _ _ h => by cases d <;> exact h) ?_
 replace hp := hp.drew
 rcases W9.out with ⟨d1, r0⟩ | ⟨d1, d2, r0⟩ | ⟨d1, d2, d4, r0⟩ | ⟨d1, d2, d4, r1, r2, r3, r4⟩
 all_goals clear W9
 all_goals
  repeat' (with_reducible refine zG ?_); first | (with_reducible refine zw ?_) | ((with_reducible refine zR ?_); refine zy rfl ?_; (first | ((with_reducible refine za0 _ _ rfl ?_); refine tS (by first | exact Zc rfl rfl rfl rfl | exact Zm rfl rfl rfl rfl) ?_) | ((with_reducible refine Zy _ rfl ?_); refine tM rfl ?_) | ((with_reducible refine Zt _ _ rfl ?_); refine tO rfl (za rfl) zjc aa5 ?_) | refine tG (fun w _ => (by go_simp; try rfl)) ?_); try simp only [zc, zb, zm, zj, z0b, z0a, z0d, z0c, zn]) | (refine zQ rfl (fun K hK => ?_); go_wp2_with (first | (go_at_call 139; (with_reducible refine (zkK od fs fa fc hfl _ (HF.out.below hp.below)).mono ?_); rintro e w1 ⟨rfl, hb⟩; rw [d1]; replace hp := hp.call hb; clear hb) | (go_at_call 140; (with_reducible refine (zdE _ _ _ _).mono ?_); rintro e w' ⟨rfl, rfl⟩; first | rw [d2] | rw [d3]) | (go_at_call 141; (with_reducible refine (zab _ (by omega) (by omega) _).mono ?_); rintro e w' ⟨rfl, rfl⟩; try rw [pw8]) | go_skip); (refine hK.out _ _ (.inr (zdp hp)) ?_); clear hK K; try simp only [zc, zb, zm, zj, z0b, z0a, z0d, z0c, zn])
 all_goals first
  | (subst r0; clear HNO HYES; go_wp2_with fail; go_ret; exact ⟨rfl, hp.below⟩)
  | skip
 ·obtain ⟨h3, h8, hgood⟩ := zdc r1
  have HR1 := z0j r1
  have HGD := z0j hgood
  have HN1 := z0j r2
  have HN2 := z0j r3
  clear d1 d2 d4 r1 r2 r3 hgood
  go_wp2_with (first | go_skip | ((first | ((refine zg _ rfl ?_); refine lZ hp rfl (by with_reducible first | exact zC | exact zI) ?_; clear hp; intro b w1 hp) | ((refine zh _ _ rfl ?_); refine lB hp rfl (za rfl) rfl ?_; clear hp; intro b w1 hp) | ((refine zf _ _ rfl ?_); first | refine lO hp rfl (za rfl) zZ aa5 ?_ | refine lA hp rfl (za rfl) zx aa5 ?_) | ((refine zd _ _ _ rfl ?_); (first | refine sO hp rfl (za rfl) zZ aa5 ?_ | refine sA hp rfl (za rfl) (za rfl) zx aa5 ?_ | refine sG hp rfl (za rfl) (za rfl) zx aa5 ?_); clear hp; intro w1 hp; simp only [spl, z0a, z0b] at hp) | ((refine zi _ _ _ rfl ?_); refine lS hp rfl (by intro w; go_simp; rfl) ?_; clear hp; intro b w1 hp; simp only [z0g, z0h, Nat.reduceAdd] at hp)); simp only [zc, zb, z0b, z0a]))
  obtain ⟨b1, rfl⟩ := hp.id0
  go_loopg [3, 37] os.length (fun k la i wr => ∃ (j : Nat) (lv : Int), k + j = os.length ∧ i = .int .i64 j ∧ la = .int .i64 lv ∧ Hid (zaX nx os j lv) ∧ Hp w.heap.size w wr [⟨b1, [.int .i64 od, .slice oa os.length oc, .int .i64 nx, .int .i64 t0, .int .i64 t1, .int .i64 t2, .int .i64 t3, .slice fa fs.length fc], 47, 8⟩])
  case atStart => exact ⟨0, 0, by omega, rfl, rfl, z0j (zaX.start nx os), hp⟩
  case round =>
   clear hp
   obtain ⟨j, lv, hkj, rfl, rfl, HRT, hp⟩ := hrel
   by_cases hlt : j < os.length
   ·obtain ⟨bq, off, rfl, hx⟩ := HO.out.elems 5 zbP (by omega) (by omega)
    have hj := List.getElem?_eq_getElem hlt
    replace hx := hx j _ hj
    have HJ := z0j hj
    clear hj
    generalize os[j] = x at hx HJ
    obtain ⟨xh, xp, xo, wa, ws, wc, la, ls, lc⟩ := x
    simp only [obV] at hx
    have HX := z0j hx
    clear hx
    have e1 : (0 : Int) ≤ (j : Int) := by omega
    have e2 : (j : Int) < (os.length : Int) := by omega
    by_cases hb : xh ≤ lv ∨ nx ≤ xh
    ·have hr : r = false := HNO.out fun h => HRT.out.fail HJ.out hb h.rise
     subst hr
     clear HNO HYES
     rcases hb with hb | hb
     ·have e3 : decide (xh ≤ lv) = true := decide_eq_true hb
      clear hb
      go_wp2_with (first | go_skip | ((first | ((refine zg _ rfl ?_); refine lZ hp rfl (by with_reducible first | exact zC | exact zI) ?_; clear hp; intro b w1 hp) | ((refine zh _ _ rfl ?_); refine lB hp rfl (za rfl) rfl ?_; clear hp; intro b w1 hp) | ((refine zf _ _ rfl ?_); first | refine lO hp rfl (za rfl) zZ aa5 ?_ | refine lA hp rfl (za rfl) zx aa5 ?_ | refine lR hp rfl (za rfl) zx HX.out ?_) | ((refine zd _ _ _ rfl ?_); (first | refine sO hp rfl (za rfl) zZ aa5 ?_ | refine sA hp rfl (za rfl) (za rfl) zx aa5 ?_ | refine sG hp rfl (za rfl) (za rfl) zx aa5 ?_); clear hp; intro w1 hp; simp only [spl, z0a, z0b] at hp) | ((refine zi _ _ _ rfl ?_); refine lS hp rfl (by intro w; go_simp; rfl) ?_; clear hp; intro b w1 hp; simp only [z0g, z0h, Nat.reduceAdd] at hp)); simp only [zc, zb, z0b, z0a]))
      go_ret
      exact ⟨rfl, hp.below⟩
     ·by_cases hc : xh ≤ lv
      ·have e3 : decide (xh ≤ lv) = true := decide_eq_true hc
       clear hb hc
       go_wp2_with (first | go_skip | ((first | ((refine zg _ rfl ?_); refine lZ hp rfl (by with_reducible first | exact zC | exact zI) ?_; clear hp; intro b w1 hp) | ((refine zh _ _ rfl ?_); refine lB hp rfl (za rfl) rfl ?_; clear hp; intro b w1 hp) | ((refine zf _ _ rfl ?_); first | refine lO hp rfl (za rfl) zZ aa5 ?_ | refine lA hp rfl (za rfl) zx aa5 ?_ | refine lR hp rfl (za rfl) zx HX.out ?_) | ((refine zd _ _ _ rfl ?_); (first | refine sO hp rfl (za rfl) zZ aa5 ?_ | refine sA hp rfl (za rfl) (za rfl) zx aa5 ?_ | refine sG hp rfl (za rfl) (za rfl) zx aa5 ?_); clear hp; intro w1 hp; simp only [spl, z0a, z0b] at hp) | ((refine zi _ _ _ rfl ?_); refine lS hp rfl (by intro w; go_simp; rfl) ?_; clear hp; intro b w1 hp; simp only [z0g, z0h, Nat.reduceAdd] at hp)); simp only [zc, zb, z0b, z0a]))
       go_ret
       exact ⟨rfl, hp.below⟩
      ·have e3 : decide (xh ≤ lv) = false := decide_eq_false hc
       have e4 : decide (nx ≤ xh) = true := decide_eq_true hb
       clear hb hc
       go_wp2_with (first | go_skip | ((first | ((refine zg _ rfl ?_); refine lZ hp rfl (by with_reducible first | exact zC | exact zI) ?_; clear hp; intro b w1 hp) | ((refine zh _ _ rfl ?_); refine lB hp rfl (za rfl) rfl ?_; clear hp; intro b w1 hp) | ((refine zf _ _ rfl ?_); first | refine lO hp rfl (za rfl) zZ aa5 ?_ | refine lA hp rfl (za rfl) zx aa5 ?_ | refine lR hp rfl (za rfl) zx HX.out ?_) | ((refine zd _ _ _ rfl ?_); (first | refine sO hp rfl (za rfl) zZ aa5 ?_ | refine sA hp rfl (za rfl) (za rfl) zx aa5 ?_ | refine sG hp rfl (za rfl) (za rfl) zx aa5 ?_); clear hp; intro w1 hp; simp only [spl, z0a, z0b] at hp) | ((refine zi _ _ _ rfl ?_); refine lS hp rfl (by intro w; go_simp; rfl) ?_; clear hp; intro b w1 hp; simp only [z0g, z0h, Nat.reduceAdd] at hp)); simp only [zc, zb, z0b, z0a]))
       go_ret
       exact ⟨rfl, hp.below⟩
    ·have h1 : ¬ xh ≤ lv := fun h => hb (.inl h)
     have h2 : ¬ nx ≤ xh := fun h => hb (.inr h)
     have HST := z0j (HRT.out.step HJ.out h1 h2)
     have e3 : decide (xh ≤ lv) = false := decide_eq_false h1
     have e4 : decide (nx ≤ xh) = false := decide_eq_false h2
     clear hb h1 h2
     go_wp2_with (first | go_skip | ((first | ((refine zg _ rfl ?_); refine lZ hp rfl (by with_reducible first | exact zC | exact zI) ?_; clear hp; intro b w1 hp) | ((refine zh _ _ rfl ?_); refine lB hp rfl (za rfl) rfl ?_; clear hp; intro b w1 hp) | ((refine zf _ _ rfl ?_); first | refine lO hp rfl (za rfl) zZ aa5 ?_ | refine lA hp rfl (za rfl) zx aa5 ?_ | refine lR hp rfl (za rfl) zx HX.out ?_) | ((refine zd _ _ _ rfl ?_); (first | refine sO hp rfl (za rfl) zZ aa5 ?_ | refine sA hp rfl (za rfl) (za rfl) zx aa5 ?_ | refine sG hp rfl (za rfl) (za rfl) zx aa5 ?_); clear hp; intro w1 hp; simp only [spl, z0a, z0b] at hp) | ((refine zi _ _ _ rfl ?_); refine lS hp rfl (by intro w; go_simp; rfl) ?_; clear hp; intro b w1 hp; simp only [z0g, z0h, Nat.reduceAdd] at hp)); simp only [zc, zb, z0b, z0a]))
     go_roundg (gk - 1)
     case measure => omega
     case rel => exact ⟨j + 1, xh, by omega, by go_num, rfl, HST, hp.tail⟩
   ·have e2 : decide ((j : Int) < (os.length : Int)) = false := by simp; omega
    have HRISE : Hid (zeu nx os) := z0j (HRT.out.done (by omega))
    clear HRT
    go_wp2_with (first | (go_at_call 142; (with_reducible refine (zkS fa fs.length fc (by omega) _ (zjM fs) (zlR fs) _ (HF.out.below hp.below)).mono ?_); rintro e w1 ⟨va, RA, rfl, hra, hpa⟩; replace hp := hp.join hpa; have HRA := z0j hra; clear hpa hra; simp only [z0f, z0e] at hp) | go_skip | ((first | ((refine zg _ rfl ?_); refine lZ hp rfl (by with_reducible first | exact zC | exact zI) ?_; clear hp; intro b w1 hp) | ((refine zh _ _ rfl ?_); refine lB hp rfl (za rfl) rfl ?_; clear hp; intro b w1 hp) | ((refine zf _ _ rfl ?_); first | refine lO hp rfl (za rfl) zZ aa5 ?_ | refine lA hp rfl (za rfl) zx aa5 ?_) | ((refine zd _ _ _ rfl ?_); (first | refine sO hp rfl (za rfl) zZ aa5 ?_ | refine sA hp rfl (za rfl) (za rfl) zx aa5 ?_ | refine sG hp rfl (za rfl) (za rfl) zx aa5 ?_); clear hp; intro w1 hp; simp only [spl, z0a, z0b] at hp) | ((refine zi _ _ _ rfl ?_); refine lS hp rfl (by intro w; go_simp; rfl) ?_; clear hp; intro b w1 hp; simp only [z0g, z0h, Nat.reduceAdd] at hp)); simp only [zc, zb, z0b, z0a]))
    clear e2
    go_loopg [6, 7, 61] os.length (fun k vl va i wr => ∃ (q : Nat) (RL RA : List Blk), k + q = os.length ∧ i = .int .i64 q ∧ Hid (zJ 3 1 vl (ZG (os.take q)).length ((ZG (os.take q)).flatMap iV) RL) ∧ Hid (zJ 124 2 va (fs.length + q) ((fs ++ (os.take q).map zaE).flatMap blV) RA) ∧ Hid ((ZG (os.take q)).length ≤ q * 16) ∧ Hid (zd3 od (os.take q)) ∧ Hp w.heap.size w wr (⟨b1, [.int .i64 od, .slice oa os.length oc, .int .i64 nx, .int .i64 t0, .int .i64 t1, .int .i64 t2, .int .i64 t3, .slice fa fs.length fc], 47, 8⟩ :: (RL ++ RA)))
    case atStart => exact ⟨0, [], RA, by omega, rfl, z0j (zJ.nil _ _), z0j (by simpa using HRA.out), z0j (by simp [ZG]), z0j (by intro o ho; simp at ho), hp⟩
    case round =>
     clear hp HRA
     obtain ⟨q, RL, RA, hkq, rfl, HRL, HRA, HLL, HND, hp⟩ := hrel
     by_cases hlt : q < os.length
     ·obtain ⟨bq, off, rfl, hx⟩ := HO.out.elems 5 zbP (by omega) (by omega)
      have hj := List.getElem?_eq_getElem hlt
      replace hx := hx q _ hj
      have hmem := List.getElem_mem hlt
      obtain ⟨_, hw2⟩ := HOO.out _ hmem
      obtain ⟨hw3, hw4⟩ := HOS.out _ hmem
      have HJ := z0j hj
      clear hj hmem
      generalize os[q] = x at hx hw2 hw3 hw4 HJ
      have W8 := z0j (zjg h3 h8 HJ.out HND.out (r := r) (fun h => HNO.out fun h' => h h'.need))
      have HTK : Hid (os.take (q + 1) = os.take q ++ [x]) := z0j (by rw [List.take_add_one, HJ.out]; rfl)
      obtain ⟨xh, xp, xo, wa, ws, wc, la, ls, lc⟩ := x
      simp only [obV] at hx hw2 hw3 hw4 W8
      have HX := z0j hx
      have HLK := z0j hw2
      clear hx hw2
      have e1 : (0 : Int) ≤ (q : Int) := by omega
      have e2 : (q : Int) < (os.length : Int) := by omega
      go_wp2_with (first | go_skip | ((first | ((refine zg _ rfl ?_); refine lZ hp rfl (by with_reducible first | exact zC | exact zI) ?_; clear hp; intro b w1 hp) | ((refine zh _ _ rfl ?_); refine lB hp rfl (za rfl) rfl ?_; clear hp; intro b w1 hp) | ((refine zf _ _ rfl ?_); first | refine lO hp rfl (za rfl) zZ aa5 ?_ | refine lA hp rfl (za rfl) zx aa5 ?_ | refine lR hp rfl (za rfl) zx HX.out ?_) | ((refine zd _ _ _ rfl ?_); (first | refine sO hp rfl (za rfl) zZ aa5 ?_ | refine sA hp rfl (za rfl) (za rfl) zx aa5 ?_ | refine sG hp rfl (za rfl) (za rfl) zx aa5 ?_); clear hp; intro w1 hp; simp only [spl, z0a, z0b] at hp) | ((refine zi _ _ _ rfl ?_); refine lS hp rfl (by intro w; go_simp; rfl) ?_; clear hp; intro b w1 hp; simp only [z0g, z0h, Nat.reduceAdd] at hp)); simp only [zc, zb, z0b, z0a]))
      refine zk _ (zE.all hp.drew) [] [(0, true), (1, true), (2, true), (3, true), (4, true), (5, true), (7, true), (8, true), (6, false), (9, true), (10, true), (11, true), (12, true), (13, true), (14, true), (15, false), (16, true), (17, true), (18, true), (19, true), (20, true), (21, true), (22, true), (23, false), (24, false), (25, true), (26, true), (27, true), (28, true), (29, true), (30, true), (31, true), (32, false), (33, true), (34, true), (35, true)] (by kernel_rfl) (by kernel_rfl) rfl (by kernel_rfl) (fun _ _ d _ _ h => by cases d <;> exact h) ?_
      replace hp := hp.drew
      rcases W8.out with ⟨nn, d1, d5, d6, r0⟩ | ⟨d1, d2, r0⟩ | ⟨d1, d2, g1, g2, d3, r0⟩ | ⟨d1, d2, g1, g2, d3, g3, g4, d7, d8, d9, d10, r0⟩ | ⟨d1, d2, g1, g2, d3, g3, g4, d7, d8, d9, d10, hnn⟩
      all_goals clear W8
      all_goals
       repeat' (with_reducible refine zG ?_); first | (with_reducible refine zw ?_) | ((with_reducible refine zR ?_); refine zy rfl ?_; (first | ((with_reducible refine za0 _ _ rfl ?_); refine tS (by first | exact Zc rfl rfl rfl rfl | exact Zm rfl rfl rfl rfl) ?_) | ((with_reducible refine Zy _ rfl ?_); refine tM rfl ?_) | ((with_reducible refine Zt _ _ rfl ?_); refine tO rfl (za rfl) (by with_reducible first | exact zq | exact zbi) aa5 ?_) | refine tG (fun w _ => (by go_simp; try rfl)) ?_); try simp only [zc, zb, zm, zj, z0b, z0a, z0d, z0c, zn]) | (refine zQ rfl (fun K hK => ?_); go_wp2_with (first | (go_at_call 143; (with_reducible refine (zci _ _ _).mono ?_); rintro e w' ⟨rfl, rfl⟩; rw [d1]) | (go_at_call 140; (with_reducible refine (zdE _ _ _ _).mono ?_); rintro e w' ⟨rfl, rfl⟩; first | rw [d2] | rw [d3]) | (go_at_call 141; (with_reducible refine (zab _ (by omega) (by omega) _).mono ?_); rintro e w' ⟨rfl, rfl⟩; try rw [pw8]) | go_skip); (refine hK.out _ _ (.inr (zdp hp)) ?_); clear hK K; try simp only [zc, zb, zm, zj, z0b, z0a, z0d, z0c, zn])
      all_goals first
       | (subst r0; clear HNO HYES; go_wp2_with fail; go_ret; exact ⟨rfl, hp.below⟩)
       | skip
      ·have HNN := z0j hnn
       have hls := zlk d1 g3
       have hll := HLL.out
       have sm1 : fs.length + q + 1 ≤ maxLen := by unfold maxLen; omega
       have sm2 : (fs.length + q + 1) * 16 ≤ 140737488355328 := by omega
       have sm3 : (ZG (os.take q)).length + ls.length ≤ maxLen := by unfold maxLen; omega
       have sm4 : ((ZG (os.take q)).length + ls.length) * 8 ≤ 140737488355328 := by omega
       clear d1 d2 d3 d7 d8 d9 d10 g1 g2 g3 g4 hnn hll
       have HLS := z0j hls
       clear hls
       go_wp2_with (first | ((refine Zb _ _ 45 rfl ?_); refine zM (K := [_, _, _]) (R := RA) (M := RL) (hp.reorder (List.Perm.cons _ (List.Perm.cons _ (List.Perm.cons _ (List.Perm.cons _ List.perm_append_comm))))) _ _ _ rfl wy i0 _ 16 Tryz.underlying45 hi0 hz0 hz1 hz2 rfl (by decide) (za rfl) HRA.out 1 1 (za rfl) (by rfl) (by decide) (by rfl) sm1 sm2 ?_; clear hp HRA; intro va' RA' w1 hra hp; have HRA := z0j hra; clear hra; simp only [z0f, z0e] at hp; simp only [zc, zb, z0b, z0a]) | ((refine Zb _ _ 122 rfl ?_); refine ZJ (K := [_, _, _]) (R := RL) (M := RA') (hp.reorder (List.Perm.cons _ (List.Perm.cons _ (List.Perm.cons _ List.perm_append_comm)))) _ _ _ rfl wy i1 _ 8 Tryz.underlying122 hi1 hy0 hy1 hy2 rfl (by decide) (za rfl) HRL.out la ls.length lc (za rfl) _ (by rw [ZH iV 1 zgq]) (HLK.out.below hp.below) (zk8 ls) sm3 sm4 ?_; clear hp HRL; intro vl' RL' w1 hrl hp; have HRL := z0j hrl; clear hrl; simp only [z0f, z0e] at hp; simp only [zc, zb, z0b, z0a]) | go_skip | ((first | ((refine zg _ rfl ?_); refine lZ hp rfl (by with_reducible first | exact zC | exact zI) ?_; clear hp; intro b w1 hp) | ((refine zh _ _ rfl ?_); refine lB hp rfl (za rfl) rfl ?_; clear hp; intro b w1 hp) | ((refine zf _ _ rfl ?_); first | refine lO hp rfl (za rfl) zZ aa5 ?_ | refine lA hp rfl (za rfl) zx aa5 ?_) | ((refine zd _ _ _ rfl ?_); (first | refine sO hp rfl (za rfl) zZ aa5 ?_ | refine sA hp rfl (za rfl) (za rfl) zx aa5 ?_ | refine sG hp rfl (za rfl) (za rfl) zx aa5 ?_); clear hp; intro w1 hp; simp only [spl, z0a, z0b] at hp) | ((refine zi _ _ _ rfl ?_); refine lS hp rfl (by intro w; go_simp; rfl) ?_; clear hp; intro b w1 hp; simp only [z0g, z0h, Nat.reduceAdd] at hp)); simp only [zc, zb, z0b, z0a]))
       go_roundg (gk - 1)
       case measure => omega
       case rel =>
        refine ⟨q + 1, RL', RA', by omega, by go_num, z0j ?_, z0j ?_, z0j ?_, HNN, hp.tail.tail⟩
        ·rw [HTK.out, zdj, List.length_append, List.flatMap_append]; exact HRL.out
        ·rw [HTK.out, zd6]; exact HRA.out
        ·rw [HTK.out, zdj, List.length_append]; have := HLL.out; have := HLS.out; simp only; omega
     ·have e2 : decide ((q : Int) < (os.length : Int)) = false := by simp; omega
      have hq : q = os.length := by omega
      subst hq
      rw [List.take_length] at HRL HRA HND HLL
      have hd : Hid (zJ 124 2 u7 (fs ++ os.map zaE).length ((fs ++ os.map zaE).flatMap blV) RA) := z0j (by simpa using HRA.out)
      have hpd := hp.reorder ((List.Perm.cons _ List.perm_append_comm).trans List.perm_middle.symm)
      have HPD := z0j hpd
      clear hp HRA hpd
      go_wp2_with (first | (go_at_call 144; (with_reducible refine (zlF 145 zkV zg1 (fs ++ os.map zaE) hd.out HPD.out (by simp only [List.length_append, List.length_map]; omega)).mono ?_); rintro e w1 ⟨rfl, s, R', hperm, hsort, hrow, hp'⟩; obtain ⟨aa, ka, al, kl, rfl, rfl, HALL⟩ := zh8 hperm hsort hrow HRL.out hp' HO.out HGD.out HND.out h8))
      obtain ⟨hperm, hsort, hinr, hrs, hrl, hrt, hro, hrb, hb1, hbw⟩ := HALL
      have HPM := z0j (show Hid (s.Perm (fs ++ os.map zaE)) ∧ Hid (s.Pairwise fun x y => x.p ≤ y.p) from ⟨z0j hperm, z0j hsort⟩)
      have HSL := z0j (show s.length ≤ 1000 by rw [hperm.length_eq, List.length_append, List.length_map]; omega)
      have HIN := z0j hinr
      have HRS := z0j hrs
      have HRW := z0j hrl
      have HRT := z0j hrt
      have HRO := z0j hro
      have HRB := z0j hrb
      have HB1 := z0j hb1
      have HBW := z0j hbw
      have HSO : Hid (zbu os) := z0j (HRISE.out.step)
      have HIFF := z0j (zlC (x := ⟨od, oa, os, oc, nx, t0, t1, t2, t3, fa, fs, fc⟩) HR1.out HN1.out HN2.out r4 HRISE.out HND.out hperm hsort)
      clear hperm hsort hinr hrs hrl hrt hro hrb hb1 hbw hp' HPD hd HO HF HRL e2 hrow
      clear HOO HOS
      have hp := Hp.start w1
      go_wp2_with (first | go_skip | ((first | ((refine zg _ rfl ?_); refine lZ hp rfl (by with_reducible first | exact zC | exact zI) ?_; clear hp; intro b w1 hp) | ((refine zh _ _ rfl ?_); refine lB hp rfl (za rfl) rfl ?_; clear hp; intro b w1 hp) | ((refine zf _ _ rfl ?_); first | refine lO hp rfl (za rfl) zZ aa5 ?_ | refine lA hp rfl (za rfl) zx aa5 ?_) | ((refine zd _ _ _ rfl ?_); (first | refine sO hp rfl (za rfl) zZ aa5 ?_ | refine sA hp rfl (za rfl) (za rfl) zx aa5 ?_ | refine sG hp rfl (za rfl) (za rfl) zx aa5 ?_); clear hp; intro w1 hp; simp only [spl, z0a, z0b] at hp) | ((refine zi _ _ _ rfl ?_); refine lS hp rfl (by intro w; go_simp; rfl) ?_; clear hp; intro b w1 hp; simp only [z0g, z0h, Nat.reduceAdd] at hp)); simp only [zc, zb, z0b, z0a]))
      go_loopg [11, 116] s.length (fun k en i wr => ∃ (j : Nat) (ev : Int), k + j = s.length ∧ en = .int .i64 ev ∧ i = .int .i64 j ∧ Hid (zcx (pw od) s j ev) ∧ Hp w1.heap.size w1 wr [])
      case atStart => exact ⟨0, 0, by omega, rfl, rfl, z0j (zcx.start _ _), hp⟩
      case round =>
       clear hp
       obtain ⟨j, ev, hkj, rfl, rfl, HTA, hp⟩ := hrel
       have hsl := HSL.out
       by_cases hlt : j < s.length
       ·obtain ⟨bq, off, rfl, hx⟩ := HRS.out.elems 2 zbv (by omega) (by omega)
        have hj := List.getElem?_eq_getElem hlt
        replace hx := hx j _ hj
        have HJ := z0j hj
        obtain ⟨_, _, q3, q4⟩ := HIN.out _ (List.getElem_mem hlt)
        clear hj
        generalize s[j] = y at hx HJ q3 q4
        obtain ⟨yp, yo⟩ := y
        simp only [blV] at hx
        simp only at q3 q4
        have HX := z0j hx
        clear hx
        have e1 : (0 : Int) ≤ (j : Int) := by omega
        have e2 : (j : Int) < (s.length : Int) := by omega
        by_cases hne : yp = ev
        ·subst hne
         have HST := z0j (HTA.out.step HIN.out HJ.out)
         have e3 : (yp != yp) = false := by simp
         go_wp2_with (first | (go_at_call 141; (with_reducible refine (zab _ (by omega) (by omega) _).mono ?_); rintro e w' ⟨rfl, rfl⟩; try rw [pw8]) | go_skip | ((first | ((refine zg _ rfl ?_); refine lZ hp rfl (by with_reducible first | exact zC | exact zI) ?_; clear hp; intro b w1 hp) | ((refine zh _ _ rfl ?_); refine lB hp rfl (za rfl) rfl ?_; clear hp; intro b w1 hp) | ((refine zf _ _ rfl ?_); first | refine lO hp rfl (za rfl) zZ aa5 ?_ | refine lA hp rfl (za rfl) zx aa5 ?_ | refine lR hp rfl (za rfl) zx HX.out ?_) | ((refine zd _ _ _ rfl ?_); (first | refine sO hp rfl (za rfl) zZ aa5 ?_ | refine sA hp rfl (za rfl) (za rfl) zx aa5 ?_ | refine sG hp rfl (za rfl) (za rfl) zx aa5 ?_); clear hp; intro w1 hp; simp only [spl, z0a, z0b] at hp) | ((refine zi _ _ _ rfl ?_); refine lS hp rfl (by intro w; go_simp; rfl) ?_; clear hp; intro b w1 hp; simp only [z0g, z0h, Nat.reduceAdd] at hp)); simp only [zc, zb, z0b, z0a]))
         go_roundg (gk - 1)
         case measure => omega
         case rel => exact ⟨j + 1, _, by omega, congrArg (Value.int .i64) HST.out.2, by go_num, z0j HST.out.1, hp.tail⟩
        ·have hr : r = false := HNO.out fun h => HTA.out.fail HJ.out hne (HIFF.out.1 h).1
         subst hr
         clear HNO HYES
         have e3 : (yp != ev) = true := by simpa using hne
         clear hne
         go_wp2_with (first | go_skip | ((first | ((refine zg _ rfl ?_); refine lZ hp rfl (by with_reducible first | exact zC | exact zI) ?_; clear hp; intro b w1 hp) | ((refine zh _ _ rfl ?_); refine lB hp rfl (za rfl) rfl ?_; clear hp; intro b w1 hp) | ((refine zf _ _ rfl ?_); first | refine lO hp rfl (za rfl) zZ aa5 ?_ | refine lA hp rfl (za rfl) zx aa5 ?_ | refine lR hp rfl (za rfl) zx HX.out ?_) | ((refine zd _ _ _ rfl ?_); (first | refine sO hp rfl (za rfl) zZ aa5 ?_ | refine sA hp rfl (za rfl) (za rfl) zx aa5 ?_ | refine sG hp rfl (za rfl) (za rfl) zx aa5 ?_); clear hp; intro w1 hp; simp only [spl, z0a, z0b] at hp) | ((refine zi _ _ _ rfl ?_); refine lS hp rfl (by intro w; go_simp; rfl) ?_; clear hp; intro b w1 hp; simp only [z0g, z0h, Nat.reduceAdd] at hp)); simp only [zc, zb, z0b, z0a]))
         go_ret
         exact ⟨rfl, HBW.out.trans (hp.below.mono HBW.out.size)⟩
       ·have e2 : decide ((j : Int) < (s.length : Int)) = false := by simp; omega
        have hd := HTA.out.done (by omega)
        have W7 := z0j (zjh HIFF.out hd HNO.out HYES.out)
        have hol' : os.length ≤ 1000 := by omega
        have HLL' : (ZG os).length ≤ 2000000 := by have := HLL.out; omega
        clear HNO HYES hd HTA HIFF
        rcases W7.out with ⟨d1, d2, r0⟩ | ⟨d1, d2, d3, r0⟩ | ⟨d1, d2, d3, d4, r0⟩ | ⟨d1, d2, d3, d4, r0⟩
        all_goals clear W7
        all_goals simp only at d1 d2
        all_goals try simp only at d3
        all_goals try simp only [tops] at d4
        all_goals
         subst r0
         go_wp2_with (first | (go_at_call 148; (with_reducible refine (zeA os oa oc hol' HSO.out b1 (ZG os) al kl HLL' _ (Nat.lt_of_lt_of_le HB1.out hp.below.size) ((hp.below.cell (p := ⟨b1, 1, none⟩) HB1.out).trans (HRB.out 1 _ rfl)) (HRO.out.below hp.below) (HRW.out.below hp.below)).mono ?_); rintro e w' ⟨rfl, hb⟩; rw [d3]; replace hp := hp.call hb; clear hb) | (go_at_call 148; (with_reducible refine (zha os oa oc hol' HSO.out b1 t0 t1 t2 t3 _ (Nat.lt_of_lt_of_le HB1.out hp.below.size) ((hp.below.cell (p := ⟨b1, 1, none⟩) HB1.out).trans (HRB.out 1 _ rfl)) (HRO.out.below hp.below) (HRT.out.below hp.below)).mono ?_); rintro e w' ⟨rfl, hb⟩; rw [d4]; replace hp := hp.call hb; clear hb) | (go_at_call 141; (with_reducible refine (zab _ (by omega) (by omega) _).mono ?_); rintro e w' ⟨rfl, rfl⟩; try rw [pw8]) | go_skip | ((first | ((refine zh _ _ rfl ?_); refine lB hp rfl (za rfl) rfl ?_; clear hp; intro b w1 hp) | ((refine zf _ _ rfl ?_); first | refine lO hp rfl (za rfl) zZ aa5 ?_ | refine lRO hp rfl (za rfl) zZ (by first | exact HRB.out 0 _ rfl | exact HRB.out 1 _ rfl | exact HRB.out 2 _ rfl | exact HRB.out 3 _ rfl | exact HRB.out 4 _ rfl | exact HRB.out 5 _ rfl | exact HRB.out 6 _ rfl | exact HRB.out 7 _ rfl) ?_ | refine lA hp rfl (za rfl) zx aa5 ?_ | refine lR hp rfl (za rfl) zx HRB.out ?_) | ((refine zd _ _ _ rfl ?_); (first | refine sO hp rfl (za rfl) zZ aa5 ?_ | refine sA hp rfl (za rfl) (za rfl) zx aa5 ?_ | refine sG hp rfl (za rfl) (za rfl) zx aa5 ?_); clear hp; intro w1 hp; simp only [spl, z0a, z0b] at hp)); simp only [zc, zb, z0b, z0a]))
         go_ret
         exact ⟨rfl, HBW.out.trans (hp.below.mono HBW.out.size)⟩
end Go.Proofs.YtaafajaadfgaoaaGreat
