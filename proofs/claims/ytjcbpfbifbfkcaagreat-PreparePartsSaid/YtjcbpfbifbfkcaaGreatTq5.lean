import Derived.Shelf.SlSortCmp.WholeK
import Derived.Test.YtjcbpfbifbfkcaaGreatTq0
import Derived.Shelf.SlLaysF0
import Derived.Test.YtjcbpfbifbfkcaaGreatRows
import Derived.Test.YtjcbpfbifbfkcaaGreatTq1
import Derived.Shelf.SlSortCmp.NoneTotal
import Derived.Shelf.Abstract
set_option linter.unusedSimpArgs false
set_option linter.unusedVariables false
set_option maxRecDepth 100000
set_option maxHeartbeats 60000000
namespace Go.Proofs.YtjcbpfbifbfkcaaGreat
open Go.RowKit Go.Lib Go.Shelf Go.Sort
theorem Hp.setCells {B : Nat} {w0 : World} {b : Nat} {t : TypeId} {n : Nat} {L : List Blk} (vs : List Value) : ∀ (w : World) (off : Nat) (l : List Value), Hp B w0 w (⟨b, l, t, n⟩ :: L) →
  Hp B w0 (w.setCells b off vs) (⟨b, spl l off vs, t, n⟩ :: L) := by
 induction vs with
 | nil => intro w off l h; exact h
 | cons v vs ih =>
  intro w off l h
  rw [World.setCells]
  have h1 := h.setCell (i := 0) rfl off v
  exact ih _ _ _ h1
theorem ziN (F G : Array Value) (h : F.size = G.size) : setMany F 0 G.toList = G := by
 refine ext_get! (by simp [h]) fun t ht => ?_
 have ht' : t < G.size := by simpa [h] using ht
 rw [get_setMany _ _ _ t (by omega), if_pos (by simp [ht'])]
 simp [ht']
theorem zin {α : Type} [Inhabited α] (enc : α → List Value) (k : Nat) (hk : ∀ x, (enc x).length = k) (d : Array α) : (flatK enc k d).toList = d.toList.flatMap enc := by
 have hlen : (d.toList.flatMap enc).length = d.size * k := by rw [Ze enc k hk]; simp
 apply List.ext_getElem?
 intro j
 rcases Nat.lt_or_ge j (d.size * k) with hj | hj
 ·have k0 : 0 < k := Nat.pos_of_ne_zero (fun h => by subst h; simp at hj)
  have h1 : j / k < d.size := by rw [Nat.div_lt_iff_lt_mul k0]; exact hj
  have h2 : j % k < k := Nat.mod_lt _ k0
  have e1 : d.toList[j / k]? = some d[j / k]! := by rw [getElem!_pos d _ h1]; simp [h1]
  have e2 : (enc d[j / k]!)[j % k]? = some (enc d[j / k]!)[j % k]! := by
   have h3 : j % k < (enc d[j / k]!).length := by rw [hk]; exact h2
   rw [getElem!_pos (enc d[j / k]!) (j % k) h3]; exact List.getElem?_eq_getElem _
  have := za0 enc k hk d.toList (j / k) (j % k) _ _ e1 e2
  rw [Nat.mul_comm, Nat.div_add_mod] at this
  rw [this, ← get_flatK enc k d j hj, getElem!_pos _ j (by simpa using hj)]
  simp [hj]
 ·rw [List.getElem?_eq_none (by simpa using hj), List.getElem?_eq_none (by omega)]
theorem Hp.holdsK {α : Type} [Inhabited α] {enc : α → List Value} {k : Nat} (hk : ∀ x, (enc x).length = k) {d : Array α} {B : Nat} {w0 w : World} {b : Nat} {t : TypeId} {n : Nat} {L : List Blk} (hp : Hp B w0 w (⟨b, d.toList.flatMap enc, t, n⟩ :: L)) :
  HoldsK enc k w b 0 d := by
 intro j hj
 have hl : (d.toList.flatMap enc)[j]? = some (id (flatK enc k d)[j]!) := by
  rw [← zin enc k hk d, getElem!_pos _ j hj]; simp [id]
 rw [Nat.zero_add]
 exact ⟨hp.cell (i := 0) rfl hl, hp.free (i := 0) rfl _⟩
theorem Hp.sorted {α : Type} [Inhabited α] {enc : α → List Value} {k : Nat} (hk : ∀ x, (enc x).length = k) {d d' : Array α} {B : Nat} {w0 w : World} {b : Nat} {t : TypeId} {n m : Nat} {os : Array Obj} {L : List Blk} (hp : Hp B w0 w (⟨b, d.toList.flatMap enc, t, n⟩ :: L)) (hs : d'.size = d.size) :
  Hp B w0 (sortWorldK enc k w b 0 m d' os) (⟨b, d'.toList.flatMap enc, t, n⟩ :: L) := by
 have h1 : Hp B w0 (Sort.ahead w m) (⟨b, d.toList.flatMap enc, t, n⟩ :: L) := hp.drewN m
 have h2 := Hp.holdsK hk h1
 have e : putRowK enc k (Sort.ahead w m) b 0 d' = (Sort.ahead w m).setCells b 0 (d'.toList.flatMap enc) := by
  have h3 := setCells_putRow (Sort.ahead w m) b 0 (flatK enc k d').toList 0 (flatK enc k d) (by simp [hs])
  rw [putRow_self id _ b 0 _ h2, ziN _ _ (by simp [hs]), zin enc k hk d'] at h3
  exact h3.symm
 have h4 := Hp.setCells (d'.toList.flatMap enc) _ 0 _ h1
 rw [zmh _ _ (by rw [Ze enc k hk, Ze enc k hk]; simp [hs]), ← e] at h4
 unfold sortWorldK
 refine h4.call ⟨rfl, rfl, rfl, by simp, fun k hk => ?_⟩
 show (_ ++ os)[k]? = _
 rw [Array.getElem?_append_left hk]
theorem zlH {α : Type} [Inhabited α] {d d' : Array α} (h : PermIn 0 d.size d d') : d'.size = d.size ∧ d'.toList.Perm d.toList := by
 obtain ⟨h1, _, h2⟩ := h
 refine ⟨h1, ?_⟩
 have e1 : d'.extract 0 d.size = d' := by rw [← h1]; simp
 rw [e1] at h2
 simpa using h2
theorem zhU {α : Type} [Inhabited α] {lt : α → α → Bool} {d : Array α} {n : Nat} (hn : d.size = n) (h : SortedIn lt 0 n d) : d.toList.Pairwise fun x y => lt y x = false := by
 rw [List.pairwise_iff_getElem]
 intro i j hi hj hij
 have := h i j (Nat.zero_le _) hij (by simpa [hn] using hj)
 have hi' : i < d.size := by simpa using hi
 have hj' : j < d.size := by simpa using hj
 rw [getElem!_pos d i hi', getElem!_pos d j hj'] at this
 simpa using this
open Go.Shelf Go.Proofs
def zf1 : Go.Shelf.Ren := ⟨fun | 6 => 145 | 15 => 192 | 14 => 191 | 28 => 232 | 29 => 233 | 20 => 224 | 21 => 225 | 22 => 226 | 23 => 227 | 24 => 228 | 25 => 229 | 26 => 230 | 27 => 231 | 46 => 253 | 47 => 254 | 48 => 255 | 49 => 256 | 50 => 257 | 57 => 277 | n => n, fun | 22 => 62 | 24 => 146 | 25 => 202 | 3 => 3 | 39 => 226 | 0 => 0 | 53 => 271 | 55 => 210 | 4 => 4 | 46 => 265 | 45 => 264 | 50 => 159 | 5 => 5 | 9 => 9 | 66 => 297 | 70 => 208 | 76 => 320 | 77 => 321 | n => n, fun | n => n⟩
theorem zgb : Go.Proofs.SlLaysF0.n6 Tryz.prog zf1 := {
 mixed := by kernel_rfl
 f6 := ⟨Tryz.f145.name, by decide, Tryz.func145.trans (congrArg some (by kernel_rfl))⟩
 f14 := ⟨Tryz.f191.name, by decide, Tryz.func191.trans (congrArg some (by kernel_rfl))⟩
 f15 := Tryz.func192.trans (congrArg some (by kernel_rfl))
 f20 := ⟨Tryz.f224.name, by decide, Tryz.func224.trans (congrArg some (by kernel_rfl))⟩
 f21 := ⟨Tryz.f225.name, by decide, Tryz.func225.trans (congrArg some (by kernel_rfl))⟩
 f22 := ⟨Tryz.f226.name, by decide, Tryz.func226.trans (congrArg some (by kernel_rfl))⟩
 f23 := ⟨Tryz.f227.name, by decide, Tryz.func227.trans (congrArg some (by kernel_rfl))⟩
 f24 := ⟨Tryz.f228.name, by decide, Tryz.func228.trans (congrArg some (by kernel_rfl))⟩
 f25 := ⟨Tryz.f229.name, by decide, Tryz.func229.trans (congrArg some (by kernel_rfl))⟩
 f26 := ⟨Tryz.f230.name, by decide, Tryz.func230.trans (congrArg some (by kernel_rfl))⟩
 f27 := ⟨Tryz.f231.name, by decide, Tryz.func231.trans (congrArg some (by kernel_rfl))⟩
 f28 := Tryz.func232.trans (congrArg some (by kernel_rfl))
 f29 := Tryz.func233.trans (congrArg some (by kernel_rfl))
 f46 := ⟨Tryz.f253.name, by decide, Tryz.func253.trans (congrArg some (by kernel_rfl))⟩
 f47 := Tryz.func254.trans (congrArg some (by kernel_rfl))
 f48 := Tryz.func255.trans (congrArg some (by kernel_rfl))
 f49 := ⟨Tryz.f256.name, by decide, Tryz.func256.trans (congrArg some (by kernel_rfl))⟩
 f50 := ⟨Tryz.f257.name, by decide, Tryz.func257.trans (congrArg some (by kernel_rfl))⟩
 f57 := ⟨Tryz.f277.name, by decide, Tryz.func277.trans (congrArg some (by kernel_rfl))⟩
 t0 := Tryz.underlying0
 a0 := Tryz.isAgg0
 z0 := Tryz.sizeOf0
 v0 := Tryz.zeroValue0
 t3 := Tryz.underlying3
 a3 := Tryz.isAgg3
 z3 := Tryz.sizeOf3
 v3 := Tryz.zeroValue3
 t4 := Tryz.underlying4
 a4 := Tryz.isAgg4
 z4 := Tryz.sizeOf4
 v4 := Tryz.zeroValue4
 t5 := Tryz.underlying5
 a5 := Tryz.isAgg5
 z5 := Tryz.sizeOf5
 v5 := Tryz.zeroValue5
 t9 := Tryz.underlying9
 a9 := Tryz.isAgg9
 z9 := Tryz.sizeOf9
 v9 := Tryz.zeroValue9
 t22 := Tryz.underlying62
 a22 := Tryz.isAgg62
 z22 := Tryz.sizeOf62
 v22 := Tryz.zeroValue62
 t25 := Tryz.underlying202
 a25 := Tryz.isAgg202
 z25 := Tryz.sizeOf202
 v25 := Tryz.zeroValue202
 t39 := Tryz.underlying226
 a39 := Tryz.isAgg226
 z39 := Tryz.sizeOf226
 v39 := Tryz.zeroValue226
 t45 := Tryz.underlying264
 a45 := Tryz.isAgg264
 z45 := Tryz.sizeOf264
 v45 := Tryz.zeroValue264
 t46 := Tryz.underlying265
 a46 := Tryz.isAgg265
 z46 := Tryz.sizeOf265
 v46 := Tryz.zeroValue265
 t50 := Tryz.underlying159
 a50 := Tryz.isAgg159
 z50 := Tryz.sizeOf159
 v50 := Tryz.zeroValue159
 t53 := Tryz.underlying271
 a53 := Tryz.isAgg271
 z53 := Tryz.sizeOf271
 v53 := Tryz.zeroValue271
 t55 := Tryz.underlying210
 a55 := Tryz.isAgg210
 z55 := Tryz.sizeOf210
 v55 := Tryz.zeroValue210
 t66 := Tryz.underlying297
 a66 := Tryz.isAgg297
 z66 := Tryz.sizeOf297
 v66 := Tryz.zeroValue297
 t70 := Tryz.underlying208
 a70 := Tryz.isAgg208
 z70 := Tryz.sizeOf208
 v70 := Tryz.zeroValue208
 t76 := Tryz.underlying320
 a76 := Tryz.isAgg320
 z76 := Tryz.sizeOf320
 v76 := Tryz.zeroValue320
 t77 := Tryz.underlying321
 a77 := Tryz.isAgg321
 z77 := Tryz.sizeOf321
 v77 := Tryz.zeroValue321 }
open Go.RowKit Go.Lib Go.Shelf Go.Sort
instance : Inhabited Bl := ⟨⟨0, 0⟩⟩
def zrL (x y : Bl) : Int := zcB x.p y.p
theorem zs8 (x y : Bl) : ltOf zrL x y = decide (x.p < y.p) := by unfold ltOf zrL; simp only [zqm]
theorem ztK : SWO (ltOf zrL) where
 irrefl x := by rw [zs8]; simp
 trans x y z h1 h2 := by rw [zs8] at *; simp at *; omega
 ntrans x y z h1 h2 := by rw [zs8] at *; simp at *; omega
theorem zr9 (x : Bl) (v : Value) (hv : v ∈ blV x) : v.oneCell' = true := by simp [blV] at hv; rcases hv with rfl | rfl <;> rfl
def zeT (g : Nat) : Prop := ∀ (x y : Bl) (W : World), Calls Tryz.prog g #[.agg #[.int .i64 x.p, .int .i64 x.o], .agg #[.int .i64 y.p, .int .i64 y.o]] W fun e w' => e = .returned (.int .i64 (zcB x.p y.p)) ∧ ∃ q os', w' = Sort.grow (W.drewN q) os'
def ztA (w : World) (B : Nat) (w0 : World) (L : List Blk) (blk t n : Nat) (d : List Bl) (e : Ending) (w' : World) : Prop :=
 e = .returned (.tuple #[]) ∧ ∃ s : List Bl, s.Perm d ∧ s.Pairwise (fun x y => x.p ≤ y.p) ∧ Hp B w0 w' (⟨blk, s.flatMap blV, t, n⟩ :: L)
theorem zqJ (g : Nat) (eg : ∀ args w, (callFunc g args).run Tryz.prog w = .ok (.enter g args) w) (hg : zeT g) (d : List Bl) (cap : Nat) {B : Nat} {w0 w : World} {blk t n : Nat} {L : List Blk} (hp : Hp B w0 w (⟨blk, d.flatMap blV, t, n⟩ :: L)) (hsz : d.length ≤ 5000) :
  Calls Tryz.prog 145 #[.slice (some ⟨blk, 0, none⟩) d.length cap, .func (.func g) #[] #[]] w (ztA w B w0 L blk t n d) := by
 have hH : HoldsK blV 2 w blk 0 d.toArray := Hp.holdsK (enc := blV) Zp (d := d.toArray) hp
 have hcm : CmpLays Tryz.prog g #[] blV 2 zrL blk 0 d.toArray.size w := fun m os dk _ x y => hg x y _
 have hcon := AnyQ.slices_SortFunc zgb 2 Tryz.isAgg146 Tryz.sizeOf146 blV Zp zr9 zrL ztK g #[] blk 0 cap d.toArray w eg hcm hH (hp.lt (p := ⟨blk, d.flatMap blV, t, n⟩) (by simp)).2 (by simp; omega)
 change Calls Tryz.prog 145 _ _ _ at hcon
 rw [List.size_toArray] at hcon
 refine hcon.mono ?_
 rintro e w' ⟨rfl, d', m, os, h1, h2, rfl⟩
 have h3 := zlH (d := d.toArray) (d' := d') (by rw [List.size_toArray]; exact h1)
 refine ⟨rfl, d'.toList, by simpa using h3.2, ?_, Hp.sorted (enc := blV) Zp (d := d.toArray) hp h3.1⟩
 have h4 := zhU (by simpa using h3.1) h2
 refine h4.imp (fun {a b} h => ?_)
 rw [zs8] at h
 simp at h
 exact h
theorem zh5 (p : Option Addr) (cap : Nat) (fv : Value) (w : World) : Calls Tryz.prog 145 #[.slice p 0 cap, fv] w fun e w' => e = .returned (.tuple #[]) ∧ w' = w := by
 have hcon := AnyF.slices_SortFunc_none zgb p cap fv w
 change Calls Tryz.prog 145 _ _ _ at hcon
 exact hcon
def znn (B : Nat) (w0 : World) (v : Value) (n : Nat) (d : List Bl) (M : List Blk) (e : Ending) (w' : World) : Prop :=
 e = .returned (.tuple #[]) ∧ ∃ (s : List Bl) (R : List Blk), s.Perm d ∧ s.Pairwise (fun x y => x.p ≤ y.p) ∧ zB 146 2 v n (s.flatMap blV) R ∧ Hp B w0 w' (R ++ M)
theorem zkt (g : Nat) (eg : ∀ args w, (callFunc g args).run Tryz.prog w = .ok (.enter g args) w) (hg : zeT g) (d : List Bl) {v : Value} {R M : List Blk} (hr : zB 146 2 v d.length (d.flatMap blV) R) {B : Nat} {w0 w : World} (hp : Hp B w0 w (R ++ M)) (hsz : d.length ≤ 5000) :
  Calls Tryz.prog 145 #[v, .func (.func g) #[] #[]] w (znn B w0 v d.length d M) := by
 obtain ⟨hl, ⟨h0, hv, hx, hR⟩ | ⟨b, cap, hv, h1, h2, hR⟩⟩ := hr
 ·subst hv; subst hR
  have hd : d = [] := List.eq_nil_of_length_eq_zero h0
  subst hd
  refine (zh5 none 0 _ w).mono ?_
  rintro e w' ⟨rfl, rfl⟩
  exact ⟨rfl, [], [], List.Perm.refl _, List.Pairwise.nil, zB.nil _ _, hp⟩
 ·subst hv; subst hR
  refine (zqJ g eg hg d cap hp hsz).mono ?_
  rintro e w' ⟨rfl, s, h3, h4, hp'⟩
  exact ⟨rfl, s, _, h3, h4, ⟨by rw [Ze blV 2 Zp, h3.length_eq], .inr ⟨b, cap, rfl, h1, h2, rfl⟩⟩, hp'⟩
open Go.RowKit
theorem zb3 {α : Type} {f : α → List Value} (c : Nat) (hf : ∀ x, (f x).length = c) (l : List α) : ∀ i : Nat, (l.flatMap f).drop (i * c) = (l.drop i).flatMap f := by
 induction l with
 | nil => intro i; simp
 | cons x l ih =>
  intro i
  cases i with
  | zero => simp
  | succ i =>
   rw [List.flatMap_cons, List.drop_succ_cons, ← ih i, List.drop_append, hf, show (i + 1) * c - c = i * c by rw [Nat.add_mul]; omega,
    List.drop_eq_nil_of_le (by rw [hf, Nat.add_mul]; omega), List.nil_append]
theorem zet {α : Type} {f : α → List Value} (c : Nat) (hf : ∀ x, (f x).length = c) {l : List α} {i : Nat} {x : α} (h : l[i]? = some x) : ((l.flatMap f).drop (i * c)).take c = f x := by
 obtain ⟨hi, rfl⟩ := List.getElem?_eq_some_iff.1 h
 rw [zb3 c hf, List.drop_eq_getElem_cons hi, List.flatMap_cons, List.take_append_of_le_length (by rw [hf]; omega), List.take_of_length_le (by rw [hf]; omega)]
theorem zoq (l1 l2 l3 vs : List Value) (h : l2.length = vs.length) : spl (l1 ++ (l2 ++ l3)) l1.length vs = l1 ++ (vs ++ l3) := by
 induction vs generalizing l1 l2 with
 | nil => have : l2 = [] := List.eq_nil_of_length_eq_zero (by simpa using h); subst this; rfl
 | cons v vs ih =>
  cases l2 with
  | nil => simp at h
  | cons y l2 =>
   have e : (l1 ++ (y :: l2 ++ l3)).set l1.length v = l1 ++ [v] ++ (l2 ++ l3) := by
    rw [List.cons_append, List.set_append_right _ _ (Nat.le_refl _), Nat.sub_self, List.set_cons_zero, List.append_assoc]; rfl
   show spl ((l1 ++ (y :: l2 ++ l3)).set l1.length v) (l1.length + 1) vs = _
   rw [e, show l1.length + 1 = (l1 ++ [v]).length by simp, ih (l1 ++ [v]) l2 (by simpa using h)]
   simp
theorem zki {α : Type} {f : α → List Value} (c : Nat) (hf : ∀ x, (f x).length = c) {l : List α} {i : Nat} {y : α} (h : i < l.length) : spl (l.flatMap f) (i * c) (f y) = (l.set i y).flatMap f := by
 have e1 : l = l.take i ++ (l[i] :: l.drop (i + 1)) := by rw [← List.drop_eq_getElem_cons h, List.take_append_drop]
 have e2 : l.set i y = l.take i ++ (y :: l.drop (i + 1)) := by
  rw [List.set_eq_take_append_cons_drop, if_pos h]
 have e3 : ((l.take i).flatMap f).length = i * c := by rw [Ze f c hf, List.length_take, Nat.min_eq_left (by omega)]
 rw [e2, List.flatMap_append, List.flatMap_cons]
 have e4 : l.flatMap f = (l.take i).flatMap f ++ (f l[i] ++ (l.drop (i + 1)).flatMap f) := by
  rw [← List.flatMap_cons, ← List.flatMap_append, ← e1]
 rw [e4, ← e3, zoq _ _ _ _ (by rw [hf, hf])]
def zfB (a b : Bl) : Bool := decide (a.o < b.o ∨ (a.o = b.o ∧ a.p < b.p))
def orI (a b : Int) : Int := if a = 0 then b else a
theorem zqy (a b : Bl) : decide (orI (zcB a.o b.o) (zcB a.p b.p) < 0) = zfB a b := by
 unfold orI zfB zcB
 rw [decide_eq_decide]
 (repeat' split) <;> omega
def zdt (l : List Bl) (i k : Nat) (x y : Bl) : List Bl := (l.set i y).set k x
theorem zel {l : List Bl} {i k : Nat} {x y : Bl} (hx : l[i]? = some x) (hy : l[k]? = some y) : (zdt l i k x y).Perm l := by
 obtain ⟨hi, rfl⟩ := List.getElem?_eq_some_iff.1 hx
 obtain ⟨hk, rfl⟩ := List.getElem?_eq_some_iff.1 hy
 unfold zdt
 exact List.set_set_perm hi hk
theorem zc5 (l : List Bl) (i k : Nat) (x y : Bl) : (zdt l i k x y).length = l.length := by simp [zdt]
theorem znN {l : List Bl} {i k j : Nat} {x y : Bl} (hx : l[i]? = some x) (hy : l[k]? = some y) : (zdt l i k x y)[j]? = if j = k then some x else if j = i then some y else l[j]? := by
 have hi := (List.getElem?_eq_some_iff.1 hx).1
 have hk := (List.getElem?_eq_some_iff.1 hy).1
 unfold zdt
 rw [List.getElem?_set, List.getElem?_set]
 simp only [List.length_set]
 by_cases h1 : k = j
 ·subst h1; simp [hk]
 ·rw [if_neg h1, if_neg (Ne.symm h1)]
  by_cases h2 : i = j
  ·subst h2; simp [hi]
  ·rw [if_neg h2, if_neg (Ne.symm h2)]
open Go.RowKit
theorem Zj : zF Tryz.prog 62 = true := by kernel_rfl
theorem zhg : zF Tryz.prog 276 = true := by kernel_rfl
def QHp (B : Nat) (w0 w : World) (bb g cap : Nat) (l : List Bl) (M : List Blk) : Prop := Hp B w0 w (⟨bb, [.slice (some ⟨g, 0, none⟩) l.length cap], 284, 1⟩ :: ⟨g, l.flatMap blV, 146, cap * 2⟩ :: M)
theorem zmP {B : Nat} {w0 w : World} {bb g cap n : Nat} {L : List Blk} (hp : Hp B w0 w (⟨bb, [.slice (some ⟨g, 0, none⟩) n cap], 284, 1⟩ :: L)) :
  Calls Tryz.prog 298 #[.pointer (some ⟨bb, 0, none⟩)] w fun e w' => e = .returned (.int .i64 n) ∧ Hp B w0 w' (⟨bb, [.slice (some ⟨g, 0, none⟩) n cap], 284, 1⟩ :: L) := by
 go_enter Tryz.func298, Tryz.ntmps298
 go_wp2_with (first | go_skip | (((refine ze _ _ rfl ?_); refine lO hp rfl (za rfl) Zj aa5 ?_); simp only [zc, zb, z0b, z0a]))
 go_ret
 exact ⟨rfl, hp⟩
theorem zty (a b : Int) {B : Nat} {w0 w : World} {g t n : Nat} {L : List Blk} (hp : Hp B w0 w (⟨g, [.int .i64 a, .int .i64 b], t, n⟩ :: L)) :
  Calls Tryz.prog 137 #[.slice (some ⟨g, 0, none⟩) 2 2] w fun e w' => e = .returned (.int .i64 (orI a b)) ∧ Hp B w0 w' (⟨g, [.int .i64 a, .int .i64 b], t, n⟩ :: L) := by
 go_enter Tryz.func137, Tryz.ntmps137
 go_wp2_with (first | go_skip | (((refine ze _ _ rfl ?_); refine lO hp rfl (za rfl) zm aa5 ?_); simp only [zc, zb, z0b, z0a]))
 go_loopg [5, 8] 2 (fun k x i wr => ∃ j : Nat, k + j = 2 ∧ i = .int .i64 j ∧ (0 < j → a = 0) ∧ (1 < j → b = 0) ∧ Hp B w0 wr (⟨g, [.int .i64 a, .int .i64 b], t, n⟩ :: L))
 case atStart => exact ⟨0, by omega, rfl, by omega, by omega, hp⟩
 case round =>
  clear hp
  obtain ⟨j, hkj, rfl, h0, h1, hp⟩ := hrel
  have hj : j = 0 ∨ j = 1 ∨ j = 2 := by omega
  rcases hj with rfl | rfl | rfl
  ·clear h0 h1
   by_cases ha : a = 0
   ·have HA := z0j ha
    have e0 : (a != 0) = false := by simp [ha]
    clear ha
    go_wp2_with (first | go_skip | (((refine ze _ _ rfl ?_); refine lO hp rfl (za rfl) zm aa5 ?_); simp only [zc, zb, z0b, z0a]))
    go_roundg (gk - 1)
    case measure => omega
    case rel => exact ⟨1, by omega, rfl, fun _ => HA.out, by omega, hp⟩
   ·have HA : Hid (orI a b = a) := z0j (by simp [orI, ha])
    have e0 : (a != 0) = true := by simp [ha]
    clear ha
    go_wp2_with (first | go_skip | (((refine ze _ _ rfl ?_); refine lO hp rfl (za rfl) zm aa5 ?_); simp only [zc, zb, z0b, z0a]))
    go_ret
    exact ⟨zcX HA.out.symm, hp⟩
  ·have HA0 := z0j (h0 (by omega))
   have HA : Hid (orI a b = b) := z0j (by simp [orI, h0 (by omega)])
   clear h0 h1
   by_cases hb : b = 0
   ·have HB := z0j hb
    have e0 : (b != 0) = false := by simp [hb]
    clear hb
    go_wp2_with (first | go_skip | (((refine ze _ _ rfl ?_); refine lO hp rfl (za rfl) zm aa5 ?_); simp only [zc, zb, z0b, z0a]))
    go_roundg (gk - 1)
    case measure => omega
    case rel => exact ⟨2, by omega, rfl, fun _ => HA0.out, fun _ => HB.out, hp⟩
   ·have e0 : (b != 0) = true := by simp [hb]
    clear hb
    go_wp2_with (first | go_skip | (((refine ze _ _ rfl ?_); refine lO hp rfl (za rfl) zm aa5 ?_); simp only [zc, zb, z0b, z0a]))
    go_ret
    exact ⟨zcX HA.out.symm, hp⟩
  ·have HA : Hid (orI a b = 0) := z0j (by simp [orI, h0 (by omega), h1 (by omega)])
   clear h0 h1
   go_wp2_with (first | go_skip | (((refine ze _ _ rfl ?_); refine lO hp rfl (za rfl) zm aa5 ?_); simp only [zc, zb, z0b, z0a]))
   go_ret
   exact ⟨zcX HA.out.symm, hp⟩
theorem zrK {l : List Bl} {i : Nat} {x : Bl} (h : l[i]? = some x) : (l.flatMap blV)[i * 2]? = some (.int .i64 x.p) := za0 blV 2 Zp l i 0 x _ h rfl
theorem zrG {l : List Bl} {i : Nat} {x : Bl} (h : l[i]? = some x) : (l.flatMap blV)[i * 2 + 1]? = some (.int .i64 x.o) := za0 blV 2 Zp l i 1 x _ h rfl
theorem zaV {B : Nat} {w0 w : World} {bb g cap : Nat} {l : List Bl} {M : List Blk} (hp : QHp B w0 w bb g cap l M) (hl : l.length ≤ 2000) {i k : Nat} {x y : Bl} (hx : l[i]? = some x) (hy : l[k]? = some y) :
  Calls Tryz.prog 299 #[.pointer (some ⟨bb, 0, none⟩), .int .i64 i, .int .i64 k] w fun e w' => e = .returned (.bool (zfB x y)) ∧ QHp B w0 w' bb g cap l M := by
 have hi := (List.getElem?_eq_some_iff.1 hx).1
 have hk := (List.getElem?_eq_some_iff.1 hy).1
 have e1 : (0 : Int) ≤ (i : Int) := by omega
 have e2 : (i : Int) < (l.length : Int) := by omega
 have e3 : (0 : Int) ≤ (k : Int) := by omega
 have e4 : (k : Int) < (l.length : Int) := by omega
 have HXP := z0j (zrK hx)
 have HXO := z0j (zrG hx)
 have HYP := z0j (zrK hy)
 have HYO := z0j (zrG hy)
 have HLS := z0j (zqy x y)
 clear hx hy hi hk
 unfold QHp at hp ⊢
 generalize l.flatMap blV = xs at hp HXP HXO HYP HYO ⊢
 obtain ⟨xp, xo⟩ := x
 obtain ⟨yp, yo⟩ := y
 simp only at HXP HXO HYP HYO HLS
 go_enter Tryz.func299, Tryz.ntmps299
 go_wp2_with (first | go_skip | ((first | ((refine ze _ _ rfl ?_); refine lO hp rfl (za rfl) (by with_reducible first | exact zm | exact Zj) aa5 ?_) | ((refine zk _ _ _ rfl ?_); refine lS hp rfl (by intro w; go_simp; rfl) ?_; clear hp; intro b w1 hp; simp only [z0g, z0h, Nat.reduceAdd] at hp)); simp only [zc, zb, z0b, z0a]))
 refine zh _ (zv.all hp.drew) [] [(0, true), (1, true), (2, true), (3, true), (4, true), (5, true), (6, true), (7, true), (8, true), (9, true), (10, true), (11, true), (12, true), (13, true), (14, true), (15, true), (17, true), (18, true), (19, true), (20, true), (21, true), (22, true), (23, true), (24, true), (25, true), (26, true), (27, true), (28, true), (29, true), (30, true), (31, true), (32, true), (16, false), (33, false), (34, false), (35, false), (36, true), (37, false)] (by kernel_rfl) (by kernel_rfl) rfl (by kernel_rfl) (fun _ _ d _ _ h => by cases d <;> exact h) ?_
 replace hp := hp.drew
 repeat' (with_reducible refine zx ?_); first | (with_reducible refine zq ?_) | ((with_reducible refine zE ?_); refine zu rfl ?_; (first | ((with_reducible refine zT _ rfl ?_); refine tM rfl ?_) | ((with_reducible refine zW _ _ rfl ?_); first | refine tL rfl (za rfl) (fun w hS => hS.loadOne zm at1 _ _ HXP.out) ?_ | refine tL rfl (za rfl) (fun w hS => hS.loadOne zm at1 _ _ HXO.out) ?_ | refine tL rfl (za rfl) (fun w hS => hS.loadOne zm at1 _ _ HYP.out) ?_ | refine tL rfl (za rfl) (fun w hS => hS.loadOne zm at1 _ _ HYO.out) ?_ | refine tO rfl (za rfl) (by with_reducible first | exact zm | exact Zj) aa5 ?_) | refine tG (fun w _ => (by go_simp; try rfl)) ?_); try simp only [zc, zb, zj, zg, z0b, z0a, z0d, z0c, zl]) | (refine zC rfl (fun K hK => ?_); go_wp2_with (first | (go_at_call 112; (with_reducible refine (zgq _ _ _).mono ?_); rintro e w' ⟨rfl, rfl⟩) | (go_at_call 137; (with_reducible refine (zty _ _ hp).mono ?_); clear hp; rintro e w1 ⟨rfl, hp⟩) | go_skip | (((refine zk _ _ _ rfl ?_); refine lS hp rfl (by intro w; go_simp; rfl) ?_; clear hp; intro b w1 hp; simp only [z0g, z0h, Nat.reduceAdd] at hp); simp only [zc, zb, z0b, z0a])); (refine hK.out _ _ (.inr (zgJ hp)) ?_); clear hK K; try simp only [zc, zb, zj, zg, z0b, z0a, z0d, z0c, zl])
 go_wp2_with fail
 go_ret
 exact ⟨Zk HLS.out, hp.tail⟩
theorem zkI {l : List Bl} {i k : Nat} {x y : Bl} (hx : l[i]? = some x) (hy : l[k]? = some y) : spl (spl (l.flatMap blV) (i * 2) (blV y)) (k * 2) (blV x) = (zdt l i k x y).flatMap blV := by
 have hi := (List.getElem?_eq_some_iff.1 hx).1
 have hk := (List.getElem?_eq_some_iff.1 hy).1
 rw [zki 2 Zp hi, zki 2 Zp (by rw [List.length_set]; exact hk)]; rfl
theorem zcn {B : Nat} {w0 w : World} {bb g cap : Nat} {l : List Bl} {M : List Blk} (hp : QHp B w0 w bb g cap l M) (hl : l.length ≤ 2000) {i k : Nat} {x y : Bl} (hx : l[i]? = some x) (hy : l[k]? = some y) :
  Calls Tryz.prog 302 #[.pointer (some ⟨bb, 0, none⟩), .int .i64 i, .int .i64 k] w fun e w' => e = .returned (.tuple #[]) ∧ QHp B w0 w' bb g cap (zdt l i k x y) M := by
 have hi := (List.getElem?_eq_some_iff.1 hx).1
 have hk := (List.getElem?_eq_some_iff.1 hy).1
 have e1 : (0 : Int) ≤ (i : Int) := by omega
 have e2 : (i : Int) < (l.length : Int) := by omega
 have e3 : (0 : Int) ≤ (k : Int) := by omega
 have e4 : (k : Int) < (l.length : Int) := by omega
 have HX := z0j (zet 2 Zp hx)
 have HY := z0j (zet 2 Zp hy)
 have HC := z0j (zkI hx hy)
 have HL1 : Hid (i * 2 + 2 ≤ (l.flatMap blV).length) := z0j (by rw [zbb]; omega)
 have HL2 : Hid (k * 2 + 2 ≤ (spl (l.flatMap blV) (i * 2) (blV y)).length) := z0j (by rw [zlG, zbb]; omega)
 unfold QHp at hp ⊢
 rw [zc5, ← HC.out]
 clear hx hy hi hk HC
 generalize l.flatMap blV = xs at hp HX HY HL1 HL2 ⊢
 obtain ⟨xp, xo⟩ := x
 obtain ⟨yp, yo⟩ := y
 simp only [blV] at HX HY HL2 ⊢
 go_enter Tryz.func302, Tryz.ntmps302
 go_wp2_with (first | go_skip | ((first | ((refine ze _ _ rfl ?_); first | refine lO hp rfl (za rfl) Zj aa5 ?_ | refine lA hp rfl (za rfl) zw aa5 ?_) | ((refine zd _ _ _ rfl ?_); (first | refine sA hp rfl (za rfl) (za rfl) zw aa5 ?_ | refine sG hp rfl (za rfl) (za rfl) zw aa5 ?_); clear hp; intro w1 hp; simp only [spl, z0a, z0b] at hp)); simp only [zc, zb, z0b, z0a]))
 refine zcC _ (zv.all hp.drew) [25, 26, 27] [(0, true), (1, true), (2, true), (3, true), (4, true), (5, true), (6, true), (7, true), (8, true), (9, true), (10, true), (11, true), (12, true), (13, true), (14, true), (15, true), (16, true), (17, true), (18, true), (19, true), (20, true), (21, true), (22, true), (23, true), (24, true), (25, false), (26, false), (27, false)] (by kernel_rfl) (by kernel_rfl) rfl (by kernel_rfl) (fun _ _ d _ _ h => by cases d <;> exact h) ?_
 replace hp := hp.drew
 repeat' (with_reducible refine zx ?_); first | (with_reducible refine zq ?_) | ((with_reducible refine zE ?_); refine zu rfl ?_; (first | ((with_reducible refine zT _ rfl ?_); refine tM rfl ?_) | ((with_reducible refine zW _ _ rfl ?_); first | refine tL rfl (za rfl) (fun w hS => hS.loadAgg zw at1 _ _ HX.out rfl) ?_ | refine tL rfl (za rfl) (fun w hS => hS.loadAgg zw at1 _ _ HY.out rfl) ?_ | refine tA rfl (za rfl) zw aa5 ?_ | refine tO rfl (za rfl) Zj aa5 ?_) | refine tG (fun w _ => (by go_simp; try rfl)) ?_); try simp only [zc, zb, zj, zg, z0b, z0a, z0d, z0c, zl]) | (refine zC rfl (fun K hK => ?_); go_wp2_with (((refine zd 146 _ _ rfl ?_); refine ZT hp _ _ _ rfl wy _ _ (za rfl) _ (za rfl) zw 1 _ _ _ at1 (by first | exact HL1.out | exact HL2.out) (by rfl) ?_; clear hp; intro w1 hp; simp only [z0a, z0b] at hp; simp only [zc, zb, z0b, z0a])); (first | refine hK.out _ _ (.inl rfl) ?_ | refine hK.out _ _ (.inr (zgJ hp)) ?_); clear hK K; try simp only [zc, zb, zj, zg, z0b, z0a, z0d, z0c, zl])
 go_wp2_with fail
 refine bodyPost_end (results_none Tryz.results302 _ _ _) rfl ⟨rfl, hp⟩
theorem Hp.less {B : Nat} {w0 w : World} {b n : Nat} {l1 l2 : List Value} {t : TypeId} {L : List Blk} (h : Hp B w0 w (⟨b, l1 ++ l2, t, n⟩ :: L)) : Hp B w0 w (⟨b, l1, t, n⟩ :: L) := by
 refine ⟨h.below, h.size, by simpa using h.nodup, fun p hp => ?_⟩
 rcases List.mem_cons.1 hp with rfl | hp
 ·obtain ⟨h1, c, h2, h3, h4⟩ := h.own _ (List.mem_cons_self ..)
  refine ⟨h1, c, h2, h3, ?_⟩
  simp only at h4 ⊢
  have := congrArg (List.take l1.length) h4
  rw [List.take_take, List.length_append, Nat.min_eq_left (by omega), List.take_append_of_le_length (Nat.le_refl _), List.take_length] at this
  exact this
 ·exact h.own p (List.mem_cons_of_mem _ hp)
theorem zpZ (x : Value) (w : World) : (Instr.makeInterface 146 x).run Tryz.prog w = .ok (.iface 146 x) w := run_makeInterface w 146 x (by kernel_rfl)
theorem zry (x : Value) (w : World) : (Instr.makeInterface 278 x).run Tryz.prog w = .ok (.iface 278 x) w := run_makeInterface w 278 x (by kernel_rfl)
theorem zpP (v : Value) (w : World) : (Instr.typeAssert (.iface 146 v) 20 146 false).run Tryz.prog w = .ok v w := by kernel_rfl
theorem zrJ {B : Nat} {w0 w : World} {bb g cap : Nat} {l : List Bl} {x : Bl} {M : List Blk} (hp : QHp B w0 w bb g cap (l ++ [x]) M) (hl : l.length ≤ 2000) (hcap : l.length + 1 ≤ cap) :
  Calls Tryz.prog 300 #[.pointer (some ⟨bb, 0, none⟩)] w fun e w' => e = .returned (.iface 146 (.agg #[.int .i64 x.p, .int .i64 x.o])) ∧ QHp B w0 w' bb g cap l M := by
 have HX := z0j (zet 2 Zp (l := l ++ [x]) (i := l.length) (x := x) (by simp))
 unfold QHp at hp ⊢
 rw [List.length_append, List.length_singleton] at hp
 obtain ⟨n, hn⟩ : ∃ n, n = l.length := ⟨_, rfl⟩
 obtain ⟨m, hm⟩ : ∃ m, m = l.length + 1 := ⟨_, rfl⟩
 rw [← hm] at hp
 rw [← hn] at HX hl hcap hm ⊢
 have ew : wrap64 ((m : Int) - 1) = (n : Int) := by rw [IntWalk.wrap64_in _ ⟨by omega, by omega⟩]; omega
 have e1 : (0 : Int) ≤ (n : Int) := by omega
 have e2 : (n : Int) < (m : Int) := by omega
 have e3 : (n : Int) ≤ (cap : Int) := by omega
 have HXS : Hid ((l ++ [x]).flatMap blV = l.flatMap blV ++ blV x) := z0j (by simp [List.flatMap_append])
 have HM := z0j hm
 clear hn hm
 obtain ⟨xs, hxs⟩ : ∃ xs, (l ++ [x]).flatMap blV = xs := ⟨_, rfl⟩
 rw [hxs] at hp HX HXS
 clear hxs
 obtain ⟨xp, xo⟩ := x
 simp only [blV] at HX HXS
 have mk := zpZ
 go_enter Tryz.func300, Tryz.ntmps300
 go_wp2_with (first | ((refine ze 146 _ rfl ?_); refine za9 hp _ _ rfl wy _ _ (za rfl) _ zw _ _ _ _ at1 _ HX.out rfl ?_; simp only [zc, zb, z0b, z0a]) | go_skip | ((first | ((refine zf _ rfl ?_); refine lZ hp rfl z6 ?_; clear hp; intro b w1 hp) | ((refine ze _ _ rfl ?_); first | refine lO hp rfl (za rfl) Zj aa5 ?_ | refine lA hp rfl (za rfl) zw aa5 ?_) | ((refine zd _ _ _ rfl ?_); (first | refine sO hp rfl (za rfl) Zj aa5 ?_ | refine sA hp rfl (za rfl) (za rfl) zw aa5 ?_ | refine sG hp rfl (za rfl) (za rfl) zw aa5 ?_); clear hp; intro w1 hp; simp only [spl, z0a, z0b] at hp)); simp only [zc, zb, z0b, z0a]))
 go_ret
 refine ⟨rfl, ?_⟩
 have h := hp.tail
 rw [HXS.out] at h
 exact ((h.reorder (List.Perm.swap _ _ _)).less).reorder (List.Perm.swap _ _ _)
theorem zB.cons {e : TypeId} {c n : Nat} {v : Value} {xs : List Value} {R : List Blk} (h : zB e c v (n + 1) xs R) : ∃ g cap, v = .slice (some ⟨g, 0, none⟩) (n + 1) cap ∧ n + 1 ≤ cap ∧ cap ≤ maxLen ∧ R = [⟨g, xs, e, cap * c⟩] := by
 obtain ⟨_, ⟨h0, _⟩ | h⟩ := h
 ·omega
 ·exact h
def zsP (B : Nat) (w0 : World) (bb : Nat) (l : List Bl) (M : List Blk) (e : Ending) (w' : World) : Prop := e = .returned (.tuple #[]) ∧ ∃ g cap, QHp B w0 w' bb g cap l M ∧ l.length ≤ cap ∧ cap ≤ maxLen
theorem zqR {B : Nat} {w0 w : World} {bb g cap : Nat} {l : List Bl} {M : List Blk} (hp : QHp B w0 w bb g cap l M) (hl : l.length ≤ 2000) (hcap : l.length ≤ cap) (hmax : cap ≤ maxLen) (x : Bl) :
  Calls Tryz.prog 301 #[.pointer (some ⟨bb, 0, none⟩), .iface 146 (.agg #[.int .i64 x.p, .int .i64 x.o])] w (zsP B w0 bb (l ++ [x]) M) := by
 obtain ⟨i0, hi0, hz0, hz1, hz2⟩ := info_parts zbD
 have HR : Hid (zB 146 2 (.slice (some ⟨g, 0, none⟩) l.length cap) l.length (l.flatMap blV) [⟨g, l.flatMap blV, 146, cap * 2⟩]) := z0j ⟨zbb l, .inr ⟨g, cap, rfl, hcap, hmax, rfl⟩⟩
 unfold QHp at hp
 have HXS : Hid ((l ++ [x]).flatMap blV = l.flatMap blV ++ blV x) := z0j (by simp [List.flatMap_append])
 have sm1 : l.length + 1 ≤ maxLen := by unfold maxLen; omega
 have sm2 : (l.length + 1) * 16 ≤ 140737488355328 := by omega
 clear hcap hmax
 obtain ⟨n, hn⟩ : ∃ n, n = l.length := ⟨_, rfl⟩
 have HN := z0j hn
 rw [← hn] at hp HR sm1 sm2 hl
 clear hn
 generalize l.flatMap blV = xs at hp HR HXS
 obtain ⟨xp, xo⟩ := x
 simp only [blV] at HXS
 simp only
 have asb := zpP
 go_enter Tryz.func301, Tryz.ntmps301
 go_wp2_with (first | go_skip | ((first | ((refine ze _ _ rfl ?_); refine lO hp rfl (za rfl) Zj aa5 ?_) | ((refine zd _ _ _ rfl ?_); refine sO hp rfl (za rfl) Zj aa5 ?_; clear hp; intro w1 hp; simp only [spl, z0a, z0b] at hp) | ((refine zk _ _ _ rfl ?_); refine lS hp rfl (by intro w; go_simp; rfl) ?_; clear hp; intro b w1 hp; simp only [z0g, z0h, Nat.reduceAdd] at hp)); simp only [zc, zb, z0b, z0a]))
 refine zh [_] (zv.one hp.drew at0) [11] [(0, true), (1, true), (2, true), (3, true), (4, true), (5, true), (6, false), (7, false), (8, false), (9, true), (10, true), (11, false)] (by kernel_rfl) (by kernel_rfl) rfl (by kernel_rfl) (fun _ _ d _ _ h => by cases d <;> exact h) ?_
 replace hp := hp.drew
 repeat' (with_reducible refine zx ?_); first | (with_reducible refine zq ?_) | ((with_reducible refine zE ?_); refine zu rfl ?_; (first | ((with_reducible refine zT _ rfl ?_); refine tM rfl ?_) | ((with_reducible refine zW _ _ rfl ?_); refine tO rfl (za rfl) Zj aa5 ?_) | refine tG (fun w _ => (by go_simp; try rfl)) ?_); try simp only [zc, zb, zj, zg, z0b, z0a, z0d, z0c, zl]) | (refine zC rfl (fun K hK => ?_); go_wp2_with (first | ((refine zJ _ _ 62 rfl ?_); refine zK (K := [_]) (R := [_]) (M := M) hp _ _ _ rfl wy i0 _ 16 Tryz.underlying62 hi0 hz0 hz1 hz2 rfl (by decide) (za rfl) HR.out 1 1 (za rfl) (by rfl) (by decide) (by rfl) sm1 sm2 ?_; clear hp HR; intro v' R' w1 hr hp; obtain ⟨g', cap', rfl, hc1, hc2, rfl⟩ := hr.cons; simp only [z0f, z0e] at hp; simp only [zc, zb, z0b, z0a]) | go_skip | ((first | ((refine zd _ _ _ rfl ?_); refine sO hp rfl (za rfl) Zj aa5 ?_; clear hp; intro w1 hp; simp only [spl, z0a, z0b] at hp) | ((refine zk _ _ _ rfl ?_); refine lS hp rfl (by intro w; go_simp; rfl) ?_; clear hp; intro b w1 hp; simp only [z0g, z0h, Nat.reduceAdd] at hp)); simp only [zc, zb, z0b, z0a])); (first | refine hK.out _ _ (.inl rfl) ?_ | refine hK.out _ _ (.inr (zv.one hp aa5)) ?_); clear hK K; try simp only [zc, zb, zj, zg, z0b, z0a, z0d, z0c, zl])
 go_wp2_with fail
 refine bodyPost_end (results_none Tryz.results301 _ _ _) rfl ⟨rfl, g', cap', ?_, ?_, hc2⟩
 ·unfold QHp
  rw [HXS.out, List.length_append, List.length_singleton, ← HN.out]
  exact hp
 ·rw [List.length_append, List.length_singleton, ← HN.out]
  exact hc1
def LtB (a b : Bl) : Prop := a.o < b.o ∨ (a.o = b.o ∧ a.p < b.p)
theorem zft {a b : Bl} : zfB a b = true ↔ LtB a b := by simp [zfB, LtB]
theorem zkx {a b : Bl} : zfB a b = false ↔ ¬ LtB a b := by rw [← zft]; simp
theorem LtB.asymm {a b : Bl} (h : LtB a b) : ¬ LtB b a := by unfold LtB at *; omega
theorem LtB.ntrans {a b c : Bl} (h1 : ¬ LtB b a) (h2 : ¬ LtB c b) : ¬ LtB c a := by unfold LtB at *; omega
def gB (l : List Bl) (k : Nat) : Bl := l.getD k ⟨0, 0⟩
theorem zqs {l : List Bl} {k : Nat} {x : Bl} (h : l[k]? = some x) : gB l k = x := by simp [gB, h]
theorem zbe {l : List Bl} {k : Nat} (h : k < l.length) : l[k]? = some (gB l k) := by simp [gB, h]
theorem zew {l : List Bl} {i k : Nat} (hi : i < l.length) (hk : k < l.length) (j : Nat) : gB (zdt l i k (gB l i) (gB l k)) j = if j = k then gB l i else if j = i then gB l k else gB l j := by
 have h := znN (j := j) (zbe hi) (zbe hk)
 have e : ∀ (m : List Bl) q, gB m q = (m[q]?).getD ⟨0, 0⟩ := fun m q => List.getD_eq_getElem?_getD ..
 rw [e, h]
 split
 ·rfl
 ·split
  ·rfl
  ·rw [e]
def zdw (l : List Bl) (n i0 : Nat) : Prop := ∀ k c, i0 ≤ k → (c = 2 * k + 1 ∨ c = 2 * k + 2) → c < n → ¬ LtB (gB l c) (gB l k)
def zfd (l : List Bl) (n i0 j : Nat) : Prop :=
 (∀ k c, i0 ≤ k → k ≠ j → (c = 2 * k + 1 ∨ c = 2 * k + 2) → c < n → ¬ LtB (gB l c) (gB l k)) ∧
 (∀ p c, i0 ≤ p → (j = 2 * p + 1 ∨ j = 2 * p + 2) → (c = 2 * j + 1 ∨ c = 2 * j + 2) → c < n → ¬ LtB (gB l c) (gB l p))
theorem zfd.start {l : List Bl} {n i0 : Nat} (h : zdw l n (i0 + 1)) : zfd l n i0 i0 :=
 ⟨fun k c hk hne hc hn => h k c (by omega) hc hn, fun p c hp hj _ _ => by omega⟩
theorem zfd.leaf {l : List Bl} {n i0 j : Nat} (h : zfd l n i0 j) (hn : n ≤ 2 * j + 1) : zdw l n i0 := fun k c hk hc hcn => by
 by_cases hkj : k = j
 ·subst hkj; omega
 ·exact h.1 k c hk hkj hc hcn
def zeG (l : List Bl) (n j m : Nat) : Prop := (m = 2 * j + 1 ∨ m = 2 * j + 2) ∧ m < n ∧ ∀ c, (c = 2 * j + 1 ∨ c = 2 * j + 2) → c < n → ¬ LtB (gB l c) (gB l m)
theorem zfd.stop {l : List Bl} {n i0 j m : Nat} (h : zfd l n i0 j) (hm : zeG l n j m) (hl : ¬ LtB (gB l m) (gB l j)) : zdw l n i0 := fun k c hk hc hcn => by
 by_cases hkj : k = j
 ·subst hkj; exact LtB.ntrans hl (hm.2.2 c hc hcn)
 ·exact h.1 k c hk hkj hc hcn
theorem zfd.sink {l : List Bl} {n i0 j m : Nat} (h : zfd l n i0 j) (hij : i0 ≤ j) (hm : zeG l n j m) (hl : LtB (gB l m) (gB l j)) (hn : n ≤ l.length) : zfd (zdt l j m (gB l j) (gB l m)) n i0 m := by
 obtain ⟨m1, m2, m3⟩ := hm
 have hj : j < l.length := by omega
 have hml : m < l.length := by omega
 constructor
 ·intro k c hk hkm hc hcn
  rw [zew hj hml, zew hj hml, if_neg hkm]
  by_cases hkj : k = j
  ·subst hkj
   rw [if_pos rfl]
   by_cases hcm : c = m
   ·subst hcm; rw [if_pos rfl]; exact hl.asymm
   ·rw [if_neg hcm, if_neg (by omega)]; exact m3 c hc hcn
  ·rw [if_neg hkj]
   by_cases hcm : c = m
   ·subst hcm; omega
   ·rw [if_neg hcm]
    by_cases hcj : c = j
    ·subst hcj; rw [if_pos rfl]; exact h.2 k m hk hc m1 m2
    ·rw [if_neg hcj]; exact h.1 k c hk hkj hc hcn
 ·intro p c hp hmp hc hcn
  have hpj : p = j := by omega
  subst hpj
  rw [zew hj hml, zew hj hml, if_neg (by omega), if_neg (by omega), if_neg (by omega), if_pos rfl]
  exact h.1 m c (by omega) (by omega) hc hcn
theorem zdw.root {l : List Bl} {n : Nat} (h : zdw l n 0) : ∀ k, k < n → ¬ LtB (gB l k) (gB l 0) := by
 intro k
 induction k using Nat.strongRecOn with
 | ind k ih =>
  intro hk
  rcases Nat.eq_zero_or_pos k with h0 | h0
  ·subst h0; exact fun h => h.asymm h
  ·have h1 := ih ((k - 1) / 2) (by omega) (by omega)
   exact LtB.ntrans h1 (h ((k - 1) / 2) k (by omega) (by omega) hk)
theorem zdw.high {l : List Bl} {n i0 : Nat} (h : n ≤ 2 * i0 + 1) : zdw l n i0 := fun k c hk hc hcn => by omega
structure zff (l l' : List Bl) (n i0 j : Nat) : Prop where
 perm : l'.Perm l
 same : ∀ q, n ≤ q → gB l' q = gB l q
 heap : zdw l n (i0 + 1) → zfd l' n i0 j
structure zmX (l l' : List Bl) (n i0 : Nat) : Prop where
 perm : l'.Perm l
 same : ∀ q, n ≤ q → gB l' q = gB l q
 heap : zdw l n (i0 + 1) → zdw l' n i0
theorem zff.start (l : List Bl) (n i0 : Nat) : zff l l n i0 i0 := ⟨List.Perm.refl _, fun _ _ => rfl, zfd.start⟩
theorem zff.leaf {l l' : List Bl} {n i0 j : Nat} (h : zff l l' n i0 j) (hn : n ≤ 2 * j + 1) : zmX l l' n i0 := ⟨h.perm, h.same, fun hh => (h.heap hh).leaf hn⟩
theorem zff.stop {l l' : List Bl} {n i0 j m : Nat} (h : zff l l' n i0 j) (hm : zeG l' n j m) (hl : ¬ LtB (gB l' m) (gB l' j)) : zmX l l' n i0 := ⟨h.perm, h.same, fun hh => (h.heap hh).stop hm hl⟩
theorem zff.sink {l l' : List Bl} {n i0 j m : Nat} (h : zff l l' n i0 j) (hij : i0 ≤ j) (hm : zeG l' n j m) (hl : LtB (gB l' m) (gB l' j)) (hn : n ≤ l'.length) : zff l (zdt l' j m (gB l' j) (gB l' m)) n i0 m := by
 have hj : j < l'.length := by have := hm.1; have := hm.2.1; omega
 have hml : m < l'.length := by have := hm.2.1; omega
 refine ⟨(zel (zbe hj) (zbe hml)).trans h.perm, fun q hq => ?_, fun hh => (h.heap hh).sink hij hm hl hn⟩
 have := hm.1; have := hm.2.1
 rw [zew hj hml, if_neg (by omega), if_neg (by omega)]
 exact h.same q hq
theorem znC {l : List Bl} {n j : Nat} (h1 : 2 * j + 1 < n) (h2 : ¬ 2 * j + 2 < n) : zeG l n j (2 * j + 1) := ⟨.inl rfl, h1, fun c hc hcn => by
 have : c = 2 * j + 1 := by omega
 subst this; exact fun h => h.asymm h⟩
theorem zkQ {l : List Bl} {n j : Nat} (h1 : 2 * j + 1 < n) (h : ¬ LtB (gB l (2 * j + 2)) (gB l (2 * j + 1))) : zeG l n j (2 * j + 1) := ⟨.inl rfl, h1, fun c hc hcn => by
 rcases hc with rfl | rfl
 ·exact fun h => h.asymm h
 ·exact h⟩
theorem zjd {l : List Bl} {n j : Nat} (h2 : 2 * j + 2 < n) (h : LtB (gB l (2 * j + 2)) (gB l (2 * j + 1))) : zeG l n j (2 * j + 2) := ⟨.inr rfl, h2, fun c hc hcn => by
 rcases hc with rfl | rfl
 ·exact h.asymm
 ·exact fun h => h.asymm h⟩
open Go.RowKit Go.Shelf
theorem zgW (bb : Nat) (w : World) : Sem.run Tryz.prog (method 442 278 (.agg #[.pointer (some ⟨bb, 0, none⟩)]) "Len") w = .ok (298, .pointer (some ⟨bb, 0, none⟩)) w := by kernel_rfl
theorem zjb (args : Array Value) (w : World) : (callFunc 298 args).run Tryz.prog w = .ok (.enter 298 args) w := enters_of Tryz.func298 (by kernel_rfl) rfl args w
theorem zic (bb : Nat) (w : World) : Sem.run Tryz.prog (method 442 278 (.agg #[.pointer (some ⟨bb, 0, none⟩)]) "Less") w = .ok (299, .pointer (some ⟨bb, 0, none⟩)) w := by kernel_rfl
theorem zjN (args : Array Value) (w : World) : (callFunc 299 args).run Tryz.prog w = .ok (.enter 299 args) w := enters_of Tryz.func299 (by kernel_rfl) rfl args w
theorem zfw (bb : Nat) (w : World) : Sem.run Tryz.prog (method 442 278 (.agg #[.pointer (some ⟨bb, 0, none⟩)]) "Swap") w = .ok (302, .pointer (some ⟨bb, 0, none⟩)) w := by kernel_rfl
theorem zgL (args : Array Value) (w : World) : (callFunc 302 args).run Tryz.prog w = .ok (.enter 302 args) w := enters_of Tryz.func302 (by kernel_rfl) rfl args w
theorem znA (bb : Nat) (w : World) : Sem.run Tryz.prog (method 442 278 (.agg #[.pointer (some ⟨bb, 0, none⟩)]) "Push") w = .ok (301, .pointer (some ⟨bb, 0, none⟩)) w := by kernel_rfl
theorem zoY (args : Array Value) (w : World) : (callFunc 301 args).run Tryz.prog w = .ok (.enter 301 args) w := enters_of Tryz.func301 (by kernel_rfl) rfl args w
theorem zoB (bb : Nat) (w : World) : Sem.run Tryz.prog (method 442 278 (.agg #[.pointer (some ⟨bb, 0, none⟩)]) "Pop") w = .ok (300, .pointer (some ⟨bb, 0, none⟩)) w := by kernel_rfl
theorem zqH (args : Array Value) (w : World) : (callFunc 300 args).run Tryz.prog w = .ok (.enter 300 args) w := enters_of Tryz.func300 (by kernel_rfl) rfl args w
def zky (B : Nat) (w0 : World) (bb g cap : Nat) (l : List Bl) (M : List Blk) (n i0 : Nat) (e : Ending) (w' : World) : Prop := ∃ b l', e = .returned (.bool b) ∧ QHp B w0 w' bb g cap l' M ∧ zmX l l' n i0
theorem zmI {B : Nat} {w0 w : World} {bb g cap : Nat} {l : List Bl} {M : List Blk} (hp : QHp B w0 w bb g cap l M) (hl : l.length ≤ 2000) {i0 n : Nat} (hin : i0 ≤ n) (hn : n ≤ l.length) :
  Calls Tryz.prog 261 #[.iface 278 (.agg #[.pointer (some ⟨bb, 0, none⟩)]), .int .i64 i0, .int .i64 n] w (zky B w0 bb g cap l M n i0) := by
 have mls := zic bb
 have msw := zfw bb
 have els := zjN
 have esw := zgL
 have HLN : Hid (n ≤ l.length) := z0j hn
 have HLL : Hid (l.length ≤ 2000) := z0j hl
 have hn1 : n ≤ 2000 := by omega
 clear hl hn
 go_enter Tryz.func261, Tryz.ntmps261
 go_wp2_with fail
 go_loopg [7] (n - i0) (fun k i wr => ∃ (j : Nat) (l' : List Bl), k + j = n ∧ i = .int .i64 j ∧ i0 ≤ j ∧ Hid (zff l l' n i0 j) ∧ QHp B w0 wr bb g cap l' M)
 case atStart => exact ⟨i0, l, by omega, rfl, by omega, z0j (zff.start _ _ _), hp⟩
 case round =>
  clear hp
  obtain ⟨j, l', hkj, rfl, hij, HD, hp⟩ := hrel
  have hll : Hid (n ≤ l'.length) := z0j (by rw [HD.out.perm.length_eq]; exact HLN.out)
  have hl' : l'.length ≤ 2000 := by rw [HD.out.perm.length_eq]; exact HLL.out
  obtain ⟨a, ha⟩ : ∃ a : Nat, a = 2 * j := ⟨_, rfl⟩
  obtain ⟨b1, hb1⟩ : ∃ b1 : Nat, b1 = 2 * j + 1 := ⟨_, rfl⟩
  obtain ⟨b2, hb2⟩ : ∃ b2 : Nat, b2 = 2 * j + 2 := ⟨_, rfl⟩
  have ew1 : wrap64 (2 * (j : Int)) = (a : Int) := by rw [IntWalk.wrap64_in _ ⟨by omega, by omega⟩]; omega
  have ew2 : wrap64 ((a : Int) + 1) = (b1 : Int) := by rw [IntWalk.wrap64_in _ ⟨by omega, by omega⟩]; omega
  have ew3 : wrap64 ((b1 : Int) + 1) = (b2 : Int) := by rw [IntWalk.wrap64_in _ ⟨by omega, by omega⟩]; omega
  have HB : Hid (b1 = 2 * j + 1 ∧ b2 = 2 * j + 2) := z0j ⟨hb1, hb2⟩
  have HKJ := z0j hkj
  by_cases h1 : n ≤ b1
  ·have HDD := z0j (HD.out.leaf (by omega))
   have e1 : decide ((n : Int) ≤ (b1 : Int)) = true := by simp; omega
   have e1' : decide (n ≤ b1) = true := decide_eq_true h1
   clear ha hb1 hb2 HD hkj hn1
   go_wp2_with fail
   go_ret
   exact ⟨_, l', rfl, hp, HDD.out⟩
  ·have e1 : decide ((n : Int) ≤ (b1 : Int)) = false := by simp; omega
   have e1' : decide (n ≤ b1) = false := decide_eq_false h1
   have e2 : decide ((b1 : Int) < 0) = false := by simp
   have hjl : j < l'.length := by have := hll.out; omega
   have h1l : b1 < l'.length := by have := hll.out; omega
   have HJ := z0j (zbe hjl)
   have H1 := z0j (zbe h1l)
   obtain ⟨m, hm, hw⟩ : ∃ m, zeG l' n j m ∧ ((b2 < n ∧ zfB (gB l' b2) (gB l' b1) = true ∧ m = b2) ∨ (b2 < n ∧ zfB (gB l' b2) (gB l' b1) = false ∧ m = b1) ∨ (¬ b2 < n ∧ m = b1)) := by
    by_cases h2 : b2 < n
    ·cases hq : zfB (gB l' b2) (gB l' b1) with
     | true => exact ⟨b2, by rw [hb2]; exact zjd (by omega) (by rw [← hb1, ← hb2]; exact zft.1 hq), .inl ⟨h2, rfl, rfl⟩⟩
     | false => exact ⟨b1, by rw [hb1]; exact zkQ (by omega) (by rw [← hb1, ← hb2]; exact zkx.1 hq), .inr (.inl ⟨h2, rfl, rfl⟩)⟩
    ·exact ⟨b1, by rw [hb1]; exact znC (by omega) (by omega), .inr (.inr ⟨h2, rfl⟩)⟩
   have hml : m < l'.length := by have := hm.2.1; have := hll.out; omega
   have hjm : j < m := by have := hm.1; omega
   have hmn : m < n := hm.2.1
   have HM := z0j (zbe hml)
   have HMC := z0j hm
   have HW := z0j hw
   clear ha hb1 hb2 hm hw hml h1l hjl hkj hn1
   cases hq : zfB (gB l' m) (gB l' j)
   ·have HB2 := z0j hq
    have HDD := z0j (HD.out.stop HMC.out (zkx.1 hq))
    clear hq HD
    rcases HW.out with ⟨h2, h3, rfl⟩ | ⟨h2, h3, rfl⟩ | ⟨h2, rfl⟩
    ·have HB1 := z0j h3
     have h2l : m < l'.length := by have := hll.out; omega
     have H2 := z0j (zbe h2l)
     have e3 : decide ((m : Int) < (n : Int)) = true := by simp; omega
     have e3' : decide (m < n) = true := decide_eq_true h2
     clear h3 h2l HW HMC
     go_wp2_with (first | (go_at_call 299; first | ((with_reducible refine (zaV hp hl' H2.out H1.out).mono ?_); clear hp; rintro e w1 ⟨rfl, hp⟩; rw [HB1.out]) | ((with_reducible refine (zaV hp hl' HM.out HJ.out).mono ?_); clear hp; rintro e w1 ⟨rfl, hp⟩; rw [HB2.out])) | (go_at_call 302; (with_reducible refine (zcn hp hl' HJ.out HM.out).mono ?_); clear hp; rintro e w1 ⟨rfl, hp⟩))
     go_ret
     exact ⟨_, l', rfl, hp, HDD.out⟩
    ·have HB1 := z0j h3
     have h2l : b2 < l'.length := by have := hll.out; omega
     have H2 := z0j (zbe h2l)
     have e3 : decide ((b2 : Int) < (n : Int)) = true := by simp; omega
     have e3' : decide (b2 < n) = true := decide_eq_true h2
     clear h3 h2l HW HMC
     go_wp2_with (first | (go_at_call 299; first | ((with_reducible refine (zaV hp hl' H2.out H1.out).mono ?_); clear hp; rintro e w1 ⟨rfl, hp⟩; rw [HB1.out]) | ((with_reducible refine (zaV hp hl' HM.out HJ.out).mono ?_); clear hp; rintro e w1 ⟨rfl, hp⟩; rw [HB2.out])) | (go_at_call 302; (with_reducible refine (zcn hp hl' HJ.out HM.out).mono ?_); clear hp; rintro e w1 ⟨rfl, hp⟩))
     go_ret
     exact ⟨_, l', rfl, hp, HDD.out⟩
    ·have e3 : decide ((b2 : Int) < (n : Int)) = false := by simp; omega
     have e3' : decide (b2 < n) = false := decide_eq_false h2
     clear HW HMC
     go_wp2_with (first | (go_at_call 299; first | ((with_reducible refine (zaV hp hl' H2.out H1.out).mono ?_); clear hp; rintro e w1 ⟨rfl, hp⟩; rw [HB1.out]) | ((with_reducible refine (zaV hp hl' HM.out HJ.out).mono ?_); clear hp; rintro e w1 ⟨rfl, hp⟩; rw [HB2.out])) | (go_at_call 302; (with_reducible refine (zcn hp hl' HJ.out HM.out).mono ?_); clear hp; rintro e w1 ⟨rfl, hp⟩))
     go_ret
     exact ⟨_, l', rfl, hp, HDD.out⟩
   ·have HB2 := z0j hq
    have HDN := z0j (HD.out.sink hij HMC.out (zft.1 hq) hll.out)
    clear hq HD
    rcases HW.out with ⟨h2, h3, rfl⟩ | ⟨h2, h3, rfl⟩ | ⟨h2, rfl⟩
    ·have HB1 := z0j h3
     have h2l : m < l'.length := by have := hll.out; omega
     have H2 := z0j (zbe h2l)
     have e3 : decide ((m : Int) < (n : Int)) = true := by simp; omega
     have e3' : decide (m < n) = true := decide_eq_true h2
     clear h3 h2l HW HMC
     go_wp2_with (first | (go_at_call 299; first | ((with_reducible refine (zaV hp hl' H2.out H1.out).mono ?_); clear hp; rintro e w1 ⟨rfl, hp⟩; rw [HB1.out]) | ((with_reducible refine (zaV hp hl' HM.out HJ.out).mono ?_); clear hp; rintro e w1 ⟨rfl, hp⟩; rw [HB2.out])) | (go_at_call 302; (with_reducible refine (zcn hp hl' HJ.out HM.out).mono ?_); clear hp; rintro e w1 ⟨rfl, hp⟩))
     go_roundg (n - m)
     case measure => have := HKJ.out; omega
     case rel => exact ⟨m, _, by have := HKJ.out; omega, rfl, by omega, HDN, hp⟩
    ·have HB1 := z0j h3
     have h2l : b2 < l'.length := by have := hll.out; omega
     have H2 := z0j (zbe h2l)
     have e3 : decide ((b2 : Int) < (n : Int)) = true := by simp; omega
     have e3' : decide (b2 < n) = true := decide_eq_true h2
     clear h3 h2l HW HMC
     go_wp2_with (first | (go_at_call 299; first | ((with_reducible refine (zaV hp hl' H2.out H1.out).mono ?_); clear hp; rintro e w1 ⟨rfl, hp⟩; rw [HB1.out]) | ((with_reducible refine (zaV hp hl' HM.out HJ.out).mono ?_); clear hp; rintro e w1 ⟨rfl, hp⟩; rw [HB2.out])) | (go_at_call 302; (with_reducible refine (zcn hp hl' HJ.out HM.out).mono ?_); clear hp; rintro e w1 ⟨rfl, hp⟩))
     go_roundg (n - m)
     case measure => have := HKJ.out; omega
     case rel => exact ⟨m, _, by have := HKJ.out; omega, rfl, by omega, HDN, hp⟩
    ·have e3 : decide ((b2 : Int) < (n : Int)) = false := by simp; omega
     have e3' : decide (b2 < n) = false := decide_eq_false h2
     clear HW HMC
     go_wp2_with (first | (go_at_call 299; first | ((with_reducible refine (zaV hp hl' H2.out H1.out).mono ?_); clear hp; rintro e w1 ⟨rfl, hp⟩; rw [HB1.out]) | ((with_reducible refine (zaV hp hl' HM.out HJ.out).mono ?_); clear hp; rintro e w1 ⟨rfl, hp⟩; rw [HB2.out])) | (go_at_call 302; (with_reducible refine (zcn hp hl' HJ.out HM.out).mono ?_); clear hp; rintro e w1 ⟨rfl, hp⟩))
     go_roundg (n - m)
     case measure => have := HKJ.out; omega
     case rel => exact ⟨m, _, by have := HKJ.out; omega, rfl, by omega, HDN, hp⟩
def ztI (B : Nat) (w0 : World) (bb g cap : Nat) (l : List Bl) (M : List Blk) (e : Ending) (w' : World) : Prop := e = .returned (.tuple #[]) ∧ ∃ l', QHp B w0 w' bb g cap l' M ∧ l'.Perm l
theorem ztM {B : Nat} {w0 w : World} {bb g cap : Nat} {l : List Bl} {M : List Blk} (hp : QHp B w0 w bb g cap l M) (hl : l.length ≤ 2000) {j0 : Nat} (hj : j0 < l.length) :
  Calls Tryz.prog 262 #[.iface 278 (.agg #[.pointer (some ⟨bb, 0, none⟩)]), .int .i64 j0] w (ztI B w0 bb g cap l M) := by
 have mls := zic bb
 have msw := zfw bb
 have els := zjN
 have esw := zgL
 have HLL : Hid (l.length ≤ 2000) := z0j hl
 clear hl
 go_enter Tryz.func262, Tryz.ntmps262
 go_wp2_with fail
 go_loopg [1] j0 (fun k i wr => ∃ (l' : List Bl), i = .int .i64 k ∧ k < l'.length ∧ Hid (l'.Perm l) ∧ QHp B w0 wr bb g cap l' M)
 case atStart => exact ⟨l, rfl, hj, z0j (List.Perm.refl _), hp⟩
 case round =>
  clear hp hj
  obtain ⟨l', rfl, hjl, HP, hp⟩ := hrel
  have hl' : l'.length ≤ 2000 := by rw [HP.out.length_eq]; exact HLL.out
  rcases Nat.eq_zero_or_pos gk with h0 | h0
  ·subst h0
   have e0 : (-1 : Int).tdiv 2 = 0 := by decide
   have e1 : wrap64 (-1) = -1 := IntWalk.wrap64_in _ ⟨by omega, by omega⟩
   have e2 : wrap64 0 = 0 := IntWalk.wrap64_in _ ⟨by omega, by omega⟩
   go_wp2_with fail
   refine bodyPost_end (results_none Tryz.results262 _ _ _) rfl ⟨rfl, l', hp, HP.out⟩
  ·obtain ⟨j, hj⟩ : ∃ j, j = gk := ⟨_, rfl⟩
   rw [← hj] at hjl h0 ⊢
   obtain ⟨p, hpp⟩ : ∃ p : Nat, p = j - 1 := ⟨_, rfl⟩
   obtain ⟨i, hi⟩ : ∃ i : Nat, i = p / 2 := ⟨_, rfl⟩
   have hij : i < j := by omega
   have hil : i < l'.length := by omega
   have ew1 : wrap64 ((j : Int) - 1) = (p : Int) := by rw [IntWalk.wrap64_in _ ⟨by omega, by omega⟩]; omega
   have ew2 : (p : Int).tdiv 2 = (i : Int) := by rw [Int.tdiv_eq_ediv_of_nonneg (by omega)]; omega
   have ew3 : wrap64 (i : Int) = (i : Int) := IntWalk.wrap64_in _ ⟨by omega, by omega⟩
   have e1 : ((i : Int) == (j : Int)) = false := by simp; omega
   have e1' : (i == j) = false := by simp; omega
   have HJ := z0j (zbe hjl)
   have HI := z0j (zbe hil)
   have HIJ : Hid (i < gk ∧ i < l'.length) := z0j ⟨by omega, hil⟩
   clear hpp hi hij hil hjl h0
   have HJG := z0j hj
   clear hj
   cases hq : zfB (gB l' j) (gB l' i)
   ·have HB := z0j hq
    clear hq
    go_wp2_with (first | (go_at_call 299; (with_reducible refine (zaV hp hl' HJ.out HI.out).mono ?_); clear hp; rintro e w1 ⟨rfl, hp⟩; rw [HB.out]) | (go_at_call 302; (with_reducible refine (zcn hp hl' HI.out HJ.out).mono ?_); clear hp; rintro e w1 ⟨rfl, hp⟩))
    refine bodyPost_end (results_none Tryz.results262 _ _ _) rfl ⟨rfl, l', hp, HP.out⟩
   ·have HB := z0j hq
    have HPS := z0j ((zel HI.out HJ.out).trans HP.out)
    clear hq
    go_wp2_with (first | (go_at_call 299; (with_reducible refine (zaV hp hl' HJ.out HI.out).mono ?_); clear hp; rintro e w1 ⟨rfl, hp⟩; rw [HB.out]) | (go_at_call 302; (with_reducible refine (zcn hp hl' HI.out HJ.out).mono ?_); clear hp; rintro e w1 ⟨rfl, hp⟩))
    go_roundg i
    case measure => exact HIJ.out.1
    case rel => exact ⟨_, rfl, by rw [zc5]; exact HIJ.out.2, HPS, hp⟩
open Go.RowKit Go.Shelf
def zsZ (B : Nat) (w0 : World) (bb g cap : Nat) (l : List Bl) (M : List Blk) (e : Ending) (w' : World) : Prop := e = .returned (.tuple #[]) ∧ ∃ l', QHp B w0 w' bb g cap l' M ∧ l'.Perm l ∧ zdw l' l'.length 0
theorem zrf {B : Nat} {w0 w : World} {bb g cap : Nat} {l : List Bl} {M : List Blk} (hp : QHp B w0 w bb g cap l M) (hl : l.length ≤ 2000) : Calls Tryz.prog 260 #[.iface 278 (.agg #[.pointer (some ⟨bb, 0, none⟩)])] w (zsZ B w0 bb g cap l M) := by
 have mln := zgW bb
 have eln := zjb
 have HLL : Hid (l.length ≤ 2000) := z0j hl
 obtain ⟨n, hn⟩ : ∃ n, n = l.length := ⟨_, rfl⟩
 obtain ⟨h, hh⟩ : ∃ h : Nat, h = n / 2 := ⟨_, rfl⟩
 have ew1 : (n : Int).tdiv 2 = (h : Int) := by rw [Int.tdiv_eq_ediv_of_nonneg (by omega)]; omega
 have ew2 : wrap64 (h : Int) = (h : Int) := IntWalk.wrap64_in _ ⟨by omega, by omega⟩
 have ew3 : wrap64 ((h : Int) - 1) = (h : Int) - 1 := IntWalk.wrap64_in _ ⟨by omega, by omega⟩
 have HN := z0j hn
 have HH := z0j hh
 unfold QHp at hp
 rw [← hn] at hp
 clear hn hh hl
 go_enter Tryz.func260, Tryz.ntmps260
 go_wp2_with ((go_at_call 298; (with_reducible refine (zmP hp).mono ?_); clear hp; rintro e w1 ⟨rfl, hp⟩))
 have hp' : QHp B w0 w1 bb g cap l M := by unfold QHp; rw [← HN.out]; exact hp
 have EW3 := z0j ew3
 clear hp ew1 ew2 ew3
 go_loopg [3] h (fun k i wr => ∃ (l' : List Bl), i = .int .i64 ((k : Int) - 1) ∧ k ≤ h ∧ Hid (l'.Perm l ∧ zdw l' n k) ∧ QHp B w0 wr bb g cap l' M)
 case atStart => exact ⟨l, congrArg (Value.int .i64) EW3.out, Nat.le_refl _, z0j ⟨List.Perm.refl _, zdw.high (by have := HH.out; omega)⟩, hp'⟩
 case round =>
  clear hp'
  obtain ⟨l', rfl, hkh, HP, hp⟩ := hrel
  have hl' : l'.length ≤ 2000 := by rw [HP.out.1.length_eq]; exact HLL.out
  have hnl : Hid (n ≤ l'.length) := z0j (by rw [HP.out.1.length_eq, HN.out]; exact Nat.le_refl _)
  rcases Nat.eq_zero_or_pos gk with h0 | h0
  ·subst h0
   have e1 : decide ((0 : Int) ≤ -1) = false := by decide
   go_wp2_with fail
   refine bodyPost_end (results_none Tryz.results260 _ _ _) rfl ⟨rfl, l', hp, HP.out.1, ?_⟩
   have h1 := HP.out.2
   have h2 : l'.length = n := by rw [HP.out.1.length_eq, HN.out]
   rw [h2]; exact h1
  ·obtain ⟨p, hpk⟩ : ∃ p, gk = p + 1 := ⟨gk - 1, by omega⟩
   have ei : (gk : Int) - 1 = (p : Int) := by omega
   rw [ei]
   have e1 : (0 : Int) ≤ (p : Int) := by omega
   have hpn : Hid (p ≤ n) := z0j (by have := HH.out; omega)
   have ew3 : wrap64 ((p : Int) - 1) = (p : Int) - 1 := IntWalk.wrap64_in _ ⟨by omega, by have := hpn.out; have := hnl.out; omega⟩
   have HPK := z0j hpk
   have HKH := z0j hkh
   have EW4 := z0j ew3
   clear hpk ei h0 hkh
   go_wp2_with ((go_at_call 261; (with_reducible refine (zmI hp hl' hpn.out hnl.out).mono ?_); clear hp; rintro e w1 ⟨rb, l2, rfl, hp, hdd⟩; have HDD := z0j hdd; clear hdd))
   go_roundg p
   case measure => have := HPK.out; omega
   case rel => exact ⟨l2, congrArg (Value.int .i64) EW4.out, by have := HPK.out; have := HKH.out; omega, z0j ⟨HDD.out.perm.trans HP.out.1, HDD.out.heap (by have h := HP.out.2; rw [HPK.out] at h; exact h)⟩, hp⟩
theorem zsh {B : Nat} {w0 w : World} {bb g cap n m : Nat} {l : List Bl} {x : Bl} {M : List Blk} (hn : n = l.length) (hm : m = n + 1) (hp : Hp B w0 w (⟨bb, [.slice (some ⟨g, 0, none⟩) m cap], 284, 1⟩ :: ⟨g, (l ++ [x]).flatMap blV, 146, cap * 2⟩ :: M)) : QHp B w0 w bb g cap (l ++ [x]) M := by
 unfold QHp
 rw [List.length_append, List.length_singleton, ← hn, ← hm]
 exact hp
def zmW (B : Nat) (w0 : World) (bb : Nat) (l : List Bl) (M : List Blk) (e : Ending) (w' : World) : Prop := e = .returned (.tuple #[]) ∧ ∃ g cap l', QHp B w0 w' bb g cap l' M ∧ l'.Perm l ∧ l'.length ≤ cap ∧ cap ≤ maxLen
theorem zo9 {B : Nat} {w0 w : World} {bb g cap : Nat} {l : List Bl} {M : List Blk} (hp : QHp B w0 w bb g cap l M) (hl : l.length ≤ 1900) (hcap0 : l.length ≤ cap) (hmax0 : cap ≤ maxLen) (x : Bl) :
  Calls Tryz.prog 239 #[.iface 278 (.agg #[.pointer (some ⟨bb, 0, none⟩)]), .iface 146 (.agg #[.int .i64 x.p, .int .i64 x.o])] w (zmW B w0 bb (l ++ [x]) M) := by
 have mln := zgW bb
 have eln := zjb
 have mps := znA bb
 have eps := zoY
 have hcap := z0j hcap0
 have hmax := z0j hmax0
 obtain ⟨n, hn⟩ : ∃ n, n = l.length := ⟨_, rfl⟩
 obtain ⟨m, hm⟩ : ∃ m, m = n + 1 := ⟨_, rfl⟩
 have ew : wrap64 ((m : Int) - 1) = (n : Int) := by rw [IntWalk.wrap64_in _ ⟨by omega, by omega⟩]; omega
 have HL2 : Hid ((l ++ [x]).length ≤ 2000) := z0j (by simp; omega)
 have HJ : Hid (n < (l ++ [x]).length) := z0j (by simp; omega)
 have HN := z0j hn
 have HM := z0j hm
 have hl : l.length ≤ 2000 := by omega
 clear hn hm hcap0 hmax0
 go_enter Tryz.func239, Tryz.ntmps239
 go_wp2_with (first | (go_at_call 301; (with_reducible refine (zqR hp hl hcap.out hmax.out x).mono ?_); clear hp; rintro e w1 ⟨rfl, g', cap', hp, hc1, hc2⟩; have HC := z0j (And.intro hc1 hc2); clear hc1 hc2; unfold QHp at hp; rw [List.length_append, List.length_singleton, ← HN.out, ← HM.out] at hp) | (go_at_call 298; (with_reducible refine (zmP hp).mono ?_); clear hp; rintro e w1 ⟨rfl, hp⟩) | (go_at_call 262; (with_reducible refine (ztM (zsh HN.out HM.out hp) HL2.out HJ.out).mono ?_); clear hp; rintro e w1 ⟨rfl, l2, hp, hperm⟩))
 refine bodyPost_end (results_none Tryz.results239 _ _ _) rfl ⟨rfl, g', cap', l2, hp, hperm, ?_, HC.out.2⟩
 rw [hperm.length_eq]; exact HC.out.1
def zqT (B : Nat) (w0 : World) (bb g cap : Nat) (l : List Bl) (M : List Blk) (e : Ending) (w' : World) : Prop := ∃ l', e = .returned (.iface 146 (.agg #[.int .i64 (gB l 0).p, .int .i64 (gB l 0).o])) ∧ QHp B w0 w' bb g cap l' M ∧ (l' ++ [gB l 0]).Perm l
theorem zqr {l : List Bl} {n : Nat} (h : l.length = n + 1) : ∃ l', l = l' ++ [gB l n] ∧ l'.length = n := by
 refine ⟨l.take n, ?_, by rw [List.length_take]; omega⟩
 have h1 := zbe (l := l) (k := n) (by omega)
 have h2 := List.take_append_drop n l
 rw [List.drop_eq_getElem_cons (by omega), List.drop_eq_nil_of_le (by omega)] at h2
 rw [List.getElem?_eq_getElem (by omega)] at h1
 injection h1 with h1
 rw [← h1]; exact h2.symm
theorem zoT {B : Nat} {w0 w : World} {bb g cap : Nat} {l : List Bl} {M : List Blk} (hp : QHp B w0 w bb g cap l M) (hl : l.length ≤ 2000) {k : Nat} {x y : Bl} (hx : l[0]? = some x) (hy : l[k]? = some y) :
  Calls Tryz.prog 302 #[.pointer (some ⟨bb, 0, none⟩), .int .i64 0, .int .i64 k] w fun e w' => e = .returned (.tuple #[]) ∧ QHp B w0 w' bb g cap (zdt l 0 k x y) M := zcn hp hl (i := 0) hx hy
theorem zoG {B : Nat} {w0 w : World} {bb g cap : Nat} {l : List Bl} {M : List Blk} (hp : QHp B w0 w bb g cap l M) (hl : l.length ≤ 2000) {n : Nat} (hn : n ≤ l.length) :
  Calls Tryz.prog 261 #[.iface 278 (.agg #[.pointer (some ⟨bb, 0, none⟩)]), .int .i64 0, .int .i64 n] w (zky B w0 bb g cap l M n 0) := zmI hp hl (i0 := 0) (Nat.zero_le n) hn
theorem zr2 {B : Nat} {w0 w : World} {bb g cap m : Nat} {l : List Bl} {M : List Blk} (hm : l.length = m) (hp : Hp B w0 w (⟨bb, [.slice (some ⟨g, 0, none⟩) m cap], 284, 1⟩ :: ⟨g, l.flatMap blV, 146, cap * 2⟩ :: M)) : QHp B w0 w bb g cap l M := by
 unfold QHp
 rw [hm]; exact hp
theorem zqG {B : Nat} {w0 w : World} {bb g cap : Nat} {l : List Bl} {M : List Blk} (hp : QHp B w0 w bb g cap l M) (hl : l.length ≤ 2000) (hpos : 0 < l.length) (hcap0 : l.length ≤ cap) :
  Calls Tryz.prog 238 #[.iface 278 (.agg #[.pointer (some ⟨bb, 0, none⟩)])] w (zqT B w0 bb g cap l M) := by
 have mln := zgW bb
 have eln := zjb
 have msw := zfw bb
 have esw := zgL
 have mpo := zoB bb
 have epo := zqH
 obtain ⟨n, hn⟩ : ∃ n, l.length = n + 1 := ⟨l.length - 1, by omega⟩
 obtain ⟨m, hm⟩ : ∃ m, m = n + 1 := ⟨_, rfl⟩
 rw [← hm] at hn
 have HN := z0j hn
 have ew : wrap64 ((m : Int) - 1) = (n : Int) := by rw [IntWalk.wrap64_in _ ⟨by omega, by omega⟩]; omega
 have HCP : Hid (n + 1 ≤ cap) := z0j (by omega)
 have H0 := z0j (zbe (l := l) (k := 0) hpos)
 have HNN := z0j (zbe (l := l) (k := n) (by omega))
 have HLS : Hid ((zdt l 0 n (gB l 0) (gB l n)).length ≤ 2000) := z0j (by rw [zc5]; exact hl)
 have HNS : Hid (n ≤ (zdt l 0 n (gB l 0) (gB l n)).length) := z0j (by rw [zc5]; omega)
 have HGN : Hid (gB (zdt l 0 n (gB l 0) (gB l n)) n = gB l 0) := z0j (by rw [zew hpos (by omega), if_pos rfl])
 unfold QHp at hp
 rw [hn] at hp
 have HMM := z0j hm
 have HNE : Hid (n ≤ 2000) := z0j (by omega)
 clear hm hn hpos hcap0
 go_enter Tryz.func238, Tryz.ntmps238
 go_wp2_with (first | (go_at_call 298; (with_reducible refine (zmP hp).mono ?_); clear hp; rintro e w1 ⟨rfl, hp⟩) | (go_at_call 302; (with_reducible refine (zoT (zr2 HN.out hp) hl H0.out HNN.out).mono ?_); clear hp; rintro e w1 ⟨rfl, hp⟩) | (go_at_call 261; (with_reducible refine (zoG hp HLS.out HNS.out).mono ?_); clear hp; rintro e w1 ⟨rb, l2, rfl, hp, hdd⟩; obtain ⟨l3, hl3, hn3⟩ := zqr (l := l2) (n := n) (by rw [hdd.perm.length_eq, zc5]; exact HN.out.trans HMM.out); rw [hl3] at hp; have HDD := z0j hdd; have HL3 := z0j hl3; have HN3 := z0j hn3; clear hdd hl3 hn3) | (go_at_call 300; (with_reducible refine (zrJ hp (by have := HN3.out; have := HNE.out; omega) (by have := HN3.out; have := HCP.out; omega)).mono ?_); clear hp; rintro e w1 ⟨rfl, hp⟩))
 go_ret
 have h1 : gB l2 n = gB l 0 := (HDD.out.same n (Nat.le_refl _)).trans HGN.out
 have h2 := HL3.out
 rw [h1] at h2 ⊢
 refine ⟨l3, rfl, hp, ?_⟩
 rw [← h2]
 exact HDD.out.perm.trans (zel H0.out HNN.out)
def hv (p o : Int) : Nat → List Bl
 | 0 => []
 | n + 1 => hv p o n ++ [⟨p + pw (o - n - 1), o - n - 1⟩]
theorem zpG (p o : Int) : ∀ n, (hv p o n).length = n
 | 0 => rfl
 | n + 1 => by rw [hv, List.length_append, zpG p o n]; rfl
structure zeI (want : Int) (fs : List Bl) (b : Bl) : Prop where
 mem : b ∈ fs
 great : want ≤ b.o
 least : ∀ y ∈ fs, want ≤ y.o → ¬ LtB y b
structure zkd (want : Int) (fs : List Bl) (b : Bl) (s : List Bl) : Prop where
 perm : (b :: s).Perm (fs ++ hv b.p b.o (b.o - want).toNat)
 sort : s.Pairwise fun x y => x.p ≤ y.p
def zag (want : Int) (l : List Bl) : List Bl := l.filter fun b => decide (want ≤ b.o)
def zaf (want : Int) (l : List Bl) : List Bl := l.filter fun b => !decide (want ≤ b.o)
theorem zq9 (want : Int) (l : List Bl) : (zag want l ++ zaf want l).Perm l := List.filter_append_perm _ l
theorem zmO {want : Int} {l : List Bl} (h : Z0 l want = true) : 0 < (zag want l).length := by
 unfold Z0 at h
 obtain ⟨x, hx, hw⟩ := List.any_eq_true.1 h
 exact List.length_pos_of_mem (List.mem_filter.2 ⟨hx, hw⟩)
theorem zoE {want : Int} {fs l : List Bl} (hp : l.Perm (zag want fs)) (hh : zdw l l.length 0) (hl : 0 < l.length) : zeI want fs (gB l 0) := by
 have hm : gB l 0 ∈ zag want fs := hp.mem_iff.1 (List.mem_of_getElem? (zbe hl))
 obtain ⟨h1, h2⟩ := List.mem_filter.1 hm
 refine ⟨h1, by simpa using h2, fun y hy hw => ?_⟩
 have hy2 : y ∈ l := hp.mem_iff.2 (List.mem_filter.2 ⟨hy, by simpa using hw⟩)
 obtain ⟨k, hk, rfl⟩ := List.getElem_of_mem hy2
 have := hh.root k hk
 rw [zqs (List.getElem?_eq_getElem hk)] at this
 exact this
def zb8 (want : Int) (fs : List Bl) (b : Bl) (i : Nat) (l : List Bl) : Prop := (b :: l).Perm (zag want fs ++ hv b.p b.o i)
theorem zb8.start {want : Int} {fs l l' : List Bl} (hp : l.Perm (zag want fs)) (h : (l' ++ [gB l 0]).Perm l) : zb8 want fs (gB l 0) 0 l' := by
 unfold zb8
 rw [hv, List.append_nil]
 exact (List.perm_append_comm (l₁ := [gB l 0])).trans (h.trans hp)
theorem zb8.step {want : Int} {fs l l' : List Bl} {b : Bl} {i : Nat} (h : zb8 want fs b i l) (hp : l'.Perm (l ++ [⟨b.p + pw (b.o - i - 1), b.o - i - 1⟩])) : zb8 want fs b (i + 1) l' := by
 unfold zb8 at *
 rw [hv, ← List.append_assoc]
 exact (hp.cons b).trans (h.append_right [_])
theorem zb8.len {want : Int} {fs l : List Bl} {b : Bl} {i : Nat} (h : zb8 want fs b i l) : l.length + 1 = (zag want fs).length + i := by
 have := h.length_eq
 rw [List.length_append, zpG, List.length_cons] at this
 exact this
theorem zb8.done {want : Int} {fs l s : List Bl} {b : Bl} (h : zb8 want fs b (b.o - want).toNat l) (hs : s.Perm (l ++ zaf want fs)) (hso : s.Pairwise fun x y => x.p ≤ y.p) : zkd want fs b s := by
 refine ⟨?_, hso⟩
 refine (hs.cons b).trans ?_
 rw [← List.cons_append]
 refine (h.append_right _).trans ?_
 rw [List.append_assoc]
 refine (List.perm_append_comm.append_left _).trans ?_
 rw [← List.append_assoc]
 exact (zq9 want fs).append_right _
theorem zfG (want : Int) (l : List Bl) : (zag want l).length ≤ l.length := List.length_filter_le _ _
theorem zms (want : Int) (l : List Bl) : (zaf want l).length ≤ l.length := List.length_filter_le _ _
theorem ziP {want : Int} {l : List Bl} {j : Nat} {y : Bl} (h : l[j]? = some y) (hy : want ≤ y.o) : zag want (l.take (j + 1)) = zag want (l.take j) ++ [y] ∧ zaf want (l.take (j + 1)) = zaf want (l.take j) := by
 rw [List.take_add_one, h]; simp [zag, zaf, hy]
theorem ziO {want : Int} {l : List Bl} {j : Nat} {y : Bl} (h : l[j]? = some y) (hy : ¬ want ≤ y.o) : zaf want (l.take (j + 1)) = zaf want (l.take j) ++ [y] ∧ zag want (l.take (j + 1)) = zag want (l.take j) := by
 rw [List.take_add_one, h]; simp [zag, zaf, hy]
open Go.RowKit Go.Lib Go.Shelf Go.Sort
theorem znw {ty : TypeId} (h : zF Tryz.prog ty = true := by with_reducible first | exact zm | exact Zt | exact Zj | exact zhg) : zF Tryz.prog ty = true := h
theorem zaH : ZM Tryz.prog 278 1 = true := by kernel_rfl
theorem zrH : ZM Tryz.prog 284 1 = true := by kernel_rfl
theorem zbX : zaL Tryz.prog 278 = some ([.pointer none], 1) := by kernel_rfl
theorem zn4 (args : Array Value) (w : World) : (callFunc 263 args).run Tryz.prog w = .ok (.enter 263 args) w := enters_of Tryz.func263 (by kernel_rfl) rfl args w
theorem zjx : zeT 263 := by
 intro x y W
 have hcon := zgq x.p y.p
 generalize zcB x.p y.p = r at hcon ⊢
 go_enter Tryz.func263, Tryz.ntmps263
 go_wp2_with (go_at_call 112; (with_reducible refine (hcon _).mono ?_); rintro e w' ⟨rfl, rfl⟩)
 go_ret
 exact ⟨rfl, 0, _, by rw [alloc_eq_grow, alloc_eq_grow, grow_grow]; rfl⟩
def zr3 (B : Nat) (w0 : World) (bb : Nat) (v : Value) (l : List Bl) (M : List Blk) (e : Ending) (w' : World) : Prop := ∃ (s : List Bl) (R : List Blk), e = .returned v ∧ zB 146 2 v l.length (s.flatMap blV) R ∧ Hp B w0 w' (⟨bb, [v], 284, 1⟩ :: (R ++ M)) ∧ s.Perm l ∧ s.Pairwise fun x y => x.p ≤ y.p
theorem zr7 {B : Nat} {w0 w : World} {b9 : Blk} {bb : Nat} {v : Value} {R M : List Blk} (hp : Hp B w0 w (b9 :: ⟨bb, [v], 284, 1⟩ :: (R ++ M))) : Hp B w0 w (R ++ (⟨bb, [v], 284, 1⟩ :: M)) := hp.tail.reorder List.perm_middle.symm
theorem zrv {B : Nat} {w0 w : World} {bb : Nat} {v : Value} {l : List Bl} {R M : List Blk} (hp : Hp B w0 w (⟨bb, [v], 284, 1⟩ :: (R ++ M))) (hR : zB 146 2 v l.length (l.flatMap blV) R) (hl : l.length ≤ 5000) :
  Calls Tryz.prog 240 #[.agg #[.pointer (some ⟨bb, 0, none⟩)]] w (zr3 B w0 bb v l M) := by
 have HR := z0j hR
 clear hR
 go_enter Tryz.func240, Tryz.ntmps240
 go_wp2_with (first | (go_at_call 145; (with_reducible refine (zkt 263 zn4 zjx l HR.out (zr7 hp) hl).mono ?_); clear hp; rintro e w1 ⟨rfl, s, R', hperm, hsort, hr, hp⟩) | go_skip | ((first | ((refine zi _ _ rfl ?_); refine lB hp rfl (za rfl) rfl ?_; clear hp; intro b w1 hp) | ((refine ze _ _ rfl ?_); refine lO hp rfl (za rfl) znw zn ?_)); simp only [zc, zb, z0b, z0a]))
 go_ret
 exact ⟨s, R', rfl, hr, hp.reorder List.perm_middle, hperm, hsort⟩
theorem zv.three {B : Nat} {w0 w : World} {L : List Blk} (h : Hp B w0 w L) {i j k : Nat} {p q r : Blk} (hi : L[i]? = some p) (hj : L[j]? = some q) (hk : L[k]? = some r) : zv B w0 [p, q, r] w := ⟨L, h, fun s hs => by
 rcases List.mem_cons.1 hs with rfl | hs
 ·exact Hp.mem hi
 ·rcases List.mem_cons.1 hs with rfl | hs
  ·exact Hp.mem hj
  ·rw [List.mem_singleton.1 hs]; exact Hp.mem hk⟩
def zsr (w : World) (want : Int) (fs : List Bl) (e : Ending) (w' : World) : Prop := ∃ bb g cap l' vs RS, e = .returned (.tuple #[.agg #[.pointer (some ⟨bb, 0, none⟩)], vs]) ∧ zB 146 2 vs (zaf want fs).length ((zaf want fs).flatMap blV) RS ∧
 QHp w.heap.size w w' bb g cap l' RS ∧ l'.Perm (zag want fs) ∧ zdw l' l'.length 0 ∧ l'.length ≤ cap ∧ cap ≤ maxLen
theorem zt5 {B : Nat} {w0 w : World} {b6 b4 : Blk} {bb g cap : Nat} {l : List Bl} {RS : List Blk} (hp : Hp B w0 w (b6 :: ⟨bb, [.slice (some ⟨g, 0, none⟩) l.length cap], 284, 1⟩ :: b4 :: ([⟨g, l.flatMap blV, 146, cap * 2⟩] ++ RS))) : QHp B w0 w bb g cap l (b6 :: b4 :: RS) := by
 unfold QHp
 refine hp.reorder ?_
 refine (List.Perm.swap _ _ _).trans (List.Perm.cons _ ?_)
 exact (List.Perm.cons _ (List.Perm.swap _ _ _)).trans (List.Perm.swap _ _ _)
theorem ztP {B : Nat} {w0 w : World} {b6 b4 : Blk} {bb g cap : Nat} {l : List Bl} {RS : List Blk} (hp : QHp B w0 w bb g cap l (b6 :: b4 :: RS)) : Hp B w0 w (b6 :: b4 :: ⟨bb, [.slice (some ⟨g, 0, none⟩) l.length cap], 284, 1⟩ :: ⟨g, l.flatMap blV, 146, cap * 2⟩ :: RS) := by
 unfold QHp at hp
 refine hp.reorder ?_
 refine ((List.Perm.cons _ (List.Perm.swap _ _ _)).trans (List.Perm.swap _ _ _)).trans (List.Perm.cons _ ?_)
 exact (List.Perm.cons _ (List.Perm.swap _ _ _)).trans (List.Perm.swap _ _ _)
theorem zmN (fs : List Bl) (a : Option Addr) (c : Nat) (hl : fs.length ≤ 1000) (want : Int) (hsome : 0 < (zag want fs).length) (w : World) (ha : zr w a (fs.flatMap blV)) :
  Calls Tryz.prog 237 #[.slice a fs.length c, .int .i64 want] w (zsr w want fs) := by
 obtain ⟨i0, hi0, hz0, hz1, hz2⟩ := info_parts zbD
 have hp := Hp.start w
 have HA := z0j ha
 clear ha
 go_enter Tryz.func237, Tryz.ntmps237
 go_wp2_with (first | go_skip | ((first | ((refine zf _ rfl ?_); refine lZ hp rfl (by with_reducible first | exact z6 | exact zbX) ?_; clear hp; intro b w1 hp) | ((refine zi _ _ rfl ?_); refine lB hp rfl (za rfl) rfl ?_; clear hp; intro b w1 hp) | ((refine ze _ _ rfl ?_); first | refine lO hp rfl (za rfl) znw zn ?_ | refine lA hp rfl (za rfl) (by with_reducible first | exact zw | exact zaH) zn ?_) | ((refine zd _ _ _ rfl ?_); (first | refine sO hp rfl (za rfl) Zj zn ?_ | refine sA hp rfl (za rfl) (za rfl) (by with_reducible first | exact zw | exact zaH) zn ?_ | refine sG hp rfl (za rfl) (za rfl) (by with_reducible first | exact zw | exact zaH) zn ?_); clear hp; intro w1 hp; simp only [spl, z0a, z0b] at hp) | ((refine zk _ _ _ rfl ?_); refine lS hp rfl (by intro w; go_simp; rfl) ?_; clear hp; intro b w1 hp; simp only [z0g, z0h, Nat.reduceAdd] at hp)); simp only [zc, zb, z0b, z0a]))
 obtain ⟨b6, rfl⟩ := hp.id0
 obtain ⟨b5, rfl⟩ := hp.id1
 obtain ⟨bb, rfl⟩ := hp.id2
 obtain ⟨b4, rfl⟩ := hp.id3
 go_loopg [7, 16] fs.length (fun k vs i wr => ∃ (j : Nat) (vq : Value) (RQ RS : List Blk), k + j = fs.length ∧ i = .int .i64 j ∧ Hid (zB 146 2 vq (zag want (fs.take j)).length ((zag want (fs.take j)).flatMap blV) RQ) ∧ Hid (zB 146 2 vs (zaf want (fs.take j)).length ((zaf want (fs.take j)).flatMap blV) RS) ∧
  Hp w.heap.size w wr (⟨b6, [.pointer (some ⟨bb, 0, none⟩)], 278, 1⟩ :: ⟨bb, [vq], 284, 1⟩ :: ⟨b4, [.pointer none], 278, 1⟩ :: (RQ ++ RS)))
 case atStart =>
  refine ⟨0, _, [], [⟨b5, [], 146, 0⟩], by omega, rfl, z0j (zB.nil _ _), z0j ⟨rfl, .inr ⟨b5, 0, rfl, Nat.le_refl _, Nat.zero_le _, rfl⟩⟩, ?_⟩
  exact hp.reorder (List.Perm.cons _ ((List.Perm.swap _ _ _).trans (List.Perm.cons _ (List.Perm.swap _ _ _))))
 case round =>
  clear hp
  obtain ⟨j, vq, RQ, RS, hkj, rfl, HRQ, HRS, hp⟩ := hrel
  by_cases hlt : j < fs.length
  ·obtain ⟨bq, off, rfl, hx⟩ := HA.out.elems 2 Zp (by omega) (by omega)
   have hj := List.getElem?_eq_getElem hlt
   replace hx := hx j _ hj
   have HJ := z0j hj
   clear hj
   generalize fs[j] = y at hx HJ
   have gl : (zag want (fs.take j)).length ≤ fs.length := Nat.le_trans (List.length_filter_le _ _) (by rw [List.length_take]; omega)
   have sl : (zaf want (fs.take j)).length ≤ fs.length := Nat.le_trans (List.length_filter_le _ _) (by rw [List.length_take]; omega)
   have sm1 : (zag want (fs.take j)).length + 1 ≤ maxLen := by unfold maxLen; omega
   have sm2 : ((zag want (fs.take j)).length + 1) * 16 ≤ 140737488355328 := by omega
   have sm3 : (zaf want (fs.take j)).length + 1 ≤ maxLen := by unfold maxLen; omega
   have sm4 : ((zaf want (fs.take j)).length + 1) * 16 ≤ 140737488355328 := by omega
   clear gl sl
   by_cases hw : want ≤ y.o
   ·have HG := z0j (ziP HJ.out hw)
    obtain ⟨yp, yo⟩ := y
    simp only [blV] at hx
    have HX := z0j hx
    have e1 : (0 : Int) ≤ (j : Int) := by omega
    have e2 : (j : Int) < (fs.length : Int) := by omega
    have e3 : decide (want ≤ yo) = true := decide_eq_true hw
    clear hx hw
    go_wp2_with (first | go_skip | ((first | ((refine zf _ rfl ?_); refine lZ hp rfl (by with_reducible first | exact z6 | exact zbX) ?_; clear hp; intro b w1 hp) | ((refine zi _ _ rfl ?_); refine lB hp rfl (za rfl) rfl ?_; clear hp; intro b w1 hp) | ((refine ze _ _ rfl ?_); first | refine lO hp rfl (za rfl) znw zn ?_ | refine lA hp rfl (za rfl) (by with_reducible first | exact zw | exact zaH) zn ?_ | refine lR hp rfl (za rfl) (by with_reducible first | exact zw | exact zaH) HX.out ?_) | ((refine zd _ _ _ rfl ?_); (first | refine sO hp rfl (za rfl) Zj zn ?_ | refine sA hp rfl (za rfl) (za rfl) (by with_reducible first | exact zw | exact zaH) zn ?_ | refine sG hp rfl (za rfl) (za rfl) (by with_reducible first | exact zw | exact zaH) zn ?_); clear hp; intro w1 hp; simp only [spl, z0a, z0b] at hp) | ((refine zk _ _ _ rfl ?_); refine lS hp rfl (by intro w; go_simp; rfl) ?_; clear hp; intro b w1 hp; simp only [z0g, z0h, Nat.reduceAdd] at hp)); simp only [zc, zb, z0b, z0a]))
    refine zh [_, _, _] (zv.three hp.drew at0 at1 at2) [12] [(0, true), (1, true), (2, true), (3, true), (4, true), (5, true), (6, true), (7, true), (8, false), (9, false), (10, true), (11, true), (12, false)] (by kernel_rfl) (by kernel_rfl) rfl (by kernel_rfl) (fun _ _ d _ _ h => by cases d <;> exact h) ?_
    replace hp := hp.drew
    repeat' (with_reducible refine zx ?_); first | (with_reducible refine zq ?_) | ((with_reducible refine zE ?_); refine zu rfl ?_; (first | ((with_reducible refine zW _ _ rfl ?_); first | refine tA rfl (za rfl) zw aa5 ?_ | refine tO rfl (za rfl) (by with_reducible first | exact Zj | exact zhg) aa5 ?_) | refine tG (fun w _ => (by go_simp; try rfl)) ?_); try simp only [zc, zb, zj, zg, z0b, z0a, z0d, z0c, zl]) | (refine zC rfl (fun K hK => ?_); go_wp2_with (first | ((refine zJ _ _ 62 rfl ?_); refine zK (K := [_, _, _, _]) (R := RQ) (M := RS) hp _ _ _ rfl wy i0 _ 16 Tryz.underlying62 hi0 hz0 hz1 hz2 rfl (by decide) (za rfl) HRQ.out 1 1 (za rfl) (by rfl) (by decide) (by rfl) sm1 sm2 ?_; clear hp HRQ; intro v' R' w1 hr hp; have HRQ := z0j hr; obtain ⟨g', cap', rfl, hc1, hc2, rfl⟩ := hr.cons; simp only [z0f, z0e] at hp; simp only [zc, zb, z0b, z0a]) | go_skip | ((first | ((refine zd _ _ _ rfl ?_); (first | refine sO hp rfl (za rfl) Zj zn ?_ | refine sA hp rfl (za rfl) (za rfl) (by with_reducible first | exact zw | exact zaH) zn ?_ | refine sG hp rfl (za rfl) (za rfl) (by with_reducible first | exact zw | exact zaH) zn ?_); clear hp; intro w1 hp; simp only [spl, z0a, z0b] at hp) | ((refine zk _ _ _ rfl ?_); refine lS hp rfl (by intro w; go_simp; rfl) ?_; clear hp; intro b w1 hp; simp only [z0g, z0h, Nat.reduceAdd] at hp)); simp only [zc, zb, z0b, z0a])); (first | refine hK.out _ _ (.inl rfl) ?_ | refine hK.out _ _ (.inr (zv.three hp aa5 aa5 aa5)) ?_); clear hK K; try simp only [zc, zb, zj, zg, z0b, z0a, z0d, z0c, zl])
    go_wp2_with fail
    go_roundg (gk - 1)
    case measure => omega
    case rel => exact ⟨j + 1, _, _, RS, by omega, by go_num, z0j (by rw [HG.out.1, List.length_append, List.flatMap_append]; exact HRQ.out), z0j (by rw [HG.out.2]; exact HRS.out), hp.tail⟩
   ·have HG := z0j (ziO HJ.out hw)
    obtain ⟨yp, yo⟩ := y
    simp only [blV] at hx
    have HX := z0j hx
    have e1 : (0 : Int) ≤ (j : Int) := by omega
    have e2 : (j : Int) < (fs.length : Int) := by omega
    have e3 : decide (want ≤ yo) = false := decide_eq_false hw
    clear hx hw
    go_wp2_with (first | ((refine zJ _ _ 62 rfl ?_); refine zK (K := [_, _, _, _]) (R := RS) (M := RQ) (hp.reorder (List.Perm.cons _ (List.Perm.cons _ (List.Perm.cons _ (List.Perm.cons _ (List.Perm.cons _ List.perm_append_comm)))))) _ _ _ rfl wy i0 _ 16 Tryz.underlying62 hi0 hz0 hz1 hz2 rfl (by decide) (za rfl) HRS.out 1 1 (za rfl) (by rfl) (by decide) (by rfl) sm3 sm4 ?_; clear hp HRS; intro v' R' w1 hr hp; have HRS := z0j hr; clear hr; simp only [z0f, z0e] at hp; simp only [zc, zb, z0b, z0a]) | go_skip | ((first | ((refine zf _ rfl ?_); refine lZ hp rfl (by with_reducible first | exact z6 | exact zbX) ?_; clear hp; intro b w1 hp) | ((refine zi _ _ rfl ?_); refine lB hp rfl (za rfl) rfl ?_; clear hp; intro b w1 hp) | ((refine ze _ _ rfl ?_); first | refine lO hp rfl (za rfl) znw zn ?_ | refine lA hp rfl (za rfl) (by with_reducible first | exact zw | exact zaH) zn ?_ | refine lR hp rfl (za rfl) (by with_reducible first | exact zw | exact zaH) HX.out ?_) | ((refine zd _ _ _ rfl ?_); (first | refine sO hp rfl (za rfl) Zj zn ?_ | refine sA hp rfl (za rfl) (za rfl) (by with_reducible first | exact zw | exact zaH) zn ?_ | refine sG hp rfl (za rfl) (za rfl) (by with_reducible first | exact zw | exact zaH) zn ?_); clear hp; intro w1 hp; simp only [spl, z0a, z0b] at hp) | ((refine zk _ _ _ rfl ?_); refine lS hp rfl (by intro w; go_simp; rfl) ?_; clear hp; intro b w1 hp; simp only [z0g, z0h, Nat.reduceAdd] at hp)); simp only [zc, zb, z0b, z0a]))
    go_roundg (gk - 1)
    case measure => omega
    case rel => exact ⟨j + 1, vq, RQ, _, by omega, by go_num, z0j (by rw [HG.out.2]; exact HRQ.out), z0j (by rw [HG.out.1, List.length_append, List.flatMap_append]; exact HRS.out), (hp.tail).reorder (List.Perm.cons _ (List.Perm.cons _ (List.Perm.cons _ List.perm_append_comm)))⟩
  ·have e2 : decide ((j : Int) < (fs.length : Int)) = false := by simp; omega
   rw [List.take_of_length_le (by omega)] at HRQ HRS
   obtain ⟨n, hn⟩ : ∃ n, (zag want fs).length = n + 1 := ⟨(zag want fs).length - 1, by omega⟩
   have hrq := HRQ.out
   rw [hn] at hrq
   obtain ⟨g', cap', rfl, hc1, hc2, rfl⟩ := hrq.cons
   rw [← hn] at hp hc1
   have HC := z0j (And.intro hc1 hc2)
   have HLQ : Hid ((zag want fs).length ≤ 2000) := z0j (Nat.le_trans (List.length_filter_le _ _) (by omega))
   clear hrq hc1 hc2 hn hsome
   go_wp2_with (first | (go_at_call 260; (with_reducible refine (zrf (zt5 hp) HLQ.out).mono ?_); clear hp; rintro e w1 ⟨rfl, l2, hq, hperm2, hheap⟩; have hp := ztP hq; clear hq) | go_skip | ((first | ((refine zf _ rfl ?_); refine lZ hp rfl (by with_reducible first | exact z6 | exact zbX) ?_; clear hp; intro b w1 hp) | ((refine zi _ _ rfl ?_); refine lB hp rfl (za rfl) rfl ?_; clear hp; intro b w1 hp) | ((refine ze _ _ rfl ?_); first | refine lO hp rfl (za rfl) znw zn ?_ | refine lA hp rfl (za rfl) (by with_reducible first | exact zw | exact zaH) zn ?_) | ((refine zd _ _ _ rfl ?_); (first | refine sO hp rfl (za rfl) Zj zn ?_ | refine sA hp rfl (za rfl) (za rfl) (by with_reducible first | exact zw | exact zaH) zn ?_ | refine sG hp rfl (za rfl) (za rfl) (by with_reducible first | exact zw | exact zaH) zn ?_); clear hp; intro w1 hp; simp only [spl, z0a, z0b] at hp) | ((refine zk _ _ _ rfl ?_); refine lS hp rfl (by intro w; go_simp; rfl) ?_; clear hp; intro b w1 hp; simp only [z0g, z0h, Nat.reduceAdd] at hp)); simp only [zc, zb, z0b, z0a]))
   exact bodyPost_ret (zD (rs := [.cell 4 278, .tmp 5]) Tryz.results237 (.cell rfl (hp.loadAgg zaH at1 0 _ (by rfl) (by rfl)) (.tmp rfl .nil))) rfl
    ⟨bb, g', cap', l2, _, RS, rfl, HRS.out, hp.tail.tail, hperm2, hheap, by rw [hperm2.length_eq]; exact HC.out.1, HC.out.2⟩
open Go.RowKit
theorem zbI {ty : TypeId} {k : Nat} (h : ZM Tryz.prog ty k = true := by with_reducible first | exact zw | exact zaH | exact zrH) : ZM Tryz.prog ty k = true := h
theorem zd4 {ty : TypeId} (h : zF Tryz.prog ty = true := by with_reducible first | exact zm | exact Zt | exact Zj | exact zhg | exact Za) : zF Tryz.prog ty = true := h
def zmB (w : World) (c : Int) (e : Ending) (w' : World) : Prop := e = .returned (.tuple #[.agg #[.int .i64 0, .int .i64 0], .slice none 0 0, .int .i64 c]) ∧ Below w.heap.size w w'
def zs2 (w : World) (want : Int) (fs : List Bl) (e : Ending) (w' : World) : Prop := ∃ (b : Bl) (a : Option Addr) (k : Nat) (R : List Blk) (s : List Bl), e = .returned (.tuple #[.agg #[.int .i64 b.p, .int .i64 want], .slice a s.length k, .int .i64 0]) ∧ zeI want fs b ∧ zkd want fs b s ∧
 zB 146 2 (.slice a s.length k) s.length (s.flatMap blV) R ∧ Hp w.heap.size w w' R
theorem zi8 (order want : Int) (fs : List Bl) (a : Option Addr) (c : Nat) (hl : fs.length ≤ 600) (w : World) (ha : zr w a (fs.flatMap blV)) (h : Zc order fs = false ∨ want < 0 ∨ order < want) : Calls Tryz.prog 195 #[.int .i64 order, .slice a fs.length c, .int .i64 want] w (zmB w 1) := by
 have hp := Hp.start w
 have HA := z0j ha
 clear ha
 have hw : (zfS (Zc order fs) = 1 ∧ True) ∨ (zfS (Zc order fs) = 0 ∧ decide (want < 0) = true) ∨ (zfS (Zc order fs) = 0 ∧ decide (want < 0) = false ∧ decide (order < want) = true) := by
  cases hr : Zc order fs with
  | false => exact .inl ⟨rfl, trivial⟩
  | true =>
   right
   by_cases h1 : want < 0
   ·exact .inl ⟨rfl, decide_eq_true h1⟩
   ·right
    rcases h with h | h | h
    ·rw [hr] at h; cases h
    ·exact absurd h h1
    ·exact ⟨rfl, decide_eq_false h1, decide_eq_true h⟩
 clear h
 rcases hw with ⟨hr, h1⟩ | ⟨hr, h1⟩ | ⟨hr, h1, h2⟩
 all_goals
  have HE := z0j hr
  clear hr
  go_enter Tryz.func195, Tryz.ntmps195
  go_wp2_with (first | (go_at_call 140; (with_reducible refine (zc8 order fs a c hl _ (HA.out.below hp.below)).mono ?_); rintro e w1 ⟨rfl, hb⟩; rw [HE.out]; replace hp := hp.call hb; clear hb) | go_skip | ((first | ((refine zf _ rfl ?_); refine lZ hp rfl (by with_reducible first | exact z6 | exact zbX) ?_; clear hp; intro b w1 hp) | ((refine ze _ _ rfl ?_); first | refine lO hp rfl (za rfl) zd4 zn ?_ | refine lA hp rfl (za rfl) zbI zn ?_) | ((refine zd _ _ _ rfl ?_); (first | refine sO hp rfl (za rfl) zd4 zn ?_ | refine sA hp rfl (za rfl) (za rfl) zbI zn ?_ | refine sG hp rfl (za rfl) (za rfl) zbI zn ?_); clear hp; intro w1 hp; simp only [spl, z0a, z0b] at hp)); simp only [zc, zb, z0b, z0a]))
  exact bodyPost_ret (zD (rs := [.cell 6 146, .tmp 7, .tmp 8]) Tryz.results195 (.cell rfl (hp.loadAgg zw at0 0 _ (by rfl) (by rfl)) (.tmp rfl (.tmp rfl .nil)))) rfl ⟨rfl, hp.below⟩
theorem zid (order want : Int) (fs : List Bl) (a : Option Addr) (c : Nat) (hl : fs.length ≤ 600) (w : World) (ha : zr w a (fs.flatMap blV)) (hr : Zc order fs = true) (h0 : 0 ≤ want) (h1 : want ≤ order) (hg : Z0 fs want = false) : Calls Tryz.prog 195 #[.int .i64 order, .slice a fs.length c, .int .i64 want] w (zmB w 40) := by
 have hp := Hp.start w
 have HA := z0j ha
 have HE : Hid (zfS (Zc order fs) = 0) := z0j (by rw [hr]; rfl)
 have HM : Hid (zfZ order fs want = false) := z0j (by simp [zfZ, hg])
 have e1 : decide (want < 0) = false := by simp; omega
 have e2 : decide (order < want) = false := by simp; omega
 clear ha hr h0 h1 hg
 go_enter Tryz.func195, Tryz.ntmps195
 go_wp2_with (first | (go_at_call 140; (with_reducible refine (zc8 order fs a c hl _ (HA.out.below hp.below)).mono ?_); rintro e w1 ⟨rfl, hb⟩; rw [HE.out]; replace hp := hp.call hb; clear hb) | (go_at_call 236; (with_reducible refine (znp order fs a c hl want _ (HA.out.below hp.below)).mono ?_); rintro e w1 ⟨rfl, hb⟩; rw [HM.out]; replace hp := hp.call hb; clear hb) | go_skip | ((first | ((refine zf _ rfl ?_); refine lZ hp rfl (by with_reducible first | exact z6 | exact zbX) ?_; clear hp; intro b w1 hp) | ((refine ze _ _ rfl ?_); first | refine lO hp rfl (za rfl) zd4 zn ?_ | refine lA hp rfl (za rfl) zbI zn ?_) | ((refine zd _ _ _ rfl ?_); (first | refine sO hp rfl (za rfl) zd4 zn ?_ | refine sA hp rfl (za rfl) (za rfl) zbI zn ?_ | refine sG hp rfl (za rfl) (za rfl) zbI zn ?_); clear hp; intro w1 hp; simp only [spl, z0a, z0b] at hp)); simp only [zc, zb, z0b, z0a]))
 exact bodyPost_ret (zD (rs := [.cell 6 146, .tmp 7, .tmp 8]) Tryz.results195 (.cell rfl (hp.loadAgg zw at0 0 _ (by rfl) (by rfl)) (.tmp rfl (.tmp rfl .nil)))) rfl ⟨rfl, hp.below⟩
theorem zt4 {B : Nat} {w0 w : World} {bb g cap : Nat} {l : List Bl} {M : List Blk} (h : QHp B w0 w bb g cap l M) : Hp B w0 w (⟨bb, [.slice (some ⟨g, 0, none⟩) l.length cap], 284, 1⟩ :: ⟨g, l.flatMap blV, 146, cap * 2⟩ :: M) := h
theorem ztw {B : Nat} {w0 w : World} {x y : Blk} {bb g cap n : Nat} {l : List Bl} {M : List Blk} (hn : n = l.length) (h : Hp B w0 w (x :: y :: ⟨bb, [.slice (some ⟨g, 0, none⟩) n cap], 284, 1⟩ :: ⟨g, l.flatMap blV, 146, cap * 2⟩ :: M)) : QHp B w0 w bb g cap l (x :: y :: M) := by
 subst hn
 unfold QHp
 refine h.reorder ?_
 refine (List.Perm.cons _ ((List.Perm.swap _ _ _).trans (List.Perm.cons _ (List.Perm.swap _ _ _)))).trans ?_
 refine (List.Perm.swap _ _ _).trans (List.Perm.cons _ ?_)
 exact List.Perm.swap _ _ _
theorem zrE {B : Nat} {w0 w : World} {x y : Blk} {bb g cap : Nat} {l : List Bl} {M : List Blk} (h : QHp B w0 w bb g cap l (x :: y :: M)) : Hp B w0 w (x :: y :: ⟨bb, [.slice (some ⟨g, 0, none⟩) l.length cap], 284, 1⟩ :: ⟨g, l.flatMap blV, 146, cap * 2⟩ :: M) := by
 unfold QHp at h
 refine h.reorder (List.Perm.symm ?_)
 refine (List.Perm.cons _ ((List.Perm.swap _ _ _).trans (List.Perm.cons _ (List.Perm.swap _ _ _)))).trans ?_
 refine (List.Perm.swap _ _ _).trans (List.Perm.cons _ ?_)
 exact List.Perm.swap _ _ _
theorem Hp.sub {B : Nat} {w0 w : World} {L L' : List Blk} (hp : Hp B w0 w L) (h : L'.Sublist L) : Hp B w0 w L' :=
 ⟨hp.below, hp.size, (h.map _).nodup hp.nodup, fun p hpL => hp.own p (h.subset hpL)⟩
theorem zhw {od : Int} {fs : List Bl} (h : Zc od fs = true) : 3 ≤ od ∧ od ≤ 8 ∧ zcZ od fs := by
 unfold Zc Zm at h
 simp only [Bool.and_eq_true, decide_eq_true_eq] at h
 exact ⟨h.1.1, h.1.2, h.2⟩
theorem zrT {x y z b r : Blk} {M : List Blk} : (x :: y :: z :: b :: r :: M).Perm (b :: r :: x :: y :: z :: M) := by
 have h1 : (x :: y :: z :: b :: r :: M) = [x, y, z] ++ ([b, r] ++ M) := rfl
 have h2 : (b :: r :: x :: y :: z :: M) = [b, r] ++ ([x, y, z] ++ M) := rfl
 rw [h1, h2, ← List.append_assoc, ← List.append_assoc]
 exact List.perm_append_comm.append_right _
theorem ztz {B : Nat} {w0 w : World} {x y z : Blk} {bb g cap : Nat} {l : List Bl} {M : List Blk} (h : Hp B w0 w (x :: y :: z :: ⟨bb, [.slice (some ⟨g, 0, none⟩) l.length cap], 284, 1⟩ :: ⟨g, l.flatMap blV, 146, cap * 2⟩ :: M)) : QHp B w0 w bb g cap l (x :: y :: z :: M) := h.reorder zrT
theorem zsp {B : Nat} {w0 w : World} {x y z : Blk} {bb g cap : Nat} {l : List Bl} {M : List Blk} (h : QHp B w0 w bb g cap l (x :: y :: z :: M)) : Hp B w0 w (x :: y :: z :: ⟨bb, [.slice (some ⟨g, 0, none⟩) l.length cap], 284, 1⟩ :: ⟨g, l.flatMap blV, 146, cap * 2⟩ :: M) := Hp.reorder h zrT.symm
theorem zmC {B : Nat} {w0 w : World} {x y z : Blk} {bb g cap : Nat} {l : List Bl} {M : List Blk} (hp : Hp B w0 w (x :: y :: z :: ⟨bb, [.slice (some ⟨g, 0, none⟩) l.length cap], 284, 1⟩ :: ⟨g, l.flatMap blV, 146, cap * 2⟩ :: M)) (hl : l.length ≤ 1900) (hcap : l.length ≤ cap ∧ cap ≤ maxLen) (p o : Int) :
  Calls Tryz.prog 239 #[.iface 278 (.agg #[.pointer (some ⟨bb, 0, none⟩)]), .iface 146 (.agg #[.int .i64 p, .int .i64 o])] w (zmW B w0 bb (l ++ [⟨p, o⟩]) (x :: y :: z :: M)) := zo9 (ztz hp) hl hcap.1 hcap.2 ⟨p, o⟩
theorem zsc (want : Int) (l : List Bl) (k : List Bl) : l.flatMap blV ++ k.flatMap blV = (l ++ k).flatMap blV := List.flatMap_append.symm
theorem zsa {x y z b : Blk} {R M : List Blk} : (x :: y :: z :: b :: (R ++ M)).Perm (b :: (R ++ (x :: y :: z :: M))) := by
 have h1 : (x :: y :: z :: b :: (R ++ M)) = [x, y, z] ++ ([b] ++ (R ++ M)) := rfl
 have h2 : (b :: (R ++ (x :: y :: z :: M))) = [b] ++ (R ++ ([x, y, z] ++ M)) := rfl
 rw [h1, h2, ← List.append_assoc, ← List.append_assoc, ← List.append_assoc, ← List.append_assoc]
 exact ((List.perm_append_comm (l₁ := [x, y, z]) (l₂ := [b])).append_right R |>.trans (by rw [List.append_assoc, List.append_assoc]; exact List.perm_append_comm.append_left _)).append_right M
theorem ztp {B : Nat} {w0 w : World} {x y z : Blk} {bb : Nat} {v : Value} {R M : List Blk} (h : Hp B w0 w (x :: y :: z :: ⟨bb, [v], 284, 1⟩ :: (R ++ M))) : Hp B w0 w (⟨bb, [v], 284, 1⟩ :: (R ++ (x :: y :: z :: M))) := h.reorder zsa
theorem zsI {B : Nat} {w0 w : World} {x y z : Blk} {bb : Nat} {v : Value} {R M : List Blk} (h : Hp B w0 w (⟨bb, [v], 284, 1⟩ :: (R ++ (x :: y :: z :: M)))) : Hp B w0 w (x :: y :: z :: ⟨bb, [v], 284, 1⟩ :: (R ++ M)) := h.reorder zsa.symm
theorem zkP (order want : Int) (fs : List Bl) (a : Option Addr) (c : Nat) (hl : fs.length ≤ 600) (w : World) (ha : zr w a (fs.flatMap blV)) (hr : Zc order fs = true) (h0 : 0 ≤ want) (h1 : want ≤ order) (hg : Z0 fs want = true) : Calls Tryz.prog 195 #[.int .i64 order, .slice a fs.length c, .int .i64 want] w (zs2 w want fs) := by
 obtain ⟨i0, hi0, hz0, hz1, hz2⟩ := info_parts zbD
 have hp := Hp.start w
 have HA := z0j ha
 have HE : Hid (zfS (Zc order fs) = 0) := z0j (by rw [hr]; rfl)
 have HM : Hid (zfZ order fs want = true) := z0j (by simp [zfZ, hg, hr, h0, h1])
 have HGP := z0j (zmO hg)
 have HRB := z0j hr
 have e1 : decide (want < 0) = false := by simp; omega
 have e2 : decide (order < want) = false := by simp; omega
 have mkq := zry
 have mkb := zpZ
 have asb := zpP
 clear ha hr hg
 go_enter Tryz.func195, Tryz.ntmps195
 go_wp2_with (first | (go_at_call 140; (with_reducible refine (zc8 order fs a c hl _ (HA.out.below hp.below)).mono ?_); rintro e w1 ⟨rfl, hb⟩; rw [HE.out]; replace hp := hp.call hb; clear hb) | (go_at_call 236; (with_reducible refine (znp order fs a c hl want _ (HA.out.below hp.below)).mono ?_); rintro e w1 ⟨rfl, hb⟩; rw [HM.out]; replace hp := hp.call hb; clear hb) | (go_at_call 237; (with_reducible refine (zmN fs a c (by omega) want HGP.out _ (HA.out.below hp.below)).mono ?_); rintro e w1 ⟨bb, g, cap, l1, vs, RS, rfl, hos, hq, hperm, hheap, hc1, hc2⟩; replace hp := hp.join (zt4 hq); have HQ := z0j (And.intro hos (And.intro hperm (And.intro hheap (And.intro hc1 hc2)))); have HLQ : Hid (l1.length ≤ 2000) := z0j (by rw [hperm.length_eq]; have := zfG want fs; omega); have HPQ : Hid (0 < l1.length) := z0j (by rw [hperm.length_eq]; exact HGP.out); have HCQ := z0j hc1; have HLT := z0j (zoE hperm hheap HPQ.out); clear hos hq hperm hheap hc1 hc2; simp only [z0f, z0e] at hp) | (go_at_call 238; (with_reducible refine (zqG (ztw rfl hp) HLQ.out HPQ.out HCQ.out).mono ?_); clear hp; rintro e w1 ⟨l2, rfl, hq, hperm⟩; have hp := zrE hq; have HPP := z0j hperm; clear hq hperm) | go_skip | ((first | ((refine zf _ rfl ?_); refine lZ hp rfl (by with_reducible first | exact z6 | exact zbX) ?_; clear hp; intro b w1 hp) | ((refine ze _ _ rfl ?_); first | refine lO hp rfl (za rfl) zd4 zn ?_ | refine lA hp rfl (za rfl) zbI zn ?_) | ((refine zd _ _ _ rfl ?_); (first | refine sO hp rfl (za rfl) zd4 zn ?_ | refine sA hp rfl (za rfl) (za rfl) zbI zn ?_ | refine sG hp rfl (za rfl) (za rfl) zbI zn ?_); clear hp; intro w1 hp; simp only [spl, z0a, z0b] at hp)); simp only [zc, zb, z0b, z0a]))
 obtain ⟨b11, rfl⟩ := hp.id0
 obtain ⟨b9, rfl⟩ := hp.id1
 obtain ⟨b6, rfl⟩ := hp.id2
 obtain ⟨hos, hperm, hheap, hc1, hc2⟩ := HQ.out
 have hsp := zb8.start hperm HPP.out
 have hcl : l2.length ≤ cap := by have := HPP.out.length_eq; simp at this; omega
 have hlt := HLT.out
 generalize gB l1 0 = bt at hp hsp hlt ⊢
 have HSP := z0j hsp
 have HLE := z0j hlt
 have HCC := z0j (And.intro hcl hc2)
 have HOS := z0j hos
 obtain ⟨g3, g8, hgood⟩ := zhw HRB.out
 obtain ⟨ii, hii, hbe⟩ := List.getElem_of_mem hlt.mem
 have hmay := (hgood ii _ (List.getElem?_eq_getElem hii)).1
 rw [hbe] at hmay
 have hwo := hlt.great
 obtain ⟨tp, to⟩ := bt
 obtain ⟨m1, m2, m3, m4, m5, m6⟩ := zcR g8 hmay
 simp only at hwo
 obtain ⟨N, hN⟩ : ∃ N : Nat, N = (to - want).toNat := ⟨_, rfl⟩
 have HN := z0j hN
 have HNI : Hid ((N : Int) = to - want) := z0j (by omega)
 have HMM := z0j (And.intro m1 (And.intro m3 (And.intro m4 m6)))
 clear hos hperm hheap hc1 hc2 hsp hcl hlt HLT HPP HQ HLQ HPQ HCQ hgood hii hbe hmay hwo m1 m2 m3 m4 m5 m6 hN g3 g8
 go_loopg [] N (fun k wr => ∃ (i : Nat) (co : Int) (g cap : Nat) (l2 : List Bl), k + i = N ∧ Hid (co = to - i) ∧ Hid (zb8 want fs ⟨tp, to⟩ i l2) ∧ Hid (l2.length ≤ cap ∧ cap ≤ maxLen) ∧
  Hp w.heap.size w wr (⟨b11, [.int .i64 tp, .int .i64 co], 146, 2⟩ :: ⟨b9, [.pointer (some ⟨bb, 0, none⟩)], 278, 1⟩ :: ⟨b6, [.int .i64 0, .int .i64 0], 146, 2⟩ :: ⟨bb, [.slice (some ⟨g, 0, none⟩) l2.length cap], 284, 1⟩ :: ⟨g, l2.flatMap blV, 146, cap * 2⟩ :: RS))
 case atStart => exact ⟨0, to, g, cap, l2, by omega, z0j (by simp), HSP, HCC, hp⟩
 case round =>
  clear hp HSP HCC
  obtain ⟨i, co, g, cap, l2, hki, HCO, HSP, HCC, hp⟩ := hrel
  by_cases hlt : want < co
  ·obtain ⟨nco, hnco⟩ : ∃ n : Int, n = co - 1 := ⟨_, rfl⟩
   have hco := HCO.out
   obtain ⟨m1, m3, m4, m6⟩ := HMM.out
   have h0n : 0 ≤ nco := by omega
   have h8n : nco ≤ 8 := by omega
   have hpw := zdL h8n
   have hpp := zV nco
   obtain ⟨q, hq⟩ : ∃ q : Int, q = tp + pw nco := ⟨_, rfl⟩
   have ew1 : wrap64 (co - 1) = nco := by rw [IntWalk.wrap64_in _ ⟨by omega, by omega⟩]; omega
   have ew2 : wrap64 (tp + pw nco) = q := by rw [IntWalk.wrap64_in _ ⟨by omega, by have := zV to; omega⟩]; omega
   have e3 : decide (want < co) = true := decide_eq_true hlt
   have HST : Hid (q = tp + pw (to - i - 1) ∧ nco = to - i - 1) := z0j (by rw [hq, hnco, hco]; exact ⟨rfl, rfl⟩)
   have HL2 : Hid (l2.length ≤ 1900) := z0j (by have h1 := HSP.out.len; have h2 := zfG want fs; have := HNI.out; omega)
   have HCN : Hid (nco = to - ((i + 1 : Nat) : Int)) := z0j (by omega)
   have HKI := z0j hki
   have EW1 := z0j ew1
   have HGK : Hid (0 < gk) := z0j (by have := HNI.out; omega)
   clear hnco hq hpw hpp hlt hco m1 m3 m4 m6 hki
   go_wp2_with (first | go_skip | ((first | ((refine zf _ rfl ?_); refine lZ hp rfl (by with_reducible first | exact z6 | exact zbX) ?_; clear hp; intro b w1 hp) | ((refine ze _ _ rfl ?_); first | refine lO hp rfl (za rfl) zd4 zn ?_ | refine lA hp rfl (za rfl) zbI zn ?_) | ((refine zd _ _ _ rfl ?_); (first | refine sO hp rfl (za rfl) zd4 zn ?_ | refine sA hp rfl (za rfl) (za rfl) zbI zn ?_ | refine sG hp rfl (za rfl) (za rfl) zbI zn ?_); clear hp; intro w1 hp; simp only [spl, z0a, z0b] at hp)); simp only [zc, zb, z0b, z0a]))
   refine zh [_, _] (zv.two hp.drew at0 at1) [] [(0, true), (1, true), (2, true), (3, true), (4, true), (5, true), (8, true), (9, true), (6, false), (7, true), (10, true), (11, true), (12, false)] (by kernel_rfl) (by kernel_rfl) rfl (by kernel_rfl) (fun _ _ d _ _ h => by cases d <;> exact h) ?_
   replace hp := hp.drew
   repeat' (with_reducible refine zx ?_); first | (with_reducible refine zq ?_) | ((with_reducible refine zE ?_); refine zu rfl ?_; (first | ((with_reducible refine zW _ _ rfl ?_); first | refine tA rfl (za rfl) zaH aa5 ?_ | refine tO rfl (za rfl) zm aa5 ?_) | refine tG (fun w _ => (by go_simp; try rfl)) ?_); try simp only [zc, zb, zj, zg, z0b, z0a, z0d, z0c, zl]) | (refine zC rfl (fun K hK => ?_); go_wp2_with (first | (go_at_call 142; (with_reducible refine (ZR _ h0n h8n _).mono ?_); rintro e w' ⟨rfl, rfl⟩) | (go_at_call 239; (with_reducible refine (zmC hp HL2.out HCC.out _ _).mono ?_); clear hp; rintro e w1 ⟨rfl, g', cap', l3, hq, hperm, hc1, hc2⟩; have hp := zsp hq; have HPM := z0j hperm; have HCC' := z0j (And.intro hc1 hc2); clear hq hperm hc1 hc2) | go_skip); (refine hK.out _ _ (.inr (zv.two hp aa5 aa5)) ?_); clear hK K; try simp only [zc, zb, zj, zg, z0b, z0a, z0d, z0c, zl])
   go_wp2_with fail
   go_roundg (gk - 1)
   case measure => have := HGK.out; omega
   case rel => exact ⟨i + 1, nco, g', cap', l3, by have := HKI.out; have := HGK.out; omega, HCN, z0j (HSP.out.step (by have h := HPM.out; rw [HST.out.1, HST.out.2] at h; exact h)), HCC', by have h := hp; rw [EW1.out] at h; exact h⟩
  ·have e3 : decide (want < co) = false := decide_eq_false hlt
   have hiN : i = N := by have := HCO.out; have := HNI.out; omega
   have HCW : Hid (co = want) := z0j (by have := HCO.out; have := HNI.out; omega)
   have HIN : Hid (i = (to - want).toNat) := z0j (by rw [hiN, HN.out])
   have HR : Hid (zB 146 2 (.slice (some ⟨g, 0, none⟩) l2.length cap) l2.length (l2.flatMap blV) [⟨g, l2.flatMap blV, 146, cap * 2⟩]) := z0j ⟨zbb l2, .inr ⟨g, cap, rfl, HCC.out.1, HCC.out.2, rfl⟩⟩
   obtain ⟨av, kv, rfl, KV⟩ := HOS.out.kept
   have hlen := HSP.out.len
   have hg1 := zfG want fs
   have hs1 := zms want fs
   have hni := HNI.out
   obtain ⟨m1, m3, m4, m6⟩ := HMM.out
   have sm1 : l2.length + (zaf want fs).length ≤ maxLen := by unfold maxLen; omega
   have sm2 : (l2.length + (zaf want fs).length) * 16 ≤ 140737488355328 := by omega
   have HLS : Hid ((l2 ++ zaf want fs).length ≤ 5000) := z0j (by rw [List.length_append]; omega)
   clear hlen hg1 hs1 hni m1 m3 m4 m6 hlt hiN hki
   go_wp2_with (first | go_skip | ((first | ((refine zf _ rfl ?_); refine lZ hp rfl (by with_reducible first | exact z6 | exact zbX) ?_; clear hp; intro b w1 hp) | ((refine ze _ _ rfl ?_); first | refine lO hp rfl (za rfl) zd4 zn ?_ | refine lA hp rfl (za rfl) zbI zn ?_) | ((refine zd _ _ _ rfl ?_); (first | refine sO hp rfl (za rfl) zd4 zn ?_ | refine sA hp rfl (za rfl) (za rfl) zbI zn ?_ | refine sG hp rfl (za rfl) (za rfl) zbI zn ?_); clear hp; intro w1 hp; simp only [spl, z0a, z0b] at hp)); simp only [zc, zb, z0b, z0a]))
   refine zh [_, _] (zv.two hp.drew at1 at3) [11] [(0, true), (1, true), (2, true), (3, true), (4, true), (5, true), (6, true), (7, true), (8, false), (9, true), (10, true), (11, false)] (by kernel_rfl) (by kernel_rfl) rfl (by kernel_rfl) (fun _ _ d _ _ h => by cases d <;> exact h) ?_
   replace hp := hp.drew
   repeat' (with_reducible refine zx ?_); first | (with_reducible refine zq ?_) | ((with_reducible refine zE ?_); refine zu rfl ?_; (first | ((with_reducible refine zT _ rfl ?_); refine tM rfl ?_) | ((with_reducible refine zW _ _ rfl ?_); refine tO rfl (za rfl) (by with_reducible first | exact Zj | exact zhg) aa5 ?_) | refine tG (fun w _ => (by go_simp; try rfl)) ?_); try simp only [zc, zb, zj, zg, z0b, z0a, z0d, z0c, zl]) | (refine zC rfl (fun K hK => ?_); go_wp2_with (first | ((refine zJ _ _ 62 rfl ?_); refine zR (K := [_, _, _, _]) (R := [_]) (M := RS) hp _ _ _ rfl wy i0 _ 16 Tryz.underlying62 hi0 hz0 hz1 hz2 rfl (by decide) (za rfl) HR.out av (zaf want fs).length kv (za rfl) _ (zbb _) (KV.at hp (by intro p hp2; simp [hp2])) (zfy _) sm1 sm2 ?_; clear hp HR; intro v' R' w1 hr hp; obtain ⟨a2, k2, rfl, _⟩ := hr.kept; rw [zsc want] at hr; have HR : Hid (zB 146 2 (.slice a2 (l2.length + (zaf want fs).length) k2) (l2 ++ zaf want fs).length ((l2 ++ zaf want fs).flatMap blV) R') := z0j (by rw [List.length_append]; exact hr); clear hr; simp only [z0f, z0e] at hp; simp only [zc, zb, z0b, z0a]) | go_skip | (((refine zd _ _ _ rfl ?_); (first | refine sO hp rfl (za rfl) zd4 zn ?_ | refine sA hp rfl (za rfl) (za rfl) zbI zn ?_ | refine sG hp rfl (za rfl) (za rfl) zbI zn ?_); clear hp; intro w1 hp; simp only [spl, z0a, z0b] at hp); simp only [zc, zb, z0b, z0a])); (first | refine hK.out _ _ (.inl rfl) ?_ | refine hK.out _ _ (.inr (zv.two hp aa5 aa5)) ?_); clear hK K; try simp only [zc, zb, zj, zg, z0b, z0a, z0d, z0c, zl])
   go_wp2_with (first | go_skip | ((first | ((refine zf _ rfl ?_); refine lZ hp rfl (by with_reducible first | exact z6 | exact zbX) ?_; clear hp; intro b w1 hp) | ((refine ze _ _ rfl ?_); first | refine lO hp rfl (za rfl) zd4 zn ?_ | refine lA hp rfl (za rfl) zbI zn ?_) | ((refine zd _ _ _ rfl ?_); (first | refine sO hp rfl (za rfl) zd4 zn ?_ | refine sA hp rfl (za rfl) (za rfl) zbI zn ?_ | refine sG hp rfl (za rfl) (za rfl) zbI zn ?_); clear hp; intro w1 hp; simp only [spl, z0a, z0b] at hp)); simp only [zc, zb, z0b, z0a]))
   refine zh [_, _] (zv.two hp.drew at0 at1) [4, 5, 6] [(0, true), (1, true), (2, true), (3, false), (4, false), (5, false), (6, false)] (by kernel_rfl) (by kernel_rfl) rfl (by kernel_rfl) (fun _ _ d _ _ h => by cases d <;> exact h) ?_
   replace hp := hp.drew
   repeat' (with_reducible refine zx ?_); first | (with_reducible refine zq ?_) | ((with_reducible refine zE ?_); refine zu rfl ?_; (first | ((with_reducible refine zT _ rfl ?_); refine tM rfl ?_) | ((with_reducible refine zW _ _ rfl ?_); refine tA rfl (za rfl) (by with_reducible first | exact zw | exact zaH) aa5 ?_) | refine tG (fun w _ => (by go_simp; try rfl)) ?_); try simp only [zc, zb, zj, zg, z0b, z0a, z0d, z0c, zl]) | (refine zC rfl (fun K hK => ?_); go_wp2_with (first | (go_at_call 240; (with_reducible refine (zrv (ztp hp) HR.out HLS.out).mono ?_); clear hp; rintro e w1 ⟨s, R2, rfl, hr2, hq, hperm, hsort⟩; have hp := zsI hq; have HR2 := z0j (And.intro hr2 (And.intro hperm hsort)); clear hq hr2 hperm hsort) | go_skip | (((refine zd _ _ _ rfl ?_); (first | refine sO hp rfl (za rfl) zd4 zn ?_ | refine sA hp rfl (za rfl) (za rfl) zbI zn ?_ | refine sG hp rfl (za rfl) (za rfl) zbI zn ?_); clear hp; intro w1 hp; simp only [spl, z0a, z0b] at hp); simp only [zc, zb, z0b, z0a])); (first | refine hK.out _ _ (.inl rfl) ?_ | refine hK.out _ _ (.inr (zv.two hp aa5 aa5)) ?_); clear hK K; try simp only [zc, zb, zj, zg, z0b, z0a, z0d, z0c, zl])
   go_wp2_with fail
   obtain ⟨hr2, hperm, hsort⟩ := HR2.out
   have hsl : s.length = l2.length + (zaf want fs).length := by rw [hperm.length_eq, List.length_append]
   refine bodyPost_ret (zD (rs := [.cell 6 146, .tmp 7, .tmp 8]) Tryz.results195 (.cell rfl (hp.loadAgg zw at2 0 _ (by rfl) (by rfl)) (.tmp rfl (.tmp rfl .nil)))) rfl ⟨⟨tp, to⟩, a2, k2, R2, s, ?_, HLE.out, ?_, ?_, ?_⟩
   ·rw [hsl, HCW.out]; rfl
   ·have h := HSP.out
    rw [HIN.out] at h
    exact h.done hperm hsort
   ·rw [hsl]; rw [List.length_append] at hr2; exact hr2
   ·exact hp.tail.tail.tail.tail.sub (List.sublist_append_left _ _)
end Go.Proofs.YtjcbpfbifbfkcaaGreat
