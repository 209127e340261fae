import Derived.Shelf.SlSortCmp.WholeK
import Derived.Test.YtjcbpfbifbfkcaaGreatOaQA
import Derived.Shelf.SlLaysF0
import Derived.Test.YtjcbpfbifbfkcaaGreatRows
import Derived.Test.YtjcbpfbifbfkcaaGreatOaQB
import Derived.Shelf.SlSortCmp.NoneTotal
import Derived.Shelf.Abstract
/- Texts merged: base:Srt lay_YtjcbpfbifbfkcaaGreat:KLay buddy:BSort buddy:TS buddy:TQ buddy:THS buddy:TH buddy:TI buddy:TKS buddy:TJ buddy:TK. -/
set_option linter.unusedSimpArgs false
set_option linter.unusedVariables false
namespace Go.Proofs.YtjcbpfbifbfkcaaGreat
open Go.RowKit Go.Lib Go.Shelf Go.Sort
theorem Hp.setCells {B : Nat} {w0 : World} {b : Nat} {t : TypeId} {n : Nat} {L : List Blk} (vs : List Value) : ∀ (w : World) (off : Nat) (l : List Value), Hp B w0 w (⟨b, l, t, n⟩ :: L) →
    Hp B w0 (w.setCells b off vs) (⟨b, spl l off vs, t, n⟩ :: L) := by
  induction vs with
  | nil => intro w off l h; exact h
  | cons v vs ih =>
    intro w off l h
    rw [World.setCells]
    have h1 := h.setCell (i := 0) rfl off v
    exact ih _ _ _ h1
theorem setMany_all (F G : Array Value) (h : F.size = G.size) : setMany F 0 G.toList = G := by
  refine ext_get! (by simp [h]) fun t ht => ?_
  have ht' : t < G.size := by simpa [h] using ht
  rw [get_setMany _ _ _ t (by omega), if_pos (by simp [ht'])]
  simp [ht']
theorem flat_list {α : Type} [Inhabited α] (enc : α → List Value) (k : Nat) (hk : ∀ x, (enc x).length = k) (d : Array α) : (flatK enc k d).toList = d.toList.flatMap enc := by
  have hlen : (d.toList.flatMap enc).length = d.size * k := by rw [flat_len enc k hk]; simp
  apply List.ext_getElem?
  intro j
  rcases Nat.lt_or_ge j (d.size * k) with hj | hj
  · have k0 : 0 < k := by rcases Nat.eq_zero_or_pos k with h | h; · subst h; simp at hj
                          · exact h
    have h1 : j / k < d.size := by rw [Nat.div_lt_iff_lt_mul k0]; exact hj
    have h2 : j % k < k := Nat.mod_lt _ k0
    have e1 : d.toList[j / k]? = some d[j / k]! := by rw [getElem!_pos d _ h1]; simp [h1]
    have e2 : (enc d[j / k]!)[j % k]? = some (enc d[j / k]!)[j % k]! := by
      have h3 : j % k < (enc d[j / k]!).length := by rw [hk]; exact h2
      rw [getElem!_pos (enc d[j / k]!) (j % k) h3]; exact List.getElem?_eq_getElem _
    have := flat_get enc k hk d.toList (j / k) (j % k) _ _ e1 e2
    rw [Nat.mul_comm, Nat.div_add_mod] at this
    rw [this, ← get_flatK enc k d j hj, getElem!_pos _ j (by simpa using hj)]
    simp [hj]
  · rw [List.getElem?_eq_none (by simpa using hj), List.getElem?_eq_none (by omega)]
theorem Hp.holdsK {α : Type} [Inhabited α] {enc : α → List Value} {k : Nat} (hk : ∀ x, (enc x).length = k) {d : Array α} {B : Nat} {w0 w : World} {b : Nat} {t : TypeId} {n : Nat} {L : List Blk} (hp : Hp B w0 w (⟨b, d.toList.flatMap enc, t, n⟩ :: L)) :
    HoldsK enc k w b 0 d := by
  intro j hj
  have hl : (d.toList.flatMap enc)[j]? = some (id (flatK enc k d)[j]!) := by
    rw [← flat_list enc k hk d, getElem!_pos _ j hj]; simp [id]
  rw [Nat.zero_add]
  exact ⟨hp.cell (i := 0) rfl hl, hp.free (i := 0) rfl _⟩
theorem Hp.sorted {α : Type} [Inhabited α] {enc : α → List Value} {k : Nat} (hk : ∀ x, (enc x).length = k) {d d' : Array α} {B : Nat} {w0 w : World} {b : Nat} {t : TypeId} {n m : Nat} {os : Array Obj} {L : List Blk} (hp : Hp B w0 w (⟨b, d.toList.flatMap enc, t, n⟩ :: L)) (hs : d'.size = d.size) :
    Hp B w0 (sortWorldK enc k w b 0 m d' os) (⟨b, d'.toList.flatMap enc, t, n⟩ :: L) := by
  have h1 : Hp B w0 (Sort.ahead w m) (⟨b, d.toList.flatMap enc, t, n⟩ :: L) := hp.drewN m
  have h2 := Hp.holdsK hk h1
  have e : putRowK enc k (Sort.ahead w m) b 0 d' = (Sort.ahead w m).setCells b 0 (d'.toList.flatMap enc) := by
    have h3 := setCells_putRow (Sort.ahead w m) b 0 (flatK enc k d').toList 0 (flatK enc k d) (by simp [hs])
    rw [putRow_self id _ b 0 _ h2, setMany_all _ _ (by simp [hs]), flat_list enc k hk d'] at h3
    exact h3.symm
  have h4 := Hp.setCells (d'.toList.flatMap enc) _ 0 _ h1
  rw [spl_all _ _ (by rw [flat_len enc k hk, flat_len enc k hk]; simp [hs]), ← e] at h4
  unfold sortWorldK
  refine h4.call ⟨rfl, rfl, rfl, by simp, fun k hk => ?_⟩
  show (_ ++ os)[k]? = _
  rw [Array.getElem?_append_left hk]
theorem perm_whole {α : Type} [Inhabited α] {d d' : Array α} (h : PermIn 0 d.size d d') : d'.size = d.size ∧ d'.toList.Perm d.toList := by
  obtain ⟨h1, _, h2⟩ := h
  refine ⟨h1, ?_⟩
  have e1 : d'.extract 0 d.size = d' := by rw [← h1]; simp
  rw [e1] at h2
  simpa using h2
theorem sorted_whole {α : Type} [Inhabited α] {lt : α → α → Bool} {d : Array α} {n : Nat} (hn : d.size = n) (h : SortedIn lt 0 n d) : d.toList.Pairwise fun x y => lt y x = false := by
  rw [List.pairwise_iff_getElem]
  intro i j hi hj hij
  have := h i j (Nat.zero_le _) hij (by simpa [hn] using hj)
  have hi' : i < d.size := by simpa using hi
  have hj' : j < d.size := by simpa using hj
  rw [getElem!_pos d i hi', getElem!_pos d j hj'] at this
  simpa using this
end Go.Proofs.YtjcbpfbifbfkcaaGreat
namespace Go.Proofs.YtjcbpfbifbfkcaaGreat
open Go.Shelf Go.Proofs
def sortBlLays_ren : Go.Shelf.Ren := ⟨fun | 6 => 145 | 15 => 192 | 14 => 191 | 28 => 232 | 29 => 233 | 20 => 224 | 21 => 225 | 22 => 226 | 23 => 227 | 24 => 228 | 25 => 229 | 26 => 230 | 27 => 231 | 46 => 253 | 47 => 254 | 48 => 255 | 49 => 256 | 50 => 257 | 57 => 277 | n => n, fun | 22 => 62 | 24 => 146 | 25 => 202 | 3 => 3 | 39 => 226 | 0 => 0 | 53 => 271 | 55 => 210 | 4 => 4 | 46 => 265 | 45 => 264 | 50 => 159 | 5 => 5 | 9 => 9 | 66 => 297 | 70 => 208 | 76 => 320 | 77 => 321 | n => n, fun | n => n⟩
theorem sortBlLays : Go.Proofs.SlLaysF0.n6 Tryz.prog sortBlLays_ren := {
  mixed := by kernel_rfl
  f6 := ⟨Tryz.f145.name, by decide, Tryz.func145.trans (congrArg some (by kernel_rfl))⟩
  f14 := ⟨Tryz.f191.name, by decide, Tryz.func191.trans (congrArg some (by kernel_rfl))⟩
  f15 := Tryz.func192.trans (congrArg some (by kernel_rfl))
  f20 := ⟨Tryz.f224.name, by decide, Tryz.func224.trans (congrArg some (by kernel_rfl))⟩
  f21 := ⟨Tryz.f225.name, by decide, Tryz.func225.trans (congrArg some (by kernel_rfl))⟩
  f22 := ⟨Tryz.f226.name, by decide, Tryz.func226.trans (congrArg some (by kernel_rfl))⟩
  f23 := ⟨Tryz.f227.name, by decide, Tryz.func227.trans (congrArg some (by kernel_rfl))⟩
  f24 := ⟨Tryz.f228.name, by decide, Tryz.func228.trans (congrArg some (by kernel_rfl))⟩
  f25 := ⟨Tryz.f229.name, by decide, Tryz.func229.trans (congrArg some (by kernel_rfl))⟩
  f26 := ⟨Tryz.f230.name, by decide, Tryz.func230.trans (congrArg some (by kernel_rfl))⟩
  f27 := ⟨Tryz.f231.name, by decide, Tryz.func231.trans (congrArg some (by kernel_rfl))⟩
  f28 := Tryz.func232.trans (congrArg some (by kernel_rfl))
  f29 := Tryz.func233.trans (congrArg some (by kernel_rfl))
  f46 := ⟨Tryz.f253.name, by decide, Tryz.func253.trans (congrArg some (by kernel_rfl))⟩
  f47 := Tryz.func254.trans (congrArg some (by kernel_rfl))
  f48 := Tryz.func255.trans (congrArg some (by kernel_rfl))
  f49 := ⟨Tryz.f256.name, by decide, Tryz.func256.trans (congrArg some (by kernel_rfl))⟩
  f50 := ⟨Tryz.f257.name, by decide, Tryz.func257.trans (congrArg some (by kernel_rfl))⟩
  f57 := ⟨Tryz.f277.name, by decide, Tryz.func277.trans (congrArg some (by kernel_rfl))⟩
  t0 := Tryz.underlying0
  a0 := Tryz.isAgg0
  z0 := Tryz.sizeOf0
  v0 := Tryz.zeroValue0
  t3 := Tryz.underlying3
  a3 := Tryz.isAgg3
  z3 := Tryz.sizeOf3
  v3 := Tryz.zeroValue3
  t4 := Tryz.underlying4
  a4 := Tryz.isAgg4
  z4 := Tryz.sizeOf4
  v4 := Tryz.zeroValue4
  t5 := Tryz.underlying5
  a5 := Tryz.isAgg5
  z5 := Tryz.sizeOf5
  v5 := Tryz.zeroValue5
  t9 := Tryz.underlying9
  a9 := Tryz.isAgg9
  z9 := Tryz.sizeOf9
  v9 := Tryz.zeroValue9
  t22 := Tryz.underlying62
  a22 := Tryz.isAgg62
  z22 := Tryz.sizeOf62
  v22 := Tryz.zeroValue62
  t25 := Tryz.underlying202
  a25 := Tryz.isAgg202
  z25 := Tryz.sizeOf202
  v25 := Tryz.zeroValue202
  t39 := Tryz.underlying226
  a39 := Tryz.isAgg226
  z39 := Tryz.sizeOf226
  v39 := Tryz.zeroValue226
  t45 := Tryz.underlying264
  a45 := Tryz.isAgg264
  z45 := Tryz.sizeOf264
  v45 := Tryz.zeroValue264
  t46 := Tryz.underlying265
  a46 := Tryz.isAgg265
  z46 := Tryz.sizeOf265
  v46 := Tryz.zeroValue265
  t50 := Tryz.underlying159
  a50 := Tryz.isAgg159
  z50 := Tryz.sizeOf159
  v50 := Tryz.zeroValue159
  t53 := Tryz.underlying271
  a53 := Tryz.isAgg271
  z53 := Tryz.sizeOf271
  v53 := Tryz.zeroValue271
  t55 := Tryz.underlying210
  a55 := Tryz.isAgg210
  z55 := Tryz.sizeOf210
  v55 := Tryz.zeroValue210
  t66 := Tryz.underlying297
  a66 := Tryz.isAgg297
  z66 := Tryz.sizeOf297
  v66 := Tryz.zeroValue297
  t70 := Tryz.underlying208
  a70 := Tryz.isAgg208
  z70 := Tryz.sizeOf208
  v70 := Tryz.zeroValue208
  t76 := Tryz.underlying320
  a76 := Tryz.isAgg320
  z76 := Tryz.sizeOf320
  v76 := Tryz.zeroValue320
  t77 := Tryz.underlying321
  a77 := Tryz.isAgg321
  z77 := Tryz.sizeOf321
  v77 := Tryz.zeroValue321 }
end Go.Proofs.YtjcbpfbifbfkcaaGreat
namespace Go.Proofs.YtjcbpfbifbfkcaaGreat
open Go.RowKit Go.Lib Go.Shelf Go.Sort
instance : Inhabited Bl := ⟨⟨0, 0⟩⟩
def byAt (x y : Bl) : Int := cmpI x.p y.p
theorem ltAt (x y : Bl) : ltOf byAt x y = decide (x.p < y.p) := by unfold ltOf byAt; simp only [cmpI_lt]
theorem swoAt : SWO (ltOf byAt) where
  irrefl x := by rw [ltAt]; simp
  trans x y z h1 h2 := by rw [ltAt] at *; simp at *; omega
  ntrans x y z h1 h2 := by rw [ltAt] at *; simp at *; omega
theorem bl_one (x : Bl) (v : Value) (hv : v ∈ blV x) : v.oneCell' = true := by simp [blV] at hv; rcases hv with rfl | rfl <;> rfl
def Compares (g : Nat) : Prop := ∀ (x y : Bl) (W : World), Calls Tryz.prog g #[.agg #[.int .i64 x.p, .int .i64 x.o], .agg #[.int .i64 y.p, .int .i64 y.o]] W fun e w' => e = .returned (.int .i64 (cmpI x.p y.p)) ∧ ∃ q os', w' = Sort.grow (W.drewN q) os'
def Sorts (w : World) (B : Nat) (w0 : World) (L : List Blk) (blk t n : Nat) (d : List Bl) (e : Ending) (w' : World) : Prop :=
  e = .returned (.tuple #[]) ∧ ∃ s : List Bl, s.Perm d ∧ s.Pairwise (fun x y => x.p ≤ y.p) ∧ Hp B w0 w' (⟨blk, s.flatMap blV, t, n⟩ :: L)
theorem sort145 (g : Nat) (eg : ∀ args w, (callFunc g args).run Tryz.prog w = .ok (.enter g args) w) (hg : Compares g) (d : List Bl) (cap : Nat) {B : Nat} {w0 w : World} {blk t n : Nat} {L : List Blk} (hp : Hp B w0 w (⟨blk, d.flatMap blV, t, n⟩ :: L)) (hsz : d.length ≤ 5000) :
    Calls Tryz.prog 145 #[.slice (some ⟨blk, 0, none⟩) d.length cap, .func (.func g) #[] #[]] w (Sorts w B w0 L blk t n d) := by
  have hH : HoldsK blV 2 w blk 0 d.toArray := Hp.holdsK (enc := blV) blV_len (d := d.toArray) hp
  have hcm : CmpLays Tryz.prog g #[] blV 2 byAt blk 0 d.toArray.size w := fun m os dk _ x y => hg x y _
  have hcon := AnyQ.slices_SortFunc sortBlLays 2 Tryz.isAgg146 Tryz.sizeOf146 blV blV_len bl_one byAt swoAt g #[] blk 0 cap d.toArray w eg hcm hH (hp.lt (p := ⟨blk, d.flatMap blV, t, n⟩) (by simp)).2 (by simp; omega)
  change Calls Tryz.prog 145 _ _ _ at hcon
  rw [List.size_toArray] at hcon
  refine hcon.mono ?_
  rintro e w' ⟨rfl, d', m, os, h1, h2, rfl⟩
  have h3 := perm_whole (d := d.toArray) (d' := d') (by rw [List.size_toArray]; exact h1)
  refine ⟨rfl, d'.toList, by simpa using h3.2, ?_, Hp.sorted (enc := blV) blV_len (d := d.toArray) hp h3.1⟩
  have h4 := sorted_whole (by simpa using h3.1) h2
  refine h4.imp (fun {a b} h => ?_)
  rw [ltAt] at h
  simp at h
  exact h
theorem sort145_none (p : Option Addr) (cap : Nat) (fv : Value) (w : World) : Calls Tryz.prog 145 #[.slice p 0 cap, fv] w fun e w' => e = .returned (.tuple #[]) ∧ w' = w := by
  have hcon := AnyF.slices_SortFunc_none sortBlLays p cap fv w
  change Calls Tryz.prog 145 _ _ _ at hcon
  exact hcon
def OwnSorted (B : Nat) (w0 : World) (v : Value) (n : Nat) (d : List Bl) (M : List Blk) (e : Ending) (w' : World) : Prop :=
  e = .returned (.tuple #[]) ∧ ∃ (s : List Bl) (R : List Blk), s.Perm d ∧ s.Pairwise (fun x y => x.p ≤ y.p) ∧ OwnRow 146 2 v n (s.flatMap blV) R ∧ Hp B w0 w' (R ++ M)
theorem sorto145 (g : Nat) (eg : ∀ args w, (callFunc g args).run Tryz.prog w = .ok (.enter g args) w) (hg : Compares g) (d : List Bl) {v : Value} {R M : List Blk} (hr : OwnRow 146 2 v d.length (d.flatMap blV) R) {B : Nat} {w0 w : World} (hp : Hp B w0 w (R ++ M)) (hsz : d.length ≤ 5000) :
    Calls Tryz.prog 145 #[v, .func (.func g) #[] #[]] w (OwnSorted B w0 v d.length d M) := by
  obtain ⟨hl, ⟨h0, hv, hx, hR⟩ | ⟨b, cap, hv, h1, h2, hR⟩⟩ := hr
  · subst hv; subst hR
    have hd : d = [] := List.eq_nil_of_length_eq_zero h0
    subst hd
    refine (sort145_none none 0 _ w).mono ?_
    rintro e w' ⟨rfl, rfl⟩
    exact ⟨rfl, [], [], List.Perm.refl _, List.Pairwise.nil, OwnRow.nil _ _, hp⟩
  · subst hv; subst hR
    refine (sort145 g eg hg d cap hp hsz).mono ?_
    rintro e w' ⟨rfl, s, h3, h4, hp'⟩
    exact ⟨rfl, s, _, h3, h4, ⟨by rw [flat_len blV 2 blV_len, h3.length_eq], .inr ⟨b, cap, rfl, h1, h2, rfl⟩⟩, hp'⟩
end Go.Proofs.YtjcbpfbifbfkcaaGreat
namespace Go.Proofs.YtjcbpfbifbfkcaaGreat
open Go.RowKit
end Go.Proofs.YtjcbpfbifbfkcaaGreat
namespace Go.Proofs.YtjcbpfbifbfkcaaGreat
open Go.RowKit
theorem cell62 : cellB Tryz.prog 62 = true := by kernel_rfl
theorem Hp.less {B : Nat} {w0 w : World} {b n : Nat} {l1 l2 : List Value} {t : TypeId} {L : List Blk} (h : Hp B w0 w (⟨b, l1 ++ l2, t, n⟩ :: L)) : Hp B w0 w (⟨b, l1, t, n⟩ :: L) := by
  refine ⟨h.below, h.size, by simpa using h.nodup, fun p hp => ?_⟩
  rcases List.mem_cons.1 hp with rfl | hp
  · obtain ⟨h1, c, h2, h3, h4⟩ := h.own _ (List.mem_cons_self ..)
    refine ⟨h1, c, h2, h3, ?_⟩
    simp only at h4 ⊢
    have := congrArg (List.take l1.length) h4
    rw [List.take_take, List.length_append, Nat.min_eq_left (by omega), List.take_append_of_le_length (Nat.le_refl _), List.take_length] at this
    exact this
  · exact h.own p (List.mem_cons_of_mem _ hp)
theorem OwnRow.cons {e : TypeId} {c n : Nat} {v : Value} {xs : List Value} {R : List Blk} (h : OwnRow e c v (n + 1) xs R) : ∃ g cap, v = .slice (some ⟨g, 0, none⟩) (n + 1) cap ∧ n + 1 ≤ cap ∧ cap ≤ maxLen ∧ R = [⟨g, xs, e, cap * c⟩] := by
  obtain ⟨_, ⟨h0, _⟩ | h⟩ := h
  · omega
  · exact h
end Go.Proofs.YtjcbpfbifbfkcaaGreat
namespace Go.Proofs.YtjcbpfbifbfkcaaGreat
def LtB (a b : Bl) : Prop := a.o < b.o ∨ (a.o = b.o ∧ a.p < b.p)
theorem LtB.ntrans {a b c : Bl} (h1 : ¬ LtB b a) (h2 : ¬ LtB c b) : ¬ LtB c a := by unfold LtB at *; omega
def gB (l : List Bl) (k : Nat) : Bl := l.getD k ⟨0, 0⟩
def HeapF (l : List Bl) (n i0 : Nat) : Prop := ∀ k c, i0 ≤ k → (c = 2 * k + 1 ∨ c = 2 * k + 2) → c < n → ¬ LtB (gB l c) (gB l k)
def HeapD (l : List Bl) (n i0 j : Nat) : Prop :=
  (∀ k c, i0 ≤ k → k ≠ j → (c = 2 * k + 1 ∨ c = 2 * k + 2) → c < n → ¬ LtB (gB l c) (gB l k)) ∧
  (∀ p c, i0 ≤ p → (j = 2 * p + 1 ∨ j = 2 * p + 2) → (c = 2 * j + 1 ∨ c = 2 * j + 2) → c < n → ¬ LtB (gB l c) (gB l p))
theorem HeapD.start {l : List Bl} {n i0 : Nat} (h : HeapF l n (i0 + 1)) : HeapD l n i0 i0 :=
  ⟨fun k c hk hne hc hn => h k c (by omega) hc hn, fun p c hp hj _ _ => by omega⟩
structure Downs (l l' : List Bl) (n i0 j : Nat) : Prop where
  perm : l'.Perm l
  same : ∀ q, n ≤ q → gB l' q = gB l q
  heap : HeapF l n (i0 + 1) → HeapD l' n i0 j
theorem Downs.start (l : List Bl) (n i0 : Nat) : Downs l l n i0 i0 := ⟨List.Perm.refl _, fun _ _ => rfl, HeapD.start⟩
end Go.Proofs.YtjcbpfbifbfkcaaGreat
namespace Go.Proofs.YtjcbpfbifbfkcaaGreat
open Go.RowKit Go.Shelf
end Go.Proofs.YtjcbpfbifbfkcaaGreat
namespace Go.Proofs.YtjcbpfbifbfkcaaGreat
open Go.RowKit Go.Shelf
end Go.Proofs.YtjcbpfbifbfkcaaGreat
namespace Go.Proofs.YtjcbpfbifbfkcaaGreat
def hv (p o : Int) : Nat → List Bl
  | 0 => []
  | n + 1 => hv p o n ++ [⟨p + pw (o - n - 1), o - n - 1⟩]
theorem hv_len (p o : Int) : ∀ n, (hv p o n).length = n
  | 0 => rfl
  | n + 1 => by rw [hv, List.length_append, hv_len p o n]; rfl
structure LeastT (want : Int) (fs : List Bl) (b : Bl) : Prop where
  mem : b ∈ fs
  great : want ≤ b.o
  least : ∀ y ∈ fs, want ≤ y.o → ¬ LtB y b
structure TakenP (want : Int) (fs : List Bl) (b : Bl) (s : List Bl) : Prop where
  perm : (b :: s).Perm (fs ++ hv b.p b.o (b.o - want).toNat)
  sort : s.Pairwise fun x y => x.p ≤ y.p
def greats (want : Int) (l : List Bl) : List Bl := l.filter fun b => decide (want ≤ b.o)
def smalls (want : Int) (l : List Bl) : List Bl := l.filter fun b => !decide (want ≤ b.o)
theorem gs_perm (want : Int) (l : List Bl) : (greats want l ++ smalls want l).Perm l := List.filter_append_perm _ l
def Splits (want : Int) (fs : List Bl) (b : Bl) (i : Nat) (l : List Bl) : Prop := (b :: l).Perm (greats want fs ++ hv b.p b.o i)
theorem Splits.start {want : Int} {fs l l' : List Bl} (hp : l.Perm (greats want fs)) (h : (l' ++ [gB l 0]).Perm l) : Splits want fs (gB l 0) 0 l' := by
  unfold Splits
  rw [hv, List.append_nil]
  exact (List.perm_append_comm (l₁ := [gB l 0])).trans (h.trans hp)
theorem Splits.step {want : Int} {fs l l' : List Bl} {b : Bl} {i : Nat} (h : Splits want fs b i l) (hp : l'.Perm (l ++ [⟨b.p + pw (b.o - i - 1), b.o - i - 1⟩])) : Splits want fs b (i + 1) l' := by
  unfold Splits at *
  rw [hv, ← List.append_assoc]
  exact (hp.cons b).trans (h.append_right [_])
theorem Splits.len {want : Int} {fs l : List Bl} {b : Bl} {i : Nat} (h : Splits want fs b i l) : l.length + 1 = (greats want fs).length + i := by
  have := h.length_eq
  rw [List.length_append, hv_len, List.length_cons] at this
  exact this
theorem Splits.done {want : Int} {fs l s : List Bl} {b : Bl} (h : Splits want fs b (b.o - want).toNat l) (hs : s.Perm (l ++ smalls want fs)) (hso : s.Pairwise fun x y => x.p ≤ y.p) : TakenP want fs b s := by
  refine ⟨?_, hso⟩
  refine (hs.cons b).trans ?_
  rw [← List.cons_append]
  refine (h.append_right _).trans ?_
  rw [List.append_assoc]
  refine (List.perm_append_comm.append_left _).trans ?_
  rw [← List.append_assoc]
  exact (gs_perm want fs).append_right _
end Go.Proofs.YtjcbpfbifbfkcaaGreat
namespace Go.Proofs.YtjcbpfbifbfkcaaGreat
open Go.RowKit Go.Lib Go.Shelf Go.Sort
theorem Keeps.three {B : Nat} {w0 w : World} {L : List Blk} (h : Hp B w0 w L) {i j k : Nat} {p q r : Blk} (hi : L[i]? = some p) (hj : L[j]? = some q) (hk : L[k]? = some r) : Keeps B w0 [p, q, r] w := ⟨L, h, fun s hs => by
  rcases List.mem_cons.1 hs with rfl | hs
  · exact Hp.mem hi
  · rcases List.mem_cons.1 hs with rfl | hs
    · exact Hp.mem hj
    · rw [List.mem_singleton.1 hs]; exact Hp.mem hk⟩
end Go.Proofs.YtjcbpfbifbfkcaaGreat
namespace Go.Proofs.YtjcbpfbifbfkcaaGreat
open Go.RowKit
theorem Hp.sub {B : Nat} {w0 w : World} {L L' : List Blk} (hp : Hp B w0 w L) (h : L'.Sublist L) : Hp B w0 w L' :=
  ⟨hp.below, hp.size, (h.map _).nodup hp.nodup, fun p hpL => hp.own p (h.subset hpL)⟩
end Go.Proofs.YtjcbpfbifbfkcaaGreat
