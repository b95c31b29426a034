/- Laid together: The walk of captionerlaw45.awake. DERIVED: THE SHELF's CONTRACTS AT THIS DUMP, IN PLAIN WORDS (tools/lay-plain.mjs out of 'TrydLst.lean', which tools/lay-shelf.mjs wrote): THE SAME DECLARATIONS UNDER THE SAME NAMES: 'import', 'namespace', 'open', 'def', 'theorem' AND NOTHING ELSE: no command of the shelf's: FOR A HAND-IN. Each laying: the table of numbers ('.._ren') and one theorem, a field a fact of the dump's own or the kernel's comparison; each contract: ONE APPLICATION. Stable sorting, plainly. A region that draws its order, walked once in the order of the text, where its calls may make memory: the class of the worlds that are greater than one. More memory and no fewer draws: what the sort asks of its comparison; a drawn region with calls in that class. The stable sort of events: what its walks take of the program; rows as arrays and as lists. A row of one's own under the sort: what the sort asks of it, and what lies there behind it. The walk of cmp.Compare at numbers. Screens of characters, the frames at which they change, shows, overlaps: plainly. No program in sight. Sets of frames: spans merged and joined, plainly. No program in sight. -/
import Derived.Test.YtablhmobekmflaaDoorPk05
import Derived.Shelf.SlGeneric
import Derived.Shelf.SlSortCmp.KitK
import Derived.Ground.SlsfProg
import Derived.Test.YtablhmobekmflaaDoorProg
import Derived.Test.YtablhmobekmflaaDoorRows
import Derived.Test.YtablhmobekmflaaDoorPk01
import Derived.Sort.Grow
import Derived.Sort.WalkB2
import Derived.Sort.WalkB12
import Derived.Deep.LoopGhost
import Derived.Test.YtablhmobekmflaaDoorPk03

/-! Awake45 -/
namespace Go.Proofs.YtablhmobekmflaaDoor
set_option linter.unusedVariables false
set_option linter.unusedSimpArgs false
open Go.RowKit
def cuts14 : Array Value := #[.int .i64 1, .string ⟨#[65]⟩, .int .i64 250, .int .i64 0, .int .i64 100, .int .i64 1, .int .i64 1, .int .i64 2, .string ⟨#[66]⟩, .int .i64 0, .int .i64 100, .int .i64 110, .int .i64 1, .int .i64 2]
theorem e0_at (w : World) : CutsAt (w.alloc (.cells cuts14 52)) (some ⟨w.heap.size, 0, none⟩) 2 e0.cuts := by
  have hB := Blk.new w 52 cuts14
  refine ⟨rfl, fun _ => ⟨w.heap.size, 0, rfl, fun i x hx => ?_⟩⟩
  have hc := fun o => hB.cell o
  match i, hx with
  | 0, hx =>
    cases hx
    intro j u hu
    rw [hc]
    match j, hu with
    | 0, hu => exact hu
    | 1, hu => exact hu
    | 2, hu => exact hu
    | 3, hu => exact hu
    | 4, hu => exact hu
    | 5, hu => exact hu
    | 6, hu => exact hu
    | j + 7, hu => simp [Cut.vals] at hu
  | 1, hx =>
    cases hx
    intro j u hu
    rw [hc]
    match j, hu with
    | 0, hu => exact hu
    | 1, hu => exact hu
    | 2, hu => exact hu
    | 3, hu => exact hu
    | 4, hu => exact hu
    | 5, hu => exact hu
    | 6, hu => exact hu
    | j + 7, hu => simp [Cut.vals] at hu
  | i + 2, hx => simp [e0] at hx
set_option maxRecDepth 100000 in
set_option maxHeartbeats 4000000 in
theorem awake_any (w : World) (hE : Env w) : Calls Tryd.prog 4 #[] w fun en w' => en = .returned (.bool true) ∧ Ext w w' := by
  have HX0 := Lib.hid ((Ext.refl w).alloc (.cells cuts14 52))
  have HC := Lib.hid (e0_at w)
  have HE := Lib.hid hE
  clear hE
  have HAt := Lib.hid (fun t w' (hx : Ext (w.alloc (.cells cuts14 52)) w') => At_any e0 (some ⟨w.heap.size, 0, none⟩) 2 2 t w' (HE.out.ext (HX0.out.trans hx)) (HC.out.ext hx) (by decide) e0_edlok)
  have HSw := Lib.hid (fun w' (hx : Ext (w.alloc (.cells cuts14 52)) w') => Swap_pre e0 (some ⟨w.heap.size, 0, none⟩) 2 2 ⟨#[65]⟩ ⟨#[66]⟩ w' (HE.out.ext (HX0.out.trans hx)) (HC.out.ext hx) (by decide) e0_edlok (by rw [e0_swap]; decide))
  have HB1 := Lib.hid (Blk.new' (w := w.alloc (.cells cuts14 52)) (g := w.heap.size + 1) (t := 28) (cs := edlZero) (by simp))
  have HX1 := Lib.hid ((Ext.refl (w.alloc (.cells cuts14 52))).alloc (.cells edlZero 28))
  have A99 := Lib.hid e0_99
  have A109 := Lib.hid e0_109
  have A110 := Lib.hid e0_110
  have HSp := Lib.hid e0_swap
  unfold atVal at HAt
  unfold edlZero at HB1 HX1 HSw
  unfold cuts14 at *
  go_enter Tryd.func4, Tryd.ntmps4
  go_wp2_with (first | (refine wpList_storeB rfl 28 (.tmp 1) (.tmp 17) rfl (w.heap.size + 1) 28 _ _ (by exact rfl) (by exact rfl) (by exact HB1.out) (by exact rfl) (by exact size_list) (by simp [Value.oneCell']) ?_) | (refine wpList_loadB rfl 28 (.tmp 1) rfl (w.heap.size + 1) 28 _ _ (by exact rfl) (by exact HB1.out.put _) Tryd.underlying28 rfl (by exact size_list) ?_))
  have HX2 := Lib.hid (HX1.out.put (g := w.heap.size + 1) (by simp) 28 #[.string ⟨#[]⟩, .int .u8 3, .bool false, .slice (some ⟨w.heap.size, 0, none⟩) 2 2])
  have HB2 := Lib.hid (HB1.out.put #[.string ⟨#[]⟩, .int .u8 3, .bool false, .slice (some ⟨w.heap.size, 0, none⟩) 2 2])
  refine (HAt.out 99 _ HX2.out).mono ?_
  rw [A99.out]
  rintro en w3 ⟨rfl, hx3⟩
  have HX3 := Lib.hid (HX2.out.trans hx3)
  have HB3 := Lib.hid (HB2.out.ext hx3)
  clear hx3 HX2 HB2 HB1 HX1
  have HZ3 := Lib.hid (Blk.new w3 31 #[.string ⟨#[]⟩, .int .i64 0])
  go_wp2_with (first | (refine wpList_storeB rfl 31 (.tmp 2) (.tmp 21) rfl w3.heap.size 31 _ _ (by exact rfl) (by exact rfl) (by exact HZ3.out) (by exact rfl) (by exact size_src) (by simp [Value.oneCell']) ?_) | (refine wpList_loadB rfl 28 (.tmp 1) rfl (w.heap.size + 1) 28 _ _ (by exact rfl) (by exact (HB3.out.alloc _).put_other (by have := HB3.out.lt; omega) _) Tryd.underlying28 rfl (by exact size_list) ?_))
  have hg3 := HB3.out.lt
  have HX4 := Lib.hid ((HX3.out.alloc (.cells #[.string ⟨#[]⟩, .int .i64 0] 31)).put (g := w3.heap.size) HX3.out.size 31 #[.string ⟨#[65]⟩, .int .i64 349])
  have HB4 := Lib.hid ((HB3.out.alloc (.cells #[.string ⟨#[]⟩, .int .i64 0] 31)).put_other (g' := w3.heap.size) (t' := 31) (by omega) #[.string ⟨#[65]⟩, .int .i64 349])
  have HS4 := Lib.hid (HZ3.out.put #[.string ⟨#[65]⟩, .int .i64 349])
  refine (HAt.out 109 _ HX4.out).mono ?_
  rw [A109.out]
  rintro en w5 ⟨rfl, hx5⟩
  have HX5 := Lib.hid (HX4.out.trans hx5)
  have HB5 := Lib.hid (HB4.out.ext hx5)
  have HS5 := Lib.hid (HS4.out.ext hx5)
  clear hx5 HX4 HB4 HS4 HX3 HB3 HZ3
  have hg5 := HB5.out.lt
  have hg5' := HS5.out.lt
  have HZ5 := Lib.hid (Blk.new w5 31 #[.string ⟨#[]⟩, .int .i64 0])
  go_wp2_with (first | (refine wpList_storeB rfl 31 (.tmp 4) (.tmp 26) rfl w5.heap.size 31 _ _ (by exact rfl) (by exact rfl) (by exact HZ5.out) (by exact rfl) (by exact size_src) (by simp [Value.oneCell']) ?_) | (refine wpList_loadB rfl 28 (.tmp 1) rfl (w.heap.size + 1) 28 _ _ (by exact rfl) (by exact (HB5.out.alloc _).put_other (by omega) _) Tryd.underlying28 rfl (by exact size_list) ?_))
  have HX6 := Lib.hid ((HX5.out.alloc (.cells #[.string ⟨#[]⟩, .int .i64 0] 31)).put (g := w5.heap.size) HX5.out.size 31 #[.string ⟨#[66]⟩, .int .i64 4])
  have HB6 := Lib.hid ((HB5.out.alloc (.cells #[.string ⟨#[]⟩, .int .i64 0] 31)).put_other (g' := w5.heap.size) (t' := 31) (by omega) #[.string ⟨#[66]⟩, .int .i64 4])
  have HS6 := Lib.hid ((HS5.out.alloc (.cells #[.string ⟨#[]⟩, .int .i64 0] 31)).put_other (g' := w5.heap.size) (t' := 31) (by omega) #[.string ⟨#[66]⟩, .int .i64 4])
  have HT6 := Lib.hid (HZ5.out.put #[.string ⟨#[66]⟩, .int .i64 4])
  refine (HAt.out 110 _ HX6.out).mono ?_
  rw [A110.out]
  rintro en w7 ⟨rfl, hx7⟩
  have HX7 := Lib.hid (HX6.out.trans hx7)
  have HB7 := Lib.hid (HB6.out.ext hx7)
  have HS7 := Lib.hid (HS6.out.ext hx7)
  have HT7 := Lib.hid (HT6.out.ext hx7)
  clear hx7 HX6 HB6 HS6 HT6 HX5 HB5 HS5 HZ5
  have hg7 := HB7.out.lt
  have hg7' := HS7.out.lt
  have hg7'' := HT7.out.lt
  have HZ7 := Lib.hid (Blk.new w7 31 #[.string ⟨#[]⟩, .int .i64 0])
  go_wp2_with (first | (refine wpList_storeB rfl 31 (.tmp 6) (.tmp 31) rfl w7.heap.size 31 _ _ (by exact rfl) (by exact rfl) (by exact HZ7.out) (by exact rfl) (by exact size_src) (by simp [Value.oneCell']) ?_) | (refine wpList_loadB rfl 28 (.tmp 1) rfl (w.heap.size + 1) 28 _ _ (by exact rfl) (by exact (HB7.out.alloc _).put_other (by omega) _) Tryd.underlying28 rfl (by exact size_list) ?_))
  have HX8 := Lib.hid ((HX7.out.alloc (.cells #[.string ⟨#[]⟩, .int .i64 0] 31)).put (g := w7.heap.size) HX7.out.size 31 #[.string ⟨#[]⟩, .int .i64 0])
  have HS8 := Lib.hid ((HS7.out.alloc (.cells #[.string ⟨#[]⟩, .int .i64 0] 31)).put_other (g' := w7.heap.size) (t' := 31) (by omega) #[.string ⟨#[]⟩, .int .i64 0])
  have HT8 := Lib.hid ((HT7.out.alloc (.cells #[.string ⟨#[]⟩, .int .i64 0] 31)).put_other (g' := w7.heap.size) (t' := 31) (by omega) #[.string ⟨#[]⟩, .int .i64 0])
  refine (HSw.out _ HX8.out).mono ?_
  rw [HSp.out]
  rintro en w9 ⟨rfl, hx9⟩
  have HX9 := Lib.hid (HX8.out.trans hx9)
  have HS9 := Lib.hid (HS8.out.ext hx9)
  have HT9 := Lib.hid (HT8.out.ext hx9)
  clear hx9 HX8 HS8 HT8 HX7 HB7 HS7 HT7 HZ7
  have hg9 := HS9.out.lt
  have hg9' := HT9.out.lt
  have HZ9 := Lib.hid (Blk.new w9 28 #[.string ⟨#[]⟩, .int .u8 0, .bool false, .slice none 0 0])
  have HXa := Lib.hid ((HX9.out.alloc (.cells #[.string ⟨#[]⟩, .int .u8 0, .bool false, .slice none 0 0] 28)).put (g := w9.heap.size) HX9.out.size 28 #[.string ⟨#[]⟩, .int .u8 0, .bool false, .slice none 0 0])
  have HSa := Lib.hid ((HS9.out.alloc (.cells #[.string ⟨#[]⟩, .int .u8 0, .bool false, .slice none 0 0] 28)).put_other (g' := w9.heap.size) (t' := 28) (by omega) #[.string ⟨#[]⟩, .int .u8 0, .bool false, .slice none 0 0])
  have HTa := Lib.hid ((HT9.out.alloc (.cells #[.string ⟨#[]⟩, .int .u8 0, .bool false, .slice none 0 0] 28)).put_other (g' := w9.heap.size) (t' := 28) (by omega) #[.string ⟨#[]⟩, .int .u8 0, .bool false, .slice none 0 0])
  have hcs := fun o => HSa.out.cell o
  have hct := fun o => HTa.out.cell o
  go_wp2_with (first | (refine wpList_storeB rfl 28 (.tmp 8) (.tmp 36) rfl w9.heap.size 28 _ _ (by exact rfl) (by exact rfl) (by exact HZ9.out) (by exact rfl) (by exact size_list) (by simp [Value.oneCell']) ?_) | (refine wpList_loadB rfl 31 (.tmp 2) rfl w3.heap.size 31 _ _ (by exact rfl) (by exact HSa.out) Tryd.underlying31 rfl (by exact size_src) ?_) | (refine wpList_loadB rfl 31 (.tmp 4) rfl w5.heap.size 31 _ _ (by exact rfl) (by exact HTa.out) Tryd.underlying31 rfl (by exact size_src) ?_))
  go_ret
  exact ⟨rfl, HX0.out.trans HXa.out⟩
end Go.Proofs.YtablhmobekmflaaDoor

/-! LayLst -/
namespace Go.Proofs
open Go.Shelf
def Tryd.srtSp_ren : Go.Shelf.Ren := ⟨fun | 6 => 55 | 15 => 53 | 14 => 70 | 28 => 67 | 29 => 68 | 20 => 77 | 21 => 78 | 22 => 79 | 23 => 80 | 24 => 81 | 25 => 82 | 26 => 83 | 27 => 84 | 46 => 86 | 47 => 72 | 48 => 73 | 49 => 87 | 50 => 88 | 57 => 89 | n => n, fun | 22 => 38 | 24 => 48 | 25 => 93 | 3 => 3 | 39 => 99 | 0 => 0 | 53 => 120 | 55 => 85 | 4 => 4 | 46 => 112 | 45 => 111 | 50 => 117 | 5 => 5 | 9 => 9 | 66 => 124 | 70 => 128 | 76 => 135 | 77 => 67 | n => n, fun | n => n⟩
theorem Tryd.srtSp : Go.Proofs.SlLaysF0.n6 Tryd.prog Tryd.srtSp_ren := {
  mixed := by kernel_rfl
  f6 := ⟨Tryd.f55.name, by decide, Tryd.func55.trans (congrArg some (by kernel_rfl))⟩
  f14 := ⟨Tryd.f70.name, by decide, Tryd.func70.trans (congrArg some (by kernel_rfl))⟩
  f15 := Tryd.func53.trans (congrArg some (by kernel_rfl))
  f20 := ⟨Tryd.f77.name, by decide, Tryd.func77.trans (congrArg some (by kernel_rfl))⟩
  f21 := ⟨Tryd.f78.name, by decide, Tryd.func78.trans (congrArg some (by kernel_rfl))⟩
  f22 := ⟨Tryd.f79.name, by decide, Tryd.func79.trans (congrArg some (by kernel_rfl))⟩
  f23 := ⟨Tryd.f80.name, by decide, Tryd.func80.trans (congrArg some (by kernel_rfl))⟩
  f24 := ⟨Tryd.f81.name, by decide, Tryd.func81.trans (congrArg some (by kernel_rfl))⟩
  f25 := ⟨Tryd.f82.name, by decide, Tryd.func82.trans (congrArg some (by kernel_rfl))⟩
  f26 := ⟨Tryd.f83.name, by decide, Tryd.func83.trans (congrArg some (by kernel_rfl))⟩
  f27 := ⟨Tryd.f84.name, by decide, Tryd.func84.trans (congrArg some (by kernel_rfl))⟩
  f28 := Tryd.func67.trans (congrArg some (by kernel_rfl))
  f29 := Tryd.func68.trans (congrArg some (by kernel_rfl))
  f46 := ⟨Tryd.f86.name, by decide, Tryd.func86.trans (congrArg some (by kernel_rfl))⟩
  f47 := Tryd.func72.trans (congrArg some (by kernel_rfl))
  f48 := Tryd.func73.trans (congrArg some (by kernel_rfl))
  f49 := ⟨Tryd.f87.name, by decide, Tryd.func87.trans (congrArg some (by kernel_rfl))⟩
  f50 := ⟨Tryd.f88.name, by decide, Tryd.func88.trans (congrArg some (by kernel_rfl))⟩
  f57 := ⟨Tryd.f89.name, by decide, Tryd.func89.trans (congrArg some (by kernel_rfl))⟩
  t0 := Tryd.underlying0
  a0 := Tryd.isAgg0
  z0 := Tryd.sizeOf0
  v0 := Tryd.zeroValue0
  t3 := Tryd.underlying3
  a3 := Tryd.isAgg3
  z3 := Tryd.sizeOf3
  v3 := Tryd.zeroValue3
  t4 := Tryd.underlying4
  a4 := Tryd.isAgg4
  z4 := Tryd.sizeOf4
  v4 := Tryd.zeroValue4
  t5 := Tryd.underlying5
  a5 := Tryd.isAgg5
  z5 := Tryd.sizeOf5
  v5 := Tryd.zeroValue5
  t9 := Tryd.underlying9
  a9 := Tryd.isAgg9
  z9 := Tryd.sizeOf9
  v9 := Tryd.zeroValue9
  t22 := Tryd.underlying38
  a22 := Tryd.isAgg38
  z22 := Tryd.sizeOf38
  v22 := Tryd.zeroValue38
  t25 := Tryd.underlying93
  a25 := Tryd.isAgg93
  z25 := Tryd.sizeOf93
  v25 := Tryd.zeroValue93
  t39 := Tryd.underlying99
  a39 := Tryd.isAgg99
  z39 := Tryd.sizeOf99
  v39 := Tryd.zeroValue99
  t45 := Tryd.underlying111
  a45 := Tryd.isAgg111
  z45 := Tryd.sizeOf111
  v45 := Tryd.zeroValue111
  t46 := Tryd.underlying112
  a46 := Tryd.isAgg112
  z46 := Tryd.sizeOf112
  v46 := Tryd.zeroValue112
  t50 := Tryd.underlying117
  a50 := Tryd.isAgg117
  z50 := Tryd.sizeOf117
  v50 := Tryd.zeroValue117
  t53 := Tryd.underlying120
  a53 := Tryd.isAgg120
  z53 := Tryd.sizeOf120
  v53 := Tryd.zeroValue120
  t55 := Tryd.underlying85
  a55 := Tryd.isAgg85
  z55 := Tryd.sizeOf85
  v55 := Tryd.zeroValue85
  t66 := Tryd.underlying124
  a66 := Tryd.isAgg124
  z66 := Tryd.sizeOf124
  v66 := Tryd.zeroValue124
  t70 := Tryd.underlying128
  a70 := Tryd.isAgg128
  z70 := Tryd.sizeOf128
  v70 := Tryd.zeroValue128
  t76 := Tryd.underlying135
  a76 := Tryd.isAgg135
  z76 := Tryd.sizeOf135
  v76 := Tryd.zeroValue135
  t77 := Tryd.underlying67
  a77 := Tryd.isAgg67
  z77 := Tryd.sizeOf67
  v77 := Tryd.zeroValue67 }
end Go.Proofs

/-! SortP -/
namespace Go.Proofs.YtablhmobekmflaaDoor.Stb
set_option linter.unusedVariables false
set_option linter.unusedSimpArgs false
section
variable {α : Type}
/-- a strict weak order -/
structure SW (lt : α → α → Bool) : Prop where
  asym : ∀ x y, lt x y = true → lt y x = false
  trans : ∀ x y z, lt y x = false → lt z y = false → lt z x = false
def eqv (lt : α → α → Bool) (x y : α) : Bool := !lt x y && !lt y x
/-- two places exchanged -/
def swp (l : List α) (i j : Nat) : List α := match l[i]?, l[j]? with
  | some x, some y => (l.set i y).set j x
  | _, _ => l
theorem swp_at {l : List α} {i j : Nat} (hi : i < l.length) (hj : j < l.length) (p : Nat) : (swp l i j)[p]? = if p = j then l[i]? else if p = i then l[j]? else l[p]? := by
  unfold swp
  rw [List.getElem?_eq_getElem hi, List.getElem?_eq_getElem hj]
  simp only
  rw [List.getElem?_set, List.getElem?_set]
  by_cases h1 : p = j
  · subst h1; simp [hj]
  · rw [if_neg (Ne.symm h1), if_neg h1]
    by_cases h2 : p = i
    · subst h2; simp [hi]
    · rw [if_neg (Ne.symm h2), if_neg h2]
/-- the blocks [a, m) and [m, b) exchanged -/
def rot (l : List α) (a m b : Nat) : List α := l.take a ++ ((l.take b).drop m ++ ((l.take m).drop a ++ l.drop b))
theorem rot_len {l : List α} {a m b : Nat} (h1 : a ≤ m) (h2 : m ≤ b) (h3 : b ≤ l.length) : (rot l a m b).length = l.length := by
  unfold rot; simp only [List.length_append, List.length_take, List.length_drop]; omega
theorem rot_at {l : List α} {a m b : Nat} (h1 : a ≤ m) (h2 : m ≤ b) (h3 : b ≤ l.length) (p : Nat) :
    (rot l a m b)[p]? = if p < a then l[p]? else if p < a + (b - m) then l[p + (m - a)]? else if p < b then l[p - (b - m)]? else l[p]? := by
  unfold rot
  simp only [List.getElem?_append, List.length_take, List.length_drop, List.getElem?_take, List.getElem?_drop]
  by_cases c1 : p < a
  · rw [if_pos (by omega), if_pos c1, if_pos c1]
  rw [if_neg (by omega), if_neg c1]
  by_cases c2 : p < a + (b - m)
  · rw [if_pos (by omega), if_pos (by omega), if_pos c2]; congr 1; omega
  rw [if_neg (by omega), if_neg c2]
  by_cases c3 : p < b
  · rw [if_pos (by omega), if_pos (by omega), if_pos c3]; congr 1; omega
  · rw [if_neg (by omega), if_neg c3]; congr 1; omega
/-- the ranges of n from a and from b exchanged -/
def swr (l : List α) (a b : Nat) : Nat → List α
  | 0 => l
  | n + 1 => swp (swr l a b n) (a + n) (b + n)
/-- l' is l but for a stable change of the places [a, b) -/
structure Loc (lt : α → α → Bool) (a b : Nat) (l l' : List α) : Prop where
  len : l'.length = l.length
  out : ∀ p, p < a ∨ b ≤ p → l'[p]? = l[p]?
  cls : ∀ k, l'.filter (eqv lt k) = l.filter (eqv lt k)
variable {lt : α → α → Bool} {a b c d m : Nat} {l l' l2 : List α}
theorem Loc.refl (l : List α) : Loc lt a b l l := ⟨rfl, fun _ _ => rfl, fun _ => rfl⟩
theorem Loc.trans (h : Loc lt a b l l') (k : Loc lt a b l' l2) : Loc lt a b l l2 := ⟨k.len.trans h.len, fun p hp => (k.out p hp).trans (h.out p hp), fun x => (k.cls x).trans (h.cls x)⟩
theorem Loc.wide (h : Loc lt a b l l') (h1 : c ≤ a) (h2 : b ≤ d) : Loc lt c d l l' := ⟨h.len, fun p hp => h.out p (by omega), h.cls⟩
theorem SW.irr (w : SW lt) (x : α) : lt x x = false := by
  cases h : lt x x
  · rfl
  · have := w.asym x x h; rw [h] at this; exact this
theorem eqv_self (w : SW lt) (x : α) : eqv lt x x = true := by
  simp [eqv, w.irr x]
theorem eqv_trans (w : SW lt) {k x y : α} (h1 : eqv lt k x = true) (h2 : eqv lt k y = true) : lt x y = false ∧ lt y x = false := by
  simp only [eqv, Bool.and_eq_true, Bool.not_eq_true'] at h1 h2
  exact ⟨w.trans y k x h2.1 h1.2, w.trans x k y h1.1 h2.2⟩
theorem Loc.rot (w : SW lt) (h1 : a ≤ m) (h2 : m ≤ b) (h3 : b ≤ l.length) (hne : ∀ p q x y, a ≤ p → p < m → m ≤ q → q < b → l[p]? = some x → l[q]? = some y → lt y x = true) : Loc lt a b l (rot l a m b) := by
  refine ⟨rot_len h1 h2 h3, fun p hp => ?_, fun k => ?_⟩
  · rw [rot_at h1 h2 h3]
    rcases hp with hp | hp
    · rw [if_pos hp]
    · rw [if_neg (by omega), if_neg (by omega), if_neg (by omega)]
  · have e : l = l.take a ++ ((l.take m).drop a ++ ((l.take b).drop m ++ l.drop b)) := by
      apply List.ext_getElem?; intro p
      simp only [List.getElem?_append, List.length_take, List.length_drop, List.getElem?_take, List.getElem?_drop]
      repeat' split
      all_goals first | rfl | (congr 1; omega) | (exfalso; omega)
    unfold Stb.rot
    conv => rhs; rw [e]
    simp only [List.filter_append]
    congr 1
    rw [← List.append_assoc, ← List.append_assoc]
    congr 1
    have key : (((l.take m).drop a).filter (eqv lt k)) = [] ∨ (((l.take b).drop m).filter (eqv lt k)) = [] := by
      by_cases hu : (((l.take m).drop a).filter (eqv lt k)) = []
      · exact .inl hu
      right
      obtain ⟨x, hx⟩ := List.exists_mem_of_ne_nil _ hu
      rw [List.mem_filter] at hx
      rw [List.filter_eq_nil_iff]
      intro y hy hk
      obtain ⟨p, hp⟩ := List.getElem?_of_mem hx.1
      obtain ⟨q, hq⟩ := List.getElem?_of_mem hy
      rw [List.getElem?_drop, List.getElem?_take] at hp hq
      split at hp
      · split at hq
        · have := hne _ _ x y (by omega) (by omega) (by omega) (by omega) hp hq
          rw [(eqv_trans w hx.2 hk).2] at this
          cases this
        · cases hq
      · cases hp
    rcases key with h | h <;> rw [h] <;> simp
/-- whatever lies there has lain there -/
theorem Loc.mem (w : SW lt) (h : Loc lt a b l l') {p : Nat} {x : α} (hp : a ≤ p) (hp2 : p < b) (hx : l'[p]? = some x) : ∃ q, a ≤ q ∧ q < b ∧ l[q]? = some x := by
  have hl := (List.getElem?_eq_some_iff.1 hx).1
  have hab : a ≤ b := by omega
  have e : ∀ s : List α, s = s.take a ++ ((s.take b).drop a ++ s.drop b) := fun s => by
    have h1 : (s.take b).take a = s.take a := by rw [List.take_take, Nat.min_eq_left hab]
    rw [← List.append_assoc, ← h1, List.take_append_drop, List.take_append_drop]
  have e1 : l'.take a = l.take a := by
    apply List.ext_getElem?; intro p
    simp only [List.getElem?_take]
    split
    · exact h.out p (by omega)
    · rfl
  have e2 : l'.drop b = l.drop b := by
    apply List.ext_getElem?; intro p
    simp only [List.getElem?_drop]
    exact h.out _ (by omega)
  have hc := h.cls x
  rw [e l', e l, e1, e2] at hc
  simp only [List.filter_append] at hc
  have hc := List.append_cancel_right (List.append_cancel_left hc)
  have hm : x ∈ ((l'.take b).drop a).filter (eqv lt x) := by
    rw [List.mem_filter]
    refine ⟨List.mem_of_getElem? (i := p - a) ?_, eqv_self w x⟩
    rw [List.getElem?_drop, List.getElem?_take, if_pos (by omega)]
    rw [show a + (p - a) = p by omega]; exact hx
  rw [hc, List.mem_filter] at hm
  obtain ⟨q, hq⟩ := List.getElem?_of_mem hm.1
  rw [List.getElem?_drop, List.getElem?_take] at hq
  split at hq
  · exact ⟨a + q, by omega, by omega, hq⟩
  · cases hq
/-- the places [a, b) are in order -/
def Srt (lt : α → α → Bool) (l : List α) (a b : Nat) : Prop := ∀ p q x y, a ≤ p → p < q → q < b → l[p]? = some x → l[q]? = some y → lt y x = false
theorem Srt.one (h : b ≤ a + 1) : Srt lt l a b := fun p q x y h1 h2 h3 => by omega
theorem Srt.of_out (h : Srt lt l a b) (k : Loc lt c d l l') (hd : b ≤ c ∨ d ≤ a) : Srt lt l' a b := fun p q x y h1 h2 h3 h4 h5 =>
  h p q x y h1 h2 h3 (by rw [← k.out p (by omega)]; exact h4) (by rw [← k.out q (by omega)]; exact h5)
/-- insertion: all is in order but for what lies at j, seen from ahead -/
def Ins (lt : α → α → Bool) (l : List α) (a j i : Nat) : Prop := ∀ p q x y, a ≤ p → p < q → q ≤ i → q ≠ j → l[p]? = some x → l[q]? = some y → lt y x = false
theorem Ins.start {i : Nat} (h : Srt lt l a i) : Ins lt l a i i := fun p q x y h1 h2 h3 h4 => h p q x y h1 h2 (by omega)
theorem Ins.step (w : SW lt) {i j : Nat} {x y : α} (h : Ins lt l a j i) (h1 : a < j) (h2 : j ≤ i) (h3 : i < l.length) (hx : l[j - 1]? = some x) (hy : l[j]? = some y) (hlt : lt y x = true) : Ins lt (swp l j (j - 1)) a (j - 1) i := by
  intro p q u v hp hpq hq hne hu hv
  rw [swp_at (by omega) (by omega)] at hu hv
  by_cases q1 : q = j
  · subst q1
    rw [if_neg (by omega), if_pos rfl] at hv
    by_cases p1 : p = q - 1
    · subst p1
      rw [if_pos rfl] at hu
      rw [hu] at hy; cases hy
      rw [hv] at hx; cases hx
      exact w.asym _ _ hlt
    · rw [if_neg p1, if_neg (by omega)] at hu
      exact h p (q - 1) u v hp (by omega) (by omega) (by omega) hu hv
  · rw [if_neg hne, if_neg q1] at hv
    by_cases p1 : p = j - 1
    · subst p1
      rw [if_pos rfl] at hu
      exact h j q u v (by omega) (by omega) hq q1 hu hv
    · rw [if_neg p1] at hu
      by_cases p2 : p = j
      · subst p2
        rw [if_pos rfl] at hu
        exact h (p - 1) q u v (by omega) (by omega) hq q1 hu hv
      · rw [if_neg p2] at hu
        exact h p q u v hp hpq hq q1 hu hv
theorem Ins.end_ {i j : Nat} (w : SW lt) (h : Ins lt l a j i) (hi : i < l.length) (hj : j ≤ i) (hlt : j ≤ a ∨ ∀ x y, l[j - 1]? = some x → l[j]? = some y → lt y x = false) : Srt lt l a (i + 1) := by
  intro p q x y h1 h2 h3 hx hy
  by_cases hq : q = j
  · subst hq
    rcases hlt with hlt | hlt
    · omega
    · by_cases hp : p = q - 1
      · subst hp; exact hlt x y hx hy
      · obtain ⟨z, hz⟩ : ∃ z, l[q - 1]? = some z := ⟨_, List.getElem?_eq_getElem (by omega)⟩
        exact w.trans x z y (h p (q - 1) x z h1 (by omega) (by omega) (by omega) hx hz) (hlt z y hz hy)
  · exact h p q x y h1 h2 (by omega) hq hx hy
/-- what the search of the symmetric merge has found -/
structure Cut (lt : α → α → Bool) (l : List α) (a m b mid s : Nat) : Prop where
  ge : a ≤ s
  lem : s ≤ m
  mide : mid + m - s ≤ b
  le : m ≤ mid + m - s
  mid_ge : s ≤ mid
  lo : ∀ x y, a < s → l[s - 1]? = some x → l[mid + m - s]? = some y → mid + m - s < b → lt y x = false
  hi : ∀ x y, s < m → m < mid + m - s → l[s]? = some x → l[mid + m - s - 1]? = some y → lt y x = true
theorem Cut.rot (w : SW lt) {mid s : Nat} (h : Cut lt l a m b mid s) (h3 : b ≤ l.length) (s1 : Srt lt l a m) (s2 : Srt lt l m b) : Loc lt a b l (rot l s m (mid + m - s)) ∧ Srt lt (rot l s m (mid + m - s)) a s ∧ Srt lt (rot l s m (mid + m - s)) s mid ∧
    Srt lt (rot l s m (mid + m - s)) mid (mid + m - s) ∧ Srt lt (rot l s m (mid + m - s)) (mid + m - s) b ∧
    ∀ p q x y, a ≤ p → p < mid → mid ≤ q → q < b → (rot l s m (mid + m - s))[p]? = some x → (rot l s m (mid + m - s))[q]? = some y → lt y x = false := by
  obtain ⟨g1, g2, g3, g4, g5, lo, hi⟩ := h
  have hle : ∀ p q x y, s ≤ p → p < m → m ≤ q → q < mid + m - s → l[p]? = some x → l[q]? = some y → lt y x = true := fun p q x y h1 h2 h3' h4 hx hy => by
    obtain ⟨u, hu⟩ : ∃ u, l[s]? = some u := ⟨_, List.getElem?_eq_getElem (by omega)⟩
    obtain ⟨v, hv⟩ : ∃ v, l[mid + m - s - 1]? = some v := ⟨_, List.getElem?_eq_getElem (by omega)⟩
    have huv := hi u v (by omega) (by omega) hu hv
    have hux : lt x u = false := by
      by_cases hp : p = s
      · subst hp; rw [hu] at hx; cases hx; exact w.irr _
      · exact s1 s p u x g1 (by omega) h2 hu hx
    have hyv : lt v y = false := by
      by_cases hq : q = mid + m - s - 1
      · subst hq; rw [hv] at hy; cases hy; exact w.irr _
      · exact s2 q _ y v h3' (by omega) (by omega) hy hv
    cases hyx : lt y x
    · have h1 := w.trans x y v hyx hyv
      have h2 := w.trans u x v hux h1
      rw [huv] at h2; exact h2.symm
    · rfl
  have hat := rot_at (l := l) g2 g4 (by omega)
  refine ⟨(Loc.rot w g2 g4 (by omega) hle).wide g1 g3, ?_, ?_, ?_, ?_, ?_⟩
  · intro p q x y h1 h2 h3 hx hy
    rw [hat, if_pos (by omega)] at hx hy
    exact s1 p q x y h1 h2 (by omega) hx hy
  · intro p q x y h1 h2 h3 hx hy
    rw [hat, if_neg (by omega), if_pos (by omega)] at hx hy
    exact s2 _ _ x y (by omega) (by omega) (by omega) hx hy
  · intro p q x y h1 h2 h3 hx hy
    rw [hat, if_neg (by omega), if_neg (by omega), if_pos (by omega)] at hx hy
    exact s1 _ _ x y (by omega) (by omega) (by omega) hx hy
  · intro p q x y h1 h2 h3 hx hy
    rw [hat, if_neg (by omega), if_neg (by omega), if_neg (by omega)] at hx hy
    exact s2 p q x y (by omega) h2 h3 hx hy
  · intro p q x y h1 h2 h3 h4 hx hy
    rw [hat] at hx hy
    rw [if_neg (by omega), if_neg (by omega)] at hy
    by_cases c1 : p < s
    · rw [if_pos c1] at hx
      by_cases c2 : q < mid + m - s
      · rw [if_pos c2] at hy
        exact s1 _ _ x y h1 (by omega) (by omega) hx hy
      · rw [if_neg c2] at hy
        obtain ⟨u, hu⟩ : ∃ u, l[s - 1]? = some u := ⟨_, List.getElem?_eq_getElem (by omega)⟩
        obtain ⟨v, hv⟩ : ∃ v, l[mid + m - s]? = some v := ⟨_, List.getElem?_eq_getElem (by omega)⟩
        have huv := lo u v (by omega) hu hv (by omega)
        have hxu : lt u x = false := by
          by_cases hp : p = s - 1
          · subst hp; rw [hu] at hx; cases hx; exact w.irr _
          · exact s1 p _ x u h1 (by omega) (by omega) hx hu
        have hvy : lt y v = false := by
          by_cases hq : q = mid + m - s
          · subst hq; rw [hv] at hy; cases hy; exact w.irr _
          · exact s2 _ q v y (by omega) (by omega) h4 hv hy
        exact w.trans x v y (w.trans x u v hxu huv) hvy
    · rw [if_neg c1, if_pos (by omega)] at hx
      by_cases c2 : q < mid + m - s
      · rw [if_pos c2] at hy
        exact w.asym _ _ (hle _ _ y x (by omega) (by omega) (by omega) (by omega) hy hx)
      · rw [if_neg c2] at hy
        exact s2 _ _ x y (by omega) (by omega) h4 hx hy
/-- from a on blocks of B are in order, up to n -/
inductive Bl (lt : α → α → Bool) (l : List α) (B n : Nat) : Nat → Prop
  | nil {a : Nat} : n ≤ a → Bl lt l B n a
  | cons {a : Nat} : Srt lt l a (min (a + B) n) → Bl lt l B n (a + B) → Bl lt l B n a
/-- up to a blocks of B are in order -/
inductive Up (lt : α → α → Bool) (l : List α) (B : Nat) : Nat → Prop
  | nil : Up lt l B 0
  | snoc {a : Nat} : Up lt l B a → Srt lt l a (a + B) → Up lt l B (a + B)
theorem Bl.out {B n e : Nat} (h : Bl lt l B n e) (k : Loc lt c d l l') (hd : d ≤ e) : Bl lt l' B n e := by
  induction h with
  | nil h => exact .nil h
  | cons h1 _ ih => exact .cons (h1.of_out k (.inr hd)) (ih (by omega))
theorem Up.out {B e : Nat} (h : Up lt l B e) (k : Loc lt c d l l') (hd : e ≤ c) : Up lt l' B e := by
  induction h with
  | nil => exact .nil
  | snoc _ h2 ih => exact .snoc (ih (by omega)) (h2.of_out k (.inl hd))
theorem Bl.head {B n e : Nat} (h : Bl lt l B n e) (he : e < n) : Srt lt l e (min (e + B) n) ∧ Bl lt l B n (e + B) := by
  cases h with
  | nil h => omega
  | cons h1 h2 => exact ⟨h1, h2⟩
theorem Bl.all {B n : Nat} (h : Bl lt l B n 0) (hB : n ≤ B) : Srt lt l 0 n := by
  by_cases h0 : 0 < n
  · have := (h.head h0).1
    rwa [Nat.zero_add, Nat.min_eq_right hB] at this
  · exact Srt.one (by omega)
/-- stable insertion -/
def insS (lt : α → α → Bool) (x : α) : List α → List α
  | [] => [x]
  | y :: l => if lt x y = true then x :: y :: l else y :: insS lt x l
def sortS (lt : α → α → Bool) (l : List α) : List α := l.foldl (fun acc x => insS lt x acc) []
end
end Go.Proofs.YtablhmobekmflaaDoor.Stb

/-! Ew -/
namespace Go.Proofs.YtablhmobekmflaaDoor
set_option linter.unusedVariables false
set_option linter.unusedSimpArgs false
open Go.RowKit
/-- a world that is greater than W -/
structure EW (W : World) where
  w : World
  ext : Ext W w
instance ewInh (W : World) : Nonempty (EW W) := ⟨⟨W, Ext.refl W⟩⟩
theorem EW.cell {W : World} {p : Addr} {u : Value} (h : W.cell? p = some u) (x : EW W) : x.w.cell? p = some u := x.ext.cell h
theorem EW.cells {W : World} {g : Nat} (hg : g < W.heap.size) (x : EW W) (o : Nat) : x.w.cell? ⟨g, o, none⟩ = W.cell? ⟨g, o, none⟩ := x.ext.cells _ hg
end Go.Proofs.YtablhmobekmflaaDoor

/-! Extd -/
namespace Go.Proofs.YtablhmobekmflaaDoor
set_option linter.unusedVariables false
set_option linter.unusedSimpArgs false
open Go.RowKit
structure Extd (w w' : World) : Prop where
  ext : Ext w w'
  dr : w.drawn ≤ w'.drawn
section
variable {w w1 w2 : World}
theorem Extd.refl (w : World) : Extd w w := ⟨Ext.refl w, Nat.le_refl _⟩
theorem Extd.trans (h : Extd w w1) (k : Extd w1 w2) : Extd w w2 := ⟨h.ext.trans k.ext, Nat.le_trans h.dr k.dr⟩
theorem Extd.drew (h : Extd w w1) : Extd w w1.drew := ⟨h.ext.drew, Nat.le_succ_of_le h.dr⟩
theorem Extd.alloc (h : Extd w w1) (o : Obj) : Extd w (w1.alloc o) := ⟨h.ext.alloc o, h.dr⟩
theorem Extd.setCell (h : Extd w w1) {p : Addr} (hp : w.heap.size ≤ p.block) (u : Value) : Extd w (w1.setCell p u) := ⟨h.ext.setCell hp u, h.dr⟩
theorem Extd.grow (h : Extd w w1) : ∃ (q : Nat) (os : Array Obj), w1 = Sort.grow (w.drewN q) os := by
  obtain ⟨⟨h1, h2, h3, h4, h5⟩, h6⟩ := h
  refine ⟨w1.drawn - w.drawn, w1.heap.extract w.heap.size w1.heap.size, ?_⟩
  have hh : w1.heap = w.heap ++ w1.heap.extract w.heap.size w1.heap.size := by
    apply Array.ext_getElem?
    intro i
    by_cases hi : i < w.heap.size
    · rw [Array.getElem?_append_left hi]
      exact h5 i hi
    · rw [Array.getElem?_append_right (by omega), Array.getElem?_extract]
      by_cases hi2 : i < w1.heap.size
      · rw [if_pos (by omega), show w.heap.size + (i - w.heap.size) = i by omega]
      · rw [if_neg (by omega), Array.getElem?_eq_none (by omega)]
  unfold Sort.grow World.drewN
  dsimp only
  rw [← hh, ← h1, ← h2, ← h3, show w.drawn + (w1.drawn - w.drawn) = w1.drawn by omega]
end
/-- a world that is greater than W and has drawn no less -/
structure EWd (W : World) where
  w : World
  exd : Extd W w
theorem EWd.ext {W : World} (x : EWd W) : Ext W x.w := x.exd.ext
instance ewdInh (W : World) : Nonempty (EWd W) := ⟨⟨W, Extd.refl W⟩⟩
end Go.Proofs.YtablhmobekmflaaDoor

/-! StbL -/
namespace Go.Proofs.YtablhmobekmflaaDoor
set_option linter.unusedVariables false
set_option linter.unusedSimpArgs false
open Go.Shelf Go.RowKit Go.Lib Go.Sort
section
variable {α : Type} [Inhabited α]
theorem arr_get {d : Array α} {i : Nat} (h : i < d.size) : d.toList[i]? = some d[i]! := by
  rw [Array.getElem?_toList, getElem!_pos d i h, Array.getElem?_eq_getElem h]
end
end Go.Proofs.YtablhmobekmflaaDoor

/-! SrtK -/
namespace Go.Proofs.YtablhmobekmflaaDoor
set_option linter.unusedVariables false
set_option linter.unusedSimpArgs false
open Go.Shelf Go.RowKit Go.Lib Go.Sort
section
variable {α : Type} [Inhabited α] {enc : α → List Value} {k : Nat}
theorem flatK_list (hk : ∀ x, (enc x).length = k) (d : Array α) : (flatK enc k d).toList = d.toList.flatMap enc := by
  have hl : (d.toList.flatMap enc).length = d.size * k := by rw [flatMap_len enc k hk, Array.length_toList]
  apply List.ext_getElem?
  intro t
  by_cases ht : t < d.size * k
  · have hk0 : 0 < k := by
      cases k with
      | zero => omega
      | succ k => omega
    have hq : t / k < d.size := Nat.div_lt_of_lt_mul (by rwa [Nat.mul_comm])
    have hr : t % k < k := Nat.mod_lt _ hk0
    have h1 := flatMap_at enc k hk d.toList (t / k) d[t / k]! (t % k) (arr_get hq) hr
    rw [Nat.div_add_mod' t k] at h1
    rw [h1, arr_get (by rw [size_flatK]; exact ht), get_flatK enc k d t ht, List.getElem?_eq_getElem (by rw [hk]; exact hr), getElem!_pos _ _ (by rw [hk]; exact hr)]
  · rw [List.getElem?_eq_none (by rw [Array.length_toList, size_flatK]; omega), List.getElem?_eq_none (by omega)]
variable {w W : World} {L g n c : Nat} {T : TypeId} {l : List α}
theorem own_holds (hk : ∀ x, (enc x).length = k) (h : w.ownsRow L T k (.slice (some ⟨g, 0, none⟩) n c) n (l.flatMap enc)) (hl : l.length = n) : HoldsK enc k w g 0 l.toArray := by
  intro j hj
  rw [size_flatK] at hj
  have hj' : j < n * k := by simpa [hl] using hj
  have h1 := h.cellAt j hj'
  have h2 : (flatK enc k l.toArray).toList[j]? = some (flatK enc k l.toArray)[j]! := arr_get (by rw [size_flatK]; exact hj)
  rw [flatK_list hk] at h2
  refine ⟨by rw [Nat.zero_add, h1]; exact h2, ?_⟩
  rcases h.2 with ⟨hv, hn⟩ | ⟨g', cap, cur, hv, hg, hb, -⟩
  · cases hv
  · cases hv
    simp [World.frozen?, hb]
theorem swk_heap {m : Nat} {os : Array Obj} {cur : Array Value} {e : TypeId} {fr : Nat × Nat} (d : Array α) (hb : w.heap[g]? = some (.cells cur e fr)) :
    (sortWorldK enc k w g 0 m d os).heap[g]? = some (.cells (putCells id 0 (flatK enc k d) cur) e fr) := by
  have hg : g < w.heap.size := (Array.getElem?_eq_some_iff.1 hb).1
  unfold sortWorldK
  rw [heap_grow_old _ _ (by rw [size_putRowK]; exact hg)]
  simp [putRowK, putRow, mapBlock, Sort.ahead, Array.getElem?_modify, hb, onCells]
theorem swk_grown (h : SWK enc k w g 0 l.toArray W) : w.grownBy W (some g) := by
  obtain ⟨m, os, rfl⟩ := h
  refine ⟨rfl, rfl, rfl, by unfold sortWorldK; rw [size_grow, size_putRowK]; exact Nat.le_add_right _ _, fun q hq hne => ?_⟩
  unfold sortWorldK
  rw [heap_grow_old _ _ (by rw [size_putRowK]; exact hq)]
  have : g ≠ q := fun e => hne (by rw [e])
  simp [putRowK, putRow, mapBlock, Sort.ahead, Array.getElem?_modify, this]
theorem take_putF (cur : Array Value) (F : Array Value) (h : F.size ≤ cur.size) : (putCells id 0 F cur).toList.take F.size = F.toList := by
  apply List.ext_getElem?
  intro j
  by_cases hj : j < F.size
  · rw [List.getElem?_take_of_lt hj, Array.getElem?_toList]
    simp [putCells, hj, show j < cur.size by omega]
  · rw [List.getElem?_take_eq_none (by omega), List.getElem?_eq_none (by simp; omega)]
/-- behind the sort the same slice owns what the sort has left there -/
theorem swk_own (hk : ∀ x, (enc x).length = k) {xs : List Value} (h : w.ownsRow L T k (.slice (some ⟨g, 0, none⟩) n c) n xs) (hS : SWK enc k w g 0 l.toArray W) (hl : l.length = n) : W.ownsRow L T k (.slice (some ⟨g, 0, none⟩) n c) n (l.flatMap enc) := by
  refine ⟨by rw [flatMap_len enc k hk, hl], ?_⟩
  rcases h.2 with ⟨hv, hn⟩ | ⟨g', cap, cur, hv, hg, hb, hnc, hcm, hcs, ht⟩
  · cases hv
  · cases hv
    obtain ⟨m, os, rfl⟩ := hS
    refine .inr ⟨g, c, _, rfl, hg, swk_heap _ hb, hnc, hcm, by simp [putCells, hcs], ?_⟩
    have h1 := take_putF cur (flatK enc k l.toArray) (by rw [size_flatK]; simp [hl, hcs]; exact Nat.mul_le_mul_right _ hnc)
    rw [flatK_list hk, size_flatK] at h1
    simpa [hl] using h1
end
end Go.Proofs.YtablhmobekmflaaDoor

/-! CmpI -/
namespace Go.Proofs.YtablhmobekmflaaDoor
set_option linter.unusedVariables false
set_option linter.unusedSimpArgs false
open Go.RowKit
def cmpI (a b : Int) : Int := if a < b then -1 else if b < a then 1 else 0
theorem isNaN_any (a : Int) (w : World) : Calls Tryd.prog 57 #[.int .i64 a] w fun e w' => e = .returned (.bool false) ∧ w = w' := by
  go_enter Tryd.func57, Tryd.ntmps57
  go_wp2
  go_ret
  exact ⟨rfl, rfl⟩
set_option maxHeartbeats 400000 in
theorem Compare_any (a b : Int) (w : World) : Calls Tryd.prog 47 #[.int .i64 a, .int .i64 b] w fun e w' => e = .returned (.int .i64 (cmpI a b)) ∧ w = w' := by
  go_enter Tryd.func47, Tryd.ntmps47
  go_wp2_with (first | (go_at_call 57; refine (isNaN_any _ _).mono ?_; rintro e w' ⟨rfl, rfl⟩))
  all_goals go_ret
  · exact ⟨ret_int (by unfold cmpI; simp; omega), rfl⟩
  · exact ⟨ret_int (by unfold cmpI; rw [if_neg (by omega), if_pos (by omega)]), rfl⟩
  · exact ⟨ret_int (by unfold cmpI; rw [if_neg (by omega), if_neg (by omega)]), rfl⟩
end Go.Proofs.YtablhmobekmflaaDoor

/-! ScrP -/
namespace Go.Proofs.YtablhmobekmflaaDoor
set_option linter.unusedVariables false
set_option linter.unusedSimpArgs false
structure Gl where
  row : Int
  col : Int
  ch : Int
  color : Int
  italic : Bool
  under : Bool
  deriving DecidableEq
def Gl.cell (g : Gl) : Int := g.row * 32 + g.col
def Gl.zero : Gl := ⟨0, 0, 0, 0, false, false⟩
/-- a character within the grid -/
def Gl.ok (g : Gl) : Prop := 0 ≤ g.row ∧ g.row < 15 ∧ 0 ≤ g.col ∧ g.col < 32 ∧ g.ch ≠ 0
/-- the place of the first character that is not ahead of a cell -/
def putAt (l : List Gl) (c : Int) : Nat := (l.takeWhile fun x => decide (x.cell < c)).length
/-- a screen with a character, in the place of the one in its cell (the reference's) -/
def putG (l : List Gl) (g : Gl) : List Gl :=
  l.take (putAt l g.cell) ++ g :: l.drop (putAt l g.cell + if (l[putAt l g.cell]?.map fun x => decide (x.row = g.row ∧ x.col = g.col)) = some true then 1 else 0)
/-- the grid with characters -/
def gridOf (gs : List Gl) : List Gl := gs.foldl (fun G g => G.set g.cell.toNat g) (List.replicate 480 Gl.zero)
/-- the characters of a grid -/
def scrOf (G : List Gl) : List Gl := G.filter fun g => decide (g.ch ≠ 0)
def screenG (gs : List Gl) : List Gl := scrOf (gridOf gs)
/-- each character of the grid stands in its cell -/
def GridOk (G : List Gl) : Prop := G.length = 480 ∧ ∀ (i : Nat) (g : Gl), G[i]? = some g → g = Gl.zero ∨ (g.ok ∧ g.cell = i)
/-- the cells ascend -/
def Asc (l : List Gl) : Prop := l.Pairwise fun x y => x.cell < y.cell
/-- the place of the first number that is not less -/
def insAt (l : List Int) (t : Int) : Nat := (l.takeWhile fun x => decide (x < t)).length
/-- a number set into ascending numbers (the reference's) -/
def insT (l : List Int) (t : Int) : List Int := if l[insAt l t]? = some t then l else l.take (insAt l t) ++ t :: l.drop (insAt l t)
theorem takeWhile_prefix {α : Type} {p : α → Bool} : ∀ (l : List α), l.take (l.takeWhile p).length = l.takeWhile p
  | [] => rfl
  | a :: l => by
    rw [List.takeWhile_cons]
    by_cases h : p a = true
    · rw [if_pos h, List.length_cons, List.take_succ_cons, takeWhile_prefix l]
    · rw [if_neg h]; rfl
theorem mem_takeWhile {α : Type} {p : α → Bool} : ∀ {l : List α} {x : α}, x ∈ l.takeWhile p → p x = true
  | [], x, h => by simp at h
  | a :: l, x, h => by
    rw [List.takeWhile_cons] at h
    by_cases ha : p a = true
    · rw [if_pos ha] at h
      rcases List.mem_cons.1 h with rfl | h
      · exact ha
      · exact mem_takeWhile h
    · rw [if_neg ha] at h; simp at h
theorem drop_takeWhile_head {α : Type} {p : α → Bool} : ∀ {l : List α} {x : α}, (l.drop (l.takeWhile p).length).head? = some x → p x = false
  | [], x, h => by simp at h
  | a :: l, x, h => by
    rw [List.takeWhile_cons] at h
    by_cases ha : p a = true
    · rw [if_pos ha, List.length_cons, List.drop_succ_cons] at h
      exact drop_takeWhile_head h
    · rw [if_neg ha] at h
      simp at h; subst h; simpa using ha
def tmsOf (l : List Int) : List Int := l.foldl insT []
structure Sh where
  inn : Int
  out : Int
  scr : List Gl
  deriving DecidableEq
/-- does a screen go on with the last show? -/
def goesB (l : List Sh) (a : Int) (s : List Gl) : Bool := match l.getLast? with
  | none => false
  | some x => decide (x.out = a) && decide (x.scr = s)
/-- the last show goes on -/
def shExt (l : List Sh) (b : Int) : List Sh := match l.getLast? with
  | none => l
  | some x => l.dropLast ++ [{ x with out := b }]
def shStep (l : List Sh) (a b : Int) (s : List Gl) : List Sh := if s = [] then l else if goesB l a s = true then shExt l b else l ++ [⟨a, b, s⟩]
/-- the reference's step -/
def shStepR (l : List Sh) (a b : Int) (s : List Gl) : List Sh := if goesB l a s = true then shExt l b else if s = [] then l else l ++ [⟨a, b, s⟩]
def shGo (S : Int → List Gl) (l : List Sh) : List Int → List Sh
  | [] => l
  | [_] => l
  | a :: b :: t => shGo S (shStep l a b (S a)) (b :: t)
def shL (S : Int → List Gl) (t : List Int) : List Sh := shGo S [] t
/-- no show is empty -/
def ShNe (l : List Sh) : Prop := ∀ x ∈ l, x.scr ≠ []
/-- the screen of shows at a frame -/
def atS (l : List Sh) (f : Int) : List Gl := ((l.find? fun x => decide (x.inn ≤ f) && decide (f < x.out)).map (·.scr)).getD []
/-- what holds of the shows up to a frame -/
structure ShInv (S : Int → List Gl) (l : List Sh) (a : Int) : Prop where
  ne : ShNe l
  ord : ∀ x ∈ l, x.inn < x.out ∧ x.out ≤ a
  nxt : l.Pairwise fun x y => x.out ≤ y.inn
  dif : ∀ i x y, l[i]? = some x → l[i + 1]? = some y → ¬ (x.out = y.inn ∧ x.scr = y.scr)
  at_ : ∀ f, f < a → atS l f = S f
  src : ∀ x ∈ l, ∃ t, x.scr = S t
/-- a screen stays what it is from one change to the next -/
def Steady (S : Int → List Gl) (t : List Int) : Prop := ∀ i a b, t[i]? = some a → t[i + 1]? = some b → ∀ f, a ≤ f → f < b → S f = S a
structure Ov where
  a : Int
  b : Int
  inn : Int
  out : Int
  deriving DecidableEq
/-- do two screens have a cell in common? -/
def meetB (a b : List Gl) : Bool := a.any fun x => b.any fun y => decide (x.row = y.row ∧ x.col = y.col)
/-- the cells that are taken -/
def setOf (gs : List Gl) : List Bool := gs.foldl (fun G g => G.set g.cell.toNat true) (List.replicate 480 false)
def meetS (a b : List Bool) : Bool := (a.zip b).any fun p => p.1 && p.2
/-- the overlap of two events, if there is one: 'E' gives the span and the glyphs of an event -/
def ovOne (E : Nat → Int × Int × List Gl) (i j : Nat) : Option Ov :=
  if max (E i).1 (E j).1 < min (E i).2.1 (E j).2.1 ∧ meetB (E i).2.2 (E j).2.2 = true then some ⟨i, j, max (E i).1 (E j).1, min (E i).2.1 (E j).2.1⟩ else none
/-- in the order of the first event, of n: those of the events up to k, and of the k-th with those up to m -/
def ovRow (E : Nat → Int × Int × List Gl) (i k m : Nat) : List Ov := (List.range' k (m - k)).filterMap fun j => ovOne E i j
def ovR (E : Nat → Int × Int × List Gl) (n k : Nat) : List Ov := (List.range k).flatMap fun i => ovRow E i (i + 1) n
/-- in the order of the second event -/
def ovCol (E : Nat → Int × Int × List Gl) (j k : Nat) : List Ov := (List.range k).filterMap fun i => ovOne E i j
def ovP (E : Nat → Int × Int × List Gl) (k : Nat) : List Ov := (List.range k).flatMap fun j => ovCol E j j
def ovLt (x y : Ov) : Prop := x.a < y.a ∨ (x.a = y.a ∧ x.b < y.b)
end Go.Proofs.YtablhmobekmflaaDoor

/-! SpnP -/
namespace Go.Proofs.YtablhmobekmflaaDoor
set_option linter.unusedVariables false
set_option linter.unusedSimpArgs false
structure Spn where
  inn : Int
  out : Int
  deriving DecidableEq
/-- a span set into a set behind its spans -/
def mgStep (l : List Spn) (s : Spn) : List Spn := match l.getLast? with
  | some x => if s.inn ≤ x.out then l.dropLast ++ [⟨x.inn, max x.out s.out⟩] else l ++ [s]
  | none => [s]
def mg (l : List Spn) : List Spn := l.foldl mgStep []
theorem mg_none (s : Spn) : mgStep [] s = [s] := rfl
theorem mg_snoc (l : List Spn) (x s : Spn) : mgStep (l ++ [x]) s = if s.inn ≤ x.out then l ++ [⟨x.inn, max x.out s.out⟩] else l ++ [x, s] := by
  unfold mgStep
  rw [show (l ++ [x]).getLast? = some x by simp]
  simp only [List.dropLast_concat]
  split
  · rfl
  · simp
theorem mg_swap (l : List Spn) (x y : Spn) (h : x.inn = y.inn) (hx : x.inn < x.out) (hy : y.inn < y.out) : mgStep (mgStep l x) y = mgStep (mgStep l y) x := by
  obtain ⟨xi, xo⟩ := x
  obtain ⟨yi, yo⟩ := y
  simp only at h hx hy
  subst h
  rcases List.eq_nil_or_concat l with rfl | ⟨l, z, e⟩
  · rw [mg_none, mg_none, show ([⟨xi, xo⟩] : List Spn) = [] ++ [⟨xi, xo⟩] from rfl, show ([⟨xi, yo⟩] : List Spn) = [] ++ [⟨xi, yo⟩] from rfl, mg_snoc, mg_snoc, if_pos (by simp only; omega), if_pos (by simp only; omega)]
    simp only [Int.max_comm]
  · rw [List.concat_eq_append] at e; subst e
    rw [mg_snoc, mg_snoc]
    by_cases hz : xi ≤ z.out
    · rw [if_pos hz, if_pos hz, mg_snoc, mg_snoc, if_pos (by simp only; omega), if_pos (by simp only; omega)]
      simp only [Int.max_assoc, Int.max_comm xo yo]
    · rw [if_neg hz, if_neg hz, show l ++ [z, ⟨xi, xo⟩] = (l ++ [z]) ++ [⟨xi, xo⟩] by simp, show l ++ [z, ⟨xi, yo⟩] = (l ++ [z]) ++ [⟨xi, yo⟩] by simp, mg_snoc, mg_snoc, if_pos (by simp only; omega), if_pos (by simp only; omega)]
      simp only [Int.max_comm]
def Full (l : List Spn) : Prop := ∀ s ∈ l, s.inn < s.out
def InAsc (l : List Spn) : Prop := l.Pairwise fun x y => x.inn ≤ y.inn
theorem mg_front : ∀ (A : List Spn) (x : Spn) (B l : List Spn), (∀ a ∈ A, a.inn = x.inn) → Full A → x.inn < x.out → (A ++ x :: B).foldl mgStep l = (x :: (A ++ B)).foldl mgStep l
  | [], x, B, l, _, _, _ => rfl
  | a :: A, x, B, l, h1, h2, h3 => by
    have := mg_front A x B (mgStep l a) (fun b hb => h1 b (by simp [hb])) (fun b hb => h2 b (by simp [hb])) h3
    simp only [List.cons_append, List.foldl_cons] at this ⊢
    rw [this, mg_swap l a x (h1 a (by simp)) (h2 a (by simp)) h3]
theorem mg_perm : ∀ (l m base : List Spn), InAsc l → InAsc m → l.Perm m → Full l → l.foldl mgStep base = m.foldl mgStep base
  | [], m, base, _, _, hp, _ => by rw [List.nil_perm.1 hp]
  | x :: l, m, base, hl, hm, hp, hf => by
    obtain ⟨A, B, rfl⟩ := List.append_of_mem (hp.mem_iff.1 (show x ∈ x :: l by simp))
    have hfm : ∀ s ∈ A ++ x :: B, s.inn < s.out := fun s hs => hf s (hp.mem_iff.2 hs)
    unfold InAsc at hl hm
    rw [List.pairwise_cons] at hl
    rw [List.pairwise_append, List.pairwise_cons] at hm
    have hA : ∀ a ∈ A, a.inn = x.inn := by
      intro a ha
      have h1 := hm.2.2 a ha x (by simp)
      have h2 : a ∈ x :: l := hp.mem_iff.2 (by simp [ha])
      rcases List.mem_cons.1 h2 with rfl | h2
      · rfl
      · have := hl.1 a h2; omega
    rw [mg_front A x B base hA (fun s hs => hfm s (by simp [hs])) (hf x (by simp))]
    have hp' : l.Perm (A ++ B) := (List.perm_cons x).1 (hp.trans List.perm_middle)
    simp only [List.foldl_cons]
    refine mg_perm l (A ++ B) _ hl.2 ?_ hp' (fun s hs => hf s (by simp [hs]))
    unfold InAsc
    rw [List.pairwise_append]
    exact ⟨hm.1, hm.2.1.2, fun a ha b hb => hm.2.2 a ha b (by simp [hb])⟩
/-- is a number in a set? -/
def Inn (l : List Spn) (f : Int) : Prop := ∃ s ∈ l, s.inn ≤ f ∧ f < s.out
/-- a set: its spans in order, apart from each other, not empty -/
def SetOk (l : List Spn) : Prop := Full l ∧ l.Pairwise fun x y => x.out < y.inn
theorem inn_snoc (l : List Spn) (x : Spn) (f : Int) : Inn (l ++ [x]) f ↔ Inn l f ∨ (x.inn ≤ f ∧ f < x.out) := by
  unfold Inn
  constructor
  · rintro ⟨s, hs, h⟩
    rcases List.mem_append.1 hs with hs | hs
    · exact .inl ⟨s, hs, h⟩
    · simp at hs; subst hs; exact .inr h
  · rintro (⟨s, hs, h⟩ | h)
    · exact ⟨s, by simp [hs], h⟩
    · exact ⟨x, by simp, h⟩
theorem step_ok {l : List Spn} {s : Spn} (h : SetOk l) (hs : s.inn < s.out) (hl : ∀ x ∈ l, x.inn ≤ s.inn) : SetOk (mgStep l s) ∧ (∀ f, Inn (mgStep l s) f ↔ Inn l f ∨ (s.inn ≤ f ∧ f < s.out)) ∧ (∀ x ∈ mgStep l s, x.inn ≤ s.inn) ∧ (mgStep l s).length ≤ l.length + 1 ∧
    (∀ lo hi : Int, (∀ x ∈ l, lo ≤ x.inn ∧ x.out ≤ hi) → lo ≤ s.inn → s.out ≤ hi → ∀ x ∈ mgStep l s, lo ≤ x.inn ∧ x.out ≤ hi) := by
  rcases List.eq_nil_or_concat l with rfl | ⟨l, z, e⟩
  · rw [mg_none]
    refine ⟨⟨fun x hx => by simp at hx; subst hx; exact hs, by simp⟩, fun f => ?_, fun x hx => by simp at hx; subst hx; exact Int.le_refl _, by simp, fun lo hi _ h1 h2 x hx => by simp at hx; subst hx; exact ⟨h1, h2⟩⟩
    have := inn_snoc [] s f
    simpa using this
  · rw [List.concat_eq_append] at e; subst e
    rw [mg_snoc]
    have hz := hl z (by simp)
    have hzf := h.1 z (by simp)
    have hp := h.2
    rw [List.pairwise_append] at hp
    split
    · rename_i hc
      refine ⟨⟨fun x hx => ?_, ?_⟩, fun f => ?_, fun x hx => ?_, by simp, fun lo hi hb h1 h2 x hx => ?_⟩
      · rcases List.mem_append.1 hx with hx | hx
        · exact h.1 x (by simp [hx])
        · simp at hx; subst hx; simp only; omega
      · rw [List.pairwise_append]
        refine ⟨hp.1, by simp, fun a ha b hb => ?_⟩
        simp at hb; subst hb
        exact hp.2.2 a ha z (by simp)
      · rw [inn_snoc, inn_snoc, or_assoc]
        refine or_congr_right ?_
        simp only
        omega
      · rcases List.mem_append.1 hx with hx | hx
        · exact hl x (by simp [hx])
        · simp at hx; subst hx; exact hz
      · rcases List.mem_append.1 hx with hx | hx
        · exact hb x (by simp [hx])
        · simp at hx; subst hx
          have := hb z (by simp)
          simp only; omega
    · rename_i hc
      have e : l ++ [z, s] = (l ++ [z]) ++ [s] := by simp
      rw [e]
      refine ⟨⟨fun x hx => ?_, ?_⟩, fun f => inn_snoc _ _ _, fun x hx => ?_, by simp, fun lo hi hb h1 h2 x hx => ?_⟩
      · rcases List.mem_append.1 hx with hx | hx
        · exact h.1 x hx
        · simp at hx; subst hx; exact hs
      · rw [List.pairwise_append]
        refine ⟨h.2, by simp, fun a ha b hb => ?_⟩
        simp at hb; subst hb
        rcases List.mem_append.1 ha with ha | ha
        · have h1 := hp.2.2 a ha z (by simp)
          omega
        · simp at ha; subst ha; omega
      · rcases List.mem_append.1 hx with hx | hx
        · exact hl x hx
        · simp at hx; subst hx; exact Int.le_refl _
      · rcases List.mem_append.1 hx with hx | hx
        · exact hb x hx
        · simp at hx; subst hx; exact ⟨h1, h2⟩
theorem mg_fold : ∀ (l m : List Spn), SetOk m → InAsc l → Full l → (∀ x ∈ m, ∀ s ∈ l, x.inn ≤ s.inn) → SetOk (l.foldl mgStep m) ∧ (∀ f, Inn (l.foldl mgStep m) f ↔ Inn m f ∨ Inn l f) ∧ (l.foldl mgStep m).length ≤ m.length + l.length ∧
    (∀ lo hi : Int, (∀ x ∈ m, lo ≤ x.inn ∧ x.out ≤ hi) → (∀ x ∈ l, lo ≤ x.inn ∧ x.out ≤ hi) → ∀ x ∈ l.foldl mgStep m, lo ≤ x.inn ∧ x.out ≤ hi)
  | [], m, h, _, _, _ => ⟨h, fun f => by simp [Inn], by simp, fun lo hi h1 _ => h1⟩
  | s :: l, m, h, ha, hf, hm => by
    unfold InAsc at ha
    rw [List.pairwise_cons] at ha
    obtain ⟨k1, k2, k3, k4, k5⟩ := step_ok h (hf s (by simp)) (fun x hx => hm x hx s (by simp))
    obtain ⟨e1, e2, e3, e4⟩ := mg_fold l (mgStep m s) k1 ha.2 (fun x hx => hf x (by simp [hx])) (fun x hx y hy => by have := k3 x hx; have := ha.1 y hy; omega)
    refine ⟨e1, fun f => ?_, by simp only [List.foldl_cons, List.length_cons]; omega, fun lo hi h1 h2 => ?_⟩
    · rw [List.foldl_cons, e2, k2, or_assoc]
      refine or_congr_right ?_
      unfold Inn
      simp
    · have hs := h2 s (by simp)
      exact e4 lo hi (k5 lo hi h1 hs.1 hs.2) (fun x hx => h2 x (by simp [hx]))
/-- the set of the numbers of spans -/
def full (l : List Spn) : List Spn := l.filter fun s => decide (s.inn < s.out)
theorem full_ok (l : List Spn) : Full (full l) := fun s hs => by simpa using (List.mem_filter.1 hs).2
/-- a span set in behind those that begin no later (the reference's) -/
def putS (l : List Spn) (s : Spn) : List Spn := l.take (l.takeWhile fun x => decide (x.inn ≤ s.inn)).length ++ s :: l.drop (l.takeWhile fun x => decide (x.inn ≤ s.inn)).length
def sortS' (l : List Spn) : List Spn := l.foldl putS []
theorem putS_ok {l : List Spn} {s : Spn} (h : InAsc l) : InAsc (putS l s) ∧ (putS l s).Perm (s :: l) := by
  have hs : l.take (l.takeWhile fun x => decide (x.inn ≤ s.inn)).length ++ l.drop (l.takeWhile fun x => decide (x.inn ≤ s.inn)).length = l := List.take_append_drop _ _
  have hA : ∀ x ∈ l.take (l.takeWhile fun x => decide (x.inn ≤ s.inn)).length, x.inn ≤ s.inn := by
    intro x hx
    rw [takeWhile_prefix] at hx
    simpa using mem_takeWhile hx
  have hB0 : ∀ y, (l.drop (l.takeWhile fun x => decide (x.inn ≤ s.inn)).length).head? = some y → s.inn < y.inn := by
    intro y hy
    have := drop_takeWhile_head (p := fun x : Spn => decide (x.inn ≤ s.inn)) (l := l) hy
    simpa using this
  unfold putS
  generalize l.take (l.takeWhile fun x => decide (x.inn ≤ s.inn)).length = A at *
  generalize l.drop (l.takeWhile fun x => decide (x.inn ≤ s.inn)).length = B at *
  subst hs
  unfold InAsc at *
  rw [List.pairwise_append] at h
  refine ⟨?_, List.perm_middle⟩
  rw [List.pairwise_append]
  refine ⟨h.1, List.pairwise_cons.2 ⟨fun y hy => ?_, h.2.1⟩, fun a ha b hb => ?_⟩
  · cases B with
    | nil => simp at hy
    | cons b B =>
      have hb := hB0 b rfl
      rcases List.mem_cons.1 hy with rfl | hy
      · omega
      · have := (List.pairwise_cons.1 h.2.1).1 y hy; omega
  · rcases List.mem_cons.1 hb with rfl | hb
    · exact hA a ha
    · exact h.2.2 a ha b hb
theorem sortS_fold : ∀ (l m : List Spn), InAsc m → InAsc (l.foldl putS m) ∧ (l.foldl putS m).Perm (m ++ l)
  | [], m, h => ⟨h, by simp⟩
  | s :: l, m, h => by
    obtain ⟨h1, h2⟩ := putS_ok (s := s) h
    obtain ⟨k1, k2⟩ := sortS_fold l (putS m s) h1
    refine ⟨k1, k2.trans ?_⟩
    exact ((h2.append_right l).trans (by simpa using (List.perm_middle (a := s) (l₁ := m) (l₂ := l)).symm))
theorem sortS_ok (l : List Spn) : InAsc (sortS' l) ∧ (sortS' l).Perm l := by
  have := sortS_fold l [] (by simp [InAsc])
  simpa [sortS'] using this
/-- the set of the numbers of spans: what the reference's Join gives -/
def joinS (l : List Spn) : List Spn := mg (sortS' (full l))
/-- what the program's merge gives, whatever the sort has done with spans that begin together -/
theorem merge_join {l m : List Spn} (hp : m.Perm l) (hs : m.Pairwise fun x y => ¬ y.inn < x.inn) : (m.filter fun s => decide (s.inn < s.out)).foldl mgStep [] = joinS l := by
  obtain ⟨h1, h2⟩ := sortS_ok (full l)
  unfold joinS mg
  refine mg_perm _ _ [] ?_ h1 ((hp.filter _).trans h2.symm) (full_ok m)
  unfold InAsc
  exact (hs.imp fun {x y} h => by omega).filter _
theorem joinS_ok (l : List Spn) : SetOk (joinS l) ∧ (∀ f, Inn (joinS l) f ↔ Inn l f) ∧ (joinS l).length ≤ l.length ∧ (∀ lo hi : Int, (∀ x ∈ l, lo ≤ x.inn ∧ x.out ≤ hi) → ∀ x ∈ joinS l, lo ≤ x.inn ∧ x.out ≤ hi) := by
  obtain ⟨h1, h2⟩ := sortS_ok (full l)
  have hf : Full (sortS' (full l)) := fun s hs => full_ok l s (h2.mem_iff.1 hs)
  obtain ⟨k1, k2, k3, k4⟩ := mg_fold (sortS' (full l)) [] ⟨by simp [Full], by simp⟩ h1 hf (by simp)
  refine ⟨k1, fun f => ?_, ?_, fun lo hi h => k4 lo hi (by simp) (fun x hx => h x (List.mem_filter.1 (h2.mem_iff.1 hx)).1)⟩
  · unfold joinS mg
    rw [k2]
    unfold Inn
    constructor
    · rintro (⟨s, hs, _⟩ | ⟨s, hs, h⟩)
      · simp at hs
      · exact ⟨s, (List.mem_filter.1 (h2.mem_iff.1 hs)).1, h⟩
    · rintro ⟨s, hs, h⟩
      exact .inr ⟨s, h2.mem_iff.2 (List.mem_filter.2 ⟨hs, by simp; omega⟩), h⟩
  · have := h2.length_eq
    have := List.length_filter_le (fun s : Spn => decide (s.inn < s.out)) l
    unfold joinS mg full at *
    simp at k3
    omega
end Go.Proofs.YtablhmobekmflaaDoor
