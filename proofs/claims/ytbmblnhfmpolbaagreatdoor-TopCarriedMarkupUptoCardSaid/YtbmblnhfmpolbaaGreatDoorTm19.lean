/- Texts laid together. -/
import Derived.Test.YtbmblnhfmpolbaaGreatDoorTm18
import Derived.Test.YtbmblnhfmpolbaaGreatDoorTm07
import Derived.Test.YtbmblnhfmpolbaaGreatDoorTm10
import Derived.Test.YtbmblnhfmpolbaaGreatDoorTm13
import Derived.Test.YtbmblnhfmpolbaaGreatDoorTm04
import Derived.Test.YtbmblnhfmpolbaaGreatDoorTm05
import Derived.Test.YtbmblnhfmpolbaaGreatDoorTm14
set_option linter.unusedVariables false
set_option linter.unusedSimpArgs false
namespace Go.Proofs.YtbmblnhfmpolbaaGreatDoor
section
open Go.RowKit
theorem rName_inj : ∀ i j : Fin 7, rName ((i.val : Int) + 1) = rName ((j.val : Int) + 1) → i = j := by decide
theorem rName_ne {a b : Nat} (ha : a < 7) (hb : b < 7) (h : a ≠ b) : rName ((a : Int) + 1) ≠ rName ((b : Int) + 1) := fun e => h (congrArg Fin.val (rName_inj ⟨a, ha⟩ ⟨b, hb⟩ e))
def rateCs : Array Value := #[.int .u8 1, .int .u8 2, .int .u8 3, .int .u8 4, .int .u8 5, .int .u8 6, .int .u8 7]
theorem rate_cell {k : Nat} (h : k < 7) : rateCs[k]? = some (.int .u8 ((k : Int) + 1)) := by
 have : k = 0 ∨ k = 1 ∨ k = 2 ∨ k = 3 ∨ k = 4 ∨ k = 5 ∨ k = 6 := by omega
 rcases this with rfl | rfl | rfl | rfl | rfl | rfl | rfl <;> rfl
set_option maxHeartbeats 1000000 in
theorem Rates_any (w : World) : Calls Tryz.prog 105 #[] w fun e w' => e = .returned (.slice (some ⟨w.heap.size, 0, none⟩) 7 7) ∧ w' = w.alloc (.cells rateCs 22) := by
 go_enter Tryz.func105, Tryz.ntmps105
 go_wp2_with fail
 go_ret
 exact ⟨rfl, rfl⟩
def PaRel (w : World) (i : Nat) (v : Value) (wr : World) : Prop := ∃ k : Nat, k ≤ i ∧ v = .int .i64 k ∧ Ext w wr
set_option maxHeartbeats 2000000 in
set_option maxRecDepth 100000 in
theorem RParse_ok (r : Int) (w : World) (h1 : 1 ≤ r) (h7 : r ≤ 7) : Calls Tryz.prog 63 #[.string (rName r)] w fun e w' => e = .returned (.tuple #[.int .u8 r, .int .i64 0]) ∧ Ext w w' := by
 obtain ⟨i, rfl⟩ : ∃ i : Nat, r = (i : Int) + 1 := ⟨(r - 1).toNat, by omega⟩
 have hi : i < 7 := by omega
 clear h1 h7
 have HB0 := Lib.hid (Blk.new w 22 rateCs)
 go_enter Tryz.func63, Tryz.ntmps63
 go_wp2_with fail
 refine (Rates_any _).mono ?_
 rintro e w1 ⟨rfl, hw1⟩
 have HB1 : Hid (Blk w1 w.heap.size 22 rateCs) := by show Blk _ _ _ _; rw [hw1]; exact HB0.out
 have HX1 : Hid (Ext w w1) := by show Ext _ _; rw [hw1]; exact (Ext.refl w).alloc _
 clear hw1
 go_wp2_with fail
 go_loopw [8] (fun v wr => PaRel w1 i v wr) (fun v _ => 7 - (intOf v).toNat)
 case atStart => exact ⟨0, Nat.zero_le _, rfl, Ext.refl w1⟩
 case round =>
  obtain ⟨k, hk, rfl, hx⟩ := hrel
  have HX := Lib.hid hx
  clear hx
  have hk7 : k < 7 := by omega
  have hcl : wr.cell? ⟨w.heap.size, k, none⟩ = some (.int .u8 ((k : Int) + 1)) := by rw [(HB1.out.ext HX.out).cell]; exact rate_cell hk7
  have HN := Lib.hid (TName_any ((k : Int) + 1) wr (by omega) (by omega))
  go_wp2_with fail
  refine HN.out.mono ?_
  rintro e w2 ⟨rfl, hx2⟩
  have HX2 := Lib.hid (HX.out.trans hx2)
  clear hx2
  by_cases he : k = i
  · have hq : ((rName ((k : Int) + 1)).toList == (rName ((i : Int) + 1)).toList) = true := str_eqT (by rw [he])
    go_wp2_with fail
    go_ret2
    exact ⟨rfl, HX1.out.trans HX2.out⟩
  · have hq : ((rName ((k : Int) + 1)).toList == (rName ((i : Int) + 1)).toList) = false := str_eqF (rName_ne hk7 hi he)
    go_wp2_with fail
    exact ⟨⟨k + 1, by omega, by go_num, HX2.out⟩, by simp only [intOf]; omega⟩
theorem kindS_inj : ∀ i j : Fin 4, kindS ((i.val : Int) + 1) = kindS ((j.val : Int) + 1) → i = j := by decide
theorem kindS_ne {a b : Nat} (ha : a < 4) (hb : b < 4) (h : a ≠ b) : kindS ((a : Int) + 1) ≠ kindS ((b : Int) + 1) := fun e => h (congrArg Fin.val (kindS_inj ⟨a, ha⟩ ⟨b, hb⟩ e))
theorem kind_cell {k : Nat} (h : k < 4) : kindNames[k]? = some (.string (kindS ((k : Int) + 1))) := by
 have : k = 0 ∨ k = 1 ∨ k = 2 ∨ k = 3 := by omega
 rcases this with rfl | rfl | rfl | rfl <;> rfl
set_option maxHeartbeats 2000000 in
set_option maxRecDepth 100000 in
theorem PKind_ok (r : Int) (w : World) (h1 : 1 ≤ r) (h4 : r ≤ 4) : Calls Tryz.prog 70 #[.string (kindS r)] w fun e w' => e = .returned (.tuple #[.int .u8 r, .int .i64 0]) ∧ Ext w w' := by
 obtain ⟨i, rfl⟩ : ∃ i : Nat, r = (i : Int) + 1 := ⟨(r - 1).toNat, by omega⟩
 have hi : i < 4 := by omega
 have hwr : IntKind.u8.wrap ((i : Int) + 1) = (i : Int) + 1 := by
  have : i = 0 ∨ i = 1 ∨ i = 2 ∨ i = 3 := by omega
  rcases this with rfl | rfl | rfl | rfl <;> rfl
 clear h1 h4
 have HB0 := Lib.hid (Blk.new w 9 kindNames)
 go_enter Tryz.func70, Tryz.ntmps70
 go_wp2_with fail
 refine (kinds_any _).mono ?_
 rintro e w1 ⟨rfl, hw1⟩
 have HB1 : Hid (Blk w1 w.heap.size 9 kindNames) := by show Blk _ _ _ _; rw [hw1]; exact HB0.out
 have HX1 : Hid (Ext w w1) := by show Ext _ _; rw [hw1]; exact (Ext.refl w).alloc _
 clear hw1
 go_wp2_with fail
 go_loop [8] (fun v => ∃ k : Nat, k ≤ i ∧ v = .int .i64 k) (fun v => 4 - (intOf v).toNat)
 case atStart => exact ⟨0, Nat.zero_le _, rfl⟩
 case round =>
  obtain ⟨k, hk, rfl⟩ := hrel
  have hk4 : k < 4 := by omega
  have hcl : w1.cell? ⟨w.heap.size, k, none⟩ = some (.string (kindS ((k : Int) + 1))) := by rw [HB1.out.cell]; exact kind_cell hk4
  by_cases he : k = i
  · have hq : ((kindS ((k : Int) + 1)).toList == (kindS ((i : Int) + 1)).toList) = true := str_eqT (by rw [he])
    subst he
    go_wp2_with fail
    go_ret2
    exact ⟨by first | rfl | (show Ending.returned (.tuple #[.int .u8 (IntKind.u8.wrap ((k : Int) + 1)), .int .i64 0]) = _; rw [hwr]), HX1.out⟩
  · have hq : ((kindS ((k : Int) + 1)).toList == (kindS ((i : Int) + 1)).toList) = false := str_eqF (kindS_ne hk4 hi he)
    go_wp2_with fail
    exact ⟨⟨k + 1, by omega, by go_num⟩, by simp only [intOf]; omega⟩
end
section
open Go.RowKit
def ApS (T : TypeId) (size : Nat) (cells : Array Value) (base : Nat) (v : Value) (k : Nat) (xs : List Value) (p : Addr) (W : World) : List Value → World → Prop
 | [], w' => Ext W w'
 | [u0], w' => (∃ g, u0 = .slice (some ⟨g, 0, none⟩) 1 1 ∧ Blk w' g T cells) ∧ Ext W w'
 | [_, u1], w' => ∃ w5, Ext W w5 ∧ w5.grownBy w' v.ownBlock ∧ w'.ownsRow base T size u1 (k + 1) (xs ++ cells.toList)
 | [_, u1, _], w' => ∃ w5 w6, Ext W w5 ∧ w5.grownBy w6 v.ownBlock ∧ w6.ownsRow base T size u1 (k + 1) (xs ++ cells.toList) ∧ w' = w6.setCell p u1
 | _, _ => False
structure ApJ (T : TypeId) (size : Nat) (cells : Array Value) (base : Nat) (v : Value) (k : Nat) (xs : List Value) (p : Addr) (W : World) (us : List Value) (w' : World) : Prop where
 kb : us.length ≤ 2 → ∀ T', T' ≠ T → KB T' W w'
 st : ApS T size cells base v k xs p W us w'
section
variable {T : TypeId} {size : Nat} {cells : Array Value} {base k : Nat} {v : Value} {xs : List Value} {p : Addr} {W w' w2 : World} {u0 u1 u2 : Value}
theorem ApJ.start (W : World) : ApJ T size cells base v k xs p W [] W.drew := ⟨fun _ _ _ => KB.ext (Ext.refl W).drew, (Ext.refl W).drew⟩
theorem ApJ.build (h : ApJ T size cells base v k xs p W [] w') : ApJ T size cells base v k xs p W ([] ++ [.slice (some ⟨w'.heap.size, 0, none⟩) 1 1]) (w'.alloc (.cells cells T)) :=
 ⟨fun _ _ _ => KB.ext (Ext.alloc h.st _), ⟨⟨_, rfl, Blk.new w' _ _⟩, Ext.alloc h.st _⟩⟩
theorem ApJ.app (h : ApJ T size cells base v k xs p W [u0] w') (hv : ∀ q, v.ownBlock = some q → Typed w' T q) (hg : w'.grownBy w2 v.ownBlock) (ho : w2.ownsRow base T size u1 (k + 1) (xs ++ cells.toList)) : ApJ T size cells base v k xs p W ([u0] ++ [u1]) w2 :=
 ⟨fun _ T' hn => (h.kb (by simp) T' hn).trans (KB.grown hg hv hn), ⟨w', h.st.2, hg, ho⟩⟩
theorem ApJ.store (h : ApJ T size cells base v k xs p W [u0, u1] w') : ApJ T size cells base v k xs p W ([u0, u1] ++ [u2]) (w'.setCell p u1) := by
 obtain ⟨w5, h1, h2, h3⟩ := h.st
 exact ⟨fun hl => by simp at hl, ⟨w5, w', h1, h2, h3, rfl⟩⟩
end
def NoJ (W : World) (us : List Value) (w' : World) : Prop := us = [] ∧ w' = W.drew
theorem NoJ.start (W : World) : NoJ W [] W.drew := ⟨rfl, rfl⟩
theorem cell_kb {w w1 : World} {T : TypeId} {g : Nat} {v : Value} {o : Nat} (hT : Typed w T g) (k : KB T w w1) (h : w.cell? ⟨g, o, none⟩ = some v) : w1.cell? ⟨g, o, none⟩ = some v := (hT.cell_kb k o).trans h
end
section
open Go.RowKit
section
variable {T T' : TypeId} {w w1 w2 : World} {L n : Nat} {A : Option Addr}
theorem Fresh.kb (h : Fresh w T L A) (k : KB T w w1) : Fresh w1 T L A := fun ad e => ⟨(h ad e).1, (h ad e).2.kb k⟩
theorem own_kb {size : Nat} {v : Value} {xs : List Value} (h : w.ownsRow L T size v n xs) (k : KB T w w1) : w1.ownsRow L T size v n xs := by
 refine ⟨h.1, ?_⟩
 rcases h.2 with hn | ⟨g, cap, cur, rfl, hb, hg, rest⟩
 · exact .inl hn
 · exact .inr ⟨g, cap, cur, rfl, hb, k _ _ hg, rest⟩
end
theorem RowsFresh.kb {w w1 : World} {L : Nat} {A : Option Addr} {n : Nat} {l : List Row} (h : RowsFresh w L A n l) (k1 : KB 78 w w1) (k2 : KB 83 w w1) : RowsFresh w1 L A n l := by
 obtain ⟨hs, a1, a2, a3, a4, a5⟩ := h
 refine ⟨hs, Sl.keep a1 fun _ b off hA o x hx j u hu => ?_, fun i hd r a b => ?_, a3, a4.kb k1, fun x hx => (a5 x hx).kb k2⟩
 · rw [(a4 _ hA).2.cell_kb k1]; exact hx j u hu
 · have gd := a2 i hd r a b
   refine ⟨gd.1, gd.2.1, Sl.keep gd.2.2 fun _ b' off hA o x hx => ?_⟩
   have key : ∀ q v, w.cell? ⟨b', q, none⟩ = some v → w1.cell? ⟨b', q, none⟩ = some v := fun q v hv => by rw [((a5 hd (List.mem_of_getElem? a)) _ hA).2.cell_kb k2]; exact hv
   exact ⟨key _ _ hx.1, key _ _ hx.2.1, key _ _ hx.2.2.1, key _ _ hx.2.2.2.1, key _ _ hx.2.2.2.2⟩
def setMany : List Value → Nat → List Value → List Value
 | xs, _, [] => xs
 | xs, j, v :: vs => setMany (xs.set j v) (j + 1) vs
theorem setMany_split : ∀ (vs pre old post : List Value), old.length = vs.length → setMany (pre ++ old ++ post) pre.length vs = pre ++ vs ++ post
 | [], pre, old, post, h => by
  obtain rfl : old = [] := List.eq_nil_of_length_eq_zero h
  rfl
 | v :: vs, pre, [], post, h => by simp at h
 | v :: vs, pre, o :: old, post, h => by
  have e : (pre ++ o :: old ++ post).set pre.length v = (pre ++ [v]) ++ old ++ post := by simp [List.set_append]
  have := setMany_split vs (pre ++ [v]) old post (by simpa using h)
  rw [List.length_append, List.length_singleton] at this
  rw [setMany, e, this]
  simp
theorem flat_setMany {α : Type} {f : α → List Value} {size : Nat} (hf : ∀ x, (f x).length = size) (l : List α) (k : Nat) (y : α) (hk : k < l.length) : setMany (l.flatMap f) (k * size) (f y) = (l.set k y).flatMap f := by
 have e1 : l = l.take k ++ l[k] :: l.drop (k + 1) := by rw [← List.drop_eq_getElem_cons hk, List.take_append_drop]
 have e2 : l.set k y = l.take k ++ y :: l.drop (k + 1) := by rw [List.set_eq_take_append_cons_drop, if_pos hk]
 have hl : ((l.take k).flatMap f).length = k * size := by rw [flatMap_len f size hf, List.length_take, Nat.min_eq_left (by omega)]
 rw [e2, List.flatMap_append, List.flatMap_cons]
 conv => lhs; rw [e1]
 rw [List.flatMap_append, List.flatMap_cons, ← hl, ← List.append_assoc, setMany_split _ _ _ _ (by rw [hf, hf]), List.append_assoc]
theorem own_sets {L size n cap g : Nat} {T : TypeId} : ∀ (vs : List Value) (j : Nat) (w : World) (xs : List Value), w.ownsRow L T size (.slice (some ⟨g, 0, none⟩) n cap) n xs →
 (w.setCells g j vs).ownsRow L T size (.slice (some ⟨g, 0, none⟩) n cap) n (setMany xs j vs)
 | [], _, _, _, h => h
 | v :: vs, j, w, xs, h => own_sets vs (j + 1) _ _ (h.stored j v).1
structure EH where
 id : Int
 inn : Int
 out : Int
 region : ByteArray
 kind : Int
 speaker : ByteArray
 A : Option Addr
 n : Nat
 c : Nat
def EH.vals (h : EH) : List Value := [.int .i64 h.id, .int .i64 h.inn, .int .i64 h.out, .string h.region, .int .u8 h.kind, .string h.speaker, .slice h.A h.n h.c]
def EH.of (e : Ev) (A : Option Addr) (n c : Nat) : EH := ⟨e.id, e.inn, e.out, e.region, e.kind, e.speaker, A, n, c⟩
theorem EH.of_vals (e : Ev) (A : Option Addr) (n c : Nat) : (EH.of e A n c).vals = (e.cells A n c).toList := rfl
theorem EH.len (h : EH) : h.vals.length = 7 := rfl
def Reg.vals (r : Reg) : List Value := [.string r.name, .int .i64 r.top, .int .i64 r.height, .int .i64 r.left, .int .i64 r.width, .int .u8 r.align, .bool r.bottom]
def EGood (w : World) (L : Nat) (h : EH) (e : Ev) : Prop := h = EH.of e h.A h.n h.c ∧ h.n ≤ h.c ∧ h.n * 24 ≤ 140737488355328 ∧ RowsFresh w L h.A h.n e.rows
theorem EGood.kb {w w1 : World} {L : Nat} {h : EH} {e : Ev} (g : EGood w L h e) (k1 : KB 78 w w1) (k2 : KB 83 w w1) : EGood w1 L h e := ⟨g.1, g.2.1, g.2.2.1, g.2.2.2.kb k1 k2⟩
theorem EGood.ext {w w1 : World} {L : Nat} {h : EH} {e : Ev} (g : EGood w L h e) (k : Ext w w1) : EGood w1 L h e := g.kb (KB.ext k) (KB.ext k)
theorem EGood.le {w : World} {L L' : Nat} {h : EH} {e : Ev} (g : EGood w L h e) (hl : L' ≤ L) : EGood w L' h e := ⟨g.1, g.2.1, g.2.2.1, g.2.2.2.le hl⟩
theorem EGood.at_ {w : World} {L : Nat} {h : EH} {e : Ev} (g : EGood w L h e) : EvAt w e h.A h.n h.c := ⟨g.2.2.2.rows, g.2.1, g.2.2.1⟩
def EvsOwn (w : World) (L : Nat) (v : Value) (n : Nat) (l : List Ev) : Prop :=
 ∃ hs : List EH, w.ownsRow L 60 7 v n (hs.flatMap EH.vals) ∧ hs.length = n ∧ l.length = n ∧ ∀ (i : Nat) (h : EH) (e : Ev), hs[i]? = some h → l[i]? = some e → EGood w L h e
section
variable {w w1 : World} {L L' n c : Nat} {A : Option Addr} {v : Value} {l : List Ev}
theorem EvsOwn.ext (h : EvsOwn w L v n l) (k : Ext w w1) : EvsOwn w1 L v n l := by
 obtain ⟨hs, h1, h2, h3, h4⟩ := h
 exact ⟨hs, own_ext h1 k, h2, h3, fun i x e a b => (h4 i x e a b).ext k⟩
theorem EvsOwn.kb (h : EvsOwn w L v n l) (k0 : KB 60 w w1) (k1 : KB 78 w w1) (k2 : KB 83 w w1) : EvsOwn w1 L v n l := by
 obtain ⟨hs, h1, h2, h3, h4⟩ := h
 exact ⟨hs, own_kb h1 k0, h2, h3, fun i x e a b => (h4 i x e a b).kb k1 k2⟩
theorem EvsOwn.le (h : EvsOwn w L v n l) (hl : L' ≤ L) : EvsOwn w L' v n l := by
 obtain ⟨hs, h1, h2, h3, h4⟩ := h
 exact ⟨hs, own_le h1 hl, h2, h3, fun i x e a b => (h4 i x e a b).le hl⟩
theorem EvsOwn.len (h : EvsOwn w L v n l) : l.length = n := h.elim fun _ h => h.2.2.1
theorem EvsOwn.nil (w : World) (L : Nat) : EvsOwn w L (.slice none 0 0) 0 [] := ⟨[], ⟨rfl, .inl ⟨rfl, rfl⟩⟩, rfl, rfl, fun i x e a _ => by simp at a⟩
theorem EvsOwn.at_ (h : EvsOwn w L v n l) : ∃ A c, v = .slice A n c ∧ n ≤ c ∧ c ≤ maxLen ∧ EvsAt w A n l := by
 obtain ⟨hs, h1, h2, h3, h4⟩ := h
 obtain ⟨A, c, hv, hc, hm, hsl, _⟩ := own_sl (f := EH.vals) (size := 7) EH.len h2 h1
 refine ⟨A, c, hv, hc, hm, h3, fun hn => ?_⟩
 obtain ⟨b, off, hA, hcs⟩ := hsl.2 hn
 refine ⟨b, off, hA, fun i e he => ?_⟩
 have hi : i < hs.length := by rw [h2, ← h3]; exact (List.getElem?_eq_some_iff.1 he).1
 have hx : hs[i]? = some hs[i] := List.getElem?_eq_getElem hi
 have g := h4 i _ e hx he
 refine ⟨hs[i].A, hs[i].n, hs[i].c, fun j u hu => ?_, g.at_⟩
 refine hcs i _ hx j u ?_
 rw [g.1, EH.of_vals]
 exact hu
theorem EvsOwn.evs (h : EvsOwn w L (.slice A n c) n l) : EvsAt w A n l := by
 obtain ⟨A', c', hv, _, _, h1⟩ := h.at_
 cases hv
 exact h1
theorem EvsOwn.set {g k : Nat} {e : Ev} {A' : Option Addr} {n' c' : Nat} (h : EvsOwn w L (.slice (some ⟨g, 0, none⟩) n c) n l) (hk : k < n) (hL : L ≤ g) (hg : EGood w L (EH.of e A' n' c') e) :
 EvsOwn (w.setCells g (k * 7) (e.cells A' n' c').toList) L (.slice (some ⟨g, 0, none⟩) n c) n (l.set k e) := by
 obtain ⟨hs, h1, h2, h3, h4⟩ := h
 have hty : Typed w 60 g := own_typed h1 g rfl
 refine ⟨hs.set k (EH.of e A' n' c'), ?_, by simpa using h2, by simpa using h3, fun i x y hx hy => ?_⟩
 · rw [← flat_setMany EH.len hs k (EH.of e A' n' c') (by omega)]
   exact own_sets _ _ _ _ h1
 · have k1 : KB 78 w (w.setCells g (k * 7) (e.cells A' n' c').toList) := KB.sets (T' := 60) (by decide) _ _ _ hty
   have k2 : KB 83 w (w.setCells g (k * 7) (e.cells A' n' c').toList) := KB.sets (T' := 60) (by decide) _ _ _ hty
   by_cases hik : k = i
   · subst hik
     rw [List.getElem?_set_self (by omega)] at hx hy
     cases hx
     cases hy
     exact hg.kb k1 k2
   · rw [List.getElem?_set_ne hik] at hx hy
     exact (h4 i x y hx hy).kb k1 k2
end
structure DocOwn (w : World) (L : Nat) (d : Doc) (h : DocH) : Prop where
 regs : w.ownsRow L 53 7 (.slice h.ra h.rn h.rc) h.rn (d.regs.flatMap Reg.vals)
 rlen : d.regs.length = h.rn
 evs : EvsOwn w L (.slice h.ea h.en h.ec) h.en d.evs
 coms : w.ownsRow L 64 8 (.slice h.ca h.cn h.cc) h.cn (d.coms.flatMap Com.vals)
 clen : d.coms.length = h.cn
theorem DocOwn.ext {w w1 : World} {L : Nat} {d : Doc} {h : DocH} (o : DocOwn w L d h) (k : Ext w w1) : DocOwn w1 L d h := ⟨own_ext o.regs k, o.rlen, o.evs.ext k, own_ext o.coms k, o.clen⟩
theorem DocOwn.kb {w w1 : World} {L : Nat} {d : Doc} {h : DocH} (o : DocOwn w L d h) (k1 : KB 53 w w1) (k2 : KB 60 w w1) (k3 : KB 78 w w1) (k4 : KB 83 w w1) (k5 : KB 64 w w1) : DocOwn w1 L d h :=
 ⟨own_kb o.regs k1, o.rlen, o.evs.kb k2 k3 k4, own_kb o.coms k5, o.clen⟩
theorem DocOwn.put {w : World} {L : Nat} {d : Doc} {h : DocH} (o : DocOwn w L d h) {g : Nat} {cs : Array Value} (hB : Blk w g 27 cs) (cs' : Array Value) : DocOwn (putB w g 27 cs') L d h :=
 o.kb (KB.put hB (by decide)) (KB.put hB (by decide)) (KB.put hB (by decide)) (KB.put hB (by decide)) (KB.put hB (by decide))
theorem DocOwn.le {w : World} {L L' : Nat} {d : Doc} {h : DocH} (o : DocOwn w L d h) (hl : L' ≤ L) : DocOwn w L' d h := ⟨own_le o.regs hl, o.rlen, o.evs.le hl, own_le o.coms hl, o.clen⟩
theorem regC_cells {w : World} {b o : Nat} {r : Reg} (h : Cells Reg.vals w b o r) : RegC w b o r := ⟨h 0 _ rfl, h 1 _ rfl, h 2 _ rfl, h 3 _ rfl, h 4 _ rfl, h 5 _ rfl, h 6 _ rfl⟩
theorem cells_regC {w : World} {b o : Nat} {r : Reg} (h : RegC w b o r) : Cells Reg.vals w b o r := by
 obtain ⟨h0, h1, h2, h3, h4, h5, h6⟩ := h
 intro j u hu
 match j, hu with
 | 0, hu => simp [Reg.vals] at hu; subst hu; exact h0
 | 1, hu => simp [Reg.vals] at hu; subst hu; exact h1
 | 2, hu => simp [Reg.vals] at hu; subst hu; exact h2
 | 3, hu => simp [Reg.vals] at hu; subst hu; exact h3
 | 4, hu => simp [Reg.vals] at hu; subst hu; exact h4
 | 5, hu => simp [Reg.vals] at hu; subst hu; exact h5
 | 6, hu => simp [Reg.vals] at hu; subst hu; exact h6
 | j + 7, hu => simp [Reg.vals] at hu
theorem own_slice {α : Type} {f : α → List Value} {size : Nat} (hf : ∀ x, (f x).length = size) {w : World} {base : Nat} {e : TypeId} {A : Option Addr} {c n : Nat} {l : List α} (hl : l.length = n)
 (h : w.ownsRow base e size (.slice A n c) n (l.flatMap f)) : n ≤ c ∧ c ≤ maxLen ∧ Sl w size (Cells f) A n l := by
 obtain ⟨A', c', hv, h1, h2, h3, _⟩ := own_sl hf hl h
 cases hv
 exact ⟨h1, h2, h3⟩
theorem DocOwn.at_ {w : World} {L : Nat} {d : Doc} {h : DocH} (o : DocOwn w L d h) : DocAt w d h :=
 ⟨Sl.change (own_slice (f := Reg.vals) (fun _ => rfl) o.rlen o.regs).2.2 fun _ _ _ => regC_cells, o.evs.evs, (own_slice (f := Com.vals) (fun _ => rfl) o.clen o.coms).2.2⟩
end
section
open Go.RowKit
theorem size_setC (w : World) (p : Addr) (u : Value) : (w.setCell p u).heap.size = w.heap.size := by unfold World.setCell; simp
def KBL (L : Nat) (T : TypeId) (w w1 : World) : Prop := ∀ (b : Nat) (cur : Array Value), b < L → w.heap[b]? = some (Obj.cells cur T (0, 0)) → w1.heap[b]? = some (Obj.cells cur T (0, 0))
section
variable {L L' : Nat} {T : TypeId} {w w1 w2 : World}
theorem KBL.refl (w : World) : KBL L T w w := fun _ _ _ h => h
theorem KBL.trans (h : KBL L T w w1) (k : KBL L T w1 w2) : KBL L T w w2 := fun b cur hb hc => k b cur hb (h b cur hb hc)
theorem KBL.kb (h : KB T w w1) : KBL L T w w1 := fun b cur _ hc => h b cur hc
theorem KBL.le (h : KBL L T w w1) (hl : L' ≤ L) : KBL L' T w w1 := fun b cur hb hc => h b cur (by omega) hc
theorem KBL.all (h : KBL w.heap.size T w w1) : KB T w w1 := fun b cur hc => h b cur (Array.getElem?_eq_some_iff.1 hc).1 hc
theorem KBL.grown {row : Option Nat} (hg : w.grownBy w1 row) (hr : ∀ q, row = some q → L ≤ q) : KBL L T w w1 := fun b cur hb hc =>
 (hg.block b (Array.getElem?_eq_some_iff.1 hc).1 (fun e => by have := hr b e.symm; omega)).trans hc
theorem KBL.set {p : Addr} {u : Value} (hp : L ≤ p.block) : KBL L T w (w.setCell p u) := fun b cur hb hc => by
 rw [RowKit.Below.heap_setCell _ _ _ _ (show b ≠ p.block by omega)]
 exact hc
end
structure RowLow (w : World) (L : Nat) (h : Hd) (r : Row) : Prop where
 cap : h.2.1 ≤ h.2.2
 small : h.2.1 * 40 ≤ 140737488355328
 runs : ∀ w1, KBL L 83 w w1 → RunsAt w1 h.1 h.2.1 r
def RunsOwn (w : World) (L : Nat) (h : Hd) (r : Row) : Prop := h.2.1 = r.length ∧ w.ownsRow L 83 5 (Hd.val h) r.length (r.flatMap Run.cells)
section
variable {w w1 : World} {L L' : Nat} {h : Hd} {r : Row}
theorem RowLow.go (g : RowLow w L h r) (k : KBL L 83 w w1) : RowLow w1 L h r := ⟨g.cap, g.small, fun w2 k2 => g.runs w2 (k.trans k2)⟩
theorem RowLow.up (g : RowLow w L h r) (hl : L ≤ L') : RowLow w L' h r := ⟨g.cap, g.small, fun w2 k2 => g.runs w2 (k2.le hl)⟩
theorem RowLow.good (g : RowLow w L h r) : Good w h r := ⟨g.cap, g.small, g.runs w (KBL.refl w)⟩
theorem RunsOwn.low (g : RunsOwn w L h r) (hs : r.length ≤ 100000) : RowLow w w.heap.size h r := by
 obtain ⟨A, n, c⟩ := h
 obtain ⟨e, ho⟩ := g
 dsimp only at e
 subst e
 obtain ⟨A', c', hv, hc, -, -, -⟩ := own_sl (f := Run.cells) (size := 5) (fun _ => rfl) rfl ho
 cases hv
 refine ⟨hc, by dsimp only; omega, fun w1 k => ?_⟩
 obtain ⟨A2, c2, hv2, -, -, hsl, -⟩ := own_sl (f := Run.cells) (size := 5) (fun _ => rfl) rfl (own_kb ho k.all)
 cases hv2
 exact RunsAt.of_cells hsl
end
structure EvBd (w : World) (L : Nat) (v : Value) (rows : List Row) (hs : List Hd) (Lx : Nat) : Prop where
 own : w.ownsRow L 78 1 v rows.length (hs.flatMap fun h => [Hd.val h])
 len : hs.length = rows.length
 lo : L ≤ Lx
 hi : Lx ≤ w.heap.size
 done : ∀ (i : Nat) (h : Hd) (r : Row), hs[i]? = some h → rows[i]? = some r → i + 1 < rows.length → RowLow w Lx h r
 last : ∀ (i : Nat) (h : Hd) (r : Row), hs[i]? = some h → rows[i]? = some r → i + 1 = rows.length → RunsOwn w Lx h r
def EvLow (w : World) (L : Nat) (A : Option Addr) (n c : Nat) (rows : List Row) : Prop :=
 n ≤ c ∧ n * 24 ≤ 140737488355328 ∧ ∀ w1, KBL L 78 w w1 → KBL L 83 w w1 → RowsAt w1 A n rows
section
variable {w w1 : World} {L L' Lx n c : Nat} {A : Option Addr} {rows : List Row} {hs : List Hd} {v : Value}
theorem EvLow.go (g : EvLow w L A n c rows) (k1 : KBL L 78 w w1) (k2 : KBL L 83 w w1) : EvLow w1 L A n c rows := ⟨g.1, g.2.1, fun w2 a b => g.2.2 w2 (k1.trans a) (k2.trans b)⟩
theorem EvLow.up (g : EvLow w L A n c rows) (hl : L ≤ L') : EvLow w L' A n c rows := ⟨g.1, g.2.1, fun w2 a b => g.2.2 w2 (a.le hl) (b.le hl)⟩
theorem EvBd.kb (h : EvBd w L v rows hs Lx) (k1 : KB 78 w w1) (k2 : KB 83 w w1) (hz : w.heap.size ≤ w1.heap.size) : EvBd w1 L v rows hs Lx :=
 ⟨own_kb h.own k1, h.len, h.lo, Nat.le_trans h.hi hz, fun i x r a b cc => (h.done i x r a b cc).go (KBL.kb k2), fun i x r a b cc => ⟨(h.last i x r a b cc).1, own_kb (h.last i x r a b cc).2 k2⟩⟩
theorem EvBd.nil (w : World) (hl : L ≤ w.heap.size) : EvBd w L (.slice none 0 0) [] [] L := ⟨⟨rfl, .inl ⟨rfl, rfl⟩⟩, rfl, Nat.le_refl _, hl, fun i h r a => by simp at a, fun i h r a => by simp at a⟩
theorem EvBd.all_low (h : EvBd w L v rows hs Lx) (hr : ∀ r ∈ rows, r.length ≤ 100000) : ∀ (i : Nat) (x : Hd) (r : Row), hs[i]? = some x → rows[i]? = some r → RowLow w w.heap.size x r := fun i x r a b => by
 have hi := (List.getElem?_eq_some_iff.1 b).1
 by_cases hl : i + 1 < rows.length
 · exact (h.done i x r a b hl).up h.hi
 · exact (h.last i x r a b (by omega)).low (hr r (List.mem_of_getElem? b))
theorem EvBd.low (h : EvBd w L (.slice A n c) rows hs Lx) (few : rows.length ≤ 100000) (hr : ∀ r ∈ rows, r.length ≤ 100000) : n = rows.length ∧ EvLow w w.heap.size A n c rows := by
 have hal := h.all_low hr
 obtain ⟨A', c', hv, hc, -, -, -⟩ := own_sl (f := fun h : Hd => [Hd.val h]) (size := 1) (fun _ => rfl) h.len h.own
 cases hv
 refine ⟨rfl, hc, by omega, fun w1 k1 k2 => ?_⟩
 obtain ⟨A2, c2, hv2, -, -, hsl, -⟩ := own_sl (f := fun h : Hd => [Hd.val h]) (size := 1) (fun _ => rfl) h.len (own_kb h.own k1.all)
 cases hv2
 exact rows_of_heads hsl rfl fun i x r a b => ((hal i x r a b).go k2).good
theorem EvBd.row {v' : Value} (h : EvBd w L v rows hs Lx) (hr : ∀ r ∈ rows, r.length ≤ 100000) (hg : w.grownBy w1 v.ownBlock)
 (ho : w1.ownsRow L 78 1 v' (rows.length + 1) ((hs.flatMap fun h => [Hd.val h]) ++ [.slice none 0 0])) : EvBd w1 L v' (rows ++ [[]]) (hs ++ [(none, 0, 0)]) w1.heap.size := by
 have hal := h.all_low hr
 have k2 : KB 83 w w1 := KB.grown hg (own_typed h.own) (by decide)
 have hz := hg.size
 refine ⟨?_, by simp [h.len], by have := h.lo; have := h.hi; omega, Nat.le_refl _, fun i x r a b cc => ?_, fun i x r a b cc => ?_⟩
 · rw [List.length_append, List.flatMap_append]; exact ho
 · rw [List.length_append] at cc
   simp only [List.length_cons, List.length_nil] at cc
   have hl := h.len
   rw [List.getElem?_append_left (by omega)] at a b
   exact ((hal i x r a b).go (KBL.kb k2)).up hz
 · rw [List.length_append] at cc
   simp only [List.length_cons, List.length_nil] at cc
   obtain rfl : i = rows.length := by omega
   rw [List.getElem?_append_right (by rw [h.len]; exact Nat.le_refl _), h.len] at a
   rw [List.getElem?_append_right (Nat.le_refl _)] at b
   simp at a b
   subst a b
   exact ⟨rfl, rfl, .inl ⟨rfl, rfl⟩⟩
end
theorem snoc_split {α : Type} {l : List α} {n : Nat} (h : l.length = n + 1) : ∃ l0 x, l = l0 ++ [x] ∧ l0.length = n := by
 refine ⟨l.dropLast, l.getLast (fun e => by rw [e] at h; simp at h), (List.dropLast_concat_getLast _).symm, by rw [List.length_dropLast]; omega⟩
theorem snoc_last {α : Type} {l : List α} {x : α} {n : Nat} (h : l.length = n) : (l ++ [x])[n]? = some x := by subst h; simp
section
variable {w w1 : World} {L Lx : Nat} {rs : List Row} {r : Row} {hs : List Hd} {v : Value}
theorem EvBd.head (h : EvBd w L v (rs ++ [r]) hs Lx) : ∃ gr cr hs0 A c, v = .slice (some ⟨gr, 0, none⟩) (rs.length + 1) cr ∧ L ≤ gr ∧ gr < w.heap.size ∧ hs = hs0 ++ [(A, r.length, c)] ∧ hs0.length = rs.length ∧ Typed w 78 gr ∧
 w.cell? ⟨gr, rs.length, none⟩ = some (.slice A r.length c) ∧ w.ownsRow Lx 83 5 (.slice A r.length c) r.length (r.flatMap Run.cells) := by
 have hl := h.len
 rw [List.length_append, List.length_cons, List.length_nil] at hl
 obtain ⟨hs0, x, rfl, hl0⟩ := snoc_split hl
 obtain ⟨hn, ho⟩ := h.last rs.length x r (snoc_last hl0) (snoc_last rfl) (by simp)
 obtain ⟨A, n, c⟩ := x
 dsimp only at hn
 subst hn
 have how := h.own
 rw [List.length_append, List.length_cons, List.length_nil] at how
 obtain ⟨gr, cr, rfl, hg1, hg2⟩ := own_form how (by omega)
 refine ⟨gr, cr, hs0, A, c, rfl, hg1, hg2, rfl, hl0, own_typed how gr rfl, ?_, ho⟩
 obtain ⟨A', c', hv, -, -, hsl, -⟩ := own_sl (f := fun h : Hd => [Hd.val h]) (size := 1) (fun _ => rfl) (by simpa using hl0) how
 cases hv
 obtain ⟨b, off, hA, hc⟩ := hsl.2 (by omega)
 cases hA
 have := hc rs.length (A, r.length, c) (snoc_last hl0) 0 _ rfl
 simpa [Hd.val] using this
theorem EvBd.run {gr cr : Nat} {hs0 : List Hd} {A A' : Option Addr} {c c' : Nat} {r' : Row} (h : EvBd w L (.slice (some ⟨gr, 0, none⟩) (rs.length + 1) cr) (rs ++ [r]) (hs0 ++ [(A, r.length, c)]) Lx) (hl0 : hs0.length = rs.length)
 (hg : w.grownBy w1 (Value.slice A r.length c).ownBlock) (ho : w1.ownsRow Lx 83 5 (.slice A' r'.length c') r'.length (r'.flatMap Run.cells)) :
 EvBd (w1.setCell ⟨gr, rs.length, none⟩ (.slice A' r'.length c')) L (.slice (some ⟨gr, 0, none⟩) (rs.length + 1) cr) (rs ++ [r']) (hs0 ++ [(A', r'.length, c')]) Lx := by
 have how := h.own
 rw [List.length_append, List.length_cons, List.length_nil] at how
 have hor := (h.last rs.length _ r (snoc_last hl0) (snoc_last rfl) (by simp)).2
 have hk : KB 78 w w1 := KB.grown hg (own_typed hor) (by decide)
 have how1 := own_kb how hk
 have hty := own_typed how1 gr rfl
 have hz := hg.size
 have k2 : KB 83 w1 (w1.setCell ⟨gr, rs.length, none⟩ (.slice A' r'.length c')) := KB.set (T' := 78) hty (by decide)
 refine ⟨?_, by simp [hl0], h.lo, by have := h.hi; rw [size_setC]; omega, fun i x y a b cc => ?_, fun i x y a b cc => ?_⟩
 · have := (how1.stored rs.length (.slice A' r'.length c')).1
   rw [List.length_append, List.length_cons, List.length_nil]
   have e : ((hs0 ++ [(A, r.length, c)]).flatMap fun h : Hd => [Hd.val h]).set rs.length (.slice A' r'.length c') = (hs0 ++ [(A', r'.length, c')]).flatMap fun h : Hd => [Hd.val h] := by
    have hln : (hs0.flatMap fun h : Hd => [Hd.val h]).length = rs.length := by rw [flatMap_len (fun h : Hd => [Hd.val h]) 1 (fun _ => rfl)]; omega
    rw [List.flatMap_append, List.flatMap_append, List.set_append_right _ _ (by omega), hln, Nat.sub_self]
    rfl
   rw [e] at this
   exact this
 · rw [List.length_append] at cc
   simp only [List.length_cons, List.length_nil] at cc
   rw [List.getElem?_append_left (by omega)] at a b
   refine ((h.done i x y ?_ ?_ ?_).go (KBL.grown hg (fun q hq => own_lt hor q hq))).go (KBL.kb k2)
   · rw [List.getElem?_append_left (by omega)]; exact a
   · rw [List.getElem?_append_left (by omega)]; exact b
   · simp; omega
 · rw [List.length_append] at cc
   simp only [List.length_cons, List.length_nil] at cc
   obtain rfl : i = rs.length := by omega
   rw [snoc_last hl0] at a
   rw [snoc_last rfl] at b
   cases a
   cases b
   exact ⟨rfl, own_kb ho k2⟩
theorem EvBd.txt {gr cr gx : Nat} {hs0 : List Hd} {c : Nat} {x : Run} {t : ByteArray} (h : EvBd w L (.slice (some ⟨gr, 0, none⟩) (rs.length + 1) cr) (rs ++ [r ++ [x]]) (hs0 ++ [(some ⟨gx, 0, none⟩, r.length + 1, c)]) Lx) (hl0 : hs0.length = rs.length) :
 EvBd (w.setCell ⟨gx, r.length * 5, none⟩ (.string t)) L (.slice (some ⟨gr, 0, none⟩) (rs.length + 1) cr) (rs ++ [r ++ [{ x with text := t }]]) (hs0 ++ [(some ⟨gx, 0, none⟩, r.length + 1, c)]) Lx := by
 have hor := (h.last rs.length _ _ (snoc_last hl0) (snoc_last rfl) (by simp)).2
 rw [List.length_append, List.length_cons, List.length_nil] at hor
 have hty := own_typed hor gx rfl
 have hlx : Lx ≤ gx := own_lt hor gx rfl
 have k1 : KB 78 w (w.setCell ⟨gx, r.length * 5, none⟩ (.string t)) := KB.set (T' := 83) hty (by decide)
 refine ⟨?_, by simp [hl0], h.lo, by have := h.hi; rw [size_setC]; omega, fun i y z a b cc => ?_, fun i y z a b cc => ?_⟩
 · have := own_kb h.own k1
   rw [List.length_append] at this ⊢
   exact this
 · rw [List.length_append] at cc
   simp only [List.length_cons, List.length_nil] at cc
   refine (h.done i y z a ?_ (by simp; omega)).go (KBL.set hlx)
   rw [List.getElem?_append_left (by omega)] at b ⊢
   exact b
 · rw [List.length_append] at cc
   simp only [List.length_cons, List.length_nil] at cc
   obtain rfl : i = rs.length := by omega
   rw [snoc_last hl0] at a
   rw [snoc_last rfl] at b
   cases a
   cases b
   refine ⟨by simp, ?_⟩
   rw [List.length_append, List.length_cons, List.length_nil]
   have hs := (hor.stored (r.length * 5) (.string t)).1
   have e : ((r ++ [x]).flatMap Run.cells).set (r.length * 5) (.string t) = (r ++ [{ x with text := t }]).flatMap Run.cells := by
    have hln : (r.flatMap Run.cells).length = r.length * 5 := flatMap_len Run.cells 5 (fun _ => rfl) r
    rw [List.flatMap_append, List.flatMap_append, List.set_append_right _ _ (by omega), hln, Nat.sub_self]
    rfl
   rw [e] at hs
   exact hs
end
structure DocBd (w : World) (L : Nat) (D : Doc) (vr ve : Value) (hs : List EH) (Lr K : Nat) : Prop where
 coms : D.coms = []
 regs : w.ownsRow L 53 7 vr D.regs.length (D.regs.flatMap Reg.vals)
 evs : w.ownsRow L 60 7 ve D.evs.length (hs.flatMap EH.vals)
 len : hs.length = D.evs.length
 lo : L ≤ Lr
 hi : Lr ≤ w.heap.size
 head : ∀ (i : Nat) (h : EH) (e : Ev), hs[i]? = some h → D.evs[i]? = some e → h = EH.of e h.A h.n h.c
 done : ∀ (i : Nat) (h : EH) (e : Ev), hs[i]? = some h → D.evs[i]? = some e → i + 1 < D.evs.length → EvLow w Lr h.A h.n h.c e.rows
 last : ∀ (i : Nat) (h : EH) (e : Ev), hs[i]? = some h → D.evs[i]? = some e → i + 1 = D.evs.length → ∃ hx Lx, EvBd w Lr (.slice h.A h.n h.c) e.rows hx Lx
 few : D.regs.length ≤ K ∧ D.evs.length ≤ K ∧ ∀ e ∈ D.evs, e.rows.length ≤ K ∧ ∀ r ∈ e.rows, r.length ≤ K
section
variable {w w1 : World} {L Lr K : Nat} {D : Doc} {vr ve : Value} {hs : List EH}
theorem DocBd.kb (h : DocBd w L D vr ve hs Lr K) (k0 : KB 53 w w1) (k1 : KB 60 w w1) (k2 : KB 78 w w1) (k3 : KB 83 w w1) (hz : w.heap.size ≤ w1.heap.size) : DocBd w1 L D vr ve hs Lr K :=
 ⟨h.coms, own_kb h.regs k0, own_kb h.evs k1, h.len, h.lo, Nat.le_trans h.hi hz, h.head, fun i x e a b c => (h.done i x e a b c).go (KBL.kb k2) (KBL.kb k3), fun i x e a b c => (h.last i x e a b c).elim fun hx g => g.elim fun Lx g => ⟨hx, Lx, g.kb k2 k3 hz⟩, h.few⟩
theorem DocBd.ext (h : DocBd w L D vr ve hs Lr K) (k : Ext w w1) : DocBd w1 L D vr ve hs Lr K := h.kb (KB.ext k) (KB.ext k) (KB.ext k) (KB.ext k) k.size
theorem DocBd.zero (w : World) (hl : L ≤ w.heap.size) : DocBd w L Doc.zero (.slice none 0 0) (.slice none 0 0) [] L K :=
 ⟨rfl, ⟨rfl, .inl ⟨rfl, rfl⟩⟩, ⟨rfl, .inl ⟨rfl, rfl⟩⟩, rfl, Nat.le_refl _, hl, fun i h e a => by simp at a, fun i h e a => by simp at a, fun i h e a => by simp at a, Nat.zero_le _, Nat.zero_le _, fun e he => by simp [Doc.zero] at he⟩
theorem DocBd.up {K' : Nat} (h : DocBd w L D vr ve hs Lr K) (hk : K ≤ K') : DocBd w L D vr ve hs Lr K' :=
 { h with few := ⟨Nat.le_trans h.few.1 hk, Nat.le_trans h.few.2.1 hk, fun e he => ⟨Nat.le_trans (h.few.2.2 e he).1 hk, fun r hr => Nat.le_trans ((h.few.2.2 e he).2 r hr) hk⟩⟩ }
theorem DocBd.top {t l : ByteArray} {q : Int} {dr : Bool} {la : Int} (h : DocBd w L D vr ve hs Lr K) : DocBd w L ⟨t, l, q, dr, la, D.regs, D.evs, []⟩ vr ve hs Lr K :=
 ⟨rfl, h.regs, h.evs, h.len, h.lo, h.hi, h.head, h.done, h.last, h.few⟩
theorem DocBd.reg {r : Reg} {vr' : Value} (h : DocBd w L D vr ve hs Lr K) (hg : w.grownBy w1 vr.ownBlock) (ho : w1.ownsRow L 53 7 vr' (D.regs.length + 1) (D.regs.flatMap Reg.vals ++ r.vals)) :
 DocBd w1 L { D with regs := D.regs ++ [r] } vr' ve hs Lr (K + 1) := by
 have hty := own_typed h.regs
 have k := (h.up (Nat.le_succ K))
 have k1 : KB 60 w w1 := KB.grown hg hty (by decide)
 have k2 : KB 78 w w1 := KB.grown hg hty (by decide)
 have k3 : KB 83 w w1 := KB.grown hg hty (by decide)
 refine ⟨h.coms, ?_, own_kb h.evs k1, h.len, h.lo, Nat.le_trans h.hi hg.size, h.head, fun i x e a b c => (h.done i x e a b c).go (KBL.kb k2) (KBL.kb k3), fun i x e a b c => (h.last i x e a b c).elim fun hx g => g.elim fun Lx g => ⟨hx, Lx, g.kb k2 k3 hg.size⟩, ?_, k.few.2.1, k.few.2.2⟩
 · show w1.ownsRow L _ 7 vr' (D.regs ++ [r]).length ((D.regs ++ [r]).flatMap Reg.vals)
   rw [List.length_append, List.flatMap_append]
   simpa using ho
 · show (D.regs ++ [r]).length ≤ K + 1
   have := h.few.1
   simp; omega
theorem DocBd.all_low (h : DocBd w L D vr ve hs Lr K) (hK : K ≤ 100000) : ∀ (i : Nat) (x : EH) (e : Ev), hs[i]? = some x → D.evs[i]? = some e → EvLow w w.heap.size x.A x.n x.c e.rows := fun i x e a b => by
 have hi := (List.getElem?_eq_some_iff.1 b).1
 have hf := h.few.2.2 e (List.mem_of_getElem? b)
 by_cases hl : i + 1 < D.evs.length
 · exact (h.done i x e a b hl).up h.hi
 · obtain ⟨hx, Lx, g⟩ := h.last i x e a b (by omega)
   exact (g.low (by omega) (fun r hr => by have := hf.2 r hr; omega)).2
theorem DocBd.ev {e : Ev} {ve' : Value} (h : DocBd w L D vr ve hs Lr K) (hK : K ≤ 100000) (hg : w.grownBy w1 ve.ownBlock)
 (ho : w1.ownsRow L 60 7 ve' (D.evs.length + 1) (hs.flatMap EH.vals ++ (EH.of e none 0 0).vals)) :
 DocBd w1 L { D with evs := D.evs ++ [{ e with rows := [] }] } vr ve' (hs ++ [EH.of e none 0 0]) w1.heap.size (K + 1) := by
 have hal := h.all_low hK
 have hty := own_typed h.evs
 have k := (h.up (Nat.le_succ K))
 have k0 : KB 53 w w1 := KB.grown hg hty (by decide)
 have k2 : KB 78 w w1 := KB.grown hg hty (by decide)
 have k3 : KB 83 w w1 := KB.grown hg hty (by decide)
 have hz := hg.size
 have hln := h.len
 have hlo := h.lo
 have hhi := h.hi
 have hsp : ∀ (i : Nat) (x : EH) (y : Ev), (hs ++ [EH.of e none 0 0])[i]? = some x → (D.evs ++ [{ e with rows := [] }])[i]? = some y → (i < D.evs.length ∧ hs[i]? = some x ∧ D.evs[i]? = some y) ∨ (i = D.evs.length ∧ x = EH.of e none 0 0 ∧ y = { e with rows := [] }) := fun i x y a b => by
  by_cases hi : i < D.evs.length
  · rw [List.getElem?_append_left (by omega)] at a b
    exact .inl ⟨hi, a, b⟩
  · have h1 := (List.getElem?_eq_some_iff.1 b).1
    rw [List.length_append] at h1
    simp only [List.length_cons, List.length_nil] at h1
    obtain rfl : i = D.evs.length := by omega
    rw [snoc_last hln] at a
    rw [snoc_last rfl] at b
    exact .inr ⟨rfl, (Option.some.inj a).symm, (Option.some.inj b).symm⟩
 refine ⟨h.coms, own_kb h.regs k0, ?_, by simp [hln], by omega, Nat.le_refl _, fun i x y a b => ?_, fun i x y a b c => ?_, fun i x y a b c => ?_, k.few.1, ?_, fun y hy => ?_⟩
 · show w1.ownsRow L _ 7 ve' (D.evs ++ [{ e with rows := [] }]).length _
   rw [List.length_append, List.flatMap_append]
   simpa using ho
 · rcases hsp i x y a b with ⟨_, a, b⟩ | ⟨_, rfl, rfl⟩
   · exact h.head i x y a b
   · rfl
 · have hc : i + 1 < D.evs.length + 1 := by simpa using c
   rcases hsp i x y a b with ⟨_, a, b⟩ | ⟨rfl, _, _⟩
   · exact ((hal i x y a b).go (KBL.kb k2) (KBL.kb k3)).up hz
   · omega
 · have hc : i + 1 = D.evs.length + 1 := by simpa using c
   rcases hsp i x y a b with ⟨hi, _, _⟩ | ⟨_, rfl, rfl⟩
   · omega
   · exact ⟨[], _, EvBd.nil w1 (Nat.le_refl _)⟩
 · show (D.evs ++ [{ e with rows := [] }]).length ≤ K + 1
   have := h.few.2.1
   simp; omega
 · rcases List.mem_append.1 hy with hy | hy
   · exact k.few.2.2 y hy
   · rw [List.mem_singleton.1 hy]
     exact ⟨Nat.zero_le _, fun r hr => by simp at hr⟩
end
section
variable {w w1 : World} {L Lr K : Nat} {D : Doc} {vr ve : Value} {hs : List EH} {es : List Ev} {e : Ev}
theorem DocBd.lastE (h : DocBd w L D vr ve hs Lr K) (hD : D.evs = es ++ [e]) : ∃ ge ce hs0 A n c hx Lx, ve = .slice (some ⟨ge, 0, none⟩) (es.length + 1) ce ∧ L ≤ ge ∧ ge < w.heap.size ∧ hs = hs0 ++ [EH.of e A n c] ∧ hs0.length = es.length ∧ Typed w 60 ge ∧
 w.cell? ⟨ge, es.length * 7 + 6, none⟩ = some (.slice A n c) ∧ EvBd w Lr (.slice A n c) e.rows hx Lx ∧ n = e.rows.length ∧ e.rows.length ≤ K ∧ (∀ r ∈ e.rows, r.length ≤ K) ∧ es.length < K := by
 have hl := h.len
 rw [hD, List.length_append, List.length_cons, List.length_nil] at hl
 obtain ⟨hs0, x, rfl, hl0⟩ := snoc_split hl
 have hx1 : (hs0 ++ [x])[es.length]? = some x := snoc_last hl0
 have hx2 : D.evs[es.length]? = some e := by rw [hD]; exact snoc_last rfl
 have hh := h.head es.length x e hx1 hx2
 obtain ⟨hx, Lx, hb⟩ := h.last es.length x e hx1 hx2 (by rw [hD]; simp)
 have how := h.evs
 rw [hD, List.length_append, List.length_cons, List.length_nil] at how
 obtain ⟨ge, ce, rfl, hg1, hg2⟩ := own_form how (by omega)
 have hn : x.n = e.rows.length := by
  obtain ⟨A', c', hv, -, -, -, -⟩ := own_sl (f := fun h : Hd => [Hd.val h]) (size := 1) (fun _ => rfl) hb.len hb.own
  injection hv
 have hfe := h.few.2.2 e (List.mem_of_getElem? hx2)
 have hfk := h.few.2.1
 rw [hD, List.length_append, List.length_cons, List.length_nil] at hfk
 refine ⟨ge, ce, hs0, x.A, x.n, x.c, hx, Lx, rfl, hg1, hg2, by rw [← hh], hl0, own_typed how ge rfl, ?_, hb, hn, hfe.1, hfe.2, by omega⟩
 obtain ⟨A', c', hv, -, -, hsl, -⟩ := own_sl (f := EH.vals) (size := 7) EH.len (by simpa using hl0) how
 cases hv
 obtain ⟨b, off, hA, hc⟩ := hsl.2 (by omega)
 cases hA
 have := hc es.length x hx1 6 _ rfl
 simpa using this
theorem DocBd.setRows {ge ce n' c' : Nat} {hs0 : List EH} {A A' : Option Addr} {n c : Nat} {hx : List Hd} {Lx : Nat} {rows : List Row} (h : DocBd w L D vr (.slice (some ⟨ge, 0, none⟩) (es.length + 1) ce) (hs0 ++ [EH.of e A n c]) Lr K) (hD : D.evs = es ++ [e]) (hl0 : hs0.length = es.length)
 (hz : w.heap.size ≤ w1.heap.size) (k0 : KB 53 w w1) (k1 : KB 60 w w1) (k2 : KBL Lr 78 w w1) (k3 : KBL Lr 83 w w1) (hb : EvBd w1 Lr (.slice A' n' c') rows hx Lx)
 (hK : K ≤ 100000) (hf : rows.length ≤ K + 1 ∧ ∀ r ∈ rows, r.length ≤ K + 1) :
 DocBd (w1.setCell ⟨ge, es.length * 7 + 6, none⟩ (.slice A' n' c')) L { D with evs := es ++ [{ e with rows := rows }] } vr (.slice (some ⟨ge, 0, none⟩) (es.length + 1) ce) (hs0 ++ [EH.of { e with rows := rows } A' n' c']) Lr (K + 1) := by
 have k := (h.up (Nat.le_succ K))
 have how := h.evs
 rw [hD, List.length_append, List.length_cons, List.length_nil] at how
 have how1 := own_kb how k1
 have hty := own_typed how1 ge rfl
 have hel : D.evs.length = es.length + 1 := by rw [hD]; simp
 have j0 : KB 53 w1 (w1.setCell ⟨ge, es.length * 7 + 6, none⟩ (.slice A' n' c')) := KB.set (T' := 60) hty (by decide)
 have j2 : KB 78 w1 (w1.setCell ⟨ge, es.length * 7 + 6, none⟩ (.slice A' n' c')) := KB.set (T' := 60) hty (by decide)
 have j3 : KB 83 w1 (w1.setCell ⟨ge, es.length * 7 + 6, none⟩ (.slice A' n' c')) := KB.set (T' := 60) hty (by decide)
 have hsz : (w1.setCell ⟨ge, es.length * 7 + 6, none⟩ (.slice A' n' c')).heap.size = w1.heap.size := size_setC _ _ _
 have hsp : ∀ (i : Nat) (x : EH) (y : Ev), (hs0 ++ [EH.of { e with rows := rows } A' n' c'])[i]? = some x → (es ++ [{ e with rows := rows }])[i]? = some y → (i < es.length ∧ (hs0 ++ [EH.of e A n c])[i]? = some x ∧ D.evs[i]? = some y) ∨ (i = es.length ∧ x = EH.of { e with rows := rows } A' n' c' ∧ y = { e with rows := rows }) := fun i x y a b => by
  by_cases hi : i < es.length
  · rw [List.getElem?_append_left (by omega)] at a b
    exact .inl ⟨hi, by rw [List.getElem?_append_left (by omega)]; exact a, by rw [hD, List.getElem?_append_left (by omega)]; exact b⟩
  · have h1 := (List.getElem?_eq_some_iff.1 b).1
    rw [List.length_append] at h1
    simp only [List.length_cons, List.length_nil] at h1
    obtain rfl : i = es.length := by omega
    rw [snoc_last hl0] at a
    rw [snoc_last rfl] at b
    exact .inr ⟨rfl, (Option.some.inj a).symm, (Option.some.inj b).symm⟩
 refine ⟨h.coms, own_kb (own_kb h.regs k0) j0, ?_, by simp [hl0], h.lo, by have := h.hi; omega, fun i x y a b => ?_, fun i x y a b cc => ?_, fun i x y a b cc => ?_, k.few.1, ?_, fun y hy => ?_⟩
 · show World.ownsRow _ L _ 7 _ (es ++ [{ e with rows := rows }]).length _
   rw [List.length_append, List.length_cons, List.length_nil]
   have := (how1.stored (es.length * 7 + 6) (.slice A' n' c')).1
   have e1 : ((hs0 ++ [EH.of e A n c]).flatMap EH.vals).set (es.length * 7 + 6) (.slice A' n' c') = (hs0 ++ [EH.of { e with rows := rows } A' n' c']).flatMap EH.vals := by
    have hln : (hs0.flatMap EH.vals).length = es.length * 7 := by rw [flatMap_len EH.vals 7 EH.len, hl0]
    rw [List.flatMap_append, List.flatMap_append, List.set_append_right _ _ (by omega), hln, Nat.add_sub_cancel_left]
    rfl
   rw [e1] at this
   exact this
 · rcases hsp i x y a b with ⟨_, a, b⟩ | ⟨_, rfl, rfl⟩
   · exact h.head i x y a b
   · rfl
 · have hc : i + 1 < es.length + 1 := by simpa using cc
   rcases hsp i x y a b with ⟨_, a, b⟩ | ⟨rfl, _, _⟩
   · exact ((h.done i x y a b (by omega)).go k2 k3).go (KBL.kb j2) (KBL.kb j3)
   · omega
 · have hc : i + 1 = es.length + 1 := by simpa using cc
   rcases hsp i x y a b with ⟨hi, _, _⟩ | ⟨_, rfl, rfl⟩
   · omega
   · exact ⟨hx, Lx, hb.kb j2 j3 (by omega)⟩
 · show (es ++ [{ e with rows := rows }]).length ≤ K + 1
   have := h.few.2.1
   simp; omega
 · rcases List.mem_append.1 hy with hy | hy
   · exact k.few.2.2 y (by rw [hD]; exact List.mem_append_left _ hy)
   · rw [List.mem_singleton.1 hy]
     exact hf
theorem DocBd.keepRows {ge ce : Nat} {hs0 : List EH} {A : Option Addr} {n c : Nat} {hx : List Hd} {Lx : Nat} {rows : List Row} (h : DocBd w L D vr (.slice (some ⟨ge, 0, none⟩) (es.length + 1) ce) (hs0 ++ [EH.of e A n c]) Lr K) (hD : D.evs = es ++ [e]) (hl0 : hs0.length = es.length)
 (hz : w.heap.size ≤ w1.heap.size) (k0 : KB 53 w w1) (k1 : KB 60 w w1) (k2 : KBL Lr 78 w w1) (k3 : KBL Lr 83 w w1) (hb : EvBd w1 Lr (.slice A n c) rows hx Lx)
 (hK : K ≤ 100000) (hf : rows.length ≤ K + 1 ∧ ∀ r ∈ rows, r.length ≤ K + 1) :
 DocBd w1 L { D with evs := es ++ [{ e with rows := rows }] } vr (.slice (some ⟨ge, 0, none⟩) (es.length + 1) ce) (hs0 ++ [EH.of { e with rows := rows } A n c]) Lr (K + 1) := by
 have k := (h.up (Nat.le_succ K))
 have how := h.evs
 rw [hD, List.length_append, List.length_cons, List.length_nil] at how
 have how1 := own_kb how k1
 have hel : D.evs.length = es.length + 1 := by rw [hD]; simp
 have hsp : ∀ (i : Nat) (x : EH) (y : Ev), (hs0 ++ [EH.of { e with rows := rows } A n c])[i]? = some x → (es ++ [{ e with rows := rows }])[i]? = some y → (i < es.length ∧ (hs0 ++ [EH.of e A n c])[i]? = some x ∧ D.evs[i]? = some y) ∨ (i = es.length ∧ x = EH.of { e with rows := rows } A n c ∧ y = { e with rows := rows }) := fun i x y a b => by
  by_cases hi : i < es.length
  · rw [List.getElem?_append_left (by omega)] at a b
    exact .inl ⟨hi, by rw [List.getElem?_append_left (by omega)]; exact a, by rw [hD, List.getElem?_append_left (by omega)]; exact b⟩
  · have h1 := (List.getElem?_eq_some_iff.1 b).1
    rw [List.length_append] at h1
    simp only [List.length_cons, List.length_nil] at h1
    obtain rfl : i = es.length := by omega
    rw [snoc_last hl0] at a
    rw [snoc_last rfl] at b
    exact .inr ⟨rfl, (Option.some.inj a).symm, (Option.some.inj b).symm⟩
 refine ⟨h.coms, own_kb h.regs k0, ?_, by simp [hl0], h.lo, by have := h.hi; omega, fun i x y a b => ?_, fun i x y a b cc => ?_, fun i x y a b cc => ?_, k.few.1, ?_, fun y hy => ?_⟩
 · show World.ownsRow _ L _ 7 _ (es ++ [{ e with rows := rows }]).length _
   rw [List.length_append, List.length_cons, List.length_nil]
   have e1 : ((hs0 ++ [EH.of e A n c]).flatMap EH.vals) = (hs0 ++ [EH.of { e with rows := rows } A n c]).flatMap EH.vals := by
    rw [List.flatMap_append, List.flatMap_append]
    rfl
   rw [e1] at how1
   exact how1
 · rcases hsp i x y a b with ⟨_, a, b⟩ | ⟨_, rfl, rfl⟩
   · exact h.head i x y a b
   · rfl
 · have hc : i + 1 < es.length + 1 := by simpa using cc
   rcases hsp i x y a b with ⟨_, a, b⟩ | ⟨rfl, _, _⟩
   · exact (h.done i x y a b (by omega)).go k2 k3
   · omega
 · have hc : i + 1 = es.length + 1 := by simpa using cc
   rcases hsp i x y a b with ⟨hi, _, _⟩ | ⟨_, rfl, rfl⟩
   · omega
   · exact ⟨hx, Lx, hb⟩
 · show (es ++ [{ e with rows := rows }]).length ≤ K + 1
   have := h.few.2.1
   simp; omega
 · rcases List.mem_append.1 hy with hy | hy
   · exact k.few.2.2 y (by rw [hD]; exact List.mem_append_left _ hy)
   · rw [List.mem_singleton.1 hy]
     exact hf
end
theorem own_regsB {w : World} {L : Nat} {v : Value} {l : List Reg} (h : w.ownsRow L 53 7 v l.length (l.flatMap Reg.vals)) : ∃ A c, v = .slice A l.length c ∧ l.length ≤ c ∧ RegsAt w A l.length l := by
 obtain ⟨A, c, hv, hc, -, hS, -⟩ := own_sl (f := Reg.vals) (size := 7) (fun _ => rfl) rfl h
 exact ⟨A, c, hv, hc, Sl.change (D := RegC) hS fun b o r hm => regC_cells hm⟩
theorem DocBd.at_ {w : World} {L Lr K : Nat} {D : Doc} {vr ve : Value} {hs : List EH} (h : DocBd w L D vr ve hs Lr K) (hK : K ≤ 100000) :
 ∃ k : DocH, vr = .slice k.ra k.rn k.rc ∧ ve = .slice k.ea k.en k.ec ∧ k.ca = none ∧ k.cn = 0 ∧ k.cc = 0 ∧ k.rn = D.regs.length ∧ k.en = D.evs.length ∧ DocAt w D k := by
 have hal := h.all_low hK
 obtain ⟨Ar, cr, rfl, hcr, hra⟩ := own_regsB h.regs
 obtain ⟨Ae, ce, rfl, hce, hme, hsl, -⟩ := own_sl (f := EH.vals) (size := 7) EH.len h.len h.evs
 refine ⟨⟨Ar, D.regs.length, cr, Ae, D.evs.length, ce, none, 0, 0⟩, rfl, rfl, rfl, rfl, rfl, rfl, rfl, ⟨hra, ⟨rfl, fun hn => ?_⟩, ?_⟩⟩
 · obtain ⟨b, off, hA, hc⟩ := hsl.2 hn
   refine ⟨b, off, hA, fun i x hx => ?_⟩
   have hi := (List.getElem?_eq_some_iff.1 hx).1
   have hl := h.len
   have hhx : hs[i]? = some hs[i] := List.getElem?_eq_getElem (by omega)
   have hh := h.head i _ x hhx hx
   obtain ⟨g1, g2, g3⟩ := hal i _ x hhx hx
   refine ⟨hs[i].A, hs[i].n, hs[i].c, fun j u hu => ?_, g3 w (KBL.refl w) (KBL.refl w), g1, g2⟩
   refine hc i _ hhx j u ?_
   rw [hh, EH.of_vals]
   exact hu
 · show ComsAt w none 0 D.coms
   rw [h.coms]
   exact Sl.nil
end
section
open Go.RowKit
theorem info_regI : (Tryz.prog.info? 53).map (fun i => (i.zero, i.size, i.bytes)) = some (some (.agg #[.string ⟨#[]⟩, .int .i64 0, .int .i64 0, .int .i64 0, .int .i64 0, .int .u8 0, .bool false]), 7, 56) := by kernel_rfl
theorem info_evtI : (Tryz.prog.info? 60).map (fun i => (i.zero, i.size, i.bytes)) = some (some (.agg #[.int .i64 0, .int .i64 0, .int .i64 0, .string ⟨#[]⟩, .int .u8 0, .string ⟨#[]⟩, .slice none 0 0]), 7, 88) := by kernel_rfl
def CloneRegsPost (l : List Reg) (n : Nat) (w : World) (e : Ending) (w' : World) : Prop :=
 ∃ A c, e = .returned (.slice A n c) ∧ w'.ownsRow w.heap.size 53 7 (.slice A n c) n (l.flatMap Reg.vals) ∧ Ext w w'
def CloneComsPost (l : List Com) (n : Nat) (w : World) (e : Ending) (w' : World) : Prop :=
 ∃ A c, e = .returned (.slice A n c) ∧ w'.ownsRow w.heap.size 64 8 (.slice A n c) n (l.flatMap Com.vals) ∧ Ext w w'
def CloneEHsPost (l : List EH) (n : Nat) (w : World) (e : Ending) (w' : World) : Prop :=
 ∃ A c, e = .returned (.slice A n c) ∧ w'.ownsRow w.heap.size 60 7 (.slice A n c) n (l.flatMap EH.vals) ∧ Ext w w'
theorem RegsAt.vals {w : World} {A : Option Addr} {n : Nat} {l : List Reg} (h : RegsAt w A n l) : Sl w 7 (Cells Reg.vals) A n l := Sl.change h fun _ _ _ => cells_regC
end
end Go.Proofs.YtbmblnhfmpolbaaGreatDoor