/- Texts laid together. -/
import Derived.Test.YtbmblnhfmpolbaaGreatDoorTm04
import Derived.Test.YtbmblnhfmpolbaaGreatDoorShelf
import Derived.Test.YtbmblnhfmpolbaaGreatDoorTm02
import Derived.Defers
import Derived.Laws.Pointers
import Derived.Laws.LoneSync
import Derived.RegionTactic
import Derived.RegionCalls
set_option linter.unusedVariables false
set_option linter.unusedSimpArgs false
namespace Go.Proofs.YtbmblnhfmpolbaaGreatDoor
section
open Go.RowKit
theorem index_past' {c : UInt8} : ∀ {a r : List UInt8}, (∀ b ∈ a, b ≠ c) → Lib.indexByte (a ++ c :: r) c = a.length
 | [], r, _ => by simp [Lib.indexByte]
 | b :: a, r, h => by
  have ih := index_past' (r := r) (fun x hx => h x (List.mem_cons_of_mem _ hx) : ∀ x ∈ a, x ≠ c)
  have hb : b ≠ c := h b (List.mem_cons_self ..)
  simp only [List.cons_append, Lib.indexByte]
  rw [if_neg (by simpa using hb), ih, if_neg (by simp <;> omega), List.length_cons]
  rfl
theorem index_no {c : UInt8} : ∀ {a : List UInt8}, (∀ b ∈ a, b ≠ c) → Lib.indexByte a c = -1
 | [], _ => rfl
 | b :: a, h => by
  have ih := index_no (fun x hx => h x (List.mem_cons_of_mem _ hx) : ∀ x ∈ a, x ≠ c)
  have hb : b ≠ c := h b (List.mem_cons_self ..)
  simp only [Lib.indexByte]
  rw [if_neg (by simpa using hb), ih]
  rfl
def TokAt (w : World) (L : Nat) (v : Value) : Tk → Prop
 | .txt s => v = .agg (tokC 0 ⟨#[]⟩ (.slice none 0 0) (escS s))
 | .fin n => v = .agg (tokC 2 n (.slice none 0 0) ⟨#[]⟩)
 | .beg n al => ∃ vs, v = .agg (tokC 1 n vs ⟨#[]⟩) ∧ w.ownsRow L 69 2 vs al.length ((rawA al).flatMap attrVs)
 | .emp n al => ∃ vs, v = .agg (tokC 3 n vs ⟨#[]⟩) ∧ w.ownsRow L 69 2 vs al.length ((rawA al).flatMap attrVs)
def TkFit : Tk → List UInt8 → Prop
 | .txt s, r => s.size ≠ 0 ∧ (r = [] ∨ ∃ q, r = 60 :: q)
 | .fin n, _ => xnm n = true
 | .beg n al, _ => ElOk n al
 | .emp n al, _ => ElOk n al
def NextPost (w : World) (t : Tk) (e : Ending) (w' : World) : Prop := ∃ v, e = .returned (.tuple #[v, .int .i64 (t.bytes.length : Int), .bool true]) ∧ TokAt w' w.heap.size v t ∧ Ext w w'
theorem extract_head {s : ByteArray} {a l : List UInt8} (h : s.data.toList = a ++ l) : s.extract 0 a.length = ⟨a.toArray⟩ := by
 have := extract_at (s := s) (k := 0) (a := a) (l := l) (by rw [List.drop_zero]; exact h)
 rwa [Nat.zero_add] at this
set_option maxHeartbeats 2000000 in
set_option maxRecDepth 100000 in
theorem next_txt (s t : ByteArray) (r : List UInt8) (w : World) (hs : s.size ≤ 4294967296) (h : s.data.toList = esc t.data.toList ++ r) (ht : t.size ≠ 0) (hr : r = [] ∨ ∃ q, r = 60 :: q) :
 Calls Tryz.prog 30 #[.string s] w (NextPost w (.txt t)) := by
 have hcl : ∀ b ∈ esc t.data.toList, b ≠ 60 := fun b hb => (esc_clean b hb).1
 obtain ⟨n, hn⟩ : ∃ n, n = (esc t.data.toList).length := ⟨_, rfl⟩
 have hn1 : 1 ≤ n := by have := esc_len t.data.toList; rw [size_toList] at this; omega
 have hns : n ≤ s.size := by rw [← size_toList s, h, List.length_append]; omega
 have h0 : 0 < s.size := by omega
 have hs0 : s[0] ≠ 60 := by
  have := drop_get s 0 h0
  rw [List.drop_zero, h] at this
  cases he : esc t.data.toList with
  | nil => rw [he] at hn; simp at hn; omega
  | cons b l =>
   rw [he] at this
   injection this with e _
   rw [← e]
   exact hcl b (by rw [he]; exact List.mem_cons_self ..)
 have hb0 : ((s[0].toNat : Int) != 60) = true := bne_iff_ne.2 (fun e => hs0 (UInt8.toNat_inj.1 (show s[0].toNat = 60 by omega)))
 have hex : s.extract 0 n = escS t := by rw [hn]; exact extract_head h
 have HEx := Lib.hid hex
 have HP : ∀ w9, Ext w w9 → Blk w9 w.heap.size 106 (tokC 0 ⟨#[]⟩ (.slice none 0 0) ⟨#[]⟩) → NextPost w (.txt t) (.returned (.tuple #[.agg (tokC 0 ⟨#[]⟩ (.slice none 0 0) (escS t)), .int .i64 (n : Int), .bool true])) (putB w9 w.heap.size 106 (tokC 0 ⟨#[]⟩ (.slice none 0 0) (escS t))) :=
  fun w9 hx _ => ⟨_, by rw [hn]; rfl, rfl, hx.put (Nat.le_refl _) _ _⟩
 have HPo := Lib.hid HP
 have HX := Lib.hid ((Ext.refl w).alloc (.cells (tokC 0 ⟨#[]⟩ (.slice none 0 0) ⟨#[]⟩) 106))
 have HB := Lib.hid (Blk.new w 106 (tokC 0 ⟨#[]⟩ (.slice none 0 0) ⟨#[]⟩))
 have HI : Hid (∀ w, Calls Tryz.prog 51 #[.string s, .int .u8 60] w fun e w' => e = .returned (.int .i64 (Lib.indexByte s.data.toList 60)) ∧ w' = w) := fun w => Tryz.strings_IndexByte s 60 w
 clear HP hex hs0
 rcases hr with rfl | ⟨q, rfl⟩
 · have hi : Lib.indexByte s.data.toList 60 = -1 := by rw [h, List.append_nil]; exact index_no hcl
   have hsn : s.size = n := by rw [← size_toList s, h, List.append_nil, hn]
   have HI2 : Hid (∀ w, Calls Tryz.prog 51 #[.string s, .int .u8 60] w fun e w' => e = .returned (.int .i64 (-1)) ∧ w' = w) := by
    intro w
    have := HI.out w
    rwa [hi] at this
   clear h hcl HI hi hn
   unfold tokC at HX HB
   go_enter Tryz.func30, Tryz.ntmps30
   go_wp2_with fail
   refine (HI2.out _).mono ?_
   rintro e w' ⟨rfl, rfl⟩
   go_wp2_with (refine wpList_storeB rfl 106 (.tmp 2) (.tmp 23) rfl w.heap.size 106 _ _ (by exact rfl) (by exact rfl) (by exact HB.out) (by exact rfl) (by exact size_tokI) (by simp [Value.oneCell']) ?_)
   refine bodyPost_ret (v := .tuple #[.agg (tokC 0 ⟨#[]⟩ (.slice none 0 0) (s.extract 0 n)), .int .i64 (n : Int), .bool true]) ?_ rfl ?_
   · exact results_Bx2 Tryz.results30 rfl (HB.out.put _) Tryz.underlying106 rfl size_tokI rfl rfl
   · rw [HEx.out]; exact HPo.out _ HX.out HB.out
 · have hi : Lib.indexByte s.data.toList 60 = (n : Int) := by rw [h, hn]; exact index_past' hcl
   have HI2 : Hid (∀ w, Calls Tryz.prog 51 #[.string s, .int .u8 60] w fun e w' => e = .returned (.int .i64 (n : Int)) ∧ w' = w) := by
    intro w
    have := HI.out w
    rwa [hi] at this
   clear h hcl HI hi hn
   unfold tokC at HX HB
   go_enter Tryz.func30, Tryz.ntmps30
   go_wp2_with fail
   refine (HI2.out _).mono ?_
   rintro e w' ⟨rfl, rfl⟩
   go_wp2_with (refine wpList_storeB rfl 106 (.tmp 2) (.tmp 23) rfl w.heap.size 106 _ _ (by exact rfl) (by exact rfl) (by exact HB.out) (by exact rfl) (by exact size_tokI) (by simp [Value.oneCell']) ?_)
   refine bodyPost_ret (v := .tuple #[.agg (tokC 0 ⟨#[]⟩ (.slice none 0 0) (s.extract 0 n)), .int .i64 (n : Int), .bool true]) ?_ rfl ?_
   · exact results_Bx2 Tryz.results30 rfl (HB.out.put _) Tryz.underlying106 rfl size_tokI rfl rfl
   · rw [HEx.out]; exact HPo.out _ HX.out HB.out
theorem run_index_rowX {P : Program} {w : World} {t e : TypeId} {n sz : Nat} {cs : Array Value} {d : TypeDesc} (ht : P.underlying t = some (.array n e)) (hd : P.underlying e = some d) (hrow : d.isRow = true) (hi : (P.info? e).map (·.size) = some sz) (k : Nat) (hk : k < n) :
 (Instr.index t (.agg cs) (.int .i64 k)).run P w = .ok (.agg (cs.extract (k * sz) (k * sz + sz))) w := by
 obtain ⟨i, hi', rfl⟩ := Option.map_eq_some_iff.1 hi
 have h1 : (isAgg e).run P w = .ok true w := by
  cases d <;> simp [TypeDesc.isRow] at hrow <;> simp [isAgg, run_underlying hd]
 have h2 : (sizeOf e).run P w = .ok i.size w := by simp [sizeOf, typeInfo, hi']
 simp [Instr.index, run_underlying ht, asIntOf, part, h1, h2, hk]
def noteA : Array Value := #[.string ⟨#[60, 63]⟩, .string ⟨#[63, 62]⟩, .string ⟨#[60, 33, 45, 45]⟩, .string ⟨#[45, 45, 62]⟩]
theorem size_pair : (Tryz.prog.info? 128).map (·.size) = some 2 := by kernel_rfl
theorem note_0 (w : World) : (Instr.index 134 (.agg noteA) (.int .i64 0)).run Tryz.prog w = .ok (.agg #[.string ⟨#[60, 63]⟩, .string ⟨#[63, 62]⟩]) w :=
 run_index_rowX Tryz.underlying134 Tryz.underlying128 rfl size_pair 0 (by decide)
theorem note_1 (w : World) : (Instr.index 134 (.agg noteA) (.int .i64 1)).run Tryz.prog w = .ok (.agg #[.string ⟨#[60, 33, 45, 45]⟩, .string ⟨#[45, 45, 62]⟩]) w :=
 run_index_rowX Tryz.underlying134 Tryz.underlying128 rfl size_pair 1 (by decide)
def NxRel (W : World) (v : Value) (wr : World) : Prop := ∃ k : Nat, k ≤ 2 ∧ v = .int .i64 k ∧ Ext W wr
theorem prefix_no {a b : UInt8} {l p : List UInt8} (h : a ≠ b) : Lib.hasPrefix (60 :: a :: l) (60 :: b :: p) = false := by
 unfold Lib.hasPrefix
 simp [List.isPrefixOf]
 exact fun e => absurd e.symm h
theorem prefix_yes {a : UInt8} {l : List UInt8} : Lib.hasPrefix (60 :: a :: l) [60, a] = true := by
 unfold Lib.hasPrefix
 simp [List.isPrefixOf]
set_option maxHeartbeats 2000000 in
set_option maxRecDepth 100000 in
theorem next_fin (s n : ByteArray) (r : List UInt8) (w : World) (hs : s.size ≤ 4294967296) (h : s.data.toList = [60, 47] ++ n.data.toList ++ [62] ++ r) (hn : xnm n = true) :
 Calls Tryz.prog 30 #[.string s] w (NextPost w (.fin n)) := by
 have hl : s.data.toList = 60 :: 47 :: (n.data.toList ++ 62 :: r) := by rw [h]; simp
 have h2 : s.data.toList.drop 2 = n.data.toList ++ 62 :: r := by rw [hl]; rfl
 have hz : 2 ≤ s.size := by rw [← size_toList s, hl]; simp
 have hw := word_name hn h2 (by decide)
 have hr1 : 2 + n.size ≤ s.size := by rw [← size_toList n]; exact at_room hz h2
 have h3 : s.data.toList.drop (2 + n.size) = 62 :: r := by rw [← size_toList n]; exact at_append h2
 have hb1 : 2 + n.size + tw whiteB (s.data.toList.drop (2 + n.size)) = 2 + n.size := blank_no h3 (by decide)
 obtain ⟨k1, g1, -⟩ := at_cons h3
 obtain ⟨p1, e1⟩ : ∃ p1, p1 = 2 + n.size := ⟨_, rfl⟩
 have h0 : 0 < s.size := by omega
 have q0 : s[0] = 60 := by
  have := drop_get s 0 h0
  rw [List.drop_zero, hl] at this
  injection this with e _
  exact e.symm
 have hne : n.toList.isEmpty = false := by
  have := xnm_ne hn
  rw [ByteArray.toList_eq]
  cases hx : n.data.toList.isEmpty
  · rfl
  · exact absurd (by simpa using hx) this
 have HWd : Hid (∀ w, Calls Tryz.prog 54 #[.string s, .int .i64 2] w fun e w' => e = .returned (.tuple #[.string n, .int .i64 (p1 : Int)]) ∧ w = w') := by
  intro w
  have := word_any s 2 w hs hz
  rw [hw.1, hw.2, ← e1] at this
  exact this
 have HB1 : Hid (∀ w, Calls Tryz.prog 55 #[.string s, .int .i64 (p1 : Int)] w fun e w' => e = .returned (.int .i64 (p1 : Int)) ∧ w = w') := by
  intro w
  have := blanks_any s (2 + n.size) w hs hr1
  rw [hb1, ← e1] at this
  exact this
 have HP1 : Hid (∀ w, Calls Tryz.prog 52 #[.string s, .string ⟨#[60, 63]⟩] w fun e w' => e = .returned (.bool false) ∧ w' = w) := by
  intro w
  have := Tryz.strings_HasPrefix s ⟨#[60, 63]⟩ w
  rwa [hl, prefix_no (by decide)] at this
 have HP2 : Hid (∀ w, Calls Tryz.prog 52 #[.string s, .string ⟨#[60, 33, 45, 45]⟩] w fun e w' => e = .returned (.bool false) ∧ w' = w) := by
  intro w
  have := Tryz.strings_HasPrefix s ⟨#[60, 33, 45, 45]⟩ w
  rwa [hl, prefix_no (by decide)] at this
 have HP3 : Hid (∀ w, Calls Tryz.prog 52 #[.string s, .string ⟨#[60, 47]⟩] w fun e w' => e = .returned (.bool true) ∧ w' = w) := by
  intro w
  have := Tryz.strings_HasPrefix s ⟨#[60, 47]⟩ w
  rwa [hl, prefix_yes] at this
 have k1' : p1 < s.size := by omega
 have g1' : s[p1] = 62 := by simp only [e1]; exact g1
 have HE : Hid ((p1 : Int) + 1 = ((Tk.fin n).bytes.length : Int)) := by
  show _ = _
  simp only [Tk.bytes, List.length_append, List.length_cons, List.length_nil, size_toList]
  omega
 have hb0 : ((s[0].toNat : Int) != 60) = false := by rw [q0]; rfl
 clear h hl h2 h3 hb1 hw g1 e1 hn
 go_enter Tryz.func30, Tryz.ntmps30
 go_wp2_with fail
 obtain ⟨W0, hW0⟩ : ∃ W0, W0 = w.alloc (.cells #[.int .i64 0, .string ⟨#[]⟩, .slice none 0 0, .string ⟨#[]⟩] 106) := ⟨_, rfl⟩
 have HB0 : Hid (Blk W0 w.heap.size 106 (tokC 0 ⟨#[]⟩ (.slice none 0 0) ⟨#[]⟩)) := by show Blk _ _ _ _; rw [hW0]; exact Blk.new _ _ _
 have HX0 : Hid (Ext w W0) := by show Ext _ _; rw [hW0]; exact (Ext.refl w).alloc _
 rw [← hW0]
 clear hW0
 go_loopw [28] (fun v wr => NxRel W0 v wr) (fun v _ => 2 - (intOf v).toNat)
 case atStart => exact ⟨0, by omega, rfl, Ext.refl _⟩
 case round =>
  obtain ⟨k, hk, rfl, hx⟩ := hrel
  have HX := Lib.hid hx
  clear hx
  have hk3 : k = 0 ∨ k = 1 ∨ k = 2 := by omega
  have hn0 := fun w => note_0 w
  have hn1 := fun w => note_1 w
  unfold noteA at hn0 hn1
  rcases hk3 with rfl | rfl | rfl
  · go_wp2_with fail
    refine (HP1.out _).mono ?_
    rintro e w' ⟨rfl, rfl⟩
    go_wp2_with fail
    exact ⟨⟨1, by omega, rfl, HX.out.alloc _⟩, by simp [intOf]⟩
  · go_wp2_with fail
    refine (HP2.out _).mono ?_
    rintro e w' ⟨rfl, rfl⟩
    go_wp2_with fail
    exact ⟨⟨2, by omega, rfl, HX.out.alloc _⟩, by simp [intOf]⟩
  · have HB := Lib.hid (HB0.out.ext HX.out)
    go_wp2_with fail
    refine (HP3.out _).mono ?_
    rintro e w' ⟨rfl, rfl⟩
    go_wp2_with fail
    refine (HWd.out _).mono ?_
    rintro e w' ⟨rfl, rfl⟩
    go_wp2_with fail
    refine (HB1.out _).mono ?_
    rintro e w' ⟨rfl, rfl⟩
    go_wp2_with (refine wpList_storeB rfl 106 (.tmp 2) (.tmp 84) rfl w.heap.size 106 _ _ (by exact rfl) (by exact rfl) (by exact HB.out) (by exact rfl) (by exact size_tokI) (by simp [Value.oneCell']) ?_)
    refine bodyPost_ret (v := .tuple #[.agg (tokC 2 n (.slice none 0 0) ⟨#[]⟩), .int .i64 ((p1 : Int) + 1), .bool true]) ?_ rfl ⟨_, ?_, rfl, ?_⟩
    · exact results_Bx2 Tryz.results30 rfl (HB.out.put _) Tryz.underlying106 rfl size_tokI rfl rfl
    · rw [HE.out]
    · exact (HX0.out.trans HX.out).put (Nat.le_refl _) _ _
set_option maxHeartbeats 2000000 in
set_option maxRecDepth 100000 in
theorem next_core (s n : ByteArray) (al : List (ByteArray × ByteArray)) (t : Tk) (kd : Int) (c : UInt8) (q : List UInt8) (w : World) (hl : s.data.toList = 60 :: c :: q) (hc : letB c = true)
 (hst : ∀ w, Calls Tryz.prog 56 #[.string s] w (StPost w n al kd t.bytes.length)) (ht : ∀ w L vs, w.ownsRow L 69 2 vs al.length ((rawA al).flatMap attrVs) → TokAt w L (.agg (tokC kd n vs ⟨#[]⟩)) t) :
 Calls Tryz.prog 30 #[.string s] w (NextPost w t) := by
 have hz : 2 ≤ s.size := by rw [← size_toList s, hl]; simp
 have h0 : 0 < s.size := by omega
 have q0 : s[0] = 60 := by
  have := drop_get s 0 h0
  rw [List.drop_zero, hl] at this
  injection this with e _
  exact e.symm
 have hcn : ∀ b : UInt8, letB b = false → c ≠ b := fun b hb e => by rw [e, hb] at hc; cases hc
 have HP1 : Hid (∀ w, Calls Tryz.prog 52 #[.string s, .string ⟨#[60, 63]⟩] w fun e w' => e = .returned (.bool false) ∧ w' = w) := by
  intro w
  have := Tryz.strings_HasPrefix s ⟨#[60, 63]⟩ w
  rwa [hl, prefix_no (hcn _ (by decide))] at this
 have HP2 : Hid (∀ w, Calls Tryz.prog 52 #[.string s, .string ⟨#[60, 33, 45, 45]⟩] w fun e w' => e = .returned (.bool false) ∧ w' = w) := by
  intro w
  have := Tryz.strings_HasPrefix s ⟨#[60, 33, 45, 45]⟩ w
  rwa [hl, prefix_no (hcn _ (by decide))] at this
 have HP3 : Hid (∀ w, Calls Tryz.prog 52 #[.string s, .string ⟨#[60, 47]⟩] w fun e w' => e = .returned (.bool false) ∧ w' = w) := by
  intro w
  have := Tryz.strings_HasPrefix s ⟨#[60, 47]⟩ w
  rwa [hl, prefix_no (hcn _ (by decide))] at this
 have hb0 : ((s[0].toNat : Int) != 60) = false := by rw [q0]; rfl
 have HSt := Lib.hid hst
 have HTk := Lib.hid ht
 clear hl hc hcn hst ht
 go_enter Tryz.func30, Tryz.ntmps30
 go_wp2_with fail
 obtain ⟨W0, hW0⟩ : ∃ W0, W0 = w.alloc (.cells #[.int .i64 0, .string ⟨#[]⟩, .slice none 0 0, .string ⟨#[]⟩] 106) := ⟨_, rfl⟩
 have HB0 : Hid (Blk W0 w.heap.size 106 (tokC 0 ⟨#[]⟩ (.slice none 0 0) ⟨#[]⟩)) := by show Blk _ _ _ _; rw [hW0]; exact Blk.new _ _ _
 have HX0 : Hid (Ext w W0) := by show Ext _ _; rw [hW0]; exact (Ext.refl w).alloc _
 rw [← hW0]
 clear hW0
 go_loopw [28] (fun v wr => NxRel W0 v wr) (fun v _ => 2 - (intOf v).toNat)
 case atStart => exact ⟨0, by omega, rfl, Ext.refl _⟩
 case round =>
  obtain ⟨k, hk, rfl, hx⟩ := hrel
  have HX := Lib.hid hx
  clear hx
  have hk3 : k = 0 ∨ k = 1 ∨ k = 2 := by omega
  have hn0 := fun w => note_0 w
  have hn1 := fun w => note_1 w
  unfold noteA at hn0 hn1
  rcases hk3 with rfl | rfl | rfl
  · go_wp2_with fail
    refine (HP1.out _).mono ?_
    rintro e w' ⟨rfl, rfl⟩
    go_wp2_with fail
    exact ⟨⟨1, by omega, rfl, HX.out.alloc _⟩, by simp [intOf]⟩
  · go_wp2_with fail
    refine (HP2.out _).mono ?_
    rintro e w' ⟨rfl, rfl⟩
    go_wp2_with fail
    exact ⟨⟨2, by omega, rfl, HX.out.alloc _⟩, by simp [intOf]⟩
  · go_wp2_with fail
    refine (HP3.out _).mono ?_
    rintro e w' ⟨rfl, rfl⟩
    go_wp2_with fail
    refine (HSt.out _).mono ?_
    rintro e w2 ⟨vs, rfl, hown, hx2⟩
    have HB := Lib.hid (HB0.out.ext (HX.out.trans hx2))
    have HO := Lib.hid hown
    have HX2 := Lib.hid ((HX0.out.trans HX.out).trans hx2)
    have hz2 := (HX0.out.trans HX.out).size
    clear hown hx2
    have h1c := own_one HO.out
    go_wp2_with (refine wpList_storeB rfl 106 (.tmp 2) (.tmp 89) rfl w.heap.size 106 _ _ (by exact rfl) (by exact rfl) (by exact HB.out) (by exact rfl) (by exact size_tokI) (by simp [Value.oneCell', tokC]; exact h1c) ?_)
    refine bodyPost_ret (v := .tuple #[.agg (tokC kd n vs ⟨#[]⟩), .int .i64 (t.bytes.length : Int), .bool true]) ?_ rfl ⟨_, rfl, HTk.out _ _ _ ?_, ?_⟩
    · exact results_Bx2 Tryz.results30 rfl (HB.out.put _) Tryz.underlying106 rfl size_tokI rfl rfl
    · exact own_le' (own_kbX HO.out (KB.put HB.out (by decide))) (by omega)
    · exact HX2.out.put (Nat.le_refl _) _ _
theorem next_any (s : ByteArray) (t : Tk) (r : List UInt8) (w : World) (hs : s.size ≤ 4294967296) (h : s.data.toList = t.bytes ++ r) (hf : TkFit t r) : Calls Tryz.prog 30 #[.string s] w (NextPost w t) := by
 cases t with
 | txt t => exact next_txt s t r w hs h hf.1 hf.2
 | fin n => exact next_fin s n r w hs h hf
 | beg n al =>
  have hel : ElOk n al := hf
  obtain ⟨-, c, l, hcl, hc⟩ := xnm_all hel.nm
  refine next_core s n al _ 1 c _ w (by rw [h]; simp only [Tk.bytes]; rw [hcl]; rfl) hc (fun w => startTag_core s n al 1 (62 :: r) _ w hs hel (by rw [h]; simp [Tk.bytes]) (.inl ⟨rfl, ⟨r, rfl⟩, ?_⟩)) (fun w L vs ho => ⟨vs, rfl, ho⟩)
  simp only [Tk.bytes, List.length_append, List.length_cons, List.length_nil, size_toList]
  omega
 | emp n al =>
  have hel : ElOk n al := hf
  obtain ⟨-, c, l, hcl, hc⟩ := xnm_all hel.nm
  refine next_core s n al _ 3 c _ w (by rw [h]; simp only [Tk.bytes]; rw [hcl]; rfl) hc (fun w => startTag_core s n al 3 (47 :: 62 :: r) _ w hs hel (by rw [h]; simp [Tk.bytes]) (.inr ⟨rfl, ⟨r, rfl⟩, ?_⟩)) (fun w L vs ho => ⟨vs, rfl, ho⟩)
  simp only [Tk.bytes, List.length_append, List.length_cons, List.length_nil, size_toList]
  omega
end
section
open Go.RowKit
def XnRel (s : ByteArray) (v : Value) : Prop := ∃ k : Nat, k ≤ s.size ∧ v = .int .i64 k
set_option maxHeartbeats 2000000 in
set_option maxRecDepth 100000 in
theorem XName_ok (s : ByteArray) (w : World) (h : xnm s = true) : Calls Tryz.prog 87 #[.string s] w fun e w' => e = .returned (.bool true) ∧ w = w' := by
 have HN := Lib.hid (fun c w => nameByte_any c w)
 have HL := Lib.hid (fun c w => letter_any c w)
 have hz : 1 ≤ s.size := by have := xnm_pos h; omega
 have hall := xnm_all h
 have h32 : s.size ≤ 32 := by
  obtain ⟨-, c, l, hl, -⟩ := hall
  unfold xnm xnmL at h
  rw [hl] at h
  simp only [Bool.and_eq_true, decide_eq_true_eq] at h
  have := congrArg List.length hl
  rw [size_toList, List.length_cons] at this
  omega
 have h0 : 0 < s.size := by omega
 have hl0 : letB s[0] = true := by
  obtain ⟨-, c, l, hl, hc⟩ := hall
  have := drop_get s 0 h0
  rw [List.drop_zero, hl] at this
  injection this with e _
  rw [← e]; exact hc
 have hA : ∀ k (hk : k < s.size), nmcB s[k] = true := fun k hk => by
  have h1 := hall.1
  rw [List.all_eq_true] at h1
  exact h1 s[k] (by simp [ByteArray.getElem_eq_getElem_data])
 have HA := Lib.hid hA
 have HL0 := Lib.hid hl0
 have d1 : decide (s.size < 1) = false := decide_eq_false (by omega)
 have d2 : decide (32 < s.size) = false := decide_eq_false (by omega)
 have d3 : ¬ s.size < 1 := by omega
 have d4 : ¬ 32 < s.size := by omega
 clear h hall hl0 hA
 go_enter Tryz.func87, Tryz.ntmps87
 go_wp2_with fail
 refine (HL.out _ _).mono ?_
 rintro e w' ⟨rfl, rfl⟩
 rw [HL0.out]
 go_wp2_with fail
 go_loop [20] (fun v => XnRel s v) (fun v => s.size - (intOf v).toNat)
 case atStart => exact ⟨0, Nat.zero_le _, rfl⟩
 case round =>
  obtain ⟨k, hk, rfl⟩ := hrel
  by_cases hlt : k < s.size
  · have HAk := Lib.hid (HA.out k hlt)
    go_wp2_with fail
    refine (HN.out _ _).mono ?_
    rintro e w' ⟨rfl, rfl⟩
    rw [HAk.out]
    go_wp2_with fail
    exact ⟨⟨k + 1, by omega, by go_num⟩, by simp [intOf]; omega⟩
  · have ek : k = s.size := by omega
    subst ek
    go_wp2_with fail
    go_ret
    exact ⟨rfl, rfl⟩
end
section
open Go.RowKit
def strVs (s : ByteArray) : List Value := [.string s]
structure NdH where
 name : ByteArray
 text : ByteArray
 av : Value
 depth : Int
def NdH.vals (h : NdH) : List Value := [.string h.name, .string h.text, h.av, .int .i64 h.depth]
theorem NdH.len (h : NdH) : h.vals.length = 4 := rfl
structure NdGood (w : World) (L : Nat) (h : NdH) (x : Nd) : Prop where
 name : h.name = x.name
 text : h.text = x.text
 depth : h.depth = (x.depth : Int)
 row : w.ownsRow L 69 2 h.av x.attrs.length (x.attrs.flatMap attrVs)
def NodesOwn (w : World) (L : Nat) (v : Value) (l : List Nd) : Prop :=
 ∃ hs : List NdH, w.ownsRow L 87 4 v l.length (hs.flatMap NdH.vals) ∧ hs.length = l.length ∧ ∀ (i : Nat) (h : NdH) (x : Nd), hs[i]? = some h → l[i]? = some x → NdGood w L h x
def StrsOwn (w : World) (L : Nat) (v : Value) (l : List ByteArray) : Prop := w.ownsRow L 9 1 v l.length (l.flatMap strVs)
section
variable {w w1 : World} {L L' : Nat} {v : Value} {l : List Nd}
theorem NdGood.kb {h : NdH} {x : Nd} (g : NdGood w L h x) (k : KB 69 w w1) : NdGood w1 L h x := ⟨g.name, g.text, g.depth, own_kbX g.row k⟩
theorem NodesOwn.kb (h : NodesOwn w L v l) (k1 : KB 87 w w1) (k2 : KB 69 w w1) : NodesOwn w1 L v l := by
 obtain ⟨hs, h1, h2, h3⟩ := h
 exact ⟨hs, own_kbX h1 k1, h2, fun i x n a b => (h3 i x n a b).kb k2⟩
theorem NodesOwn.ext (h : NodesOwn w L v l) (k : Ext w w1) : NodesOwn w1 L v l := h.kb (KB.ext k) (KB.ext k)
theorem NodesOwn.nil (w : World) (L : Nat) : NodesOwn w L (.slice none 0 0) [] := ⟨[], ⟨rfl, .inl ⟨rfl, rfl⟩⟩, rfl, fun i x n a _ => by simp at a⟩
theorem StrsOwn.nil (w : World) (L : Nat) : StrsOwn w L (.slice none 0 0) [] := ⟨rfl, .inl ⟨rfl, rfl⟩⟩
theorem own_take {T : TypeId} {size n cap : Nat} {A : Option Addr} {xs : List Value} (h : w.ownsRow L T size (.slice A n cap) n xs) (k : Nat) (hk : k ≤ n) (hn : 0 < n) : w.ownsRow L T size (.slice A k cap) k (xs.take (k * size)) := by
 have hkn : k * size ≤ n * size := Nat.mul_le_mul_right size hk
 refine ⟨by rw [List.length_take, h.1]; omega, ?_⟩
 rcases h.2 with ⟨_, h0⟩ | ⟨g, c, cur, hv, hb, hg, hc, hm, hz, ht⟩
 · omega
 · injection hv with e1 _ e3
   subst e1 e3
   refine .inr ⟨g, cap, cur, rfl, hb, hg, by omega, hm, hz, ?_⟩
   rw [← ht, List.take_take, Nat.min_eq_left hkn]
end
def PsAt (w : World) (L b : Nat) (p : Ps) : Prop := ∃ vn vo, Blk w b 104 #[vn, vo, .bool p.joined] ∧ NodesOwn w L vn p.nodes ∧ StrsOwn w L vo p.opn ∧ L ≤ b
theorem PsAt.ext {w w1 : World} {L b : Nat} {p : Ps} (h : PsAt w L b p) (k : Ext w w1) : PsAt w1 L b p := by
 obtain ⟨vn, vo, h1, h2, h3, h4⟩ := h
 exact ⟨vn, vo, h1.ext k, h2.ext k, own_ext h3 k, h4⟩
theorem own_len {w : World} {L size n : Nat} {T : TypeId} {v : Value} {xs : List Value} (h : w.ownsRow L T size v n xs) : ∃ A c, v = .slice A n c ∧ n ≤ c ∧ (0 < n → ∃ g, A = some ⟨g, 0, none⟩ ∧ L ≤ g) := by
 rcases h.2 with ⟨rfl, rfl⟩ | ⟨g, cap, cur, rfl, hb, hg, hc, -⟩
 · exact ⟨none, 0, rfl, Nat.le_refl _, fun h => absurd h (by omega)⟩
 · exact ⟨_, cap, rfl, hc, fun _ => ⟨g, rfl, hb⟩⟩
set_option maxHeartbeats 2000000 in
set_option maxRecDepth 100000 in
theorem room_ok (L b : Nat) (p : Ps) (text : Bool) (w : World) (hp : PsAt w L b p) (hr : RoomOk p text) :
 Calls Tryz.prog 104 #[.pointer (some ⟨b, 0, none⟩), .bool text] w fun e w' => e = .returned (.int .i64 0) ∧ w = w' := by
 obtain ⟨vn, vo, hB, ⟨hs, hN, -⟩, hO, -⟩ := hp
 obtain ⟨An, cn, rfl, -, -⟩ := own_len hN
 obtain ⟨Ao, co, rfl, -, -⟩ := own_len hO
 have hc := fun o => hB.cell o
 obtain ⟨h1, h2, h3⟩ := hr
 have d2 : decide (15 < p.opn.length) = false := decide_eq_false (by omega)
 have d3 : decide (8192 ≤ p.nodes.length) = false := decide_eq_false (by omega)
 have d4 : ¬ 15 < p.opn.length := by omega
 have d5 : ¬ 8192 ≤ p.nodes.length := by omega
 clear hB hN hO h2 h3
 by_cases h0 : p.opn.length = 0
 · have he := h1 (List.eq_nil_of_length_eq_zero h0)
   obtain ⟨rfl, hn⟩ := he
   have e0 : ((p.opn.length : Int) == 0) = true := by simp [h0]
   have e1 : p.nodes.length = 0 := by rw [hn]; rfl
   clear h1 hn
   rw [e1] at hc
   rw [h0] at hc
   go_enter Tryz.func104, Tryz.ntmps104
   go_wp2_with fail
   go_ret
   exact ⟨rfl, rfl⟩
 · have e0 : ((p.opn.length : Int) == 0) = false := beq_eq_false_iff_ne.2 (by omega)
   clear h1
   go_enter Tryz.func104, Tryz.ntmps104
   go_wp2_with fail
   go_ret
   exact ⟨rfl, rfl⟩
end
section
open Go.RowKit
theorem strs_at {w : World} {L : Nat} {v : Value} {l : List ByteArray} (h : StrsOwn w L v l) (k : Nat) (s : ByteArray) (hk : l[k]? = some s) : ∃ g cap, v = .slice (some ⟨g, 0, none⟩) l.length cap ∧ (l.length ≤ cap ∧ cap ≤ maxLen) ∧ L ≤ g ∧ Typed w 9 g ∧ w.cell? ⟨g, k, none⟩ = some (.string s) := by
 have hkl := (List.getElem?_eq_some_iff.1 hk).1
 obtain ⟨A, c, hv, hc, hm, hS, hfr⟩ := own_sl (f := strVs) (size := 1) (fun _ => rfl) rfl h
 obtain ⟨g, off, hA, hC⟩ := hS.2 (by omega)
 obtain ⟨g', cap', hv', hL, -⟩ := own_form h (by omega)
 rw [hv] at hv'
 injection hv' with e1 e2 e3
 rw [hA] at e1
 cases e1
 refine ⟨g, c, by rw [hv, hA], ⟨hc, hm⟩, hL, own_typed h g (by rw [hv, hA]; rfl), ?_⟩
 have := hC k s hk 0 (.string s) rfl
 simpa using this
set_option maxHeartbeats 2000000 in
set_option maxRecDepth 100000 in
theorem end_ok (L b : Nat) (p : Ps) (n : ByteArray) (w : World) (hp : PsAt w L b p) (hl : p.opn.getLast? = some n) (hn : xnm n = true) (hLw : L ≤ w.heap.size) :
 Calls Tryz.prog 58 #[.pointer (some ⟨b, 0, none⟩), .agg (tokC 2 n (.slice none 0 0) ⟨#[]⟩)] w fun e w' => e = .returned (.int .i64 0) ∧ PsAt w' L b (p.step (.fin n)) ∧ Below L w w' := by
 obtain ⟨nodes, opn, joined⟩ := p
 obtain ⟨vn, vo, hB, hN, hO, hLb⟩ := hp
 dsimp only at *
 obtain ⟨q, hq⟩ : ∃ q, opn = q ++ [n] := by
  rcases List.eq_nil_or_concat opn with h | ⟨q, x, h⟩
  · rw [h] at hl; simp at hl
  · rw [List.concat_eq_append] at h
    rw [h, List.getLast?_append] at hl
    simp at hl
    exact ⟨q, by rw [h, hl]⟩
 have hlen : opn.length = q.length + 1 := by rw [hq]; simp
 have hat : opn[q.length]? = some n := by rw [hq]; simp
 obtain ⟨g, cap, rfl, ⟨hcap, hmx⟩, hLg, hty, hcell⟩ := strs_at hO q.length n hat
 have HNm := Lib.hid (fun w => XName_ok n w hn)
 have hbl := hB.lt
 have HB1 := Lib.hid (hB.alloc (.cells (tokC 2 n (.slice none 0 0) ⟨#[]⟩) 106))
 have HT1 : Hid (Blk (w.alloc (.cells (tokC 2 n (.slice none 0 0) ⟨#[]⟩) 106)) w.heap.size 106 (tokC 2 n (.slice none 0 0) ⟨#[]⟩)) := Blk.new _ _ _
 have hce : (w.alloc (.cells (tokC 2 n (.slice none 0 0) ⟨#[]⟩) 106)).cell? ⟨g, q.length, none⟩ = some (.string n) := ((Ext.refl w).alloc _).cell hcell
 have HCe := Lib.hid hce
 have HN := Lib.hid hN
 have HO := Lib.hid hO
 have HLq := Lib.hid hq
 have e0 : ((opn.length : Int) == 0) = false := beq_eq_false_iff_ne.2 (by omega)
 rw [hlen] at e0 hcap
 unfold maxLen at hmx
 clear hB hN hat hn hl hcell hce
 unfold StrsOwn at HO
 unfold tokC at HB1 HT1 HCe
 rw [hlen] at HO
 rw [hlen] at HB1
 obtain ⟨W, hW⟩ : ∃ W, W = w.alloc (.cells #[.int .i64 2, .string n, .slice none 0 0, .string ⟨#[]⟩] 106) := ⟨_, rfl⟩
 have HX1 : Hid (Ext w W) := by show Ext _ _; rw [hW]; exact (Ext.refl w).alloc _
 go_enter Tryz.func58, Tryz.ntmps58
 have hc0 := fun o => HB1.out.cell o
 have ht0 := fun o => HT1.out.cell o
 unfold tokC
 go_wp2_with fail
 refine (HNm.out _).mono ?_
 rintro e w' ⟨rfl, rfl⟩
 clear hc0 ht0
 rw [← hW]
 rw [← hW] at HB1 HT1 HCe
 clear hW
 go_wp2_with fail
 have hc := fun (y : EW W) o => (HB1.out.ext y.ext).cell o
 have ht := fun (y : EW W) o => (HT1.out.ext y.ext).cell o
 refine wp_region_ew W (Ext.refl _) (by kernel_rfl) (by kernel_rfl) ?_
 have hcW := fun (y : EW W) => y.ext.cell HCe.out
 have hnn : (n.toList != n.toList) = false := by simp
 have e1 : (((q.length : Int) + 1) == 0) = false := beq_eq_false_iff_ne.2 (by omega)
 repeat (go_big_quiet_step (fail))
 refine wpQuiet_nil ?_
 rintro w6 ⟨⟨_, hx6⟩, rfl⟩
 try dsimp only
 have HB6 := Lib.hid (HB1.out.ext hx6)
 have HX6 := Lib.hid (HX1.out.trans hx6)
 clear hc ht hcW hnn e1 hx6
 have HB7 : Hid (Blk (putB w6 b 104 #[vn, .slice (some ⟨g, 0, none⟩) q.length cap, .bool joined]) b 104 #[vn, .slice (some ⟨g, 0, none⟩) q.length cap, .bool joined]) := HB6.out.put _
 have hc6 := fun o => HB6.out.cell o
 have hf6 := fun o => HB6.out.frozen o
 have hs6 : w6.setCell ⟨b, 1, none⟩ (.slice (some ⟨g, 0, none⟩) q.length cap) = putB w6 b 104 #[vn, .slice (some ⟨g, 0, none⟩) q.length cap, .bool joined] := setCell_put HB6.out 1 _
 have hc7 := fun o => HB7.out.cell o
 have hf7 := fun o => HB7.out.frozen o
 have hs7 : (putB w6 b 104 #[vn, .slice (some ⟨g, 0, none⟩) q.length cap, .bool joined]).setCell ⟨b, 2, none⟩ (.bool false) = putB w6 b 104 #[vn, .slice (some ⟨g, 0, none⟩) q.length cap, .bool false] := by
  rw [setCell_put HB7.out 2, putB_putB]; rfl
 have hcap2 : q.length ≤ cap := by omega
 go_wp2_with fail
 go_ret
 refine ⟨rfl, ⟨vn, .slice (some ⟨g, 0, none⟩) q.length cap, HB6.out.put _, ?_, ?_, hLb⟩, ?_⟩
 · exact (HN.out.ext HX6.out).kb (KB.put HB6.out (by decide)) (KB.put HB6.out (by decide))
 · have h1 := own_take (own_ext HO.out HX6.out) q.length (by omega) (by omega)
   have e : (opn.flatMap strVs).take (q.length * 1) = q.flatMap strVs := by
    rw [HLq.out, List.flatMap_append, List.take_append_of_le_length (by rw [flatMap_len strVs 1 (fun _ => rfl)]; exact Nat.le_refl _), List.take_of_length_le (by rw [flatMap_len strVs 1 (fun _ => rfl)]; exact Nat.le_refl _)]
   rw [e] at h1
   have h2 := own_kbX h1 (KB.put (cs' := #[vn, .slice (some ⟨g, 0, none⟩) q.length cap, .bool false]) HB6.out (by decide))
   show StrsOwn _ _ _ (Ps.step ⟨nodes, opn, joined⟩ (.fin n)).opn
   have e2 : (Ps.step ⟨nodes, opn, joined⟩ (.fin n)).opn = q := by simp only [Ps.step]; rw [HLq.out, List.dropLast_concat]
   rw [e2]
   exact h2
 · exact (Below.mono HX6.out hLw).trans ⟨rfl, rfl, rfl, by rw [putB_size]; exact Nat.le_refl _, fun k hk => by unfold putB; simp only; rw [Array.getElem?_setIfInBounds_ne (by omega)]⟩
end
section
open Go.RowKit
def entC : Array Value := #[.string ⟨#[38, 97, 109, 112, 59]⟩, .string ⟨#[38]⟩, .string ⟨#[38, 108, 116, 59]⟩, .string ⟨#[60]⟩, .string ⟨#[38, 103, 116, 59]⟩, .string ⟨#[62]⟩, .string ⟨#[38, 113, 117, 111, 116, 59]⟩, .string ⟨#[34]⟩, .string ⟨#[38, 97, 112, 111, 115, 59]⟩, .string ⟨#[39]⟩]
def EntW (w : World) : Prop := Blk w 2 129 entC
theorem EntW.ext {w w1 : World} (h : EntW w) (k : Ext w w1) : EntW w1 := Blk.ext h k
theorem size_ents : (Tryz.prog.info? 129).map (·.size) = some 10 := by kernel_rfl
def entS (k : Nat) : ByteArray := if k = 0 then ⟨#[38, 97, 109, 112, 59]⟩ else if k = 1 then ⟨#[38, 108, 116, 59]⟩ else if k = 2 then ⟨#[38, 103, 116, 59]⟩ else if k = 3 then ⟨#[38, 113, 117, 111, 116, 59]⟩ else ⟨#[38, 97, 112, 111, 115, 59]⟩
def entM (k : Nat) : UInt8 := if k = 0 then 38 else if k = 1 then 60 else if k = 2 then 62 else if k = 3 then 34 else 39
theorem ent_index (k : Nat) (hk : k < 5) (w : World) : (Instr.index 129 (.agg entC) (.int .i64 k)).run Tryz.prog w = .ok (.agg #[.string (entS k), .string ⟨#[entM k]⟩]) w := by
 have h := run_index_rowX (P := Tryz.prog) (w := w) (cs := entC) Tryz.underlying129 Tryz.underlying128 rfl size_pair k hk
 rw [h]
 have : k = 0 ∨ k = 1 ∨ k = 2 ∨ k = 3 ∨ k = 4 := by omega
 rcases this with rfl | rfl | rfl | rfl | rfl <;> rfl
theorem ent_esc (k : Nat) (hk : k < 5) : escB (entM k) = (entS k).data.toList := by
 have : k = 0 ∨ k = 1 ∨ k = 2 ∨ k = 3 ∨ k = 4 := by omega
 rcases this with rfl | rfl | rfl | rfl | rfl <;> rfl
theorem ent_prefix (j k : Nat) (hj : j < 5) (hk : k < 5) (r : List UInt8) : Lib.hasPrefix ((entS k).data.toList ++ r) (entS j).data.toList = decide (j = k) := by
 have h1 : j = 0 ∨ j = 1 ∨ j = 2 ∨ j = 3 ∨ j = 4 := by omega
 have h2 : k = 0 ∨ k = 1 ∨ k = 2 ∨ k = 3 ∨ k = 4 := by omega
 rcases h1 with rfl | rfl | rfl | rfl | rfl <;> rcases h2 with rfl | rfl | rfl | rfl | rfl <;> simp [Lib.hasPrefix, entS, List.isPrefixOf]
def RfRel (W : World) (k : Nat) (v : Value) (wr : World) : Prop := ∃ j : Nat, j ≤ k ∧ v = .int .i64 j ∧ Ext W wr
set_option maxHeartbeats 2000000 in
set_option maxRecDepth 100000 in
theorem reference_ok (s : ByteArray) (k : Nat) (r : List UInt8) (w : World) (hE : EntW w) (hk : k < 5) (h : s.data.toList = (entS k).data.toList ++ r) :
 Calls Tryz.prog 159 #[.string s] w fun e w' => e = .returned (.tuple #[.string ⟨#[entM k]⟩, .int .i64 ((entS k).size : Int), .int .i64 0]) ∧ Ext w w' := by
 have HP : Hid (∀ j, j < 5 → ∀ w, Calls Tryz.prog 52 #[.string s, .string (entS j)] w fun e w' => e = .returned (.bool (decide (j = k))) ∧ w' = w) := by
  intro j hj w
  have := Tryz.strings_HasPrefix s (entS j) w
  rwa [h, ent_prefix j k hj hk r] at this
 have HE := Lib.hid hE
 have HIx := Lib.hid ent_index
 clear h hE
 go_enter Tryz.func159, Tryz.ntmps159
 go_wp2_with (refine wpList_loadB rfl 129 (.global 2) rfl 2 129 _ _ (by exact rfl) (by exact HE.out) Tryz.underlying129 rfl (by exact size_ents) ?_)
 go_loopw [13] (fun v wr => RfRel w k v wr) (fun v _ => k + 1 - (intOf v).toNat)
 case atStart => exact ⟨0, Nat.zero_le _, rfl, Ext.refl _⟩
 case round =>
  obtain ⟨j, hj, rfl, hx⟩ := hrel
  have HX := Lib.hid hx
  clear hx
  have hix := fun w => HIx.out j (by omega) w
  have HPj := Lib.hid (HP.out j (by omega))
  by_cases hjk : j = k
  · subst hjk
    rw [decide_eq_true (rfl : j = j)] at HPj
    go_wp2_with fail
    refine (HPj.out _).mono ?_
    rintro e w' ⟨rfl, rfl⟩
    go_wp2_with fail
    obtain ⟨W9, hW9⟩ : ∃ W9, W9 = wr.alloc (.cells #[.string (entS j), .string ⟨#[entM j]⟩] 128) := ⟨_, rfl⟩
    have HB9 : Hid (Blk W9 wr.heap.size 128 #[.string (entS j), .string ⟨#[entM j]⟩]) := by show Blk _ _ _ _; rw [hW9]; exact Blk.new _ _ _
    have HX9 : Hid (Ext w W9) := by show Ext _ _; rw [hW9]; exact HX.out.alloc _
    rw [← hW9]
    clear hW9
    have hc := fun (y : EW W9) o => (HB9.out.ext y.ext).cell o
    refine wp_region_ew W9 (Ext.refl _) (by kernel_rfl) (by kernel_rfl) ?_
    repeat (go_big_quiet_step (fail))
    refine wpQuiet_nil ?_
    rintro w6 ⟨⟨_, hx6⟩, rfl⟩
    try dsimp only
    have HX6 := Lib.hid (HX9.out.trans hx6)
    clear hc hx6
    go_wp2_with fail
    go_ret3
    exact ⟨rfl, HX6.out⟩
  · rw [decide_eq_false hjk] at HPj
    go_wp2_with fail
    refine (HPj.out _).mono ?_
    rintro e w' ⟨rfl, rfl⟩
    go_wp2_with fail
    exact ⟨⟨j + 1, by omega, by go_num, HX.out.alloc _⟩, by simp [intOf]; omega⟩
def escJ (j : Nat) (b : UInt8) : List UInt8 :=
 if b = 38 ∧ 0 < j then [38, 97, 109, 112, 59] else if b = 60 ∧ 1 < j then [38, 108, 116, 59] else if b = 62 ∧ 2 < j then [38, 103, 116, 59] else if b = 34 ∧ 3 < j then [38, 113, 117, 111, 116, 59] else if b = 39 ∧ 4 < j then [38, 97, 112, 111, 115, 59] else [b]
theorem escJ_zero (l : List UInt8) : l.flatMap (escJ 0) = l := by
 have : escJ 0 = fun b => [b] := by funext b; simp [escJ]
 rw [this]
 simp
theorem escJ_five : escJ 5 = escB := by funext b; simp [escJ, escB]
theorem escJ_step (j : Nat) (hj : j < 5) (l : List UInt8) : (l.flatMap (escJ j)).flatMap (repB (entM j) (entS j).data.toList) = l.flatMap (escJ (j + 1)) := by
 rw [flatMap_comp]
 congr 1
 funext b
 have h1 : j = 0 ∨ j = 1 ∨ j = 2 ∨ j = 3 ∨ j = 4 := by omega
 by_cases b1 : b = 38
 · subst b1
   rcases h1 with rfl | rfl | rfl | rfl | rfl <;> rfl
 · by_cases b2 : b = 60
   · subst b2
     rcases h1 with rfl | rfl | rfl | rfl | rfl <;> rfl
   · by_cases b3 : b = 62
     · subst b3
       rcases h1 with rfl | rfl | rfl | rfl | rfl <;> rfl
     · by_cases b4 : b = 34
       · subst b4
         rcases h1 with rfl | rfl | rfl | rfl | rfl <;> rfl
       · by_cases b5 : b = 39
         · subst b5
           rcases h1 with rfl | rfl | rfl | rfl | rfl <;> rfl
         · rcases h1 with rfl | rfl | rfl | rfl | rfl <;> simp [escJ, repB, entM, b1, b2, b3, b4, b5]
theorem escJ_len (j : Nat) (b : UInt8) : (escJ j b).length ≤ 6 := by
 unfold escJ
 split
 · simp
 · split
   · simp
   · split
     · simp
     · split
       · simp
       · split <;> simp
theorem escJ_size (j : Nat) : ∀ l : List UInt8, (l.flatMap (escJ j)).length ≤ 6 * l.length
 | [] => by simp
 | b :: l => by
  have := escJ_size j l
  have := escJ_len j b
  rw [List.flatMap_cons, List.length_append, List.length_cons]
  omega
theorem ent_ne (k : Nat) : (entS k).data.toList ≠ [entM k] := by
 unfold entS entM
 repeat' split
 all_goals decide
theorem entS_size (k : Nat) : 1 ≤ (entS k).size ∧ (entS k).size ≤ 6 := by
 unfold entS
 repeat' split
 all_goals exact ⟨by decide, by decide⟩
def stS (s : ByteArray) (j : Nat) : ByteArray := ⟨(s.data.toList.flatMap (escJ j)).toArray⟩
theorem stS_list (s : ByteArray) (j : Nat) : (stS s j).data.toList = s.data.toList.flatMap (escJ j) := rfl
def EsRel (W : World) (s : ByteArray) (v u : Value) (wr : World) : Prop := ∃ j : Nat, j ≤ 5 ∧ v = .int .i64 j ∧ u = .string (stS s j) ∧ Ext W wr
set_option maxHeartbeats 2000000 in
set_option maxRecDepth 100000 in
theorem Escape_any (s : ByteArray) (w : World) (hE : EntW w) (hV : Env w) (hs : s.size ≤ 268435456) :
 Calls Tryz.prog 26 #[.string s] w fun e w' => e = .returned (.string (escS s)) ∧ Ext w w' := by
 have HRp : Hid (∀ (j : Nat) (hj : j < 5) (w' : World), Ext w w' → Calls Tryz.prog 48 #[.string (stS s j), .string ⟨#[entM j]⟩, .string (entS j)] w' fun e w2 => e = .returned (.string (stS s (j + 1))) ∧ Ext w' w2) := by
  intro j hj w' hx
  obtain ⟨m, hm⟩ := (hV.ext hx).2
  have hz : (stS s j).size ≤ 6 * s.size := by
   have := escJ_size j s.data.toList
   rw [size_toList] at this
   rw [← size_toList, stS_list]
   exact this
  have hcnt : Lib.countB (stS s j) ⟨#[entM j]⟩ ≤ (stS s j).size + 1 := by
   have := Lib.count_le (stS s j).data.toList [entM j]
   rw [size_toList] at this
   exact this
  have h6 := (entS_size j).2
  have hmul : Lib.countB (stS s j) ⟨#[entM j]⟩ * (entS j).size ≤ ((stS s j).size + 1) * 6 := Nat.mul_le_mul hcnt h6
  have := Tryz.strings_ReplaceAll (stS s j) ⟨#[entM j]⟩ (entS j) m w' (by omega) hm (show 1 ≤ 1 from Nat.le_refl 1) (by omega)
  refine this.mono fun e w2 ⟨he, hb⟩ => ⟨?_, hb⟩
  rw [he]
  congr 3
  show (Lib.replaceAll (stS s j).data.toList [entM j] (entS j).data.toList).toArray = _
  rw [replaceAll_one _ _ _ (ent_ne j), stS_list, escJ_step j hj]
 have HE := Lib.hid hE
 have HIx := Lib.hid ent_index
 have hst0 : stS s 0 = s := by unfold stS; rw [escJ_zero, mk_list]
 have hst5 : stS s 5 = escS s := by unfold stS; rw [escJ_five]; rfl
 have H0 := Lib.hid hst0
 have H5 := Lib.hid hst5
 clear hE hV hst0 hst5
 go_enter Tryz.func26, Tryz.ntmps26
 go_wp2_with (refine wpList_loadB rfl 129 (.global 2) rfl 2 129 _ _ (by exact rfl) (by exact HE.out) Tryz.underlying129 rfl (by exact size_ents) ?_)
 go_loopw [6, 0] (fun v u wr => EsRel w s v u wr) (fun v _ _ => 5 - (intOf v).toNat)
 case atStart => exact ⟨0, Nat.zero_le _, rfl, by rw [H0.out], Ext.refl _⟩
 case round =>
  obtain ⟨j, hj, rfl, rfl, hx⟩ := hrel
  have HX := Lib.hid hx
  clear hx
  by_cases hj5 : j < 5
  · have hix := fun w => HIx.out j hj5 w
    have HRj := Lib.hid (HRp.out j hj5 _ (HX.out.alloc (.cells #[.string (entS j), .string ⟨#[entM j]⟩] 128)))
    go_wp2_with fail
    refine HRj.out.mono ?_
    rintro e w' ⟨rfl, hx2⟩
    have HX2 := Lib.hid ((HX.out.alloc (.cells #[.string (entS j), .string ⟨#[entM j]⟩] 128)).trans hx2)
    clear hx2
    go_wp2_with fail
    exact ⟨⟨j + 1, by omega, by go_num, rfl, HX2.out⟩, by simp [intOf]; omega⟩
  · have ej : j = 5 := by omega
    subst ej
    go_wp2_with fail
    go_ret
    exact ⟨by rw [← H5.out]; rfl, HX.out⟩
end
section
open Go.RowKit
theorem own_slice3 {w : World} {base : Nat} {e : TypeId} {size : Nat} {v : Value} {n : Nat} {xs : List Value} (h : w.ownsRow base e size v n xs) : ∃ A c, v = .slice A n c := by
 rcases h.2 with ⟨e, e0⟩ | ⟨g, cap, cur, e, _⟩
 · subst e0; exact ⟨none, 0, e⟩
 · exact ⟨_, cap, e⟩
theorem bld_keep3 {w1 w2 : World} {o : Obj} {b : Nat} {row : Option Nat} {c : Obj} (hbk : w1.heap[b]? = some c) (hg : (w1.alloc o).grownBy w2 row) (hne : row ≠ some b) : w2.heap[b]? = some c := by
 have hlt : b < w1.heap.size := (Array.getElem?_eq_some_iff.1 hbk).1
 rw [hg.block b (by simp; omega) (fun e => hne e.symm), Lib.alloc_old w1 _ b hlt]
 exact hbk
set_option maxHeartbeats 2000000 in
set_option maxRecDepth 100000 in
theorem WByte_any (B b : Nat) (bs : List Value) (c : Int) (w : World) (h : Lib.IsBuilder 92 5 B b bs w) (hlen : bs.length + 4 ≤ 140737488355328) (hBw : B ≤ w.heap.size) :
 Calls Tryz.prog 160 #[.pointer (some ⟨b, 0, none⟩), .int .u8 c] w fun e w' => (∃ v, e = .returned v) ∧ (Lib.BuilderAt 92 5 B b (.pointer (some ⟨b, 0, none⟩)) (bs ++ [.int .u8 c]) w' ∧ Below B w w') := by
 go_enter Tryz.func160, Tryz.ntmps160
 go_wp2_with fail
 refine (copyCheck_any B b bs _ h).mono ?_
 rintro e w1 ⟨rfl, h1, hb1⟩
 obtain ⟨hB, v, hbk, hown, hne⟩ := h1
 obtain ⟨ao, cap, rfl⟩ := own_slice3 hown
 have c0 : w1.cell? ⟨b, 0, none⟩ = some (.pointer (some ⟨b, 0, none⟩)) := by rw [Lib.cell_of_heap hbk]; rfl
 have c1 : w1.cell? ⟨b, 1, none⟩ = some (.slice ao bs.length cap) := by rw [Lib.cell_of_heap hbk]; rfl
 have hsz := hb1.size
 go_wp2_with (at_builtin; refine wpList_append1 rfl (.tmp 11) (.tmp 13) 90 rfl info_byte Tryz.underlying90 rfl (by decide) (hown.alloc _) (by exact rfl) w1.heap.size _ (by exact rfl) (by exact Blk.new' rfl) (by exact rfl) (by simp [Value.oneCell']) (by omega) (by simp [maxLen]; omega) (by simp; omega) ?_; intro v' w2 hown' hgrow; obtain ⟨g, cap', rfl⟩ := own_slice3 hown'; have hb2 := bld_keep3 hbk hgrow hne; have d0 : w2.cell? ⟨b, 0, none⟩ = some (.pointer (some ⟨b, 0, none⟩)) := (by rw [Lib.cell_of_heap hb2]; rfl); have d1 : w2.cell? ⟨b, 1, none⟩ = some (.slice ao bs.length cap) := (by rw [Lib.cell_of_heap hb2]; rfl); have f1 : w2.frozen? ⟨b, 1, none⟩ = false := Lib.frozen_of_heap hb2 1; clear c0 c1)
 go_ret
 refine ⟨⟨_, rfl⟩, ?_, ?_⟩
 · exact Lib.BuilderAt.put (T := 92) (e := 5) hB hb2 (bs' := bs ++ [.int .u8 c]) (by simpa using hown') (by decide)
 · exact ((hb1.alloc (by have := hb1.size; omega) _).grown hgrow (by have := hb1.size; simp; omega) (fun k hk => (hown.lt k hk).1)).setCell (p := ⟨b, 1, none⟩) hB _
theorem isB_ext {T e : TypeId} {B b : Nat} {bs : List Value} {w w1 : World} (h : Lib.IsBuilder T e B b bs w) (k : Ext w w1) : Lib.IsBuilder T e B b bs w1 := by
 have key : ∀ p, Lib.BuilderAt T e B b p bs w → Lib.BuilderAt T e B b p bs w1 := fun p ⟨hB, v, hb, hown, hne⟩ =>
  ⟨hB, v, (k.block b (Array.getElem?_eq_some_iff.1 hb).1).trans hb, own_ext hown k, hne⟩
 exact h.elim (fun x => .inl (key _ x)) (fun x => .inr (key _ x))
theorem ent_of {c : UInt8} (h : c = 38 ∨ c = 60 ∨ c = 62 ∨ c = 34 ∨ c = 39) : ∃ k, k < 5 ∧ c = entM k := by
 rcases h with rfl | rfl | rfl | rfl | rfl
 · exact ⟨0, by decide, rfl⟩
 · exact ⟨1, by decide, rfl⟩
 · exact ⟨2, by decide, rfl⟩
 · exact ⟨3, by decide, rfl⟩
 · exact ⟨4, by decide, rfl⟩
theorem esc_take {l : List UInt8} {k : Nat} {c : UInt8} (h : l[k]? = some c) : esc (l.take (k + 1)) = esc (l.take k) ++ escB c := by
 have hk := (List.getElem?_eq_some_iff.1 h).1
 have e := (List.getElem?_eq_some_iff.1 h).2
 rw [List.take_succ_eq_append_getElem hk, e]
 unfold esc
 rw [List.flatMap_append]
 simp
theorem esc_drop {l : List UInt8} {k : Nat} {c : UInt8} (h : l[k]? = some c) : esc (l.drop k) = escB c ++ esc (l.drop (k + 1)) := by
 have hk := (List.getElem?_eq_some_iff.1 h).1
 have e := (List.getElem?_eq_some_iff.1 h).2
 rw [List.drop_eq_getElem_cons hk, e]
 rfl
theorem esc_split (l : List UInt8) (k : Nat) : esc l = esc (l.take k) ++ esc (l.drop k) := by
 unfold esc
 rw [← List.flatMap_append, List.take_append_drop]
def UnRel (w : World) (t : ByteArray) (v : Value) (wr : World) : Prop :=
 ∃ k : Nat, k ≤ t.size ∧ v = .int .i64 ((esc (t.data.toList.take k)).length : Int) ∧ Ext w wr ∧ w.heap.size < wr.heap.size ∧ Lib.IsBuilder 92 5 w.heap.size w.heap.size (Lib.byteCells (t.data.toList.take k)) wr
theorem cells_snoc {l : List UInt8} {k : Nat} {c : UInt8} (h : l[k]? = some c) : Lib.byteCells (l.take (k + 1)) = Lib.byteCells (l.take k) ++ [.int .u8 c.toNat] := by
 have hk := (List.getElem?_eq_some_iff.1 h).1
 have e := (List.getElem?_eq_some_iff.1 h).2
 rw [List.take_succ_eq_append_getElem hk, e]
 simp [Lib.byteCells]
set_option maxHeartbeats 4000000 in
set_option maxRecDepth 100000 in
theorem Unescape_ok (t : ByteArray) (w : World) (hE : EntW w) (hs : t.size ≤ 268435456) :
 Calls Tryz.prog 139 #[.string (escS t)] w fun e w' => e = .returned (.tuple #[.string t, .int .i64 0]) ∧ Ext w w' := by
 obtain ⟨s, hse⟩ : ∃ s, s = escS t := ⟨_, rfl⟩
 rw [← hse]
 have hsl : s.data.toList = esc t.data.toList := by rw [hse]; rfl
 have hsz : s.size = (esc t.data.toList).length := by rw [← size_toList, hsl]
 have hs6 : s.size ≤ 6 * t.size := by have := (esc_len t.data.toList).2; rw [size_toList] at this; omega
 have hpos : ∀ k, k ≤ t.size → (esc (t.data.toList.take k)).length ≤ s.size := fun k _ => by
  rw [hsz, esc_split t.data.toList k, List.length_append]; omega
 have hdrop : ∀ k, s.data.toList.drop (esc (t.data.toList.take k)).length = esc (t.data.toList.drop k) := fun k => by
  rw [hsl, esc_split t.data.toList k, List.drop_left]
 have HRf := Lib.hid (fun (u : ByteArray) k r w' (hx : Ext w w') hk h => reference_ok u k r w' (hE.ext hx) hk h)
 have HP := Lib.hid hpos
 have HD := Lib.hid hdrop
 have HSz := Lib.hid hsz
 clear hse hsl hE hpos hdrop hsz
 go_enter Tryz.func139, Tryz.ntmps139
 go_wp2_with fail
 go_loopw [5] (fun v wr => UnRel w t v wr) (fun v _ => s.size - (intOf v).toNat)
 case atStart => exact ⟨0, Nat.zero_le _, by simp [esc], (Ext.refl w).alloc _, by simp, Lib.fresh_isBuilder _ _ w⟩
 case round =>
  obtain ⟨k, hk, rfl, hx, hzw, hbd⟩ := hrel
  have HX := Lib.hid hx
  have HB := Lib.hid hbd
  clear hx hbd
  obtain ⟨i, hi⟩ : ∃ i, i = (esc (t.data.toList.take k)).length := ⟨_, rfl⟩
  have hpi : i ≤ s.size := by rw [hi]; exact HP.out k hk
  have hdi : s.data.toList.drop i = esc (t.data.toList.drop k) := by rw [hi]; exact HD.out k
  by_cases hlt : k < t.size
  · obtain ⟨c, hc⟩ : ∃ c, t.data.toList[k]? = some c := ⟨_, List.getElem?_eq_getElem (by rw [size_toList]; exact hlt)⟩
    have hdc := hdi.trans (esc_drop hc)
    have hlc : (esc (t.data.toList.take (k + 1))).length = i + (escB c).length := by rw [esc_take hc, List.length_append, hi]
    have hcl : (Lib.byteCells (t.data.toList.take k)).length ≤ t.size := by simp [Lib.byteCells]; omega
    have HC := Lib.hid (cells_snoc hc)
    rw [← hi]
    rcases escB_head c with ⟨tl, hsp, hbe⟩ | ⟨⟨hn1, hn2⟩, hbe⟩
    · obtain ⟨j, hj, rfl⟩ := ent_of hsp
      obtain ⟨ki, gi, -⟩ := at_cons (hdc.trans (by rw [hbe]; rfl))
      have hex : (s.extract i s.size).data.toList = (entS j).data.toList ++ esc (t.data.toList.drop (k + 1)) := by
       rw [ByteArray.data_extract, Array.toList_extract]
       simp only [List.extract_eq_take_drop]
       rw [hdi, List.take_of_length_le (by rw [← hdi, List.length_drop, size_toList]; exact Nat.le_refl _), esc_drop hc, ent_esc j hj]
      have HRj := Lib.hid (HRf.out (s.extract i s.size) j _ wr HX.out hj hex)
      have hln : (escB (entM j)).length = (entS j).size := by rw [ent_esc j hj, size_toList]
      have hbb : (Lib.byteCells (t.data.toList.take k)).length + 1 ≤ 140737488355328 := by omega
      have HWs := Lib.hid (fun w' (hx : Ext wr w') => WriteString_any w.heap.size w.heap.size (Lib.byteCells (t.data.toList.take k)) ⟨#[entM j]⟩ w' (isB_ext HB.out hx) hbb (by have := hx.size; omega))
      have HLc := Lib.hid hlc
      have hle := HP.out (k + 1) (by omega)
      rw [hlc, hln] at hle
      have hl1 := (entS_size j).1
      clear hdc hdi hc hbe hex hi hlc hsp
      go_wp2_with fail
      refine HRj.out.mono ?_
      rintro e w1 ⟨rfl, hx1⟩
      go_wp2_with fail
      refine (HWs.out _ hx1).mono ?_
      rintro e w2 ⟨rfl, hb2, hx2⟩
      have hzz := hx1.size
      have hz2 := hx2.size
      have HX2 := Lib.hid ((HX.out.trans hx1).below hx2 (Nat.le_refl _))
      have HB2 := Lib.hid hb2
      clear hx1 hx2 hb2
      go_wp2_with fail
      refine ⟨⟨k + 1, by omega, ?_, HX2.out, by omega, ?_⟩, ?_⟩
      · rw [HLc.out, hln]; rfl
      · rw [HC.out]; exact .inr HB2.out
      · simp only [intOf]; omega
    · obtain ⟨ki, gi, -⟩ := at_cons (hdc.trans (by rw [hbe]; rfl))
      have hn1' : ((s[i].toNat : Int) == 60) = false := by rw [gi]; exact beq_eq_false_iff_ne.2 (fun e => hn2 (UInt8.toNat_inj.1 (show c.toNat = 60 by omega)))
      have hn2' : ((s[i].toNat : Int) == 38) = false := by rw [gi]; exact beq_eq_false_iff_ne.2 (fun e => hn1 (UInt8.toNat_inj.1 (show c.toNat = 38 by omega)))
      have hbb : (Lib.byteCells (t.data.toList.take k)).length + 4 ≤ 140737488355328 := by omega
      have HWb := Lib.hid (WByte_any w.heap.size w.heap.size (Lib.byteCells (t.data.toList.take k)) (s[i].toNat : Int) wr HB.out hbb (by omega))
      have HLc : Hid ((esc (t.data.toList.take (k + 1))).length = i + 1) := by show _ = _; rw [hlc, hbe]; rfl
      have HGi := Lib.hid gi
      clear hdc hdi hc hbe hi hlc gi
      go_wp2_with fail
      refine HWb.out.mono ?_
      rintro e w2 ⟨⟨ve, rfl⟩, hb2, hx2⟩
      have hz2 := hx2.size
      have HX2 := Lib.hid (HX.out.below hx2 (Nat.le_refl _))
      have HB2 := Lib.hid hb2
      clear hx2 hb2
      go_wp2_with fail
      refine ⟨⟨k + 1, by omega, ?_, HX2.out, by omega, ?_⟩, ?_⟩
      · rw [HLc.out]; rfl
      · rw [HC.out]; have := HB2.out; rw [HGi.out] at this; exact .inr this
      · simp only [intOf]; omega
  · have ek : k = t.size := by omega
    subst ek
    have hti : i = s.size := by rw [hi, List.take_of_length_le (by rw [size_toList]; exact Nat.le_refl _), HSz.out]
    rw [← hi, hti]
    have hfull : t.data.toList.take t.size = t.data.toList := List.take_of_length_le (by rw [size_toList]; exact Nat.le_refl _)
    rw [hfull] at HB
    have HSt := Lib.hid (Tryz.Builder_String_any w.heap.size w.heap.size t.data.toList wr HB.out (by omega))
    clear hdi hi hti hfull
    go_wp2_with fail
    refine HSt.out.mono ?_
    rintro e w2 ⟨rfl, hx2⟩
    have HX2 := Lib.hid (HX.out.below hx2 (Nat.le_refl _))
    clear hx2
    rw [mk_list]
    go_wp2_with fail
    go_ret2
    exact ⟨rfl, HX2.out⟩
end
section
open Go.RowKit
theorem race_disable (w : World) : (callFunc 204 #[]).run Tryz.prog w = .ok (.value (.tuple #[])) w := run_call_mark0 Tryz.func204 (by kernel_rfl) (by kernel_rfl) (by kernel_rfl) .disable (by kernel_rfl) w
theorem race_enable (w : World) : (callFunc 206 #[]).run Tryz.prog w = .ok (.value (.tuple #[])) w := run_call_mark0 Tryz.func206 (by kernel_rfl) (by kernel_rfl) (by kernel_rfl) .enable (by kernel_rfl) w
theorem race_acquire (a : Addr) (w : World) : (callFunc 207 #[.pointer (some a)]).run Tryz.prog w = .ok (.value (.tuple #[])) w := run_call_marked Tryz.func207 (by kernel_rfl) (by kernel_rfl) (by kernel_rfl) .acquire (by kernel_rfl) a w
theorem race_release (a : Addr) (w : World) : (callFunc 209 #[.pointer (some a)]).run Tryz.prog w = .ok (.value (.tuple #[])) w := run_call_marked Tryz.func209 (by kernel_rfl) (by kernel_rfl) (by kernel_rfl) .releaseMerge (by kernel_rfl) a w
set_option maxRecDepth 100000 in
set_option maxHeartbeats 1600000 in
theorem store_deferred (a : Addr) (x : Value) (u : FrameMode) (w : World) (hc : w.cell? a = some x) (hz : w.frozen? a = false) :
 CallsD Tryz.prog 189 #[.pointer (some a), .bool true] u w fun e u' w' => u' = u ∧ (e = .returned (.tuple #[]) ∧ w' = w.drew.setCell a (.int .u32 1)) := by
 have hc' : w.drew.cell? a = some x := by go_simp
 have hz' : w.drew.frozen? a = false := by go_simp
 have hst := run_call_store (P := Tryz.prog) Tryz.func199 (by kernel_rfl) (by kernel_rfl) (by kernel_rfl) (by kernel_rfl) (k := .u32) (y := 1) hc' hz'
 go_enter_d Tryz.func189, Tryz.ntmps189
 go_wp2
 go_region_calls
 all_goals (go_end0; exact ⟨rfl, rfl⟩)
set_option maxRecDepth 100000 in
set_option maxHeartbeats 1600000 in
theorem unlock_deferred (a : Addr) (u : FrameMode) (w : World) (hc : w.cell? a = some (.int .i32 1)) (hz : w.frozen? a = false) :
 CallsD Tryz.prog 188 #[.pointer (some a)] u w fun e u' w' => u' = u ∧ (e = .returned (.tuple #[]) ∧ w' = w.setCell a (.int .i32 0)) := by
 have hd := race_disable
 have he := race_enable
 have hr := race_release
 have hadd := run_call_add (P := Tryz.prog) Tryz.func210 (by kernel_rfl) (by kernel_rfl) (by kernel_rfl) .i32 (by kernel_rfl) (y := -1) (s := 0) hc hz (by simp [go_sem]; rfl)
 have hcv := run_convert_to_unsafe (P := Tryz.prog) (src := 314) (dst := 177) Tryz.underlying314 Tryz.underlying177 (by kernel_rfl) hc
 go_enter_d Tryz.func188, Tryz.ntmps188
 go_wp2
 go_end0
 go_wp2
 go_end0
 exact ⟨rfl, rfl⟩
set_option maxRecDepth 100000 in
set_option maxHeartbeats 1600000 in
theorem lock_free (a : Addr) (w : World) (hc : w.cell? a = some (.int .i32 0)) (hz : w.frozen? a = false) :
 Calls Tryz.prog 187 #[.pointer (some a)] w fun e w' => e = .returned (.tuple #[]) ∧ w' = w.setCell a (.int .i32 1) := by
 have hd := race_disable
 have he := race_enable
 have ha := race_acquire
 have hcas := run_call_cas_hit (P := Tryz.prog) Tryz.func205 (by kernel_rfl) (by kernel_rfl) (by kernel_rfl) .i32 (by kernel_rfl) (y := 1) hc hz
 have hc' : (w.setCell a (.int .i32 1)).cell? a = some (.int .i32 1) := World.cell?_setCell_same w a _ hc
 have hcv := run_convert_to_unsafe (P := Tryz.prog) (src := 314) (dst := 177) Tryz.underlying314 Tryz.underlying177 (by kernel_rfl) hc'
 go_enter Tryz.func187, Tryz.ntmps187
 go_wp2
 first | go_end0 | (simp only [Exit.inBlock, Exit.then]; refine bodyPost_ret (results_none rfl _ _ _) rfl ?_) | refine bodyPost_ret (results_none rfl _ _ _) rfl ?_
 go_wp2
 go_end0
 exact ⟨rfl, rfl⟩
end
end Go.Proofs.YtbmblnhfmpolbaaGreatDoor