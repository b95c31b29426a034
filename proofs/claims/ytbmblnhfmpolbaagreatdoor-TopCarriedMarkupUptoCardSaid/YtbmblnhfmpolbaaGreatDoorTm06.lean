/- Texts laid together. -/
import Derived.Test.YtbmblnhfmpolbaaGreatDoorTm05
import Derived.Test.YtbmblnhfmpolbaaGreatDoorTm04
import Derived.Lib.MapLaws
import Derived.Test.YtbmblnhfmpolbaaGreatDoorTm01
import Derived.Orders
set_option linter.unusedVariables false
set_option linter.unusedSimpArgs false
namespace Go.Proofs.YtbmblnhfmpolbaaGreatDoor
section
open Go.RowKit
def tabV (f : Nat → Int) : Array Value := ((List.range 256).map fun i => Value.int .u8 (f i)).toArray
theorem tabV_size (f : Nat → Int) : (tabV f).size = 256 := by simp [tabV]
theorem tabV_one (f : Nat → Int) : (tabV f).all (·.oneCell') = true := by simp [tabV, Value.oneCell']
theorem tabV_at (f : Nat → Int) (i : Nat) (h : i < 256) : (tabV f)[i]? = some (.int .u8 (f i)) := by simp [tabV, h]
theorem tabV_set (f : Nat → Int) (i : Nat) (v : Int) (h : i < 256) : (tabV f).setIfInBounds i (.int .u8 v) = tabV (fun j => if j = i then v else f j) := by
 apply Array.ext_getElem?
 intro j
 by_cases hj : i = j
 · subst hj
   rw [Array.getElem?_setIfInBounds_self_of_lt (by rw [tabV_size]; exact h), tabV_at _ _ h, if_pos rfl]
 · rw [Array.getElem?_setIfInBounds_ne hj]
   by_cases hb : j < 256
   · rw [tabV_at _ _ hb, tabV_at _ _ hb, if_neg (fun e => hj e.symm)]
   · rw [Array.getElem?_eq_none (by rw [tabV_size]; omega), Array.getElem?_eq_none (by rw [tabV_size]; omega)]
def flatF (i : Nat) : Int := if i = 9 then 32 else if i = 10 then 32 else if i = 13 then 32 else (i : Int)
def cleanB (s : ByteArray) : Prop := ∀ k (h : k < s.size), s[k].toNat ≠ 9 ∧ s[k].toNat ≠ 10 ∧ s[k].toNat ≠ 13
def BrRel (s : ByteArray) (v u : Value) : Prop := ∃ k : Nat, k ≤ s.size ∧ v = .int .i64 k ∧ u = .slice none 0 0
set_option maxHeartbeats 2000000 in
set_option maxRecDepth 100000 in
theorem BRep_ok (g : Nat) (s : ByteArray) (w : World) (hB : Blk w g 287 (tabV flatF)) (hcl : cleanB s) (hs : s.size ≤ 4294967296) :
 Calls Tryz.prog 245 #[.pointer (some ⟨g, 0, none⟩), .string s] w fun e w' => e = .returned (.string s) ∧ w = w' := by
 have hq := fun w => Lib.run_eql_slice_nil (P := Tryz.prog) w 90 5 none 0 0 0 0 Tryz.underlying90
 simp only [Option.isNone_none] at hq
 have HB := Lib.hid hB
 have HC := Lib.hid hcl
 clear hB hcl
 go_enter Tryz.func245, Tryz.ntmps245
 go_wp2_with fail
 go_loop [6, 5] (fun v u => BrRel s v u) (fun v _ => s.size - (intOf v).toNat)
 case atStart => exact ⟨0, Nat.zero_le _, rfl, rfl⟩
 case round =>
  obtain ⟨k, hk, rfl, rfl⟩ := hrel
  by_cases hlt : k < s.size
  · have hc := HC.out k hlt
    have h256 : s[k].toNat < 256 := s[k].toNat_lt
    have hck : w.cell? ⟨g, s[k].toNat, none⟩ = some (.int .u8 (s[k].toNat : Int)) := by
     rw [HB.out.cell, tabV_at _ _ h256]
     unfold flatF
     rw [if_neg hc.1, if_neg hc.2.1, if_neg hc.2.2]
    have hne : ((s[k].toNat : Int) != (s[k].toNat : Int)) = false := by simp
    clear hc
    go_wp2_with fail
    exact ⟨⟨k + 1, by omega, by go_num, rfl⟩, by simp [intOf]; omega⟩
  · have ek : k = s.size := by omega
    subst ek
    go_wp2_with fail
    go_ret
    exact ⟨rfl, rfl⟩
def oldC : Array Value := #[.string ⟨#[9]⟩, .string ⟨#[32]⟩, .string ⟨#[10]⟩, .string ⟨#[32]⟩, .string ⟨#[13]⟩, .string ⟨#[32]⟩]
def idF (k : Nat) (i : Nat) : Int := if i < k then (i : Int) else 0
def thF (j : Nat) (i : Nat) : Int := if i = 13 ∧ 1 ≤ j then 32 else if i = 10 ∧ 2 ≤ j then 32 else if i = 9 ∧ 3 ≤ j then 32 else (i : Int)
set_option maxRecDepth 100000 in
theorem size_brep : (Tryz.prog.info? 287).map (·.size) = some 256 := by decide +kernel
def L1Rel (v u : Value) : Prop := ∃ j : Nat, j ≤ 3 ∧ v = .int .i64 ((2 * j : Nat) : Int) ∧ u = .bool true
def L2Rel (W : World) (g : Nat) (v : Value) (wr : World) : Prop := ∃ k : Nat, k ≤ 256 ∧ v = .int .i64 k ∧ Blk wr g 287 (tabV (idF k)) ∧ Ext W wr
def L3Rel (W : World) (g : Nat) (v : Value) (wr : World) : Prop := ∃ j : Nat, j ≤ 3 ∧ v = .int .i64 (4 - 2 * (j : Int)) ∧ Blk wr g 287 (tabV (thF j)) ∧ Ext W wr
theorem id_step (k : Nat) (hk : k < 256) : (tabV (idF k)).setIfInBounds k (.int .u8 (k : Int)) = tabV (idF (k + 1)) := by
 rw [tabV_set _ _ _ hk]
 congr 1
 funext i
 unfold idF
 by_cases h : i = k
 · subst h; rw [if_pos rfl, if_pos (by omega)]
 · rw [if_neg h]
   by_cases h2 : i < k
   · rw [if_pos h2, if_pos (by omega)]
   · rw [if_neg h2, if_neg (by omega)]
theorem tabV_congr {f g : Nat → Int} (h : ∀ i, i < 256 → f i = g i) : tabV f = tabV g := by
 unfold tabV
 exact congrArg List.toArray (List.map_congr_left fun i hi => by rw [h i (List.mem_range.1 hi)])
theorem id_full : tabV (idF 256) = tabV (thF 0) := tabV_congr fun i hi => by
 unfold idF thF
 rw [if_pos hi, if_neg (by omega), if_neg (by omega), if_neg (by omega)]
theorem th_full : tabV (thF 3) = tabV flatF := by
 congr 1
 funext i
 unfold thF flatF
 by_cases h1 : i = 9
 · subst h1; rfl
 · by_cases h2 : i = 10
   · subst h2; rfl
   · by_cases h3 : i = 13
     · subst h3; rfl
     · rw [if_neg (by omega), if_neg (by omega), if_neg (by omega), if_neg h1, if_neg h2, if_neg h3]
theorem th_step (j k : Nat) (h : (j = 0 ∧ k = 13) ∨ (j = 1 ∧ k = 10) ∨ (j = 2 ∧ k = 9)) : (tabV (thF j)).setIfInBounds k (.int .u8 32) = tabV (thF (j + 1)) := by
 rw [tabV_set _ _ _ (by omega)]
 congr 1
 funext i
 rcases h with ⟨rfl, rfl⟩ | ⟨rfl, rfl⟩ | ⟨rfl, rfl⟩
 · unfold thF
   by_cases h1 : i = 13
   · subst h1; rfl
   · rw [if_neg h1, if_neg (by omega), if_neg (by omega), if_neg (by omega), if_neg (by omega), if_neg (by omega), if_neg (by omega)]
 · unfold thF
   by_cases h1 : i = 10
   · subst h1; rfl
   · rw [if_neg h1]
     by_cases h2 : i = 13
     · subst h2; rfl
     · rw [if_neg (by omega), if_neg (by omega), if_neg (by omega), if_neg (by omega), if_neg (by omega), if_neg (by omega)]
 · unfold thF
   by_cases h1 : i = 9
   · subst h1; rfl
   · rw [if_neg h1]
     by_cases h2 : i = 13
     · subst h2; rfl
     · by_cases h3 : i = 10
       · subst h3; rfl
       · rw [if_neg (by omega), if_neg (by omega), if_neg (by omega), if_neg (by omega), if_neg (by omega), if_neg (by omega)]
set_option maxHeartbeats 4000000 in
set_option maxRecDepth 100000 in
theorem build_ok (b o cap : Nat) (d m e r : Value) (w : World) (hB : Blk w b 264 #[d, m, e, r, .slice (some ⟨o, 0, none⟩) 6 cap]) (hcap : 6 ≤ cap) (hO : ∀ (k : Nat) (v : Value), oldC[k]? = some v → w.cell? ⟨o, k, none⟩ = some v) :
 Calls Tryz.prog 180 #[.pointer (some ⟨b, 0, none⟩)] w fun en w' => en = .returned (.iface 288 (.pointer (some ⟨w.heap.size, 0, none⟩))) ∧ Blk w' w.heap.size 287 (tabV flatF) ∧ Ext w w' := by
 have hc := fun o => hB.cell o
 have HO := Lib.hid (fun w' (hx : Ext w w') k v h => hx.cell (hO k v h))
 have HB := Lib.hid hB
 have h0 : w.cell? ⟨o, 0, none⟩ = some (.string ⟨#[9]⟩) := hO 0 _ rfl
 have h1 : w.cell? ⟨o, 1, none⟩ = some (.string ⟨#[32]⟩) := hO 1 _ rfl
 have h2 : w.cell? ⟨o, 2, none⟩ = some (.string ⟨#[10]⟩) := hO 2 _ rfl
 have h3 : w.cell? ⟨o, 3, none⟩ = some (.string ⟨#[32]⟩) := hO 3 _ rfl
 have h4 : w.cell? ⟨o, 4, none⟩ = some (.string ⟨#[13]⟩) := hO 4 _ rfl
 have h5 : w.cell? ⟨o, 5, none⟩ = some (.string ⟨#[32]⟩) := hO 5 _ rfl
 clear hB hO
 go_enter Tryz.func180, Tryz.ntmps180
 go_wp2_with fail
 go_loop [5, 4] (fun v u => L1Rel v u) (fun v _ => 6 - (intOf v).toNat)
 case atStart => exact ⟨0, by omega, rfl, rfl⟩
 case round =>
  obtain ⟨j, hj, rfl, rfl⟩ := hrel
  have hj4 : j = 0 ∨ j = 1 ∨ j = 2 ∨ j = 3 := by omega
  rcases hj4 with rfl | rfl | rfl | rfl
  · go_wp2_with fail
    exact ⟨⟨1, by omega, rfl, rfl⟩, by simp [intOf]⟩
  · go_wp2_with fail
    exact ⟨⟨2, by omega, rfl, rfl⟩, by simp [intOf]⟩
  · go_wp2_with fail
    exact ⟨⟨3, by omega, rfl, rfl⟩, by simp [intOf]⟩
  · have hz : Tryz.zeroCells287 = tabV (idF 0) := by kernel_rfl
    have HZ0 : Hid (Blk (w.alloc (.cells (tabV (idF 0)) 287)) w.heap.size 287 (tabV (idF 0))) := Blk.new _ _ _
    go_wp2_with (refine wpList_storeB rfl 287 (.tmp 6) (.tmp 60) rfl w.heap.size 287 (tabV (idF 0)) (tabV (idF 0)) (by exact rfl) (by exact rfl) (by exact HZ0.out) (by exact rfl) (by rw [tabV_size]; exact size_brep) (by exact tabV_one _) ?_; rw [putB_same HZ0.out])
    obtain ⟨W1, hW1⟩ : ∃ W1, W1 = w.alloc (.cells (tabV (idF 0)) 287) := ⟨_, rfl⟩
    have HX1 : Hid (Ext w W1) := by show Ext _ _; rw [hW1]; exact (Ext.refl w).alloc _
    rw [← hW1]
    rw [← hW1] at HZ0
    clear hW1 hc h0 h1 h2 h3 h4 h5 hz
    go_loopw [61] (fun v wr => L2Rel w w.heap.size v wr) (fun v _ => 256 - (intOf v).toNat)
    case atStart => exact ⟨0, by omega, rfl, HZ0.out, HX1.out⟩
    case round =>
     obtain ⟨k, hk, rfl, hb, hx⟩ := hrel
     have HBk := Lib.hid hb
     have HXk := Lib.hid hx
     clear hb hx
     by_cases hlt : k < 256
     · have hmod : (k : Int) % 256 = k := Int.emod_eq_of_lt (by omega) (by omega)
       have hck := HBk.out.cell k
       rw [tabV_at _ _ hlt] at hck
       have hfk := HBk.out.frozen k
       have hsk : wr.setCell ⟨w.heap.size, k, none⟩ (.int .u8 (k : Int)) = putB wr w.heap.size 287 (tabV (idF (k + 1))) := by rw [setCell_put HBk.out, id_step k hlt]
       go_wp2_with fail
       exact ⟨⟨k + 1, by omega, by go_num, HBk.out.put _, HXk.out.put (Nat.le_refl _) _ _⟩, by simp [intOf]; omega⟩
     · have ek : k = 256 := by omega
       subst ek
       rw [id_full] at HBk
       go_wp2_with fail
       go_loopw [8] (fun v wr => L3Rel w w.heap.size v wr) (fun v _ => (intOf v + 2).toNat)
       case atStart => exact ⟨0, by omega, rfl, HBk.out, HXk.out⟩
       case round =>
        obtain ⟨j, hj, rfl, hb, hx⟩ := hrel
        have HBj := Lib.hid hb
        have HXj := Lib.hid hx
        have h0 : wr.cell? ⟨o, 0, none⟩ = some (.string ⟨#[9]⟩) := HO.out _ hx 0 _ rfl
        have h1 : wr.cell? ⟨o, 1, none⟩ = some (.string ⟨#[32]⟩) := HO.out _ hx 1 _ rfl
        have h2 : wr.cell? ⟨o, 2, none⟩ = some (.string ⟨#[10]⟩) := HO.out _ hx 2 _ rfl
        have h3 : wr.cell? ⟨o, 3, none⟩ = some (.string ⟨#[32]⟩) := HO.out _ hx 3 _ rfl
        have h4 : wr.cell? ⟨o, 4, none⟩ = some (.string ⟨#[13]⟩) := HO.out _ hx 4 _ rfl
        have h5 : wr.cell? ⟨o, 5, none⟩ = some (.string ⟨#[32]⟩) := HO.out _ hx 5 _ rfl
        have c13 := HBj.out.cell 13
        have c10 := HBj.out.cell 10
        have c9 := HBj.out.cell 9
        rw [tabV_at _ _ (by decide)] at c13 c10 c9
        have hfk := fun o => HBj.out.frozen o
        clear hb hx
        have e13 : ∀ h, ((⟨#[13]⟩ : ByteArray)[0]'h).toNat = 13 := fun _ => rfl
        have e32 : ∀ h, ((⟨#[32]⟩ : ByteArray)[0]'h).toNat = 32 := fun _ => rfl
        have e10 : ∀ h, ((⟨#[10]⟩ : ByteArray)[0]'h).toNat = 10 := fun _ => rfl
        have e9 : ∀ h, ((⟨#[9]⟩ : ByteArray)[0]'h).toNat = 9 := fun _ => rfl
        have hj4 : j = 0 ∨ j = 1 ∨ j = 2 ∨ j = 3 := by omega
        rcases hj4 with rfl | rfl | rfl | rfl
        · have hsk : wr.setCell ⟨w.heap.size, 13, none⟩ (.int .u8 32) = putB wr w.heap.size 287 (tabV (thF 1)) := by rw [setCell_put HBj.out, th_step 0 13 (by simp)]
          go_wp2_with fail
          exact ⟨⟨1, by omega, by go_num, HBj.out.put _, HXj.out.put (Nat.le_refl _) _ _⟩, by simp [intOf]⟩
        · have hsk : wr.setCell ⟨w.heap.size, 10, none⟩ (.int .u8 32) = putB wr w.heap.size 287 (tabV (thF 2)) := by rw [setCell_put HBj.out, th_step 1 10 (by simp)]
          go_wp2_with fail
          exact ⟨⟨2, by omega, by go_num, HBj.out.put _, HXj.out.put (Nat.le_refl _) _ _⟩, by simp [intOf]⟩
        · have hsk : wr.setCell ⟨w.heap.size, 9, none⟩ (.int .u8 32) = putB wr w.heap.size 287 (tabV (thF 3)) := by rw [setCell_put HBj.out, th_step 2 9 (by simp)]
          go_wp2_with fail
          exact ⟨⟨3, by omega, by go_num, HBj.out.put _, HXj.out.put (Nat.le_refl _) _ _⟩, by simp [intOf]⟩
        · rw [th_full] at HBj
          go_wp2_with fail
          go_ret
          exact ⟨rfl, HBj.out, HXj.out⟩
end
section
open Go.RowKit
def replC (d m e r v : Value) : Array Value := #[d, m, e, r, v]
def itab (g : Nat) : Value := .iface 288 (.pointer (some ⟨g, 0, none⟩))
set_option maxHeartbeats 4000000 in
set_option maxRecDepth 100000 in
theorem buildOnce_ok (b o cap : Nat) (d m e r : Value) (w : World) (hB : Blk w b 264 (replC d m e r (.slice (some ⟨o, 0, none⟩) 6 cap))) (hcap : 6 ≤ cap) (hO : ∀ (k : Nat) (v : Value), oldC[k]? = some v → w.cell? ⟨o, k, none⟩ = some v) :
 Calls Tryz.prog 173 #[.pointer (some ⟨b, 0, none⟩)] w fun en w' => en = .returned (.tuple #[]) ∧ Blk w' b 264 (replC d m e (itab w.heap.size) (.slice none 0 0)) ∧ Blk w' w.heap.size 287 (tabV flatF) ∧ Below b w w' ∧ (∀ (k : Nat) (v : Value), oldC[k]? = some v → True) := by
 have hbl := hB.lt
 have HBd := Lib.hid (build_ok b o cap d m e r w hB hcap hO)
 have HB := Lib.hid hB
 clear hB hO
 unfold replC at *
 go_enter Tryz.func173, Tryz.ntmps173
 go_wp2_with fail
 refine HBd.out.mono ?_
 rintro en w1 ⟨rfl, hg, hx⟩
 have HB1 := Lib.hid (HB.out.ext hx)
 have hc1 := fun o => HB1.out.cell o
 have hf1 := fun o => HB1.out.frozen o
 have hs1 : w1.setCell ⟨b, 3, none⟩ (.iface 288 (.pointer (some ⟨w.heap.size, 0, none⟩))) = putB w1 b 264 #[d, m, e, itab w.heap.size, .slice (some ⟨o, 0, none⟩) 6 cap] := setCell_put HB1.out 3 _
 have HB2 : Hid (Blk (putB w1 b 264 #[d, m, e, itab w.heap.size, .slice (some ⟨o, 0, none⟩) 6 cap]) b 264 #[d, m, e, itab w.heap.size, .slice (some ⟨o, 0, none⟩) 6 cap]) := HB1.out.put _
 have hc2 := fun o => HB2.out.cell o
 have hf2 := fun o => HB2.out.frozen o
 have hs2 : (putB w1 b 264 #[d, m, e, itab w.heap.size, .slice (some ⟨o, 0, none⟩) 6 cap]).setCell ⟨b, 4, none⟩ (.slice none 0 0) = putB w1 b 264 #[d, m, e, itab w.heap.size, .slice none 0 0] := by
  rw [setCell_put HB2.out 4, putB_putB]; rfl
 have HG := Lib.hid hg
 have HX := Lib.hid hx
 clear hg hx
 go_wp2_with fail
 go_end0
 refine ⟨rfl, HB1.out.put _, HG.out.put_other (by omega) _, ?_, fun _ _ _ => trivial⟩
 exact (Below.mono HX.out (by omega)).trans ⟨rfl, rfl, rfl, by rw [putB_size]; exact Nat.le_refl _, fun k hk => by unfold putB; simp only; rw [Array.getElem?_setIfInBounds_ne (by omega)]⟩
theorem oldC_put {w : World} {b o : Nat} {t : TypeId} {cs cs' : Array Value} (hT : Typed w 9 o) (hB : Blk w b t cs) (hne : 9 ≠ t) (hO : ∀ (k : Nat) (v : Value), oldC[k]? = some v → w.cell? ⟨o, k, none⟩ = some v) : ∀ (k : Nat) (v : Value), oldC[k]? = some v → (putB w b t cs').cell? ⟨o, k, none⟩ = some v := fun k v h => by
 rw [putB_cell_other (p := ⟨o, k, none⟩) (Typed.ne hT hB.typed hne)]
 exact hO k v h
theorem below_putX {L b : Nat} {w w1 : World} (h : Below L w w1) (hb : L ≤ b) (t : TypeId) (cs : Array Value) : Below L w (putB w1 b t cs) :=
 h.trans ⟨rfl, rfl, rfl, by rw [putB_size]; exact Nat.le_refl _, fun k hk => by unfold putB; simp only; rw [Array.getElem?_setIfInBounds_ne (by omega)]⟩
def OncePost (b : Nat) (e : Value) (w : World) (en : Ending) (w' : World) : Prop := en = .returned (.tuple #[]) ∧ Blk w' b 264 (replC (.int .u32 1) (.int .i32 0) e (itab w.heap.size) (.slice none 0 0)) ∧ Blk w' w.heap.size 287 (tabV flatF) ∧ Below b w w'
set_option maxHeartbeats 4000000 in
set_option maxRecDepth 100000 in
theorem slow_ok (b o cap : Nat) (e : Value) (w : World) (hB : Blk w b 264 (replC (.int .u32 0) (.int .i32 0) e .nilIface (.slice (some ⟨o, 0, none⟩) 6 cap))) (hcap : 6 ≤ cap) (hT : Typed w 9 o) (hO : ∀ (k : Nat) (v : Value), oldC[k]? = some v → w.cell? ⟨o, k, none⟩ = some v) :
 Calls Tryz.prog 179 #[.pointer (some ⟨b, 0, none⟩), .func (.func 173) #[.pointer (some ⟨b, 0, none⟩)] #[]] w (OncePost b e w) := by
 have hbl := hB.lt
 have hs1 : w.setCell ⟨b, 1, none⟩ (.int .i32 1) = putB w b 264 (replC (.int .u32 0) (.int .i32 1) e .nilIface (.slice (some ⟨o, 0, none⟩) 6 cap)) := setCell_put hB 1 _
 have hLk := lock_free ⟨b, 1, none⟩ w (by rw [hB.cell]; rfl) (hB.frozen 1)
 rw [hs1] at hLk
 have HLk := Lib.hid hLk
 have hBO := buildOnce_ok b o cap (.int .u32 0) (.int .i32 1) e .nilIface _ (hB.put (replC (.int .u32 0) (.int .i32 1) e .nilIface (.slice (some ⟨o, 0, none⟩) 6 cap))) hcap (oldC_put hT hB (by decide) hO)
 rw [putB_size] at hBO
 have HBO := Lib.hid hBO
 have HB1 := Lib.hid (hB.put (replC (.int .u32 0) (.int .i32 1) e .nilIface (.slice (some ⟨o, 0, none⟩) 6 cap)))
 have HX1 : Hid (Below b w (putB w b 264 (replC (.int .u32 0) (.int .i32 1) e .nilIface (.slice (some ⟨o, 0, none⟩) 6 cap)))) := below_putX (Below.refl b w) (Nat.le_refl _) _ _
 obtain ⟨W1, hW1⟩ : ∃ W1, W1 = putB w b 264 (replC (.int .u32 0) (.int .i32 1) e .nilIface (.slice (some ⟨o, 0, none⟩) 6 cap)) := ⟨_, rfl⟩
 rw [← hW1] at HLk HBO HB1 HX1
 have hl := run_call_load (P := Tryz.prog) Tryz.func186 (by kernel_rfl) (by kernel_rfl) (by kernel_rfl) .u32 (by kernel_rfl) (w := W1) (a := ⟨b, 0, none⟩) (x := 0) (by rw [HB1.out.cell]; rfl)
 have hnot : ∀ (x : Bool) (w : World), (Op.unary .not (.bool x)).run Tryz.prog w = .ok (.bool (!x)) w := fun _ _ => rfl
 clear hB hT hO hs1 hLk hBO hW1
 go_enter_defers Tryz.func179, Tryz.ntmps179
 go_wp2_with (first | (go_at_call 187; refine HLk.out.mono ?_; rintro en w' ⟨rfl, rfl⟩) | (go_at_call 178; go_in) | (go_at_call 173; refine HBO.out.mono ?_; rintro en w' ⟨rfl, hb2, hg2, hx2, -⟩))
 have hbd := hb2.drew
 have e1 : w'.drew.setCell ⟨b, 0, none⟩ (.int .u32 1) = putB w'.drew b 264 (replC (.int .u32 1) (.int .i32 1) e (itab w.heap.size) (.slice none 0 0)) := setCell_put hbd 0 _
 have hb3 := hbd.put (replC (.int .u32 1) (.int .i32 1) e (itab w.heap.size) (.slice none 0 0))
 have e2 : (putB w'.drew b 264 (replC (.int .u32 1) (.int .i32 1) e (itab w.heap.size) (.slice none 0 0))).setCell ⟨b, 1, none⟩ (.int .i32 0) = putB w'.drew b 264 (replC (.int .u32 1) (.int .i32 0) e (itab w.heap.size) (.slice none 0 0)) := by
  rw [setCell_put hb3 1, putB_putB]; rfl
 have HE : Hid (OncePost b e w (.returned (.tuple #[])) (putB w'.drew b 264 (replC (.int .u32 1) (.int .i32 0) e (itab w.heap.size) (.slice none 0 0)))) :=
  ⟨rfl, hbd.put _, hg2.drew.put_other (by omega) _, below_putX ((HX1.out.trans hx2).drew) (Nat.le_refl _) _ _⟩
 refine leaves_cons (f := 189) (args := #[.pointer (some ⟨b, 0, none⟩), .bool true]) (by simp) (by simp [go_sem]) ?_
 refine (store_deferred ⟨b, 0, none⟩ (.int .u32 0) .returning _ (by rw [hb2.cell]; rfl) (hb2.frozen 0)).mono ?_
 rintro en u' w'' ⟨rfl, rfl, rfl⟩
 rw [e1]
 refine leaves_cons (f := 188) (args := #[.pointer (some ⟨b, 1, none⟩)]) (by simp [settle]) (by simp [go_sem]) ?_
 refine (unlock_deferred ⟨b, 1, none⟩ _ _ (by rw [hb3.cell]; rfl) (hb3.frozen 1)).mono ?_
 rintro en u' w'' ⟨rfl, rfl, rfl⟩
 rw [e2]
 simp only [Leaves, settle, results, Tryz.results179]
 refine ⟨.tuple #[], ?_, HE.out⟩
 first | rfl | simp
set_option maxHeartbeats 4000000 in
set_option maxRecDepth 100000 in
theorem do_ok (b o cap : Nat) (e : Value) (w : World) (hB : Blk w b 264 (replC (.int .u32 0) (.int .i32 0) e .nilIface (.slice (some ⟨o, 0, none⟩) 6 cap))) (hcap : 6 ≤ cap) (hT : Typed w 9 o) (hO : ∀ (k : Nat) (v : Value), oldC[k]? = some v → w.cell? ⟨o, k, none⟩ = some v) :
 Calls Tryz.prog 172 #[.pointer (some ⟨b, 0, none⟩), .func (.func 173) #[.pointer (some ⟨b, 0, none⟩)] #[]] w (OncePost b e w) := by
 have HS := Lib.hid (slow_ok b o cap e w hB hcap hT hO)
 have hl := run_call_load (P := Tryz.prog) Tryz.func186 (by kernel_rfl) (by kernel_rfl) (by kernel_rfl) .u32 (by kernel_rfl) (w := w) (a := ⟨b, 0, none⟩) (x := 0) (by rw [hB.cell]; rfl)
 have hnot : ∀ (x : Bool) (w : World), (Op.unary .not (.bool x)).run Tryz.prog w = .ok (.bool (!x)) w := fun _ _ => rfl
 clear hB hT hO
 go_enter Tryz.func172, Tryz.ntmps172
 go_wp2_with (first | (go_at_call 179; refine HS.out.mono ?_; rintro en w' ⟨rfl, hb2, hg2, hx2⟩) | (go_at_call 178; go_in))
 go_end0
 exact ⟨rfl, hb2, hg2, hx2⟩
theorem info_strX : (Tryz.prog.info? 9).map (fun i => (i.zero, i.size, i.bytes)) = some (some (.string ⟨#[]⟩), 1, 16) := by kernel_rfl
set_option maxHeartbeats 4000000 in
set_option maxRecDepth 100000 in
theorem New_ok (g : Nat) (w : World) (hO : ∀ (k : Nat) (v : Value), oldC[k]? = some v → w.cell? ⟨g, k, none⟩ = some v) :
 Calls Tryz.prog 161 #[.slice (some ⟨g, 0, none⟩) 6 6] w fun en w' => ∃ b o cap e, en = .returned (.pointer (some ⟨b, 0, none⟩)) ∧ w.heap.size ≤ b ∧ 6 ≤ cap ∧ Blk w' b 264 (replC (.int .u32 0) (.int .i32 0) e .nilIface (.slice (some ⟨o, 0, none⟩) 6 cap)) ∧ Typed w' 9 o ∧ (∀ (k : Nat) (v : Value), oldC[k]? = some v → w'.cell? ⟨o, k, none⟩ = some v) ∧ Ext w w' := by
 have hsl : Sl w 1 (Cells strVs) (some ⟨g, 0, none⟩) 6 [⟨#[9]⟩, ⟨#[32]⟩, ⟨#[10]⟩, ⟨#[32]⟩, ⟨#[13]⟩, ⟨#[32]⟩] := by
  refine ⟨rfl, fun _ => ⟨g, 0, rfl, fun i x hx j u hu => ?_⟩⟩
  have hi := (List.getElem?_eq_some_iff.1 hx).1
  have hj : j = 0 := by have := (List.getElem?_eq_some_iff.1 hu).1; simp [strVs] at this; exact this
  subst hj
  have hu' : u = .string x := by simp [strVs] at hu; exact hu.symm
  subst hu'
  have := hO i (.string x) (by
   have hi6 : i = 0 ∨ i = 1 ∨ i = 2 ∨ i = 3 ∨ i = 4 ∨ i = 5 := by simp at hi; omega
   rcases hi6 with rfl | rfl | rfl | rfl | rfl | rfl <;> (simp at hx; subst hx; rfl))
  simpa using this
 have HS := Lib.hid hsl
 clear hsl hO
 go_enter Tryz.func161, Tryz.ntmps161
 go_wp2_with (at_builtin; refine wpList_appendS rfl (.const (.slice none 0 0)) (.tmp 8) 93 rfl info_strX Tryz.underlying93 rfl (by decide) (show w.ownsRow w.heap.size 9 1 (.slice none 0 0) 0 [] from ⟨rfl, .inl ⟨rfl, rfl⟩⟩) (by exact rfl) (by exact rfl) (by exact HS.out) (fun _ => rfl) (by intro r u hu; simp [strVs] at hu; subst hu; rfl) (by omega) (by simp [maxLen]) (by omega) ?_; intro v' w7 hown7 hgr hnil; simp only [Nat.zero_add, List.nil_append] at hown7; obtain ⟨o, cap, rfl, hLo, hlt⟩ := own_form hown7 (by omega); clear hnil; have HO7 := Lib.hid hown7; have HX7 := Lib.hid ((Ext.refl w).grown hgr (fun q hq => by simp [Value.ownBlock] at hq)); clear hown7 hgr)
 go_ret
 have hcap : 6 ≤ cap := by
  obtain ⟨A, c, hv, hc, -⟩ := own_len HO7.out
  injection hv with _ _ e3
  subst e3
  exact hc
 refine ⟨w7.heap.size, o, cap, .int .u32 0, rfl, HX7.out.size, hcap, Blk.new _ _ _, (own_typed HO7.out o rfl).ext ((Ext.refl w7).alloc _), fun k v h => ?_, HX7.out.alloc _⟩
 have hk : k < 6 := by have := (Array.getElem?_eq_some_iff.1 h).1; simpa [oldC] using this
 have h1 := HO7.out.cellAt k (by omega)
 refine ((Ext.refl w7).alloc _).cell (h1.trans ?_)
 have hi6 : k = 0 ∨ k = 1 ∨ k = 2 ∨ k = 3 ∨ k = 4 ∨ k = 5 := by omega
 rcases hi6 with rfl | rfl | rfl | rfl | rfl | rfl <;> (rw [← h]; rfl)
set_option maxHeartbeats 4000000 in
set_option maxRecDepth 100000 in
theorem RReplace_ok (b o cap : Nat) (e : Value) (s : ByteArray) (w : World) (hB : Blk w b 264 (replC (.int .u32 0) (.int .i32 0) e .nilIface (.slice (some ⟨o, 0, none⟩) 6 cap))) (hcap : 6 ≤ cap) (hT : Typed w 9 o) (hO : ∀ (k : Nat) (v : Value), oldC[k]? = some v → w.cell? ⟨o, k, none⟩ = some v) (hcl : cleanB s) (hs : s.size ≤ 4294967296) :
 Calls Tryz.prog 162 #[.pointer (some ⟨b, 0, none⟩), .string s] w fun en w' => en = .returned (.string s) ∧ Below b w w' := by
 have HD := Lib.hid (do_ok b o cap e w hB hcap hT hO)
 have HR := Lib.hid (fun g w' hB => BRep_ok g s w' hB hcl hs)
 have hmf : ∀ (fn : Fn) (first cap : Array Value) (w : World), (Instr.makeFunc fn first cap).run Tryz.prog w = .ok (.func fn first cap) w := fun _ _ _ _ => rfl
 clear hB hT hO hcl
 go_enter Tryz.func162, Tryz.ntmps162
 go_wp2_with fail
 refine HD.out.mono ?_
 rintro en w' ⟨rfl, hb2, hg2, hx2⟩
 have hc2 := fun o => hb2.cell o
 unfold replC itab at hc2
 have HRg := Lib.hid (HR.out w.heap.size w' hg2)
 have hm : ∀ w0 : World, (method 452 288 (.pointer (some ⟨w.heap.size, 0, none⟩)) "Replace").run Tryz.prog w0 = .ok (245, .pointer (some ⟨w.heap.size, 0, none⟩)) w0 := fun _ => by kernel_rfl
 go_wp2_with (go_at_call 245; refine HRg.out.mono ?_; rintro en w' ⟨rfl, rfl⟩)
 go_ret
 exact ⟨rfl, hx2⟩
end
section
theorem place_mem {r : Int} : ∀ {l : List Int} {n : Int}, 0 ≤ n → 0 ≤ placeL r l n → r ∈ l
 | [], _, _, h => by unfold placeL at h; omega
 | x :: l, n, hn, h => by
  unfold placeL at h
  by_cases hx : x = r
  · rw [hx]; exact List.mem_cons_self ..
  · rw [if_neg hx] at h
    exact List.mem_cons_of_mem _ (place_mem (by omega) h)
set_option maxRecDepth 100000 in
theorem rep_bytes : ((runes allBytes 0).all fun r => (Lib.encodeRune r).all fun b => decide (32 ≤ b.toNat)) = true := by decide +kernel
theorem rune_bytes {r : Int} (h : 0 ≤ idx r) : ∀ b ∈ Lib.encodeRune r, 32 ≤ b.toNat := by
 intro b hb
 unfold idx at h
 split at h
 · rename_i hr
   unfold Lib.encodeRune at hb
   rw [Lib.encodeRuneZ_one (by omega) (by omega)] at hb
   simp only [List.map_cons, List.map_nil, List.mem_singleton] at hb
   subst hb
   have : (r.toNat.toUInt8).toNat = r.toNat := by
    rw [Nat.toUInt8, UInt8.toNat_ofNat']
    exact Nat.mod_eq_of_lt (by omega)
   rw [this]
   omega
 · have hm := place_mem (by omega) h
   have h1 := List.all_eq_true.1 rep_bytes r hm
   have h2 := List.all_eq_true.1 h1 b hb
   simpa using h2
theorem vld_bytes {s : ByteArray} (h : vld s = true) : ∀ b ∈ s.data.toList, 32 ≤ b.toNat := by
 unfold vld at h
 rw [Bool.and_eq_true] at h
 have key : ∀ n pos, s.size - pos ≤ n → Lib.validD (s.data.toList.drop pos) = true → ((runes s pos).all fun r => decide (0 ≤ idx r)) = true → ∀ b ∈ s.data.toList.drop pos, 32 ≤ b.toNat := by
  intro n
  induction n with
  | zero =>
   intro pos hn _ _ b hb
   rw [List.drop_eq_nil_of_le (by rw [size_toList]; omega)] at hb
   simp at hb
  | succ n ih =>
   intro pos hn hv hr b hb
   by_cases hp : pos < s.size
   · have hne : s.data.toList.drop pos ≠ [] := fun e => by
      have := congrArg List.length e
      rw [List.length_drop, size_toList] at this
      simp at this
      omega
     have hd := Lib.decodeL_drop s pos
     rw [Lib.validD_step _ hne] at hv
     by_cases hbad : (Lib.decodeL (s.data.toList.drop pos)).1 = 65533 ∧ (Lib.decodeL (s.data.toList.drop pos)).2 = 1
     · rw [if_pos hbad] at hv; cases hv
     · rw [if_neg hbad] at hv
       have he := Lib.encode_decode _ hne hbad
       have hw := dec_pos s pos hp
       rw [runes_step s pos hp, List.all_cons, Bool.and_eq_true] at hr
       rw [hd] at hv he
       rw [List.drop_drop] at hv
       rw [← List.take_append_drop (Utf8.decode s pos).2 (s.data.toList.drop pos)] at hb
       rcases List.mem_append.1 hb with hb | hb
       · rw [← he] at hb
         exact rune_bytes (by simpa using hr.1) b hb
       · rw [List.drop_drop] at hb
         exact ih _ (by omega) hv hr.2 b hb
   · rw [List.drop_eq_nil_of_le (by rw [size_toList]; omega)] at hb
     simp at hb
 have := key s.size 0 (by omega) (by rw [List.drop_zero]; exact h.1) h.2
 rwa [List.drop_zero] at this
theorem esc_bytes {l : List UInt8} (h : ∀ b ∈ l, 32 ≤ b.toNat) : ∀ b ∈ esc l, 32 ≤ b.toNat := by
 intro b hb
 obtain ⟨c, hc, hb⟩ := List.mem_flatMap.1 hb
 have := h c hc
 unfold escB at hb
 split at hb
 · simp only [List.mem_cons, List.not_mem_nil, or_false] at hb; rcases hb with rfl | rfl | rfl | rfl | rfl <;> decide
 · split at hb
   · simp only [List.mem_cons, List.not_mem_nil, or_false] at hb; rcases hb with rfl | rfl | rfl | rfl <;> decide
   · split at hb
     · simp only [List.mem_cons, List.not_mem_nil, or_false] at hb; rcases hb with rfl | rfl | rfl | rfl <;> decide
     · split at hb
       · simp only [List.mem_cons, List.not_mem_nil, or_false] at hb; rcases hb with rfl | rfl | rfl | rfl | rfl | rfl <;> decide
       · split at hb
         · simp only [List.mem_cons, List.not_mem_nil, or_false] at hb; rcases hb with rfl | rfl | rfl | rfl | rfl | rfl <;> decide
         · rw [List.mem_singleton.1 hb]; exact this
end
section
open Go.RowKit
set_option maxHeartbeats 4000000 in
set_option maxRecDepth 100000 in
theorem flat_ok (s : ByteArray) (w : World) (hcl : cleanB s) (hs : s.size ≤ 4294967296) :
 Calls Tryz.prog 140 #[.string s] w fun en w' => en = .returned (.string s) ∧ Ext w w' := by
 have hO : ∀ (k : Nat) (v : Value), oldC[k]? = some v → (w.alloc (.cells oldC 9)).cell? ⟨w.heap.size, k, none⟩ = some v := fun k v h => by
  rw [(Blk.new w 9 oldC).cell]; exact h
 have HN := Lib.hid (New_ok w.heap.size (w.alloc (.cells oldC 9)) hO)
 have HR := Lib.hid (fun b o cap e w' hB hcap hT hO => RReplace_ok b o cap e s w' hB hcap hT hO hcl hs)
 have HX : Hid (Ext w (w.alloc (.cells oldC 9))) := (Ext.refl w).alloc _
 clear hO hcl
 unfold oldC at HN HX
 go_enter Tryz.func140, Tryz.ntmps140
 go_wp2_with fail
 refine HN.out.mono ?_
 rintro en w1 ⟨b, o, cap, e, rfl, hb, hcap, hB, hT, hO, hx⟩
 have HR1 := Lib.hid (HR.out b o cap e w1 hB hcap hT hO)
 have HX1 := Lib.hid (HX.out.trans hx)
 have hbw : w.heap.size ≤ b := by simp at hb; omega
 clear hB hT hO hx hb
 go_wp2_with fail
 refine HR1.out.mono ?_
 rintro en w2 ⟨rfl, hx2⟩
 have HX2 := Lib.hid (HX1.out.below hx2 hbw)
 clear hx2
 go_wp2_with fail
 go_ret
 exact ⟨rfl, HX2.out⟩
theorem esc_clean' {t : ByteArray} (h : vld t = true) : cleanB (escS t) := fun k hk => by
 have := esc_bytes (vld_bytes h) (escS t)[k] (by
  have : (escS t)[k] ∈ (escS t).data.toList := by simp [ByteArray.getElem_eq_getElem_data]
  exact this)
 omega
theorem escS_size (t : ByteArray) : (escS t).size ≤ 6 * t.size := by
 have := (esc_len t.data.toList).2
 rw [size_toList] at this
 rw [← size_toList, escS_list]
 exact this
set_option maxHeartbeats 4000000 in
set_option maxRecDepth 100000 in
theorem meaning_ok (t : ByteArray) (w : World) (hE : EntW w) (hV : Env w) (hv : vld t = true) (hs : t.size ≤ 268435456) :
 Calls Tryz.prog 103 #[.string (escS t)] w fun en w' => en = .returned (.tuple #[.string t, .int .i64 0]) ∧ Ext w w' := by
 have HF := Lib.hid (flat_ok (escS t) w (esc_clean' hv) (by have := escS_size t; omega))
 have HU := Lib.hid (fun w' (hx : Ext w w') => Unescape_ok t w' (hE.ext hx) hs)
 have HV : Hid (∀ w', Ext w w' → Calls Tryz.prog 74 #[.string t] w' fun e w2 => e = .returned (.bool true) ∧ Ext w' w2) := fun w' hx => by
  have := Valid_any t w' (hV.ext hx) (by omega)
  rwa [hv] at this
 clear hE hV hv
 go_enter Tryz.func103, Tryz.ntmps103
 go_wp2_with fail
 refine HF.out.mono ?_
 rintro en w1 ⟨rfl, hx1⟩
 go_wp2_with fail
 refine (HU.out _ hx1).mono ?_
 rintro en w2 ⟨rfl, hx2⟩
 have HX2 := Lib.hid (hx1.trans hx2)
 clear hx1 hx2
 go_wp2_with fail
 refine (HV.out _ HX2.out).mono ?_
 rintro en w3 ⟨rfl, hx3⟩
 have HX3 := Lib.hid (HX2.out.trans hx3)
 clear hx3
 go_wp2_with fail
 go_ret2
 exact ⟨rfl, HX3.out⟩
end
section
open Go.RowKit
def TrRel (n : Nat) (v : Value) : Prop := ∃ r : ByteArray, v = .string r ∧ r.size ≤ n
def SetAt (w : World) (g : Nat) : Prop := ∀ x : Nat, x < 256 → ∃ v, w.cell? ⟨g, x, none⟩ = some (.bool v)
set_option maxHeartbeats 2000000 in
set_option maxRecDepth 100000 in
theorem trimL_any (s : ByteArray) (g : Nat) (w : World) (hS : SetAt w g) (hs : s.size ≤ 4294967296) :
 Calls Tryz.prog 135 #[.string s, .pointer (some ⟨g, 0, none⟩)] w fun e w' => (∃ r : ByteArray, e = .returned (.string r) ∧ r.size ≤ s.size) ∧ w = w' := by
 have HC : Hid (∀ x : UInt8, ∃ v, Calls Tryz.prog 156 #[.pointer (some ⟨g, 0, none⟩), .int .u8 x.toNat] w fun e w' => e = .returned (.bool v) ∧ w' = w) := fun x => by
  obtain ⟨v, hv⟩ := hS x.toNat x.toNat_lt
  exact ⟨v, Tryz.asciiSet_contains g x v w hv⟩
 clear hS
 go_enter Tryz.func135, Tryz.ntmps135
 go_wp2_with fail
 go_loop [0] (fun v => TrRel s.size v) (fun v => match v with | .string r => r.size | _ => 0)
 case atStart => exact ⟨s, rfl, Nat.le_refl _⟩
 case round =>
  obtain ⟨r, rfl, hr⟩ := hrel
  by_cases h0 : r.size = 0
  · have d0 : decide (0 < r.size) = false := decide_eq_false (by omega)
    have d1 : ¬ 0 < r.size := by omega
    go_wp2_with fail
    go_ret
    exact ⟨⟨r, rfl, hr⟩, rfl⟩
  · have d1 : 0 < r.size := by omega
    obtain ⟨v, hv⟩ := HC.out r[0]
    have HV := Lib.hid hv
    clear hv
    cases v
    · go_wp2_with fail
      refine HV.out.mono ?_
      rintro e w' ⟨rfl, rfl⟩
      go_wp2_with fail
      go_ret
      exact ⟨⟨r, rfl, hr⟩, rfl⟩
    · go_wp2_with fail
      refine HV.out.mono ?_
      rintro e w' ⟨rfl, rfl⟩
      go_wp2_with fail
      have hz : (r.extract 1 r.size).size = r.size - 1 := by rw [ByteArray.size_extract]; omega
      exact ⟨⟨_, rfl, by omega⟩, by show (r.extract 1 r.size).size < r.size; omega⟩
set_option maxHeartbeats 2000000 in
set_option maxRecDepth 100000 in
theorem trimR_any (s : ByteArray) (g : Nat) (w : World) (hS : SetAt w g) (hs : s.size ≤ 4294967296) :
 Calls Tryz.prog 136 #[.string s, .pointer (some ⟨g, 0, none⟩)] w fun e w' => (∃ r : ByteArray, e = .returned (.string r) ∧ r.size ≤ s.size) ∧ w = w' := by
 have HC : Hid (∀ x : UInt8, ∃ v, Calls Tryz.prog 156 #[.pointer (some ⟨g, 0, none⟩), .int .u8 x.toNat] w fun e w' => e = .returned (.bool v) ∧ w' = w) := fun x => by
  obtain ⟨v, hv⟩ := hS x.toNat x.toNat_lt
  exact ⟨v, Tryz.asciiSet_contains g x v w hv⟩
 clear hS
 go_enter Tryz.func136, Tryz.ntmps136
 go_wp2_with fail
 go_loop [0] (fun v => TrRel s.size v) (fun v => match v with | .string r => r.size | _ => 0)
 case atStart => exact ⟨s, rfl, Nat.le_refl _⟩
 case round =>
  obtain ⟨r, rfl, hr⟩ := hrel
  by_cases h0 : r.size = 0
  · have d0 : decide (0 < r.size) = false := decide_eq_false (by omega)
    have d1 : ¬ 0 < r.size := by omega
    go_wp2_with fail
    go_ret
    exact ⟨⟨r, rfl, hr⟩, rfl⟩
  · have d1 : 0 < r.size := by omega
    obtain ⟨q, hq⟩ : ∃ q, r.size = q + 1 := ⟨r.size - 1, by omega⟩
    have hq1 : q < r.size := by omega
    obtain ⟨v, hv⟩ := HC.out r[q]
    have HV := Lib.hid hv
    have HR := Lib.hid hr
    have hqw : wrap64 ((r.size : Int) - 1) = (q : Int) := by rw [hq]; unfold wrap64; omega
    clear hv
    cases v
    · go_wp2_with fail
      refine HV.out.mono ?_
      rintro e w' ⟨rfl, rfl⟩
      go_wp2_with fail
      go_ret
      exact ⟨⟨r, rfl, HR.out⟩, rfl⟩
    · go_wp2_with fail
      refine HV.out.mono ?_
      rintro e w' ⟨rfl, rfl⟩
      go_wp2_with fail
      have hz : (r.extract 0 q).size = q := by rw [ByteArray.size_extract]; omega
      have := HR.out
      exact ⟨⟨_, rfl, by omega⟩, by show (r.extract 0 q).size < r.size; omega⟩
theorem zero_set (w : World) : (zeroValue 219).run Tryz.prog w = .ok (.agg (Array.replicate 256 (.bool false))) w := by kernel_rfl
theorem size_set : (Tryz.prog.info? 219).map (·.size) = some 256 := by decide +kernel
theorem set_at (l : List UInt8) (x : Nat) (h : x < 256) : ∃ v, (Lib.setCells l)[x]? = some (.bool v) := by
 have e := Lib.setCells_at l (UInt8.ofNat x)
 have e2 : (UInt8.ofNat x).toNat = x := by rw [UInt8.toNat_ofNat']; exact Nat.mod_eq_of_lt (by omega)
 rw [e2] at e
 exact ⟨_, e⟩
set_option maxHeartbeats 4000000 in
set_option maxRecDepth 100000 in
theorem Trim_any (s : ByteArray) (w : World) (hs : s.size ≤ 4294967296) :
 Calls Tryz.prog 101 #[.string s, .string ⟨#[9, 10, 13, 32]⟩] w fun e w' => (∃ r : ByteArray, e = .returned (.string r)) ∧ Ext w w' := by
 have HM := Lib.hid (fun w => Tryz.strings_makeASCIISet zero_set ⟨#[9, 10, 13, 32]⟩ w (by decide) (fun j b h => by
  have hj : j = 0 ∨ j = 1 ∨ j = 2 ∨ j = 3 := by have := (List.getElem?_eq_some_iff.1 h).1; simp at this; omega
  rcases hj with rfl | rfl | rfl | rfl <;> (simp at h; subst h; decide)))
 obtain ⟨C, hC⟩ : ∃ C, C = Lib.setCells [9, 10, 13, 32] := ⟨_, rfl⟩
 have hCz : C.size = 256 := by rw [hC]; exact Lib.setCells_size _
 have hC1 : C.all (·.oneCell') = true := by rw [hC]; exact Lib.setCells_one _
 have hCa : ∀ x, x < 256 → ∃ v, C[x]? = some (.bool v) := fun x hx => by rw [hC]; exact set_at _ x hx
 have HM2 : Hid (∀ w, Calls Tryz.prog 134 #[.string ⟨#[9, 10, 13, 32]⟩] w fun e w' => e = .returned (.tuple #[.agg C, .bool true]) ∧ w' = w.alloc (.cells C 219)) := fun w => by rw [hC]; exact HM.out w
 have HCz := Lib.hid hCz
 have HC1 := Lib.hid hC1
 have HCa := Lib.hid hCa
 clear HM hC hCz hC1 hCa
 by_cases h0 : s.toList.isEmpty = true
 · go_enter Tryz.func101, Tryz.ntmps101
   go_wp2_with fail
   go_ret
   exact ⟨⟨_, rfl⟩, Ext.refl _⟩
 · have h0' : s.toList.isEmpty = false := by simpa using h0
   clear h0
   go_enter Tryz.func101, Tryz.ntmps101
   go_wp2_with fail
   refine (HM2.out _).mono ?_
   rintro e w1 ⟨rfl, rfl⟩
   obtain ⟨W1, hW1⟩ : ∃ W1, W1 = w.alloc (.cells C 219) := ⟨_, rfl⟩
   have HX1 : Hid (Ext w W1) := by show Ext _ _; rw [hW1]; exact (Ext.refl w).alloc _
   rw [← hW1]
   clear hW1
   have HZ0 : Hid (Blk (W1.alloc (.cells Tryz.zeroCells219 219)) W1.heap.size 219 Tryz.zeroCells219) := Blk.new _ _ _
   have hzz : (Tryz.zeroCells219).size = 256 := by kernel_rfl
   go_wp2_with (refine wpList_storeB rfl 219 (.tmp 5) (.tmp 32) rfl W1.heap.size 219 Tryz.zeroCells219 C (by exact rfl) (by exact rfl) (by exact HZ0.out) (by rw [hzz, HCz.out]) (by rw [HCz.out]; exact size_set) (by exact HC1.out) ?_)
   have HBp : Hid (Blk (putB (W1.alloc (.cells Tryz.zeroCells219 219)) W1.heap.size 219 C) W1.heap.size 219 C) := HZ0.out.put _
   have HXp : Hid (Ext w (putB (W1.alloc (.cells Tryz.zeroCells219 219)) W1.heap.size 219 C)) := (HX1.out.alloc _).put (by have := HX1.out.size; omega) _ _
   have hset : SetAt (putB (W1.alloc (.cells Tryz.zeroCells219 219)) W1.heap.size 219 C) W1.heap.size := fun x hx => by
    obtain ⟨v, hv⟩ := HCa.out x hx
    exact ⟨v, by rw [HBp.out.cell]; exact hv⟩
   have HSt := Lib.hid hset
   clear hset hzz HZ0
   refine (trimR_any s W1.heap.size _ HSt.out hs).mono ?_
   rintro e w2 ⟨⟨r, rfl, hr⟩, rfl⟩
   go_wp2_with fail
   refine (trimL_any r W1.heap.size _ HSt.out (by omega)).mono ?_
   rintro e w2 ⟨⟨r2, rfl, hr2⟩, rfl⟩
   go_wp2_with fail
   go_ret
   exact ⟨⟨_, rfl⟩, HXp.out⟩
end
section
open Go.RowKit
theorem count_set (l : Array Bool) (i : Nat) (h : l.getD i true = false) : ((l.setIfInBounds i true).toList.count false) + 1 = l.toList.count false := by
 have hi : i < l.size := by
  rcases Nat.lt_or_ge i l.size with h' | h'
  · exact h'
  · simp [Array.getElem?_eq_none h'] at h
 have hv : l[i] = false := by simpa [hi] using h
 rw [Array.toList_setIfInBounds]
 obtain ⟨l⟩ := l
 simp only at hi hv ⊢
 have hi' : i < l.length := by simpa using hi
 have hv' : l[i] = false := by simpa using hv
 rw [List.set_eq_take_append_cons_drop, if_pos hi']
 conv => rhs; rw [← List.take_append_drop i l, List.drop_eq_getElem_cons hi', hv']
 simp [List.count_append]
 omega
theorem all_listed {md : Region.Mode} {ops : Array Oper} {l : Array Bool} (hord : ∀ (i : Nat) (o : Oper), ops[i]? = some o → ∀ e ∈ o.after, Region.binds md e = true → e.on < i) (hs : l.size = ops.size) (hr : Region.ready md ops l = []) : ∀ i, i < ops.size → l.getD i false = true := by
 intro i
 induction i using Nat.strongRecOn with
 | _ i ih =>
  intro hi
  cases hl : l.getD i false with
  | true => rfl
  | false =>
   exfalso
   have hil : i < l.size := by omega
   have hm : i ∈ Region.ready md ops l := mem_ready.2 ⟨by simpa [hil] using hl, ops[i], by simp [hi], fun e he hb => ih e.on (hord i _ (by simp [hi]) e he hb) (by have := hord i ops[i] (by simp [hi]) e he hb; omega)⟩
   rw [hr] at hm
   cases hm
theorem wpAny_inv {P : Program} {md : Region.Mode} {ops : Array Oper} {Q : Exit → Act → World → Prop} (Inv : Array Bool → Act → World → Prop)
 (hsize : ∀ l a w, Inv l a w → l.size = ops.size)
 (hstep : ∀ l a w, Inv l a w → ∀ i o, ops[i]? = some o → l.getD i true = false → (∀ e ∈ o.after, Region.binds md e = true → l.getD e.on false = true) →
  ∀ K : Act → World → Prop, (∀ a w, Inv (l.setIfInBounds i true) a w → K a w) → if Region.wanted o (yielded ops a.tmps) = true then Oper.wp P o a w K Q else K (a.put o.dst undef) w)
 (hord : ∀ (i : Nat) (o : Oper), ops[i]? = some o → ∀ e ∈ o.after, Region.binds md e = true → e.on < i)
 (hdone : ∀ l a w, Inv l a w → (∀ i, i < ops.size → l.getD i false = true) → Q .normal a w) :
 ∀ (fuel : Nat) (l : Array Bool) (a : Act) (w : World), l.toList.count false ≤ fuel → Inv l a w → wpAny P md ops Q fuel l a w
 | 0, l, a, w, hc, hI => by
  have hr : Region.ready md ops l = [] := by
   apply List.eq_nil_iff_forall_not_mem.2
   intro i hi
   obtain ⟨h0, _⟩ := mem_ready.1 hi
   have := count_set l i h0
   omega
  exact ⟨hr, hdone l a w hI (all_listed hord (hsize l a w hI) hr)⟩
 | fuel + 1, l, a, w, hc, hI => by
  refine ⟨fun hr => hdone l a w hI (all_listed hord (hsize l a w hI) hr), fun i hi => ?_⟩
  obtain ⟨h0, o, ho, hall⟩ := mem_ready.1 hi
  have hs := count_set l i h0
  have h1 := hstep l a w hI i o ho h0 hall (wpAny P md ops Q fuel (l.setIfInBounds i true)) (fun a' w' hI' => wpAny_inv Inv hsize hstep hord hdone fuel _ a' w' (by omega) hI')
  unfold wpOp
  simp only [ho]
  split
  · rename_i hw; rw [if_pos hw] at h1; exact .inl h1
  · rename_i hw; rw [if_neg hw] at h1; exact h1
theorem getD_set_self {l : Array Bool} {i : Nat} (h : i < l.size) : (l.setIfInBounds i true).getD i false = true := by simp [h]
theorem getD_set_other {l : Array Bool} {i j : Nat} (h : i ≠ j) : (l.setIfInBounds i true).getD j false = l.getD j false := getD_set_ne false h
theorem not_listed {l : Array Bool} {i : Nat} (h : l.getD i true = false) : l.getD i false = false := by
 rcases Nat.lt_or_ge i l.size with h' | h'
 · simpa [h'] using h
 · simp [Array.getElem?_eq_none h'] at h
theorem wp_call1 {P : Program} {o : Oper} {a : Act} {w : World} {K : Act → World → Prop} {Q : Exit → Act → World → Prop} {f : FuncId} {x : Operand} {ts : Array TypeId} {v : Value} (ho : o.op = .call { callee := .value (.func f), args := #[x], argTypes := ts }) (hx : a.eval x = v)
 (hent : ∀ args w, (callFunc f args).run P w = .ok (.enter f args) w) {R : Ending → World → Prop} (hc : Calls P f #[v] w R) (h : ∀ en w', R en w' → ∃ u, en = .returned u ∧ K (a.put o.dst u) w') : o.wp P a w K Q := by
 have h2 : Calls P f #[v] w (fun
  | .returned u, w'' => K (a.put o.dst u) w''
  | .panicked chain, w'' => Q (.panic chain) a w''
  | .outgrown, _ => LetsOut Q) := hc.mono fun en w' hr => by
  obtain ⟨u, rfl, hk⟩ := h en w' hr
  exact hk
 unfold Oper.wp execOp
 simp only [ho]
 have hev : a.eval (.func f) = .func (.func f) #[] #[] := rfl
 simp [resolve, invoke, hev, hx, hent, Sem.run_bind, Deferred.ofValue]
 exact h2
theorem edge {es : Array Edge} {k : Nat} (h : es.toList.any (fun d => Region.binds .any d && d.on == k) = true) : ∃ d ∈ es, Region.binds .any d = true ∧ d.on = k := by
 obtain ⟨d, hd, h'⟩ := List.any_eq_true.1 h
 simp only [Bool.and_eq_true, beq_iff_eq] at h'
 exact ⟨d, by simpa using hd, h'⟩
def ordB : Nat → List Oper → Bool
 | _, [] => true
 | i, o :: l => o.after.all (fun d => !Region.binds .any d || decide (d.on < i)) && ordB (i + 1) l
theorem ordB_at : ∀ (l : List Oper) (k : Nat), ordB k l = true → ∀ i o, l[i]? = some o → ∀ d ∈ o.after, Region.binds .any d = true → d.on < k + i
 | [], _, _, i, o, h => by simp at h
 | o' :: l, k, hb, 0, o, h => by
  simp only [ordB, Bool.and_eq_true] at hb
  simp at h
  subst h
  intro d hd hbd
  have := (Array.all_eq_true'.1 hb.1) d hd
  simpa [hbd] using this
 | o' :: l, k, hb, i + 1, o, h => by
  simp only [ordB, Bool.and_eq_true] at hb
  intro d hd hbd
  have := ordB_at l (k + 1) hb.2 i o (by simpa using h) d hd hbd
  omega
theorem hordB {ops : Array Oper} (h : ordB 0 ops.toList = true) : ∀ (i : Nat) (o : Oper), ops[i]? = some o → ∀ d ∈ o.after, Region.binds .any d = true → d.on < i := fun i o ho d hd hbd => by
 have := ordB_at ops.toList 0 h i o (by simpa using ho) d hd hbd
 omega
theorem wp_loadB {P : Program} {op : Oper} {a : Act} {w : World} {K : Act → World → Prop} {Q : Exit → Act → World → Prop} (ty : TypeId) (x : Operand) (ho : op.op = .load ty x) (g : Nat) (t : TypeId) (cs : Array Value) (d : TypeDesc) (hx : a.eval x = .pointer (some ⟨g, 0, none⟩))
 (hB : Blk w g t cs) (hu : P.underlying ty = some d) (hd : d.isRow = true) (hi : (P.info? ty).map (·.size) = some cs.size) (h : K (a.put op.dst (.agg cs)) w) : op.wp P a w K Q := by
 refine wp_load_mid ty x ho g 0 hx cs.toList d (fun j v hv => ?_) hu hd (by simpa using hi) (by simpa using h)
 rw [hB.cell]
 simpa using hv
end
section
open Go.RowKit
def dstAt (ops : Array Oper) (j : Nat) : Nat := ((ops[j]?).bind (·.dst)).getD 0
def dstOK (ops : Array Oper) (n : Nat) : Bool := ops.toList.all (fun o => (o.dst.map (fun s => decide (s < n))).getD false) && decide ((ops.toList.map (fun o => o.dst.getD 0)).Nodup)
def DetInv (ops : Array Oper) (a0 : Act) (W : World) (vals : Nat → Value) (l : Array Bool) (a : Act) (w : World) : Prop :=
 l.size = ops.size ∧ Ext W w ∧ a.defers = a0.defers ∧ a.tmps.size = a0.tmps.size ∧ (∀ s, (∀ j, j < ops.size → dstAt ops j ≠ s) → a.tmps[s]? = a0.tmps[s]?) ∧
  (∀ j, j < ops.size → l.getD j false = true → a.tmps[dstAt ops j]? = some (vals j))
theorem dstOK_lt {ops : Array Oper} {n j : Nat} {o : Oper} (h : dstOK ops n = true) (ho : ops[j]? = some o) : o.dst = some (dstAt ops j) ∧ dstAt ops j < n := by
 simp only [dstOK, Bool.and_eq_true, List.all_eq_true] at h
 have hm : o ∈ ops.toList := by simpa using Array.mem_of_getElem? ho
 have := h.1 o hm
 unfold dstAt
 rw [ho]
 cases hd : o.dst with
 | none => rw [hd] at this; simp at this
 | some s => rw [hd] at this; simp at this; simp [hd, this]
theorem dstOK_inj {ops : Array Oper} {n i j : Nat} (h : dstOK ops n = true) (hi : i < ops.size) (hj : j < ops.size) (he : dstAt ops i = dstAt ops j) : i = j := by
 simp only [dstOK, Bool.and_eq_true, decide_eq_true_eq] at h
 have hn := h.2
 have key : ∀ k (hk : k < ops.size), (ops.toList.map (fun o => o.dst.getD 0))[k]? = some (dstAt ops k) := fun k hk => by
  have ho : ops[k]? = some ops[k] := by simp [hk]
  have := (dstOK_lt (by simp only [dstOK, Bool.and_eq_true, decide_eq_true_eq]; exact h) ho).1
  rw [List.getElem?_map]
  simp [hk, this]
 have hl : (ops.toList.map (fun o => o.dst.getD 0)).length = ops.size := by simp
 refine (List.getElem?_inj (by rw [hl]; exact hi) hn).1 ?_
 rw [key i hi, key j hj, he]
theorem wp_region_det {P : Program} {ops : Array Oper} {Q : Exit → Act → World → Prop} {id : Nat} {a0 : Act} {W : World} (vals : Nat → Value) (hm : P.follows .mixedOrders = true) (hdst : dstOK ops a0.tmps.size = true) (hord : ordB 0 ops.toList = true)
 (hstep : ∀ i o, ops[i]? = some o → ∀ (a : Act) (w : World) (K : Act → World → Prop), Ext W w → (∀ s, (∀ j, j < ops.size → dstAt ops j ≠ s) → a.tmps.getD s undef = a0.tmps.getD s undef) →
  (∀ j, (∃ d ∈ o.after, Region.binds .any d = true ∧ d.on = j) → j < ops.size → a.tmps[dstAt ops j]? = some (vals j)) → (∀ w', Ext w w' → K (a.put o.dst (vals i)) w') →
  if Region.wanted o (yielded ops a.tmps) = true then Oper.wp P o a w K Q else K (a.put o.dst undef) w)
 (hQ : ∀ a w, Ext W w → a.defers = a0.defers → a.tmps.size = a0.tmps.size → (∀ s, (∀ j, j < ops.size → dstAt ops j ≠ s) → a.tmps[s]? = a0.tmps[s]?) → (∀ j, j < ops.size → a.tmps[dstAt ops j]? = some (vals j)) → Q .normal a w) :
 (Code.region id ops true).wp P Q a0 W := by
 refine wp_region_any hm ?_
 refine wpAny_inv (DetInv ops a0 W vals) (fun l a w h => h.1) ?_ (hordB hord) ?_ _ _ _ _ (by simp) ?_
 · intro l a w hI i o ho hl hall K hK
   obtain ⟨hs, hx, hdf, hsz, hnot, hval⟩ := hI
   have hi : i < ops.size := (Array.getElem?_eq_some_iff.1 ho).1
   refine hstep i o ho a w K hx (fun s hsn => ?_) (fun j hj hjl => ?_) (fun w' hx' => ?_)
   · have := hnot s hsn
     simp [this]
   · obtain ⟨d, hd, hb, rfl⟩ := hj
     exact hval _ hjl (hall d hd hb)
   · apply hK
     obtain ⟨hd1, hd2⟩ := dstOK_lt hdst ho
     rw [hd1]
     refine ⟨by simpa using hs, hx.trans hx', hdf, by simpa [Act.put] using hsz, fun s hsn => ?_, fun j hj hjl => ?_⟩
     · simp only [Act.put]
       rw [Array.getElem?_setIfInBounds_ne (hsn i hi)]
       exact hnot s hsn
     · simp only [Act.put]
       by_cases hij : i = j
       · subst hij
         simp [hsz, hd2]
       · rw [Array.getElem?_setIfInBounds_ne (fun h => hij (dstOK_inj hdst hi hj h))]
         rw [getD_set_other hij] at hjl
         exact hval j hj hjl
 · rintro l a w ⟨hs, hx, hdf, hsz, hnot, hval⟩ hall
   exact hQ a w hx hdf hsz hnot (fun j hj => hval j hj (hall j hj))
 · exact ⟨by simp, (Ext.refl W).drew, rfl, rfl, fun _ _ => rfl, fun j hj h => by simp [Array.getElem?_replicate, hj] at h⟩
theorem eval_of {a : Act} {s : Nat} {v : Value} (h : a.tmps[s]? = some v) : a.eval (.tmp s) = v := by simp [Act.eval, h]
theorem want_of {ops : Array Oper} {o : Oper} {a : Act} {k s : Nat} {b b' : Bool} (hg : o.guard = some (k, b)) (hk : (ops[k]?).bind (·.dst) = some s) (hv : a.tmps[s]? = some (.bool b')) : Region.wanted o (yielded ops a.tmps) = (b' == b) := by
 unfold Region.wanted yielded
 rw [hg]
 simp only [hk, Option.bind_some, hv]
 cases b <;> cases b' <;> rfl
theorem want_none {o : Oper} {y : Nat → Option Bool} {A B : Prop} (hg : o.guard = none) (h : A) : if Region.wanted o y = true then A else B := by
 rw [if_pos (by simp [Region.wanted, hg])]; exact h
theorem want_yes {ops : Array Oper} {o : Oper} {a : Act} {k s : Nat} {b b' : Bool} {A B : Prop} (hg : o.guard = some (k, b)) (hk : (ops[k]?).bind (·.dst) = some s) (hv : a.tmps[s]? = some (.bool b')) (he : (b' == b) = true) (h : A) : if Region.wanted o (yielded ops a.tmps) = true then A else B := by
 rw [if_pos (by rw [want_of hg hk hv]; exact he)]; exact h
theorem want_no {ops : Array Oper} {o : Oper} {a : Act} {k s : Nat} {b b' : Bool} {A B : Prop} (hg : o.guard = some (k, b)) (hk : (ops[k]?).bind (·.dst) = some s) (hv : a.tmps[s]? = some (.bool b')) (he : (b' == b) = false) (h : B) : if Region.wanted o (yielded ops a.tmps) = true then A else B := by
 rw [if_neg (by rw [want_of hg hk hv, he]; simp)]; exact h
section
variable {P : Program} {o : Oper} {a : Act} {w : World} {K : Act → World → Prop} {Q : Exit → Act → World → Prop}
theorem wp_move (x : Operand) (v : Value) (ho : o.op = .move x) (hx : a.eval x = v) (h : K (a.put o.dst v) w) : o.wp P a w K Q := by
 unfold Oper.wp execOp
 simp [ho, hx, Sem.run_pure]
 exact h
theorem wp_assignx (x : Operand) (v : Value) (ho : o.op = .assign x) (hx : a.eval x = v) (h : K (a.put o.dst v) w) : o.wp P a w K Q := by
 unfold Oper.wp execOp
 simp [ho, hx, Sem.run_pure]
 exact h
theorem wp_pick (c x y : Operand) (b : Bool) (v : Value) (ho : o.op = .pick c x y) (hc : a.eval c = .bool b) (hx : (if b then a.eval x else a.eval y) = v) (h : K (a.put o.dst v) w) : o.wp P a w K Q := by
 unfold Oper.wp execOp
 simp [ho, hc, asBool, Sem.run_pure, Sem.run_bind]
 rw [hx]
 exact h
theorem wp_call2 {f : FuncId} {x y : Operand} {ts : Array TypeId} {v u : Value} (ho : o.op = .call { callee := .value (.func f), args := #[x, y], argTypes := ts }) (hx : a.eval x = v) (hy : a.eval y = u)
 (hent : ∀ args w, (callFunc f args).run P w = .ok (.enter f args) w) {r : Value} (hc : Calls P f #[v, u] w fun en w' => en = .returned r ∧ Ext w w') (h : ∀ w', Ext w w' → K (a.put o.dst r) w') : o.wp P a w K Q := by
 have h2 : Calls P f #[v, u] w (fun
  | .returned u, w'' => K (a.put o.dst u) w''
  | .panicked chain, w'' => Q (.panic chain) a w''
  | .outgrown, _ => LetsOut Q) := hc.mono fun en w' hr => by
  obtain ⟨rfl, hk⟩ := hr
  exact h w' hk
 unfold Oper.wp execOp
 simp only [ho]
 have hev : a.eval (.func f) = .func (.func f) #[] #[] := rfl
 simp [resolve, invoke, hev, hx, hy, hent, Sem.run_bind, Deferred.ofValue]
 exact h2
end
theorem frame_eq {a0 : Array Value} : ∀ (L : List (Nat × Value)) (a a0 : Array Value), a.size = a0.size → (∀ p ∈ L, a[p.1]? = some p.2) → (∀ s, s ∉ L.map (·.1) → a[s]? = a0[s]?) → a = L.foldl (fun t p => t.setIfInBounds p.1 p.2) a0
 | [], a, a0, _, _, hn => Array.ext_getElem? fun i => hn i (by simp)
 | p :: L, a, a0, hz, hv, hn => by
  rw [List.foldl_cons]
  refine frame_eq (a0 := a0) L a _ (by simpa using hz) (fun q hq => hv q (List.mem_cons_of_mem _ hq)) (fun s hs => ?_)
  have hp := hv p (List.mem_cons_self ..)
  by_cases he : p.1 = s
  · subst he
    have hlt : p.1 < a0.size := by rw [← hz]; exact (Array.getElem?_eq_some_iff.1 hp).1
    rw [hp]
    simp [hlt]
  · rw [Array.getElem?_setIfInBounds_ne he]
    exact hn s (by simp only [List.map_cons, List.mem_cons, not_or]; exact ⟨fun h => he h.symm, hs⟩)
theorem dstAt_of {ops : Array Oper} {j s : Nat} (h : (ops[j]?).bind (·.dst) = some s) : dstAt ops j = s ∧ j < ops.size := by
 unfold dstAt
 rw [h]
 refine ⟨rfl, ?_⟩
 cases ho : ops[j]? with
 | none => rw [ho] at h; cases h
 | some o => exact (Array.getElem?_eq_some_iff.1 ho).1
theorem wp_region_vals {P : Program} {ops : Array Oper} {Q : Exit → Act → World → Prop} {id : Nat} {a0 : Act} {W : World} (vals : List Value) (L : List (Nat × Value)) (hm : P.follows .mixedOrders = true) (hdst : dstOK ops a0.tmps.size = true) (hord : ordB 0 ops.toList = true)
 (hL : (ops.toList.map (fun o => o.dst.getD 0)).zip vals = L) (hlen : vals.length = ops.size)
 (hstep : ∀ (i : Nat) (o : Oper), ops[i]? = some o → ∀ (a : Act) (w : World) (K : Act → World → Prop), Ext W w → (∀ s : Nat, ops.toList.all (fun o => o.dst != some s) = true → a.eval (.tmp s) = a0.eval (.tmp s)) →
  (∀ (j s : Nat) (v : Value), o.after.toList.any (fun d => Region.binds .any d && d.on == j) = true → (ops[j]?).bind (·.dst) = some s → vals[j]? = some v → a.tmps[s]? = some v) → (∀ v, vals[i]? = some v → ∀ w', Ext w w' → K (a.put o.dst v) w') →
  if Region.wanted o (yielded ops a.tmps) = true then Oper.wp P o a w K Q else K (a.put o.dst undef) w)
 (hQ : ∀ w, Ext W w → Q .normal { a0 with tmps := L.foldl (fun t p => t.setIfInBounds p.1 p.2) a0.tmps } w) :
 (Code.region id ops true).wp P Q a0 W := by
 have hget : ∀ j, j < ops.size → vals[j]? = some (vals.getD j undef) := fun j hj => by simp [hlen, hj]
 refine wp_region_det (fun j => vals.getD j undef) hm hdst hord (fun i o ho a w K hx hn hd hk => ?_) (fun a w hx hdf hsz hnot hval => ?_)
 · refine hstep i o ho a w K hx (fun s hs => ?_) (fun j s v hj hb hv => ?_) (fun v hv w' hx' => ?_)
   · refine hn s fun j hj he => ?_
     have h1 := (dstOK_lt hdst (show ops[j]? = some ops[j] by simp [hj])).1
     have h2 := List.all_eq_true.1 hs ops[j] (by simp)
     rw [h1, he] at h2
     simp at h2
   · obtain ⟨h1, h2⟩ := dstAt_of hb
     have h3 := hd j (edge hj) h2
     rw [h1] at h3
     rw [h3]
     have h4 := hget j h2
     rw [hv] at h4
     exact congrArg some (Option.some.inj h4).symm
   · have h4 := hget i (Array.getElem?_eq_some_iff.1 ho).1
     rw [hv] at h4
     have := hk w' hx'
     rw [← Option.some.inj h4] at this
     exact this
 · have hmem : ∀ p ∈ L, ∃ j, j < ops.size ∧ p = (dstAt ops j, vals.getD j undef) := fun p hp => by
    rw [← hL] at hp
    obtain ⟨j, hj⟩ := List.getElem?_of_mem hp
    rw [List.getElem?_zip_eq_some] at hj
    obtain ⟨h1, h2⟩ := hj
    have hjl : j < ops.size := by rw [← hlen]; exact (List.getElem?_eq_some_iff.1 h2).1
    refine ⟨j, hjl, ?_⟩
    have ho : ops[j]? = some ops[j] := by simp [hjl]
    have hd := (dstOK_lt hdst ho).1
    rw [List.getElem?_map] at h1
    simp [hjl, hd] at h1
    have h4 := hget j hjl
    rw [h2] at h4
    obtain ⟨p1, p2⟩ := p
    simp only at h1 h4
    rw [← h1, Option.some.inj h4]
   have hfr := frame_eq (a0 := a0.tmps) L a.tmps a0.tmps hsz (fun p hp => by
    obtain ⟨j, hj, rfl⟩ := hmem p hp
    exact hval j hj) (fun s hs => hnot s fun j hj he => hs (by
     rw [← hL, List.map_fst_zip (by simp [hlen])]
     have ho : ops[j]? = some ops[j] := by simp [hj]
     have hd := (dstOK_lt hdst ho).1
     rw [List.mem_map]
     exact ⟨ops[j], by simp, by rw [hd, he]; rfl⟩))
   have : a = { a0 with tmps := L.foldl (fun t p => t.setIfInBounds p.1 p.2) a0.tmps } := by
    obtain ⟨at_, ad⟩ := a
    simp only at hfr hdf
    rw [hfr, hdf]
   rw [this]
   exact hQ w hx
end
end Go.Proofs.YtbmblnhfmpolbaaGreatDoor