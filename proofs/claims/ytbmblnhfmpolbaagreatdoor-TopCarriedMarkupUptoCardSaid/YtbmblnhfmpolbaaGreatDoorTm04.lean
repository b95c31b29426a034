/- Texts laid together. -/
import Derived.Test.YtbmblnhfmpolbaaGreatDoorTm03
import Derived.Test.YtbmblnhfmpolbaaGreatDoorTm02
import Derived.Lib.Replace
import Derived.Test.YtbmblnhfmpolbaaGreatDoorTm01
set_option linter.unusedVariables false
set_option linter.unusedSimpArgs false
namespace Go.Proofs.YtbmblnhfmpolbaaGreatDoor
section
open Go.RowKit
theorem letB_int (c : UInt8) : letB c = (decide ((97 : Int) ≤ (c.toNat : Int) ∧ (c.toNat : Int) ≤ 122) || decide ((65 : Int) ≤ (c.toNat : Int) ∧ (c.toNat : Int) ≤ 90)) := by
 unfold letB
 congr 1 <;> exact decide_eq_decide.2 (by omega)
theorem letter_any (c : UInt8) (w : World) : Calls Tryz.prog 97 #[.int .u8 c.toNat] w fun e w' => e = .returned (.bool (letB c)) ∧ w = w' := by
 have HF := Lib.hid (letB_int c)
 by_cases h1 : (97 : Int) ≤ (c.toNat : Int) <;> by_cases h2 : (c.toNat : Int) ≤ 122 <;> by_cases h3 : (65 : Int) ≤ (c.toNat : Int) <;> by_cases h4 : (c.toNat : Int) ≤ 90 <;>
  (go_enter Tryz.func97, Tryz.ntmps97; go_wp2; go_ret; exact ⟨by rw [HF.out]; simp [h1, h2, h3, h4], rfl⟩)
def whiteB (c : UInt8) : Bool := decide (c.toNat = 9) || decide (c.toNat = 10) || decide (c.toNat = 13) || decide (c.toNat = 32)
theorem white_any (c : UInt8) (w : World) : Calls Tryz.prog 99 #[.int .u8 c.toNat] w fun e w' => e = .returned (.bool (whiteB c)) ∧ w = w' := by
 have HF : Hid (whiteB c = (decide ((c.toNat : Int) = 9) || decide ((c.toNat : Int) = 10) || decide ((c.toNat : Int) = 13) || decide ((c.toNat : Int) = 32))) := by
  show whiteB c = _
  unfold whiteB
  congr 1
  · congr 1
    · congr 1 <;> exact decide_eq_decide.2 (by omega)
    · exact decide_eq_decide.2 (by omega)
  · exact decide_eq_decide.2 (by omega)
 by_cases h1 : (c.toNat : Int) = 9 <;> by_cases h2 : (c.toNat : Int) = 10 <;> by_cases h3 : (c.toNat : Int) = 13 <;> by_cases h4 : (c.toNat : Int) = 32 <;>
  (go_enter Tryz.func99, Tryz.ntmps99; go_wp2; go_ret; exact ⟨by rw [HF.out]; simp [h1, h2, h3, h4], rfl⟩)
set_option maxRecDepth 100000 in
set_option maxHeartbeats 1000000 in
theorem nameByte_any (c : UInt8) (w : World) : Calls Tryz.prog 98 #[.int .u8 c.toNat] w fun e w' => e = .returned (.bool (nmcB c)) ∧ w = w' := by
 have HL := Lib.hid (fun w => letter_any c w)
 have HF : Hid (nmcB c = (letB c || decide ((48 : Int) ≤ (c.toNat : Int) ∧ (c.toNat : Int) ≤ 57) || decide ((c.toNat : Int) = 45))) := by
  show nmcB c = _
  unfold nmcB
  congr 1
  · congr 1
    exact decide_eq_decide.2 (by omega)
  · exact decide_eq_decide.2 (by omega)
 cases hl : letB c
 · have HV := Lib.hid hl
   clear hl
   have key : ∀ (b1 b2 b3 : Bool), decide ((48 : Int) ≤ (c.toNat : Int)) = b1 → decide ((c.toNat : Int) ≤ 57) = b2 → ((c.toNat : Int) == 45) = b3 → Calls Tryz.prog 98 #[.int .u8 c.toNat] w fun e w' => e = .returned (.bool (b1 && b2 || b3)) ∧ w = w' := by
    intro b1 b2 b3 h1 h2 h3
    cases b1 <;> cases b2 <;> cases b3 <;>
    (go_enter Tryz.func98, Tryz.ntmps98
     go_wp2_with fail
     refine (HL.out _).mono ?_
     rintro e w' ⟨rfl, rfl⟩
     rw [HV.out]
     go_wp2_with fail
     go_ret
     exact ⟨rfl, rfl⟩)
   have h3 : ((c.toNat : Int) == 45) = decide ((c.toNat : Int) = 45) := by
    by_cases h : (c.toNat : Int) = 45
    · rw [decide_eq_true h, h]; rfl
    · rw [decide_eq_false h]; exact beq_eq_false_iff_ne.2 h
   refine (key _ _ _ rfl rfl h3).mono ?_
   rintro e w' ⟨rfl, rfl⟩
   exact ⟨by rw [HF.out, HV.out, Bool.false_or, Bool.decide_and], rfl⟩
 · have HV := Lib.hid hl
   clear hl
   go_enter Tryz.func98, Tryz.ntmps98
   go_wp2_with fail
   refine (HL.out _).mono ?_
   rintro e w' ⟨rfl, rfl⟩
   rw [HV.out]
   go_wp2_with fail
   go_ret
   exact ⟨by rw [HF.out, HV.out]; rfl, rfl⟩
def tw (p : UInt8 → Bool) (l : List UInt8) : Nat := (l.takeWhile p).length
theorem tw_no {p : UInt8 → Bool} {c : UInt8} {l : List UInt8} (h : p c = false) : tw p (c :: l) = 0 := by unfold tw; rw [List.takeWhile_cons, h]; rfl
theorem tw_yes {p : UInt8 → Bool} {c : UInt8} {l : List UInt8} (h : p c = true) : tw p (c :: l) = tw p l + 1 := by unfold tw; rw [List.takeWhile_cons, h]; rfl
theorem tw_all {p : UInt8 → Bool} {a l : List UInt8} (h : a.all p = true) : tw p (a ++ l) = a.length + tw p l := by
 induction a with
 | nil => simp
 | cons c a ih =>
  rw [List.all_cons, Bool.and_eq_true] at h
  rw [List.cons_append, tw_yes h.1, ih h.2, List.length_cons]
  omega
theorem drop_get (s : ByteArray) (k : Nat) (h : k < s.size) : s.data.toList.drop k = s[k] :: s.data.toList.drop (k + 1) := by
 rw [List.drop_eq_getElem_cons (by rw [size_toList]; exact h)]
 rfl
theorem drop_end (s : ByteArray) (k : Nat) (h : ¬ k < s.size) : s.data.toList.drop k = [] := List.drop_eq_nil_of_le (by rw [size_toList]; omega)
theorem at_cons {s : ByteArray} {k : Nat} {c : UInt8} {l : List UInt8} (h : s.data.toList.drop k = c :: l) : ∃ hk : k < s.size, s[k] = c ∧ s.data.toList.drop (k + 1) = l := by
 have hk : k < s.size := by
  by_cases hk : k < s.size
  · exact hk
  · rw [drop_end s k hk] at h; simp at h
 rw [drop_get s k hk] at h
 injection h with h1 h2
 exact ⟨hk, h1, h2⟩
theorem at_append {s : ByteArray} {k : Nat} {a l : List UInt8} (h : s.data.toList.drop k = a ++ l) : s.data.toList.drop (k + a.length) = l := by
 rw [← List.drop_drop, h, List.drop_left]
theorem at_room {s : ByteArray} {k : Nat} {a l : List UInt8} (hk : k ≤ s.size) (h : s.data.toList.drop k = a ++ l) : k + a.length ≤ s.size := by
 have := congrArg List.length h
 rw [List.length_drop, size_toList, List.length_append] at this
 omega
theorem extract_at {s : ByteArray} {k : Nat} {a l : List UInt8} (h : s.data.toList.drop k = a ++ l) : s.extract k (k + a.length) = ⟨a.toArray⟩ := by
 apply ByteArray.ext
 apply Array.ext'
 rw [ByteArray.data_extract, Array.toList_extract]
 simp only [List.extract_eq_take_drop, Nat.add_sub_cancel_left]
 rw [h, List.take_left]
def BlRel (s : ByteArray) (i : Nat) (v : Value) : Prop := ∃ k : Nat, k ≤ s.size ∧ i ≤ k ∧ v = .int .i64 k ∧ i + tw whiteB (s.data.toList.drop i) = k + tw whiteB (s.data.toList.drop k)
set_option maxHeartbeats 1000000 in
theorem blanks_any (s : ByteArray) (i : Nat) (w : World) (hs : s.size ≤ 4294967296) (hi : i ≤ s.size) :
 Calls Tryz.prog 55 #[.string s, .int .i64 i] w fun e w' => e = .returned (.int .i64 ((i + tw whiteB (s.data.toList.drop i) : Nat) : Int)) ∧ w = w' := by
 have HW := Lib.hid (fun c w => white_any c w)
 go_enter Tryz.func55, Tryz.ntmps55
 go_wp2_with fail
 go_loop [1] (fun v => BlRel s i v) (fun v => s.size - (intOf v).toNat)
 case atStart => exact ⟨i, hi, Nat.le_refl _, rfl, rfl⟩
 case round =>
  obtain ⟨k, hk, hik, rfl, hall⟩ := hrel
  have HA := Lib.hid hall
  clear hall
  by_cases hlt : k < s.size
  · have HD := Lib.hid (drop_get s k hlt)
    cases hb : whiteB s[k]
    · have HB := Lib.hid hb
      have HF : Hid (i + tw whiteB (s.data.toList.drop i) = k) := by show _ = _; rw [HA.out, HD.out, tw_no hb]; rfl
      clear hb
      go_wp2_with (go_at_call 99; refine (HW.out _ _).mono ?_; rintro e w' ⟨rfl, rfl⟩; rw [HB.out])
      go_ret
      exact ⟨ret_int (by have := HF.out; omega), rfl⟩
    · have HB := Lib.hid hb
      have HF : Hid (i + tw whiteB (s.data.toList.drop i) = (k + 1) + tw whiteB (s.data.toList.drop (k + 1))) := by show _ = _; rw [HA.out, HD.out, tw_yes hb]; omega
      clear hb
      go_wp2_with (go_at_call 99; refine (HW.out _ _).mono ?_; rintro e w' ⟨rfl, rfl⟩; rw [HB.out])
      exact ⟨⟨k + 1, by omega, by omega, by go_num, HF.out⟩, by simp [intOf]; omega⟩
  · have HF : Hid (i + tw whiteB (s.data.toList.drop i) = k) := by show _ = _; rw [HA.out, drop_end s k hlt]; rfl
    have ek : k = s.size := by omega
    subst ek
    go_wp2_with fail
    go_ret
    exact ⟨ret_int (by have := HF.out; omega), rfl⟩
def wordS (s : ByteArray) (i : Nat) : ByteArray := if (s.data.toList.drop i).head?.any letB then s.extract i (i + tw nmcB (s.data.toList.drop i)) else ⟨#[]⟩
def wordI (s : ByteArray) (i : Nat) : Nat := if (s.data.toList.drop i).head?.any letB then i + tw nmcB (s.data.toList.drop i) else i
def WdRel (s : ByteArray) (i : Nat) (v : Value) : Prop := ∃ k : Nat, k ≤ s.size ∧ i ≤ k ∧ v = .int .i64 k ∧ i + tw nmcB (s.data.toList.drop i) = k + tw nmcB (s.data.toList.drop k)
set_option maxHeartbeats 1000000 in
theorem word_any (s : ByteArray) (i : Nat) (w : World) (hs : s.size ≤ 4294967296) (hi : i ≤ s.size) :
 Calls Tryz.prog 54 #[.string s, .int .i64 i] w fun e w' => e = .returned (.tuple #[.string (wordS s i), .int .i64 ((wordI s i : Nat) : Int)]) ∧ w = w' := by
 have HW := Lib.hid (fun c w => nameByte_any c w)
 have HL := Lib.hid (fun c w => letter_any c w)
 by_cases h0 : i < s.size
 · have HD0 := Lib.hid (drop_get s i h0)
   have hd0 : decide (s.size ≤ i) = false := decide_eq_false (by omega)
   have hn0 : ¬ s.size ≤ i := by omega
   cases hl : letB s[i]
   · have HB := Lib.hid hl
     have HS : Hid (wordS s i = ⟨#[]⟩) := by show _ = _; unfold wordS; rw [HD0.out]; simp [hl]
     have HI : Hid (wordI s i = i) := by show _ = _; unfold wordI; rw [HD0.out]; simp [hl]
     clear hl
     go_enter Tryz.func54, Tryz.ntmps54
     go_wp2_with (go_at_call 97; refine (HL.out _ _).mono ?_; rintro e w' ⟨rfl, rfl⟩; rw [HB.out])
     go_ret2
     exact ⟨by rw [HS.out, HI.out]; rfl, rfl⟩
   · have HB := Lib.hid hl
     have HS : Hid (wordS s i = s.extract i (i + tw nmcB (s.data.toList.drop i))) := by show _ = _; unfold wordS; rw [HD0.out]; simp [hl]
     have HI : Hid (wordI s i = i + tw nmcB (s.data.toList.drop i)) := by show _ = _; unfold wordI; rw [HD0.out]; simp [hl]
     clear hl
     go_enter Tryz.func54, Tryz.ntmps54
     go_wp2_with (go_at_call 97; refine (HL.out _ _).mono ?_; rintro e w' ⟨rfl, rfl⟩; rw [HB.out])
     go_loop [6] (fun v => WdRel s i v) (fun v => s.size - (intOf v).toNat)
     case atStart => exact ⟨i, hi, Nat.le_refl _, rfl, rfl⟩
     case round =>
      obtain ⟨k, hk, hik, rfl, hall⟩ := hrel
      have HA := Lib.hid hall
      clear hall
      by_cases hlt : k < s.size
      · have HD := Lib.hid (drop_get s k hlt)
        cases hb : nmcB s[k]
        · have HB2 := Lib.hid hb
          have HF : Hid (i + tw nmcB (s.data.toList.drop i) = k) := by show _ = _; rw [HA.out, HD.out, tw_no hb]; rfl
          clear hb
          go_wp2_with (go_at_call 98; refine (HW.out _ _).mono ?_; rintro e w' ⟨rfl, rfl⟩; rw [HB2.out])
          go_ret2
          exact ⟨by rw [HS.out, HI.out, HF.out]; rfl, rfl⟩
        · have HB2 := Lib.hid hb
          have HF : Hid (i + tw nmcB (s.data.toList.drop i) = (k + 1) + tw nmcB (s.data.toList.drop (k + 1))) := by show _ = _; rw [HA.out, HD.out, tw_yes hb]; omega
          clear hb
          go_wp2_with (go_at_call 98; refine (HW.out _ _).mono ?_; rintro e w' ⟨rfl, rfl⟩; rw [HB2.out])
          exact ⟨⟨k + 1, by omega, by omega, by go_num, HF.out⟩, by simp [intOf]; omega⟩
      · have HF : Hid (i + tw nmcB (s.data.toList.drop i) = k) := by show _ = _; rw [HA.out, drop_end s k hlt]; rfl
        have ek : k = s.size := by omega
        subst ek
        go_wp2_with fail
        go_ret2
        exact ⟨by rw [HS.out, HI.out, HF.out]; rfl, rfl⟩
 · have HS : Hid (wordS s i = ⟨#[]⟩) := by show _ = _; unfold wordS; rw [drop_end s i h0]; rfl
   have HI : Hid (wordI s i = i) := by show _ = _; unfold wordI; rw [drop_end s i h0]; rfl
   go_enter Tryz.func54, Tryz.ntmps54
   go_wp2_with fail
   go_ret2
   exact ⟨by rw [HS.out, HI.out]; rfl, rfl⟩
end
section
def repB (c : UInt8) (new : List UInt8) (b : UInt8) : List UInt8 := if b = c then new else [b]
theorem isPrefix_one (c b : UInt8) (l : List UInt8) : ([c] : List UInt8).isPrefixOf (b :: l) = (c == b) := by simp [List.isPrefixOf]
theorem rep_one (c : UInt8) (new : List UInt8) : ∀ s : List UInt8, Lib.replaceK [c] new (Lib.count s [c]) s = s.flatMap (repB c new)
 | [] => by rw [Lib.count_miss (by rfl)]; rfl
 | b :: l => by
  have ih := rep_one c new l
  rw [List.flatMap_cons]
  by_cases hb : b = c
  · have hi : Lib.index (b :: l) [c] = (0 : Nat) := by unfold Lib.index; rw [if_pos (by rw [isPrefix_one, hb]; simp)]; rfl
    rw [Lib.count_hit (by simp) hi, Nat.add_comm, Lib.replaceK_hit _ _ _ _ _ hi]
    simp only [List.length_cons, List.length_nil, Nat.zero_add, List.take_zero, List.nil_append, List.drop_succ_cons, List.drop_zero]
    rw [ih, repB, if_pos hb]
  · have hx : Lib.index (b :: l) [c] = if Lib.index l [c] == -1 then -1 else Lib.index l [c] + 1 := by
     conv => lhs; unfold Lib.index
     rw [if_neg (by rw [isPrefix_one]; simp; exact fun e => hb e.symm)]
    rw [repB, if_neg hb]
    by_cases hm : Lib.index l [c] = -1
    · rw [Lib.count_miss (by rw [hx, hm]; rfl)]
      rw [Lib.count_miss hm] at ih
      rw [← ih]
      rfl
    · have hge := Lib.index_ge l [c]
      obtain ⟨i, hi⟩ : ∃ i : Nat, Lib.index l [c] = i := ⟨(Lib.index l [c]).toNat, by omega⟩
      have hi2 : Lib.index (b :: l) [c] = ((i + 1 : Nat) : Int) := by rw [hx, if_neg (by simpa using hm), hi]; rfl
      rw [Lib.count_hit (by simp) hi, Nat.add_comm, Lib.replaceK_hit _ _ _ _ _ hi] at ih
      rw [Lib.count_hit (by simp) hi2, Nat.add_comm, Lib.replaceK_hit _ _ _ _ _ hi2, ← ih]
      simp only [List.length_cons, List.length_nil, Nat.zero_add, List.take_succ_cons, List.drop_succ_cons, List.cons_append, List.nil_append]
theorem replaceAll_one (s : List UInt8) (c : UInt8) (new : List UInt8) (h : new ≠ [c]) : Lib.replaceAll s [c] new = s.flatMap (repB c new) := by
 unfold Lib.replaceAll Lib.replace
 rw [if_neg (by simp; exact fun e => h e.symm)]
 unfold Lib.replaceNum
 rw [if_pos (by left; decide)]
 exact rep_one c new s
theorem flatMap_comp {f g : UInt8 → List UInt8} (s : List UInt8) : (s.flatMap f).flatMap g = s.flatMap fun b => (f b).flatMap g := List.flatMap_assoc
theorem escB_len (b : UInt8) : 1 ≤ (escB b).length ∧ (escB b).length ≤ 6 := by
 unfold escB
 by_cases h1 : b = 38
 · rw [if_pos h1]; exact ⟨by decide, by decide⟩
 rw [if_neg h1]
 by_cases h2 : b = 60
 · rw [if_pos h2]; exact ⟨by decide, by decide⟩
 rw [if_neg h2]
 by_cases h3 : b = 62
 · rw [if_pos h3]; exact ⟨by decide, by decide⟩
 rw [if_neg h3]
 by_cases h4 : b = 34
 · rw [if_pos h4]; exact ⟨by decide, by decide⟩
 rw [if_neg h4]
 by_cases h5 : b = 39
 · rw [if_pos h5]; exact ⟨by decide, by decide⟩
 rw [if_neg h5]
 exact ⟨by simp, by simp⟩
theorem esc_len (l : List UInt8) : l.length ≤ (esc l).length ∧ (esc l).length ≤ 6 * l.length := by
 induction l with
 | nil => simp [esc]
 | cons b l ih =>
  have e : esc (b :: l) = escB b ++ esc l := rfl
  have := escB_len b
  rw [e, List.length_append, List.length_cons]
  omega
theorem esc_clean {l : List UInt8} : ∀ b ∈ esc l, b ≠ 60 ∧ b ≠ 62 ∧ b ≠ 34 ∧ b ≠ 39 := by
 intro b hb
 obtain ⟨c, -, hc⟩ := List.mem_flatMap.1 hb
 unfold escB at hc
 split at hc
 · simp only [List.mem_cons, List.not_mem_nil, or_false] at hc; rcases hc with rfl | rfl | rfl | rfl | rfl <;> decide
 · split at hc
   · simp only [List.mem_cons, List.not_mem_nil, or_false] at hc; rcases hc with rfl | rfl | rfl | rfl <;> decide
   · split at hc
     · simp only [List.mem_cons, List.not_mem_nil, or_false] at hc; rcases hc with rfl | rfl | rfl | rfl <;> decide
     · split at hc
       · simp only [List.mem_cons, List.not_mem_nil, or_false] at hc; rcases hc with rfl | rfl | rfl | rfl | rfl | rfl <;> decide
       · split at hc
         · simp only [List.mem_cons, List.not_mem_nil, or_false] at hc; rcases hc with rfl | rfl | rfl | rfl | rfl | rfl <;> decide
         · simp only [List.mem_singleton] at hc
           subst hc
           rename_i h1 h2 h3 h4 h5
           exact ⟨h2, h3, h4, h5⟩
theorem escB_head (b : UInt8) : (∃ t, (b = 38 ∨ b = 60 ∨ b = 62 ∨ b = 34 ∨ b = 39) ∧ escB b = 38 :: t) ∨ ((b ≠ 38 ∧ b ≠ 60) ∧ escB b = [b]) := by
 unfold escB
 by_cases h1 : b = 38
 · exact .inl ⟨_, .inl h1, by rw [if_pos h1]⟩
 · by_cases h2 : b = 60
   · exact .inl ⟨_, .inr (.inl h2), by rw [if_neg h1, if_pos h2]⟩
   · by_cases h3 : b = 62
     · exact .inl ⟨_, .inr (.inr (.inl h3)), by rw [if_neg h1, if_neg h2, if_pos h3]⟩
     · by_cases h4 : b = 34
       · exact .inl ⟨_, .inr (.inr (.inr (.inl h4))), by rw [if_neg h1, if_neg h2, if_neg h3, if_pos h4]⟩
       · by_cases h5 : b = 39
         · exact .inl ⟨_, .inr (.inr (.inr (.inr h5))), by rw [if_neg h1, if_neg h2, if_neg h3, if_neg h4, if_pos h5]⟩
         · exact .inr ⟨⟨h1, h2⟩, by rw [if_neg h1, if_neg h2, if_neg h3, if_neg h4, if_neg h5]⟩
end
section
open Go.RowKit
structure EW (W : World) where
 w : World
 ext : Ext W w
instance ewInh (W : World) : Nonempty (EW W) := ⟨⟨W, Ext.refl W⟩⟩
theorem EW.calls {P : Program} {W : World} {f : FuncId} {args : Array Value} {v : Value} (x : EW W) (h : Calls P f args x.w fun e w' => e = .returned v ∧ Ext x.w w') :
 Calls P f args x.w fun e w'' => e = .returned v ∧ ∃ y : EW W, w'' = y.w :=
 h.mono fun _ w' ⟨he, hx⟩ => ⟨he, ⟨w', x.ext.trans hx⟩, rfl⟩
theorem EW.cell {W : World} {p : Addr} {u : Value} (h : W.cell? p = some u) (x : EW W) : x.w.cell? p = some u := x.ext.cell h
theorem EW.cells {W : World} {g : Nat} (hg : g < W.heap.size) (x : EW W) (o : Nat) : x.w.cell? ⟨g, o, none⟩ = W.cell? ⟨g, o, none⟩ := x.ext.cells _ hg
theorem wp_region_ew {P : Program} {id : Nat} {Q : Exit → Act → World → Prop} {a : Act} {w : World} {l : List Oper} (W : World) (hW : Ext W w) (hm : P.follows .mixedOrders = true) (hB : Region.lexB .any l.toArray = true)
 (h : wpQuiet P l.toArray (fun w' => ∃ x : EW W, w' = x.w) (fun a' => ∀ w', (∃ x : EW W, w' = x.w) → Q .normal a' w') l a) : (Code.region id l.toArray true).wp P Q a w :=
 wp_region_quiet (C := fun w' => ∃ x : EW W, w' = x.w) hm hB ⟨⟨{ w with drawn := w.drawn + 1 }, hW.drew⟩, rfl⟩ (by simpa using h)
end
section
open Go.RowKit
theorem results_Bx2 {P : Program} {fn : Func} {p u v : Tmp} {ty : TypeId} (h : fn.results = #[.cell p ty, .tmp u, .tmp v]) {tmps : Array Value} {w : World} {g : Nat} {t : TypeId} {cs : Array Value} {d : TypeDesc} {x y : Value} (hp : tmps.getD p undef = .pointer (some ⟨g, 0, none⟩))
 (hB : Blk w g t cs) (hu : P.underlying ty = some d) (hd : d.isRow = true) (hi : (P.info? ty).map (·.size) = some cs.size) (hx : tmps.getD u undef = x) (hy : tmps.getD v undef = y) : (results fn tmps).run P w = .ok (.tuple #[.agg cs, x, y]) w := by
 have h1 := run_loadVarB (P := P) g t ty cs d hB hu hd hi
 simp only [results, h]
 have e : tmps[p]?.getD undef = .pointer (some ⟨g, 0, none⟩) := by simpa using hp
 rw [← hx, ← hy]
 simp [Sem.run_bind, e, run_asAddr, h1]
theorem size_attrI : (Tryz.prog.info? 69).map (·.size) = some 2 := by kernel_rfl
theorem xnm_all {n : ByteArray} (h : xnm n = true) : n.data.toList.all nmcB = true ∧ ∃ c l, n.data.toList = c :: l ∧ letB c = true := by
 unfold xnm xnmL at h
 cases hn : n.data.toList with
 | nil => rw [hn] at h; simp at h
 | cons c l =>
  rw [hn] at h
  simp only [Bool.and_eq_true] at h
  exact ⟨h.1.2, c, l, rfl, h.1.1⟩
theorem mk_list (s : ByteArray) : (⟨s.data.toList.toArray⟩ : ByteArray) = s := by cases s; simp
theorem word_name {s : ByteArray} {i : Nat} {n : ByteArray} {c : UInt8} {r : List UInt8} (hn : xnm n = true) (h : s.data.toList.drop i = n.data.toList ++ c :: r) (hc : nmcB c = false) : wordS s i = n ∧ wordI s i = i + n.size := by
 obtain ⟨ha, c0, l, hl, hc0⟩ := xnm_all hn
 have ht : tw nmcB (s.data.toList.drop i) = n.data.toList.length := by rw [h, tw_all ha, tw_no hc]; rfl
 have hh : (s.data.toList.drop i).head?.any letB = true := by rw [h, hl]; simpa using hc0
 unfold wordS wordI
 rw [if_pos hh, if_pos hh, ht, extract_at h, mk_list, size_toList]
 exact ⟨rfl, rfl⟩
theorem blank_no {s : ByteArray} {i : Nat} {c : UInt8} {r : List UInt8} (h : s.data.toList.drop i = c :: r) (hc : whiteB c = false) : i + tw whiteB (s.data.toList.drop i) = i := by rw [h, tw_no hc]; rfl
theorem blank_one {s : ByteArray} {i : Nat} {c d : UInt8} {r : List UInt8} (h : s.data.toList.drop i = c :: d :: r) (hc : whiteB c = true) (hd : whiteB d = false) : i + tw whiteB (s.data.toList.drop i) = i + 1 := by rw [h, tw_yes hc, tw_no hd]
theorem name_white {n : ByteArray} (h : xnm n = true) : ∃ c l, n.data.toList = c :: l ∧ whiteB c = false ∧ c.toNat ≠ 62 ∧ c.toNat ≠ 47 := by
 obtain ⟨-, c, l, hl, hc⟩ := xnm_all h
 refine ⟨c, l, hl, ?_⟩
 unfold letB at hc
 simp only [Bool.or_eq_true, decide_eq_true_eq] at hc
 unfold whiteB
 simp only [Bool.or_eq_false_iff, decide_eq_false_iff_not]
 omega
def valB (b : UInt8) : Bool := decide (b.toNat ≠ 34 ∧ b.toNat ≠ 60)
def AtRelX (s : ByteArray) (i : Nat) (W : World) (v : Value) (wr : World) : Prop := ∃ k : Nat, k ≤ s.size ∧ i ≤ k ∧ v = .int .i64 k ∧ i + tw valB (s.data.toList.drop i) = k + tw valB (s.data.toList.drop k) ∧ Ext W wr
def attrAg (a : ByteArray × ByteArray) : Value := .agg #[.string a.1, .string a.2]
set_option maxHeartbeats 2000000 in
set_option maxRecDepth 100000 in
theorem attribute_any (s : ByteArray) (i : Nat) (n v : ByteArray) (r : List UInt8) (w : World) (hs : s.size ≤ 4294967296) (hi : i ≤ s.size) (hn : xnm n = true) (hv : v.data.toList.all valB = true)
 (h : s.data.toList.drop i = n.data.toList ++ 61 :: 34 :: (v.data.toList ++ 34 :: r)) :
 Calls Tryz.prog 100 #[.string s, .int .i64 i] w fun e w' => e = .returned (.tuple #[attrAg (n, v), .int .i64 ((i + n.size + 3 + v.size : Nat) : Int), .bool true]) ∧ Ext w w' := by
 have h1 : s.data.toList.drop (i + n.size) = 61 :: 34 :: (v.data.toList ++ 34 :: r) := by rw [← size_toList n]; exact at_append h
 have hr1 : i + n.size ≤ s.size := by rw [← size_toList n]; exact at_room hi h
 obtain ⟨k1, g1, h2⟩ := at_cons h1
 obtain ⟨k2, g2, h3⟩ := at_cons h2
 have h4 : s.data.toList.drop (i + n.size + 1 + 1 + v.size) = 34 :: r := by rw [← size_toList v]; exact at_append h3
 have hr4 : i + n.size + 1 + 1 + v.size ≤ s.size := by rw [← size_toList v]; exact at_room (by omega) h3
 obtain ⟨k3, g3, -⟩ := at_cons h4
 have hw := word_name hn h (by decide)
 have hex : s.extract (i + n.size + 1 + 1) (i + n.size + 1 + 1 + v.size) = v := by
  have := extract_at h3
  rw [size_toList, mk_list] at this
  exact this
 have htv : tw valB (s.data.toList.drop (i + n.size + 1 + 1)) = v.size := by rw [h3, tw_all hv, tw_no (by decide), size_toList]; rfl
 have hb1 : i + n.size + tw whiteB (s.data.toList.drop (i + n.size)) = i + n.size := blank_no h1 (by decide)
 have hb2 : (i + n.size + 1) + tw whiteB (s.data.toList.drop (i + n.size + 1)) = i + n.size + 1 := blank_no h2 (by decide)
 have hne : n.toList.isEmpty = false := by
  have := xnm_ne hn
  rw [ByteArray.toList_eq]
  cases hx : n.data.toList.isEmpty
  · rfl
  · exact absurd (by simpa using hx) this
 obtain ⟨p1, e1⟩ : ∃ p1, p1 = i + n.size := ⟨_, rfl⟩
 obtain ⟨p2, e2⟩ : ∃ p2, p2 = p1 + 1 := ⟨_, rfl⟩
 obtain ⟨p4, e4⟩ : ∃ p4, p4 = p2 + 1 + v.size := ⟨_, rfl⟩
 have HWd : Hid (∀ w, Calls Tryz.prog 54 #[.string s, .int .i64 i] w fun e w' => e = .returned (.tuple #[.string n, .int .i64 (p1 : Int)]) ∧ w = w') := by
  intro w
  have := word_any s i w hs hi
  rw [hw.1, hw.2, ← e1] at this
  exact this
 have HB1 : Hid (∀ w, Calls Tryz.prog 55 #[.string s, .int .i64 (p1 : Int)] w fun e w' => e = .returned (.int .i64 (p1 : Int)) ∧ w = w') := by
  intro w
  have := blanks_any s (i + n.size) w hs hr1
  rw [hb1, ← e1] at this
  exact this
 have HB2 : Hid (∀ w, Calls Tryz.prog 55 #[.string s, .int .i64 ((p1 : Int) + 1)] w fun e w' => e = .returned (.int .i64 (p2 : Int)) ∧ w = w') := by
  intro w
  have := blanks_any s (i + n.size + 1) w hs (by omega)
  rw [hb2, ← e1, ← e2] at this
  rw [show ((p1 : Int) + 1) = (p2 : Int) by omega]
  exact this
 rw [← e1, ← e2] at hex htv
 rw [← e4] at hex
 have k1' : p1 < s.size := by omega
 have k2' : p2 < s.size := by omega
 have k3' : p4 < s.size := by omega
 have q1 : s[p1] = 61 := by simp only [e1]; exact g1
 have q2 : s[p2] = 34 := by simp only [e2, e1]; exact g2
 have q3 : s[p4] = 34 := by simp only [e4, e2, e1]; exact g3
 have HEx := Lib.hid hex
 have HTv := Lib.hid htv
 have HE := Lib.hid (show (i : Int) + n.size + 3 + v.size = p4 + 1 by omega)
 have he4 := Lib.hid e4
 clear h h1 h2 h3 h4 hw hb1 hb2 hex htv hv hn g1 g2 g3 e1 e2 e4
 have HX := Lib.hid ((Ext.refl w).alloc (.cells #[.string ⟨#[]⟩, .string ⟨#[]⟩] 69))
 go_enter Tryz.func100, Tryz.ntmps100
 go_wp2_with fail
 refine (HWd.out _).mono ?_
 rintro e w' ⟨rfl, rfl⟩
 go_wp2_with fail
 refine (HB1.out _).mono ?_
 rintro e w' ⟨rfl, rfl⟩
 go_wp2_with fail
 refine (HB2.out _).mono ?_
 rintro e w' ⟨rfl, rfl⟩
 go_wp2_with fail
 obtain ⟨W0, hW0⟩ : ∃ W0, W0 = w.alloc (.cells #[.string ⟨#[]⟩, .string ⟨#[]⟩] 69) := ⟨_, rfl⟩
 have HB0 : Hid (Blk W0 w.heap.size 69 #[.string ⟨#[]⟩, .string ⟨#[]⟩]) := by show Blk _ _ _ _; rw [hW0]; exact Blk.new _ _ _
 rw [← hW0]
 rw [← hW0] at HX
 clear hW0
 go_loopw [8] (fun v wr => AtRelX s (p2 + 1) W0 v wr) (fun v _ => s.size - (intOf v).toNat)
 case atStart => exact ⟨p2 + 1, by omega, Nat.le_refl _, by go_num, rfl, Ext.refl _⟩
 case round =>
  obtain ⟨k, hk, hik, rfl, hall, hx⟩ := hrel
  have hp4 : p4 = k + tw valB (s.data.toList.drop k) := by have := he4.out; have := HTv.out; omega
  have hlt : k < s.size := by omega
  have HP := Lib.hid hp4
  have HA := Lib.hid hall
  have HXr := Lib.hid hx
  clear hall hp4 hx
  have q2n : (s[p2].toNat : Int) = 34 := by rw [q2]; rfl
  cases hb : valB s[k]
  · have ek : p4 = k := by rw [HP.out, drop_get s k hlt, tw_no hb]; rfl
    subst ek
    have hb1 : ((34 : Int) != 34) = false := rfl
    have hd4 : decide (s.size ≤ p4) = false := decide_eq_false (by omega)
    have hn4 : ¬ s.size ≤ p4 := by omega
    clear hb
    go_wp2_with fail
    refine wp_region_ew wr (Ext.refl _) (by kernel_rfl) (by kernel_rfl) ?_
    repeat (go_big_quiet_step (fail))
    refine wpQuiet_nil ?_
    rintro w6 ⟨⟨_, hx6⟩, rfl⟩
    try dsimp only
    have HX6 := Lib.hid (HXr.out.trans hx6)
    clear hx6
    go_wp2_with fail
    refine wp_region_ew w6 (Ext.refl _) (by kernel_rfl) (by kernel_rfl) ?_
    repeat (go_big_quiet_step (fail))
    refine wpQuiet_nil ?_
    rintro w7 ⟨⟨_, hx7⟩, rfl⟩
    try dsimp only
    have HX7 := Lib.hid (HX6.out.trans hx7)
    have HB7 := Lib.hid (HB0.out.ext HX7.out)
    clear hx7
    have hexr := HEx.out
    go_wp2_with (refine wpList_storeB rfl 69 (.tmp 4) (.tmp 96) rfl w.heap.size 69 _ _ (by exact rfl) (by exact rfl) (by exact HB7.out) (by exact rfl) (by exact size_attrI) (by simp [Value.oneCell']) ?_)
    refine bodyPost_ret (v := .tuple #[.agg #[.string n, .string v], .int .i64 ((p4 : Int) + 1), .bool true]) ?_ rfl ⟨?_, ?_⟩
    · exact results_Bx2 Tryz.results100 rfl (HB7.out.put _) Tryz.underlying69 rfl size_attrI rfl rfl
    · rw [← HE.out]; rfl
    · exact (HX.out.trans HX7.out).put (Nat.le_refl _) _ _
  · have HF : Hid (p2 + 1 + tw valB (s.data.toList.drop (p2 + 1)) = (k + 1) + tw valB (s.data.toList.drop (k + 1))) := by show _ = _; rw [HA.out, drop_get s k hlt, tw_yes hb]; omega
    unfold valB at hb
    simp only [decide_eq_true_eq] at hb
    have hb1 : ((s[k].toNat : Int) != 34) = true := bne_iff_ne.2 (by omega)
    have hb2 : ((s[k].toNat : Int) != 60) = true := bne_iff_ne.2 (by omega)
    clear hb
    go_wp2_with fail
    refine wp_region_ew wr (Ext.refl _) (by kernel_rfl) (by kernel_rfl) ?_
    repeat (go_big_quiet_step (fail))
    refine wpQuiet_nil ?_
    rintro w6 ⟨⟨_, hx6⟩, rfl⟩
    try dsimp only
    have HX6 := Lib.hid (HXr.out.trans hx6)
    clear hx6
    go_wp2_with fail
    exact ⟨⟨k + 1, by omega, by omega, by go_num, HF.out, HX6.out⟩, by simp [intOf]; omega⟩
end
section
open Go.RowKit Go.Maps
def KB (T : TypeId) (w w' : World) : Prop := ∀ (b : Nat) (cur : Array Value), w.heap[b]? = some (Obj.cells cur T (0, 0)) → w'.heap[b]? = some (Obj.cells cur T (0, 0))
section
variable {T T' : TypeId} {w w1 w2 : World} {L n : Nat} {A : Option Addr}
theorem KB.refl (w : World) : KB T w w := fun _ _ h => h
theorem KB.trans (h : KB T w w1) (k : KB T w1 w2) : KB T w w2 := fun b cur hb => k b cur (h b cur hb)
theorem KB.ext (k : Ext w w1) : KB T w w1 := fun b _ hb => (k.block b (Array.getElem?_eq_some_iff.1 hb).1).trans hb
theorem KB.put {g : Nat} {cs cs' : Array Value} (hB : Blk w g T' cs) (hne : T ≠ T') : KB T w (putB w g T' cs') := fun b cur hb => by
 have hn : g ≠ b := (Typed.ne ⟨cur, hb⟩ hB.typed hne).symm
 unfold putB
 simp only
 rw [Array.getElem?_setIfInBounds_ne hn]
 exact hb
theorem KB.set {p : Addr} {u : Value} (hT : Typed w T' p.block) (hne : T ≠ T') : KB T w (w.setCell p u) := fun b cur hb => by
 have hn : b ≠ p.block := Typed.ne ⟨cur, hb⟩ hT hne
 rw [RowKit.Below.heap_setCell _ _ _ _ hn]
 exact hb
theorem KB.sets {g : Nat} (hne : T ≠ T') : ∀ (vs : List Value) (o : Nat) (w : World), Typed w T' g → KB T w (w.setCells g o vs)
 | [], _, w, _ => KB.refl w
 | v :: vs, o, w, h => (KB.set (p := ⟨g, o, none⟩) h hne).trans (KB.sets hne vs (o + 1) _ (h.setCell _ _))
theorem KB.grown {row : Option Nat} (hg : w.grownBy w1 row) (hr : ∀ q, row = some q → Typed w T' q) (hne : T ≠ T') : KB T w w1 := fun b cur hb => by
 refine (hg.block b (Array.getElem?_eq_some_iff.1 hb).1 (fun e => ?_)).trans hb
 exact Typed.ne ⟨cur, hb⟩ (hr b e.symm) hne rfl
theorem KB.turned {b : Nat} (h : w.mapTurned w1 b) : KB T w w1 := fun c cur hc => by
 obtain ⟨es, cl, es', cl', hb, rfl⟩ := h
 have hn : b ≠ c := fun e => by subst e; rw [hb] at hc; cases hc
 show (w.heap.setIfInBounds b _)[c]? = _
 rw [Array.getElem?_setIfInBounds_ne hn]
 exact hc
theorem Typed.kb (h : Typed w T n) (k : KB T w w1) : Typed w1 T n := h.elim fun cur hb => ⟨cur, k _ _ hb⟩
theorem Typed.sets {g b : Nat} : ∀ (vs : List Value) (o : Nat) (w : World), Typed w T b → Typed (w.setCells g o vs) T b
 | [], _, _, h => h
 | v :: vs, o, w, h => Typed.sets vs (o + 1) _ (h.setCell _ _)
theorem Typed.cell_kb (h : Typed w T n) (k : KB T w w1) (o : Nat) : w1.cell? ⟨n, o, none⟩ = w.cell? ⟨n, o, none⟩ := by
 obtain ⟨cur, hb⟩ := h
 simp [World.cell?, hb, k _ _ hb]
end
def KM (w w' : World) : Prop := ∀ (b : Nat) (es : Array MapEntry) (cl : Nat), w.heap[b]? = some (Obj.map es cl) → w'.heap[b]? = some (Obj.map es cl)
structure Only (T : TypeId) (w w' : World) : Prop where
 kb : ∀ T', T' ≠ T → KB T' w w'
 km : KM w w'
section
variable {T T' : TypeId} {w w1 w2 : World}
theorem Only.refl (w : World) : Only T w w := ⟨fun _ _ => KB.refl w, fun _ _ _ h => h⟩
theorem Only.trans (h : Only T w w1) (k : Only T w1 w2) : Only T w w2 := ⟨fun T' hn => (h.kb T' hn).trans (k.kb T' hn), fun b es cl hb => k.km b es cl (h.km b es cl hb)⟩
theorem Only.ext (k : Ext w w1) : Only T w w1 := ⟨fun _ _ => KB.ext k, fun b _ _ hb => (k.block b (Array.getElem?_eq_some_iff.1 hb).1).trans hb⟩
theorem Only.put {g : Nat} {cs cs' : Array Value} (hB : Blk w g T cs) : Only T w (putB w g T cs') := ⟨fun _ hn => KB.put hB hn, fun b es cl hb => by
 have hn : g ≠ b := fun e => by subst e; rw [show w.heap[g]? = _ from hB] at hb; cases hb
 unfold putB
 simp only
 rw [Array.getElem?_setIfInBounds_ne hn]
 exact hb⟩
theorem Only.set {p : Addr} {u : Value} (hT : Typed w T p.block) : Only T w (w.setCell p u) := ⟨fun _ hn => KB.set hT hn, fun b es cl hb => by
 have hn : b ≠ p.block := fun e => by subst e; obtain ⟨cur, hc⟩ := hT; rw [hc] at hb; cases hb
 rw [RowKit.Below.heap_setCell _ _ _ _ hn]
 exact hb⟩
theorem Only.sets {g : Nat} : ∀ (vs : List Value) (o : Nat) (w : World), Typed w T g → Only T w (w.setCells g o vs)
 | [], _, w, _ => Only.refl w
 | v :: vs, o, w, h => (Only.set (p := ⟨g, o, none⟩) h).trans (Only.sets vs (o + 1) _ (h.setCell _ _))
theorem Only.grown {row : Option Nat} (hg : w.grownBy w1 row) (hr : ∀ q, row = some q → Typed w T q) : Only T w w1 := ⟨fun _ hn => KB.grown hg hr hn, fun b es cl hb => by
 refine (hg.block b (Array.getElem?_eq_some_iff.1 hb).1 (fun e => ?_)).trans hb
 obtain ⟨cur, hc⟩ := hr b e.symm
 rw [hc] at hb; cases hb⟩
theorem Blk.kb {g : Nat} {cs : Array Value} (h : Blk w g T cs) (k : KB T w w1) : Blk w1 g T cs := k g cs h
theorem Blk.only {g : Nat} {cs : Array Value} (h : Blk w g T' cs) (k : Only T w w1) (hn : T' ≠ T) : Blk w1 g T' cs := (k.kb T' hn) g cs h
end
theorem getElem_ltq {α : Type} {l : List α} {p : Nat} (h : p < l.length) : ∃ v, l[p]? = some v := ⟨_, List.getElem?_eq_getElem h⟩
end
section
open Go.RowKit
def attrVs (a : ByteArray × ByteArray) : List Value := [.string a.1, .string a.2]
def rawA (al : List (ByteArray × ByteArray)) : List (ByteArray × ByteArray) := al.map fun a => (a.1, escS a.2)
def tokC (k : Int) (n : ByteArray) (v : Value) (t : ByteArray) : Array Value := #[.int .i64 k, .string n, v, .string t]
theorem info_attrI : (Tryz.prog.info? 69).map (fun i => (i.zero, i.size, i.bytes)) = some (some (.agg #[.string ⟨#[]⟩, .string ⟨#[]⟩]), 2, 32) := by kernel_rfl
theorem size_tokI : (Tryz.prog.info? 106).map (·.size) = some 4 := by kernel_rfl
theorem escS_list (v : ByteArray) : (escS v).data.toList = esc v.data.toList := rfl
theorem esc_val (v : ByteArray) : (escS v).data.toList.all valB = true := by
 rw [escS_list, List.all_eq_true]
 intro b hb
 have := esc_clean b hb
 unfold valB
 rw [decide_eq_true_eq]
 exact ⟨fun e => this.2.2.1 (UInt8.toNat_inj.1 e), fun e => this.1 (UInt8.toNat_inj.1 e)⟩
theorem Blk.grownX {w w1 : World} {g : Nat} {t T' : TypeId} {cs : Array Value} {row : Option Nat} (h : Blk w g t cs) (hg : w.grownBy w1 row) (hr : ∀ q, row = some q → Typed w T' q) (hne : t ≠ T') : Blk w1 g t cs :=
 (hg.block g h.lt (fun e => Typed.ne h.typed (hr g e.symm) hne rfl)).trans h
theorem own_kbX {w w1 : World} {L size n : Nat} {T : TypeId} {v : Value} {xs : List Value} (h : w.ownsRow L T size v n xs) (k : KB T w w1) : w1.ownsRow L T size v n xs := by
 refine ⟨h.1, ?_⟩
 rcases h.2 with hn | ⟨g, cap, cur, rfl, hb, hg, rest⟩
 · exact .inl hn
 · exact .inr ⟨g, cap, cur, rfl, hb, k g cur hg, rest⟩
theorem own_one {w : World} {L size n : Nat} {T : TypeId} {v : Value} {xs : List Value} (h : w.ownsRow L T size v n xs) : v.oneCell' = true := by
 rcases h.2 with ⟨rfl, -⟩ | ⟨g, cap, cur, rfl, -⟩ <;> rfl
def StRel (w : World) (s n : ByteArray) (al : List (ByteArray × ByteArray)) (tail : List UInt8) (v : Value) (wr : World) : Prop :=
 ∃ (j p : Nat) (vs : Value), j ≤ al.length ∧ v = .int .i64 p ∧ p ≤ s.size ∧ s.data.toList.drop p = (al.drop j).flatMap attrL ++ tail ∧ wr.ownsRow (w.heap.size + 2) 69 2 vs j ((rawA (al.take j)).flatMap attrVs) ∧
  Blk wr (w.heap.size + 1) 106 (tokC 1 n vs ⟨#[]⟩) ∧ Blk wr w.heap.size 106 (tokC 0 ⟨#[]⟩ (.slice none 0 0) ⟨#[]⟩) ∧ Ext w wr
def StPost (w : World) (n : ByteArray) (al : List (ByteArray × ByteArray)) (kind : Int) (len : Nat) (e : Ending) (w' : World) : Prop :=
 ∃ vs, e = .returned (.tuple #[.agg (tokC kind n vs ⟨#[]⟩), .int .i64 (len : Int), .bool true]) ∧ w'.ownsRow (w.heap.size + 2) 69 2 vs al.length ((rawA al).flatMap attrVs) ∧ Ext w w'
set_option maxHeartbeats 4000000 in
set_option maxRecDepth 100000 in
theorem startTag_core (s n : ByteArray) (al : List (ByteArray × ByteArray)) (kd : Int) (tail : List UInt8) (pe : Nat) (w : World) (hs : s.size ≤ 4294967296) (hel : ElOk n al)
 (hb : s.data.toList = 60 :: (n.data.toList ++ (al.flatMap attrL ++ tail))) (hk : (kd = 1 ∧ (∃ r, tail = 62 :: r) ∧ pe = 1 + n.size + (al.flatMap attrL).length + 1) ∨ (kd = 3 ∧ (∃ r, tail = 47 :: 62 :: r) ∧ pe = 1 + n.size + (al.flatMap attrL).length + 2)) :
 Calls Tryz.prog 56 #[.string s] w (StPost w n al kd pe) := by
 have h1 : s.data.toList.drop 1 = n.data.toList ++ (al.flatMap attrL ++ tail) := by rw [hb]; rfl
 have hsz : 1 ≤ s.size := by rw [← size_toList s, hb, List.length_cons]; omega
 have hx : ∃ c t, al.flatMap attrL ++ tail = c :: t ∧ nmcB c = false := by
  cases al with
  | nil =>
   rcases hk with ⟨-, ⟨r, ht⟩, -⟩ | ⟨-, ⟨r, ht⟩, -⟩
   · rw [ht]; exact ⟨_, _, rfl, by decide⟩
   · rw [ht]; exact ⟨_, _, rfl, by decide⟩
  | cons a l => exact ⟨32, _, rfl, by decide⟩
 obtain ⟨c, t, hct, hc⟩ := hx
 have hw := word_name hel.nm (by rw [h1, hct]) hc
 have hr1 : 1 + n.size ≤ s.size := by rw [← size_toList n]; exact at_room hsz h1
 have h2 : s.data.toList.drop (1 + n.size) = al.flatMap attrL ++ tail := by rw [← size_toList n]; exact at_append h1
 have hne : n.toList.isEmpty = false := by
  have := xnm_ne hel.nm
  rw [ByteArray.toList_eq]
  cases hx : n.data.toList.isEmpty
  · rfl
  · exact absurd (by simpa using hx) this
 obtain ⟨p1, e1⟩ : ∃ p1, p1 = 1 + n.size := ⟨_, rfl⟩
 rw [← e1] at hr1 h2
 have HWd : Hid (∀ w, Calls Tryz.prog 54 #[.string s, .int .i64 1] w fun e w' => e = .returned (.tuple #[.string n, .int .i64 (p1 : Int)]) ∧ w = w') := by
  intro w
  have := word_any s 1 w hs hsz
  rw [hw.1, hw.2, ← e1] at this
  exact this
 have HBl := Lib.hid (fun i hi w => blanks_any s i w hs hi)
 have HAt := Lib.hid (fun i n v r w hi hn hv h => attribute_any s i n v r w hs hi hn hv h)
 have HEl := Lib.hid hel
 have H2 := Lib.hid h2
 have hsz2 : s.size = 1 + n.size + (al.flatMap attrL).length + tail.length := by
  rw [← size_toList s, hb, List.length_cons, List.length_append, List.length_append, size_toList]; omega
 have HSz := Lib.hid hsz2
 clear hsz2
 have HT := Lib.hid hk
 clear hel hb h1 hct hc hw h2 hk
 have HE1 := Lib.hid e1
 clear e1
 go_enter Tryz.func56, Tryz.ntmps56
 go_wp2_with fail
 refine (HWd.out _).mono ?_
 rintro e w' ⟨rfl, rfl⟩
 go_wp2_with fail
 go_loopw [6] (fun v wr => StRel w s n al tail v wr) (fun v _ => s.size - (intOf v).toNat)
 case atStart =>
  exact ⟨0, p1, .slice none 0 0, Nat.zero_le _, rfl, hr1, by rw [List.drop_zero]; exact H2.out, ⟨rfl, .inl ⟨rfl, rfl⟩⟩, Blk.new' (by simp), (Blk.new w _ _).alloc _, ((Ext.refl w).alloc _).alloc _⟩
 case round =>
  obtain ⟨j, p, vs, hj, rfl, hp, hd, hown, hB, hZ, hx⟩ := hrel
  have HO := Lib.hid hown
  have HB := Lib.hid hB
  have HZ := Lib.hid hZ
  have HX := Lib.hid hx
  clear hown hB hZ hx
  by_cases hlt : j < al.length
  · obtain ⟨a, ha⟩ : ∃ a, al[j]? = some a := ⟨_, List.getElem?_eq_getElem hlt⟩
    have hdj : al.drop j = a :: al.drop (j + 1) := by rw [List.drop_eq_getElem_cons hlt]; congr 1; exact (List.getElem?_eq_some_iff.1 ha).2
    have hmem := List.mem_of_getElem? ha
    obtain ⟨han, -⟩ := HEl.out.each a hmem
    obtain ⟨c, l, hcl, hcw, hc1, hc2⟩ := name_white han
    have hd1 : s.data.toList.drop p = 32 :: (a.1.data.toList ++ 61 :: 34 :: ((escS a.2).data.toList ++ 34 :: ((al.drop (j + 1)).flatMap attrL ++ tail))) := by
     rw [hd, hdj, List.flatMap_cons, attrL, escS_list]; simp
    obtain ⟨kp, gp, hd2⟩ := at_cons hd1
    have hd3 : s.data.toList.drop (p + 1) = c :: (l ++ 61 :: 34 :: ((escS a.2).data.toList ++ 34 :: ((al.drop (j + 1)).flatMap attrL ++ tail))) := by rw [hd2, hcl]; rfl
    obtain ⟨kq, gq, -⟩ := at_cons hd3
    have hbl : p + tw whiteB (s.data.toList.drop p) = p + 1 := blank_one (by rw [hd1, hcl]; rfl) (by decide) hcw
    have hroom := at_room (by omega : p + 1 ≤ s.size) hd2
    obtain ⟨q, eq⟩ : ∃ q, q = p + 1 := ⟨_, rfl⟩
    have h5 : s.data.toList.drop (q + a.1.size + 3 + (escS a.2).size) = (al.drop (j + 1)).flatMap attrL ++ tail := by
     have h6 : s.data.toList.drop (p + 1) = (a.1.data.toList ++ 61 :: 34 :: ((escS a.2).data.toList ++ [34])) ++ ((al.drop (j + 1)).flatMap attrL ++ tail) := by rw [hd2]; simp
     have h7 := at_append h6
     rw [← h7]
     congr 1
     simp only [List.length_append, List.length_cons, List.length_nil, size_toList]
     omega
    have hle : q + a.1.size + 3 + (escS a.2).size ≤ s.size := by
     simp only [List.length_append, List.length_cons, size_toList] at hroom
     have h6 : s.data.toList.drop (p + 1) = (a.1.data.toList ++ 61 :: 34 :: ((escS a.2).data.toList ++ [34])) ++ ((al.drop (j + 1)).flatMap attrL ++ tail) := by rw [hd2]; simp
     have h7 := at_room (by omega : p + 1 ≤ s.size) h6
     simp only [List.length_append, List.length_cons, List.length_nil, size_toList] at h7
     omega
    have HBq : Hid (∀ w, Calls Tryz.prog 55 #[.string s, .int .i64 (p : Int)] w fun e w' => e = .returned (.int .i64 (q : Int)) ∧ w = w') := by
     intro w
     have := HBl.out p hp w
     rw [hbl, ← eq] at this
     exact this
    obtain ⟨p', ep⟩ : ∃ p', p' = q + a.1.size + 3 + (escS a.2).size := ⟨_, rfl⟩
    have HAq : Hid (∀ w, Calls Tryz.prog 100 #[.string s, .int .i64 (q : Int)] w fun e w' => e = .returned (.tuple #[.agg #[.string a.1, .string (escS a.2)], .int .i64 (p' : Int), .bool true]) ∧ Ext w w') := by
     intro w
     have := HAt.out q a.1 (escS a.2) _ w (by omega) han (esc_val a.2) (by rw [eq]; exact hd2)
     rw [← ep] at this
     exact this
    rw [← ep] at h5 hle
    have kq' : q < s.size := by omega
    have kq2 : q + 1 < s.size := by
     have := name_white han
     have : 1 ≤ a.1.size := by have := xnm_pos han; omega
     omega
    have gq' : s[q] = c := by simp only [eq]; exact gq
    have b1 : ((s[q].toNat : Int) == 62) = false := beq_eq_false_iff_ne.2 (by rw [gq']; omega)
    have b2 : ((s[q].toNat : Int) == 47) = false := beq_eq_false_iff_ne.2 (by rw [gq']; omega)
    have b3 : ((q : Int) == (p : Int)) = false := beq_eq_false_iff_ne.2 (by omega)
    have HJ := Lib.hid ha
    have H5 := Lib.hid h5
    have HLe := Lib.hid hle
    have hpp : p < p' := by omega
    clear ha hdj hmem han hcl hcw hc1 hc2 hd1 gp hd2 hd3 gq hbl hroom eq h5 hle ep gq' hd kp
    go_wp2_with fail
    refine (HBq.out _).mono ?_
    rintro e w' ⟨rfl, rfl⟩
    go_wp2_with fail
    refine (HAq.out _).mono ?_
    rintro e w2 ⟨rfl, hx2⟩
    have HX2 := Lib.hid (HX.out.trans hx2)
    have HO2 := Lib.hid (own_ext HO.out hx2)
    have HB2 := Lib.hid (HB.out.ext hx2)
    have HZ2 := Lib.hid (HZ.out.ext hx2)
    have hz2 := HX2.out.size
    have hzb := HB2.out.lt
    have hj16 : al.length ≤ 16 := HEl.out.few
    clear hx2 HX HO HB HZ
    have hc := fun o => (HB2.out.alloc (.cells #[.string a.1, .string (escS a.2)] 69)).cell o
    unfold tokC at hc
    go_wp2_with (first | (refine wpList_loadB rfl 69 (.tmp 9) rfl w2.heap.size 69 _ _ (by exact rfl) (by exact Blk.new w2 _ _) Tryz.underlying69 rfl (by exact size_attrI) ?_) | (at_builtin; refine wpList_append1 rfl (.tmp 78) (.tmp 80) 85 rfl info_attrI Tryz.underlying85 rfl (by decide) ((HO2.out.alloc _).alloc _) (by exact rfl) (w2.heap.size + 1) _ (by exact rfl) (by exact Blk.new' (by simp)) (by exact rfl) (by simp [Value.oneCell']) (by omega) (by simp [maxLen]; omega) (by simp only [World.size_alloc]; omega) ?_; intro v' w7 hown7 hgr; have HB7 := Lib.hid (Blk.grownX ((HB2.out.alloc _).alloc _) hgr (own_typed ((HO2.out.alloc _).alloc _)) (by decide)); have HZ7 := Lib.hid (Blk.grownX ((HZ2.out.alloc _).alloc _) hgr (own_typed ((HO2.out.alloc _).alloc _)) (by decide)); have HX7 := Lib.hid (((HX2.out.alloc _).alloc _).grown hgr (fun q hq => Nat.le_trans (by omega) (own_lt HO2.out q hq))); obtain ⟨g7, cap7, rfl, -, -⟩ := own_form hown7 (by omega); have HO7 := Lib.hid hown7; clear hown7 hgr; have hc7 := fun o => HB7.out.cell o; have hf7 := fun o => HB7.out.frozen o; have hs7 := fun u => setCell_put HB7.out 2 u; unfold tokC at hc7 hs7))
    refine ⟨⟨j + 1, p', _, by omega, rfl, HLe.out, H5.out, ?_, HB7.out.put _, HZ7.out.put_other (by omega) _, HX7.out.put (by omega) _ _⟩, by simp only [intOf]; have := HLe.out; omega⟩
    have e7 : (rawA (al.take (j + 1))).flatMap attrVs = (rawA (al.take j)).flatMap attrVs ++ [.string a.1, .string (escS a.2)] := by
     rw [take_snoc' al j a HJ.out, rawA, List.map_append, List.flatMap_append]; rfl
    rw [e7]
    exact own_kbX HO7.out (KB.put HB7.out (by decide))
  · have hjl : j = al.length := by omega
    subst hjl
    rw [List.drop_length] at hd
    have hd' : s.data.toList.drop p = tail := hd
    have hpe : p = 1 + n.size + (al.flatMap attrL).length := by
     have := congrArg List.length hd'
     rw [List.length_drop, size_toList] at this
     have := HSz.out
     omega
    rw [List.take_length] at HO
    have hc := fun o => HB.out.cell o
    unfold tokC at hc
    have HT' := HT.out
    rcases HT' with ⟨rfl, ⟨r, hr⟩, hpe2⟩ | ⟨rfl, ⟨r, hr⟩, hpe2⟩
    · obtain ⟨kp, gp, -⟩ := at_cons (hd'.trans hr)
      have hbl : p + tw whiteB (s.data.toList.drop p) = p := blank_no (hd'.trans hr) (by decide)
      have HBq : Hid (∀ w, Calls Tryz.prog 55 #[.string s, .int .i64 (p : Int)] w fun e w' => e = .returned (.int .i64 (p : Int)) ∧ w = w') := by
       intro w
       have := HBl.out p hp w
       rw [hbl] at this
       exact this
      have HPe : Hid (pe = p + 1) := by show _ = _; omega
      clear hbl hd hd' hr hpe2 hpe
      go_wp2_with fail
      refine (HBq.out _).mono ?_
      rintro e w' ⟨rfl, rfl⟩
      have h1c := own_one HO.out
      go_wp2_with (first | (refine wpList_loadB rfl 106 (.tmp 7) rfl (w.heap.size + 1) 106 _ _ (by exact rfl) (by exact HB.out) Tryz.underlying106 rfl (by exact size_tokI) ?_) | (refine wpList_storeB rfl 106 (.tmp 2) (.tmp 36) rfl w.heap.size 106 _ _ (by exact rfl) (by exact rfl) (by exact HZ.out) (by exact rfl) (by exact size_tokI) (by simp [Value.oneCell', tokC]; exact h1c) ?_))
      refine bodyPost_ret (v := .tuple #[.agg (tokC 1 n vs ⟨#[]⟩), .int .i64 ((p : Int) + 1), .bool true]) ?_ rfl ⟨vs, ?_, ?_, ?_⟩
      · exact results_Bx2 Tryz.results56 rfl (HZ.out.put _) Tryz.underlying106 rfl size_tokI rfl rfl
      · rw [HPe.out]; rfl
      · exact own_kbX HO.out (KB.put HZ.out (by decide))
      · exact HX.out.put (Nat.le_refl _) _ _
    · obtain ⟨kp, gp, hd2⟩ := at_cons (hd'.trans hr)
      obtain ⟨kq, gq, -⟩ := at_cons hd2
      have hbl : p + tw whiteB (s.data.toList.drop p) = p := blank_no (hd'.trans hr) (by decide)
      have HBq : Hid (∀ w, Calls Tryz.prog 55 #[.string s, .int .i64 (p : Int)] w fun e w' => e = .returned (.int .i64 (p : Int)) ∧ w = w') := by
       intro w
       have := HBl.out p hp w
       rw [hbl] at this
       exact this
      have HPe : Hid (pe = p + 2) := by show _ = _; omega
      have HBp : Hid (Blk (putB wr (w.heap.size + 1) 106 (tokC 3 n vs ⟨#[]⟩)) (w.heap.size + 1) 106 (tokC 3 n vs ⟨#[]⟩)) := HB.out.put _
      have HZp : Hid (Blk (putB wr (w.heap.size + 1) 106 (tokC 3 n vs ⟨#[]⟩)) w.heap.size 106 (tokC 0 ⟨#[]⟩ (.slice none 0 0) ⟨#[]⟩)) := HZ.out.put_other (by omega) _
      clear hbl hd hd' hd2 hr hpe2 hpe
      go_wp2_with fail
      refine (HBq.out _).mono ?_
      rintro e w' ⟨rfl, rfl⟩
      have h1c := own_one HO.out
      have hf := fun o => HB.out.frozen o
      have hs0 : wr.setCell ⟨w.heap.size + 1, 0, none⟩ (.int .i64 3) = putB wr (w.heap.size + 1) 106 (tokC 3 n vs ⟨#[]⟩) := setCell_put HB.out 0 _
      go_wp2_with (first | (refine wpList_loadB rfl 106 (.tmp 7) rfl (w.heap.size + 1) 106 _ _ (by exact rfl) (by exact HBp.out) Tryz.underlying106 rfl (by exact size_tokI) ?_) | (refine wpList_storeB rfl 106 (.tmp 2) (.tmp 59) rfl w.heap.size 106 _ _ (by exact rfl) (by exact rfl) (by exact HZp.out) (by exact rfl) (by exact size_tokI) (by simp [Value.oneCell', tokC]; exact h1c) ?_))
      refine bodyPost_ret (v := .tuple #[.agg (tokC 3 n vs ⟨#[]⟩), .int .i64 ((p : Int) + 2), .bool true]) ?_ rfl ⟨vs, ?_, ?_, ?_⟩
      · exact results_Bx2 Tryz.results56 rfl (HZp.out.put _) Tryz.underlying106 rfl size_tokI rfl rfl
      · rw [HPe.out]; rfl
      · exact own_kbX (own_kbX HO.out (KB.put HB.out (by decide))) (KB.put HZp.out (by decide))
      · exact (HX.out.put (by omega) _ _).put (Nat.le_refl _) _ _
end
end Go.Proofs.YtbmblnhfmpolbaaGreatDoor