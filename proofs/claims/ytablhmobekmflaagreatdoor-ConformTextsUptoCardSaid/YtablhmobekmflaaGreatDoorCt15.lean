/- Texts laid together. -/
import Derived.Test.YtablhmobekmflaaGreatDoorCt14
import Derived.Laws.IdiomStrings
import Derived.Test.YtablhmobekmflaaGreatDoorCt07
import Derived.Test.YtablhmobekmflaaGreatDoorCt08
import Derived.Test.YtablhmobekmflaaGreatDoorCt13
import Derived.Sort.Walk0
import Derived.Test.YtablhmobekmflaaGreatDoorCt09
set_option linter.unusedVariables false
set_option linter.unusedSimpArgs false
namespace Go.Proofs.YtablhmobekmflaaGreatDoor
section
open Go.RowKit
def digS : ByteArray := ⟨#[48, 49, 50, 51, 52, 53, 54, 55, 56, 57]⟩
theorem digS_at : ∀ k, k < 10 → digS.extract k (k + 1) = ⟨#[UInt8.ofNat (48 + k)]⟩
 | 0, _ => rfl | 1, _ => rfl | 2, _ => rfl | 3, _ => rfl | 4, _ => rfl | 5, _ => rfl | 6, _ => rfl | 7, _ => rfl | 8, _ => rfl | 9, _ => rfl
 | k + 10, h => absurd h (by omega)
theorem dec_step {u : Nat} (h : 10 ≤ u) (t : ByteArray) : Lib.decDigits u ++ t.data.toList = Lib.decDigits (u / 10) ++ (digS.extract (u % 10) (u % 10 + 1) ++ t).data.toList := by
 rw [digS_at _ (Nat.mod_lt _ (by decide)), Lib.decDigits, dif_neg (by omega), List.append_assoc]
 simp
theorem dec_end {n u : Nat} (h : u < 10) {t : ByteArray} (hd : Lib.decDigits n = Lib.decDigits u ++ t.data.toList) : (⟨#[]⟩ ++ digS.extract u (u + 1) ++ t : ByteArray) = decB n := by
 rw [digS_at _ h]
 have h2 : Lib.itoa (n : Int) = Lib.decDigits n := by unfold Lib.itoa; rw [if_neg (by omega)]; simp
 unfold decB
 rw [h2, hd, Lib.decDigits, dif_pos h]
 apply ByteArray.ext
 simp
theorem dec_len (n : Nat) : (Lib.decDigits n).length ≤ n / 10 + 1 := by
 induction n using Nat.strongRecOn with
 | _ u ih =>
  rw [Lib.decDigits]
  split
  · simp
  · have := ih (u / 10) (by omega)
    simp
    omega
theorem dec_tail {n u : Nat} {t : ByteArray} (hd : Lib.decDigits n = Lib.decDigits u ++ t.data.toList) : t.size ≤ n / 10 + 1 := by
 have h := dec_len n
 rw [hd, List.length_append] at h
 have : t.data.toList.length = t.size := by cases t; simp [ByteArray.size]
 omega
def Dec7Rel (w : World) (n : Nat) (v3 v6 : Value) (wr : World) : Prop := ∃ (u : Nat) (t : ByteArray), v3 = .int .u64 u ∧ v6 = .string t ∧ wr = w ∧ u ≤ n ∧ Lib.decDigits n = Lib.decDigits u ++ t.data.toList
set_option maxRecDepth 100000 in
set_option maxHeartbeats 4000000 in
theorem R7Decimal_any (n : Nat) (w : World) (hn : n ≤ 9223372036854775807) :
 Calls Tryz.prog 66 #[.int .i64 n] w fun e w' => e = .returned (.string (decB n)) ∧ Ext w w' := by
 have hw : IntKind.u64.wrap (n : Int) = n := by unfold IntKind.wrap; simp [IntKind.bits, IntKind.signed]; omega
 have hneg : decide ((n : Int) < 0) = false := by simp
 go_enter Tryz.func66, Tryz.ntmps66
 go_wp2_with fail
 go_loopw [3, 6] (fun v3 v6 wr => Dec7Rel w n v3 v6 wr) (fun v3 _ _ => (intOf v3).toNat)
 case atStart => exact ⟨n, ⟨#[]⟩, rfl, rfl, rfl, Nat.le_refl _, by simp⟩
 case round =>
  obtain ⟨u, t, rfl, rfl, rfl, hu, hd⟩ := hrel
  have HD := Lib.hid hd
  have hts := dec_tail hd
  clear hd
  by_cases h10 : 10 ≤ u
  · have g1 : decide ((u : Int) ≥ 10) = true := by simp; omega
    have g2 : decide ((10 : Int) ≤ u) = true := by simp; omega
    go_wp2_with fail
    all_goals first | (exfalso; omega) | skip
    exact ⟨⟨u / 10, _, by go_num, rfl, rfl, by omega, by rw [HD.out]; exact dec_step h10 t⟩, by simp [intOf]; omega⟩
  · have g1 : decide ((u : Int) ≥ 10) = false := by simp; omega
    have g2 : decide ((10 : Int) ≤ u) = false := by simp; omega
    have HE := Lib.hid (dec_end (by omega) HD.out)
    unfold digS at HE
    clear HD
    go_wp2_with fail
    all_goals first | (exfalso; omega) | skip
    go_ret
    exact ⟨by rw [HE.out]; rfl, Ext.refl _⟩
theorem dec_endN {n u : Nat} (hn : 1 ≤ n) (h : u < 10) {t : ByteArray} (hd : Lib.decDigits n = Lib.decDigits u ++ t.data.toList) : (⟨#[45]⟩ ++ digS.extract u (u + 1) ++ t : ByteArray) = decB (-(n : Int)) := by
 rw [digS_at _ h]
 have h2 : Lib.itoa (-(n : Int)) = 45 :: Lib.decDigits n := by unfold Lib.itoa; rw [if_pos (by omega)]; simp
 unfold decB
 rw [h2, hd, Lib.decDigits, dif_pos h]
 apply ByteArray.ext
 simp
set_option maxRecDepth 100000 in
set_option maxHeartbeats 4000000 in
theorem R7Decimal_neg (n : Nat) (w : World) (h1 : 1 ≤ n) (hn : n ≤ 9223372036854775808) :
 Calls Tryz.prog 66 #[.int .i64 (-(n : Int))] w fun e w' => e = .returned (.string (decB (-(n : Int)))) ∧ Ext w w' := by
 have hw : IntKind.u64.wrap (-(n : Int)) = 18446744073709551616 - n := by unfold IntKind.wrap; simp [IntKind.bits, IntKind.signed]; omega
 have hw2 : IntKind.u64.wrap (-(18446744073709551616 - (n : Int))) = n := by unfold IntKind.wrap; simp [IntKind.bits, IntKind.signed]; omega
 have hneg : decide (-(n : Int) < 0) = true := by simp; omega
 go_enter Tryz.func66, Tryz.ntmps66
 go_wp2_with fail
 go_loopw [3, 6] (fun v3 v6 wr => Dec7Rel w n v3 v6 wr) (fun v3 _ _ => (intOf v3).toNat)
 case atStart => exact ⟨n, ⟨#[]⟩, rfl, rfl, rfl, Nat.le_refl _, by simp⟩
 case round =>
  obtain ⟨u, t, rfl, rfl, rfl, hu, hd⟩ := hrel
  have HD := Lib.hid hd
  have hts := dec_tail hd
  clear hd
  by_cases h10 : 10 ≤ u
  · have g1 : decide ((u : Int) ≥ 10) = true := by simp; omega
    have g2 : decide ((10 : Int) ≤ u) = true := by simp; omega
    go_wp2_with fail
    all_goals first | (exfalso; omega) | skip
    exact ⟨⟨u / 10, _, by go_num, rfl, rfl, by omega, by rw [HD.out]; exact dec_step h10 t⟩, by simp [intOf]; omega⟩
  · have g1 : decide ((u : Int) ≥ 10) = false := by simp; omega
    have g2 : decide ((10 : Int) ≤ u) = false := by simp; omega
    have HE := Lib.hid (dec_endN h1 (by omega) HD.out)
    unfold digS at HE
    clear HD
    go_wp2_with fail
    all_goals first | (exfalso; omega) | skip
    go_ret
    exact ⟨by rw [HE.out]; rfl, Ext.refl _⟩
theorem R7Decimal_int (n : Int) (w : World) (h0 : -9223372036854775808 ≤ n) (h1 : n ≤ 9223372036854775807) :
 Calls Tryz.prog 66 #[.int .i64 n] w fun e w' => e = .returned (.string (decB n)) ∧ Ext w w' := by
 rcases Int.lt_or_le n 0 with h | h
 · have := R7Decimal_neg n.natAbs w (by omega) (by omega)
   rwa [show -((n.natAbs : Nat) : Int) = n by omega] at this
 · have := R7Decimal_any n.natAbs w (by omega)
   rwa [show ((n.natAbs : Nat) : Int) = n by omega] at this
end
section
open Go.RowKit
theorem decB_nat (n : Nat) : decB (n : Int) = ⟨(Lib.decDigits n).toArray⟩ := by
 unfold decB Lib.itoa
 rw [if_neg (by omega)]
 simp
theorem decB_one {n : Nat} (h : ¬ 10 ≤ n) : (⟨#[UInt8.ofNat (48 + n % 10)]⟩ : ByteArray) = decB n := by
 rw [decB_nat, Lib.decDigits, dif_pos (by omega), Nat.mod_eq_of_lt (by omega)]
theorem decB_more {n : Nat} (h : 10 ≤ n) : decB ((n / 10 : Nat) : Int) ++ (⟨#[UInt8.ofNat (48 + n % 10)]⟩ : ByteArray) = decB n := by
 rw [decB_nat, decB_nat]
 conv => rhs; rw [Lib.decDigits, dif_neg (by omega)]
 apply ByteArray.ext
 simp
theorem decB_size (n : Nat) : (decB (n : Int)).size ≤ n / 10 + 1 := by
 rw [decB_nat]
 have := dec_len n
 simpa [ByteArray.size] using this
theorem conv_one (w : World) (n : Nat) : (convert 120 9 (.slice (some ⟨w.heap.size, 0, none⟩) 1 1)).run Tryz.prog (w.alloc (.cells #[.int .u8 (48 + (n : Int) % 10)] 5)) = .ok (.string ⟨#[UInt8.ofNat (48 + n % 10)]⟩) (w.alloc (.cells #[.int .u8 (48 + (n : Int) % 10)] 5)) := by
 refine run_convert_bytes_back _ 120 9 5 ⟨w.heap.size, 0, none⟩ 1 [UInt8.ofNat (48 + n % 10)] Tryz.underlying120 Tryz.underlying5 Tryz.underlying9 (fun j hj => ?_)
 have hj0 : j = 0 := by simpa using hj
 subst hj0
 have h := (Blk.new w 5 #[.int .u8 (48 + (n : Int) % 10)]).cell 0
 have e : ((UInt8.ofNat (48 + n % 10)).toNat : Int) = 48 + (n : Int) % 10 := by rw [UInt8.toNat_ofNat_of_lt' (by show _ < 256; omega)]; omega
 show World.cell? _ ⟨w.heap.size, 0 + 0, none⟩ = _
 rw [h]
 simp only [List.getElem_cons_zero]
 rw [e]
 rfl
set_option maxRecDepth 100000 in
set_option maxHeartbeats 4000000 in
theorem R1Decimal_any : ∀ (n : Nat) (w : World), n ≤ 9223372036854775807 →
 Calls Tryz.prog 68 #[.int .i64 n] w fun e w' => e = .returned (.string (decB n)) ∧ Ext w w' := by
 intro n
 induction n using Nat.strongRecOn with
 | _ n ih =>
  intro w hn
  have HI := Lib.hid ih
  clear ih
  have hneg : decide ((n : Int) < 0) = false := by simp
  have hcv := conv_one w n
  have HB1 := Lib.hid (fun h => decB_one (n := n) h)
  have HB2 := Lib.hid (fun h => decB_more (n := n) h)
  generalize UInt8.ofNat (48 + n % 10) = x at hcv HB1 HB2
  go_enter Tryz.func68, Tryz.ntmps68
  by_cases h10 : 10 ≤ n
  · have g1 : decide ((n : Int) ≥ 10) = true := by simp; omega
    have g2 : decide ((10 : Int) ≤ n) = true := by simp; omega
    have HC : Hid (∀ w, Calls Tryz.prog 68 #[.int .i64 ((n : Int) / 10)] w fun e w' => e = .returned (.string (decB ((n : Int) / 10))) ∧ Ext w w') := fun w => by
     have h := HI.out (n / 10) (by omega) w (by omega)
     have e : ((n / 10 : Nat) : Int) = (n : Int) / 10 := by omega
     rw [← e]; exact h
    have he : ((n / 10 : Nat) : Int) = (n : Int) / 10 := by omega
    have HX := Lib.hid ((Ext.refl w).alloc (.cells #[.int .u8 (48 + (n : Int) % 10)] 5))
    have hsz := decB_size (n / 10)
    have HM := Lib.hid (HB2.out h10)
    rw [he] at hsz HM
    clear he
    go_wp2_with fail
    refine (HC.out _).mono ?_
    rintro e w2 ⟨rfl, hx2⟩
    have HX2 := Lib.hid (HX.out.trans hx2)
    clear hx2 hcv
    go_wp2_with fail
    all_goals first | (exfalso; omega) | skip
    go_ret
    exact ⟨by rw [← HM.out]; rfl, HX2.out⟩
  · have g1 : decide ((n : Int) ≥ 10) = false := by simp; omega
    have g2 : decide ((10 : Int) ≤ n) = false := by simp; omega
    have HM := Lib.hid (HB1.out h10)
    have HX := Lib.hid ((Ext.refl w).alloc (.cells #[.int .u8 (48 + (n : Int) % 10)] 5))
    go_wp2_with fail
    go_ret
    exact ⟨by rw [← HM.out]; rfl, HX.out⟩
end
section
open Go.RowKit
structure RtJ (V : List Value) (W : World) (us : List Value) (w' : World) : Prop where
 val : ∀ (p : Nat) (u : Value), us[p]? = some u → V[p]? = some u
 ext : Ext W w'
section
variable {V us : List Value} {W w' w2 : World} {v : Value}
theorem RtJ.start (W : World) : RtJ V W [] W.drew := ⟨fun p u h => by simp at h, (Ext.refl W).drew⟩
theorem RtJ.call (h : RtJ V W us w') (hx : Ext w' w2) (hv : V[us.length]? = some v) : RtJ V W (us ++ [v]) w2 := by
 refine ⟨fun p u hu => ?_, h.ext.trans hx⟩
 by_cases hlt : p < us.length
 · rw [List.getElem?_append_left hlt] at hu; exact h.val p u hu
 · have : p = us.length := by
    have := (List.getElem?_eq_some_iff.1 hu).1
    simp at this
    omega
   subst this
   rw [List.getElem?_append_right (Nat.le_refl _)] at hu
   simp at hu
   subst hu
   exact hv
end
def TrRel (w : World) (n : Nat) (l : List Fat) (v i : Value) (wr : World) : Prop := ∃ k : Nat, k ≤ n ∧ i = .int .i64 k ∧ Ext w wr ∧ v = .string ⟨(textF (l.take k)).toArray⟩
set_option maxRecDepth 100000 in
set_option maxHeartbeats 16000000 in
theorem RText_any (A : Option Addr) (n c : Nat) (l : List Fat) (w : World) (hl : FatsAt w A n l) (hn : n ≤ 1000000) (hf : FatsTx l) :
 Calls Tryz.prog 30 #[.slice A n c] w fun e w' => e = .returned (.string ⟨(textF l).toArray⟩) ∧ Ext w w' := by
 have HL := Lib.hid hl
 have HLn := Lib.hid hl.len
 have HF := Lib.hid hf
 clear hl hf
 go_enter Tryz.func30, Tryz.ntmps30
 go_wp2_with fail
 go_loopw [3, 8] (fun v i wr => TrRel w n l v i wr) (fun _ i _ => n - (intOf i).toNat)
 case atStart => exact ⟨0, Nat.zero_le _, rfl, Ext.refl _, by simp [textF]⟩
 case round =>
  obtain ⟨k, hk, rfl, hx, rfl⟩ := hrel
  have HX := Lib.hid hx
  clear hx
  by_cases hlt : k < n
  · obtain ⟨b, off, f, pA, pc, sA, sc, rfl, hfk, -, -, c0, c1, c2, c3, c4⟩ := (HL.out.ext HX.out).at5 hlt
    have HTx := Lib.hid (textF_cat hfk)
    have HLc := Lib.hid (lineF_cat f)
    have hmem := List.mem_of_getElem? hfk
    obtain ⟨fi, hfi⟩ : ∃ fi : Int, f.id = fi := ⟨_, rfl⟩
    obtain ⟨fl, hfl⟩ : ∃ fl : Int, f.lost = fl := ⟨_, rfl⟩
    have hid := HF.out.id f hmem
    have hlo := HF.out.lost f hmem
    have hp1 := HF.out.fit.parts f hmem
    have hp2 := HF.out.fit.short f hmem
    have hle := textF_len l (k + 1)
    have hle2 := HF.out.few
    have hsn := congrArg List.length (textF_snoc hfk)
    rw [List.length_append] at hsn
    have hlf : (lineF f).data.toList.length = (lineF f).size := by simp
    have hz := congrArg ByteArray.size (lineF_cat f)
    simp only [ByteArray.size_append] at hz
    have hz1 : (⟨#[32]⟩ : ByteArray).size = 1 := rfl
    have hz2 : (⟨#[10]⟩ : ByteArray).size = 1 := rfl
    rw [hz1, hz2] at hz
    obtain ⟨T0, hT0⟩ : ∃ T0 : ByteArray, T0 = ⟨(textF (l.take k)).toArray⟩ := ⟨_, rfl⟩
    have hT0z : T0.size = (textF (l.take k)).length := by rw [hT0]; simp [ByteArray.size]
    have hbig : T0.size + (lineF f).size ≤ 140737488355328 := by omega
    clear hsn hlf hle hle2 hT0z hmem hfk
    rw [← hT0] at HTx ⊢
    clear hT0
    rw [hfi] at c1 HLc hz hid
    rw [hfl] at c3 HLc hz hlo
    obtain ⟨np, hnp⟩ : ∃ np, np = f.parts.length := ⟨_, rfl⟩
    obtain ⟨ns, hns⟩ : ∃ ns, ns = f.short.length := ⟨_, rfl⟩
    rw [← hnp] at c2 hp1 HLc hz
    rw [← hns] at c4 hp2 HLc hz
    clear hnp hns hfi hfl
    have HXf := Lib.hid ((Ext.refl wr).alloc (.cells #[.string f.reel, .int .i64 fi, .slice pA np pc, .int .i64 fl, .slice sA ns sc] 67))
    have HBf := Lib.hid (Blk.new wr 67 #[.string f.reel, .int .i64 fi, .slice pA np pc, .int .i64 fl, .slice sA ns sc])
    go_upto_region 5 with fail
    obtain ⟨gx, hgx⟩ : ∃ gx, gx = wr.heap.size := ⟨_, rfl⟩
    obtain ⟨W2, hW2⟩ : ∃ W2, W2 = wr.alloc (.cells #[.string f.reel, .int .i64 fi, .slice pA np pc, .int .i64 fl, .slice sA ns sc] 67) := ⟨_, rfl⟩
    rw [← hgx] at HBf
    rw [← hW2] at HBf HXf ⊢
    rw [← hgx]
    clear hW2 hgx c0 c1 c2 c3 c4
    obtain ⟨S3, hS3⟩ : ∃ S : ByteArray, S = f.reel ++ (⟨#[32]⟩ : ByteArray) := ⟨_, rfl⟩
    have hZ3 : S3.size = (f.reel).size + ((⟨#[32]⟩ : ByteArray)).size := by rw [hS3, ByteArray.size_append]
    obtain ⟨S7, hS7⟩ : ∃ S : ByteArray, S = S3 ++ decB (fi : Int) := ⟨_, rfl⟩
    have hZ7 : S7.size = (S3).size + (decB (fi : Int)).size := by rw [hS7, ByteArray.size_append]
    obtain ⟨S8, hS8⟩ : ∃ S : ByteArray, S = S7 ++ (⟨#[32]⟩ : ByteArray) := ⟨_, rfl⟩
    have hZ8 : S8.size = (S7).size + ((⟨#[32]⟩ : ByteArray)).size := by rw [hS8, ByteArray.size_append]
    obtain ⟨S11, hS11⟩ : ∃ S : ByteArray, S = S8 ++ wordN np fl := ⟨_, rfl⟩
    have hZ11 : S11.size = (S8).size + (wordN np fl).size := by rw [hS11, ByteArray.size_append]
    obtain ⟨S12, hS12⟩ : ∃ S : ByteArray, S = S11 ++ (⟨#[32]⟩ : ByteArray) := ⟨_, rfl⟩
    have hZ12 : S12.size = (S11).size + ((⟨#[32]⟩ : ByteArray)).size := by rw [hS12, ByteArray.size_append]
    obtain ⟨S17, hS17⟩ : ∃ S : ByteArray, S = S12 ++ decB (np : Int) := ⟨_, rfl⟩
    have hZ17 : S17.size = (S12).size + (decB (np : Int)).size := by rw [hS17, ByteArray.size_append]
    obtain ⟨S18, hS18⟩ : ∃ S : ByteArray, S = S17 ++ (⟨#[32]⟩ : ByteArray) := ⟨_, rfl⟩
    have hZ18 : S18.size = (S17).size + ((⟨#[32]⟩ : ByteArray)).size := by rw [hS18, ByteArray.size_append]
    obtain ⟨S22, hS22⟩ : ∃ S : ByteArray, S = S18 ++ decB (fl : Int) := ⟨_, rfl⟩
    have hZ22 : S22.size = (S18).size + (decB (fl : Int)).size := by rw [hS22, ByteArray.size_append]
    obtain ⟨S23, hS23⟩ : ∃ S : ByteArray, S = S22 ++ (⟨#[32]⟩ : ByteArray) := ⟨_, rfl⟩
    have hZ23 : S23.size = (S22).size + ((⟨#[32]⟩ : ByteArray)).size := by rw [hS23, ByteArray.size_append]
    obtain ⟨S28, hS28⟩ : ∃ S : ByteArray, S = S23 ++ decB (ns : Int) := ⟨_, rfl⟩
    have hZ28 : S28.size = (S23).size + (decB (ns : Int)).size := by rw [hS28, ByteArray.size_append]
    obtain ⟨S29, hS29⟩ : ∃ S : ByteArray, S = S28 ++ (⟨#[10]⟩ : ByteArray) := ⟨_, rfl⟩
    have hZ29 : S29.size = (S28).size + ((⟨#[10]⟩ : ByteArray)).size := by rw [hS29, ByteArray.size_append]
    obtain ⟨S30, hS30⟩ : ∃ S : ByteArray, S = T0 ++ S29 := ⟨_, rfl⟩
    have hZ30 : S30.size = (T0).size + (S29).size := by rw [hS30, ByteArray.size_append]
    rw [hz1] at hZ3 hZ8 hZ12 hZ18 hZ23
    rw [hz2] at hZ29
    have HS30 : Hid (S30 = T0 ++ lineF f) := by show _ = _; rw [hS30, hS29, hS28, hS23, hS22, hS18, hS17, hS12, hS11, hS8, hS7, hS3, HLc.out]
    refine wp_region_links [some 12, some 13, some 14, some 15, some 16, some 17, some 18, some 19, some 20, some 21, some 22, some 23, some 24, some 25, some 26, some 27, some 28, some 29, some 30, some 31, some 32, some 33, some 34, some 35, some 36, some 37, some 38, some 39, some 40, some 41, some 42, some 3] [[], [], [1], [2], [], [4], [5], [3, 6], [7], [], [9, 6], [8, 10], [11], [], [13], [14], [15, 10], [12, 16], [17], [], [19], [20, 16], [18, 21], [22], [], [24], [25], [26, 21], [23, 27], [28], [0, 29], [30, 27, 0, 1, 2, 3, 4, 5, 6, 7, 8, 9, 10, 11, 12, 13, 14, 15, 16, 17, 18, 19, 20, 21, 22, 23, 24, 25, 26, 27, 28, 29, 30]] [6, 10, 16, 21, 27, 31] [.string T0, .pointer (some ⟨gx, 0, none⟩), .string f.reel, .string S3, .pointer (some ⟨gx, 1, none⟩), .int .i64 fi, undef, .string S7, .string S8, .agg #[.string f.reel, .int .i64 fi, .slice pA np pc, .int .i64 fl, .slice sA ns sc], undef, .string S11, .string S12, .pointer (some ⟨gx, 2, none⟩), .slice pA np pc, .int .i64 (np : Int), undef, .string S17, .string S18, .pointer (some ⟨gx, 3, none⟩), .int .i64 fl, undef, .string S22, .string S23, .pointer (some ⟨gx, 4, none⟩), .slice sA ns sc, .int .i64 (ns : Int), undef, .string S28, .string S29, .string S30, undef] (RtJ [.string (decB (fi : Int)), .string (wordN np fl), .string (decB (np : Int)), .string (decB (fl : Int)), .string (decB (ns : Int)), .string S30] W2) (by kernel_rfl) (by kernel_rfl) (by kernel_rfl) (by kernel_rfl) (by kernel_rfl) (by kernel_rfl) (by kernel_rfl) (by decide) ?_ ?_ ?_ ?_
    · exact RtJ.start W2
    · intro i o ho hc a w' us K' hJ hF hlim hk
      match i, ho with
      | 0, ho =>
       simp only [List.getElem?_toArray, List.getElem?_cons_zero, List.getElem?_cons_succ, Option.some.injEq] at ho
       subst ho
       have e3 := hF.olds 5 31 3 (.string T0) rfl rfl (hlim 5 31 rfl rfl) rfl
       simp only [Act.eval] at e3
       clear hF hlim hJ
       go_simp
       exact hk
      | 1, ho =>
       simp only [List.getElem?_toArray, List.getElem?_cons_zero, List.getElem?_cons_succ, Option.some.injEq] at ho
       subst ho
       have e5 := hF.old 5 (.pointer (some ⟨gx, 0, none⟩)) rfl rfl
       simp only [Act.eval] at e5
       clear hF hlim hJ
       go_simp
       exact hk
      | 2, ho =>
       simp only [List.getElem?_toArray, List.getElem?_cons_zero, List.getElem?_cons_succ, Option.some.injEq] at ho
       subst ho
       have e13 := hF.pure 1 13 (.pointer (some ⟨gx, 0, none⟩)) rfl rfl rfl rfl
       have hcl : w'.cell? ⟨gx, 0, none⟩ = some (.string f.reel) := (HBf.out.ext hJ.ext).cell 0
       simp only [Act.eval] at e13
       clear hF hlim hJ
       go_simp
       exact hk
      | 3, ho =>
       simp only [List.getElem?_toArray, List.getElem?_cons_zero, List.getElem?_cons_succ, Option.some.injEq] at ho
       subst ho
       have e14 := hF.pure 2 14 (.string f.reel) rfl rfl rfl rfl
       rw [hS3] at hk
       exact wp_concat rfl e14 rfl (by show ¬ _ < (_ : Int) + 1; omega) hk
      | 4, ho =>
       simp only [List.getElem?_toArray, List.getElem?_cons_zero, List.getElem?_cons_succ, Option.some.injEq] at ho
       subst ho
       have e5 := hF.old 5 (.pointer (some ⟨gx, 0, none⟩)) rfl rfl
       simp only [Act.eval] at e5
       clear hF hlim hJ
       go_simp
       exact hk
      | 5, ho =>
       simp only [List.getElem?_toArray, List.getElem?_cons_zero, List.getElem?_cons_succ, Option.some.injEq] at ho
       subst ho
       have e16 := hF.pure 4 16 (.pointer (some ⟨gx, 1, none⟩)) rfl rfl rfl rfl
       have hcl : w'.cell? ⟨gx, 1, none⟩ = some (.int .i64 fi) := (HBf.out.ext hJ.ext).cell 1
       simp only [Act.eval] at e16
       clear hF hlim hJ
       go_simp
       exact hk
      | 6, ho => simp at hc
      | 7, ho =>
       simp only [List.getElem?_toArray, List.getElem?_cons_zero, List.getElem?_cons_succ, Option.some.injEq] at ho
       subst ho
       have e15 := hF.pure 3 15 (.string S3) rfl rfl rfl rfl
       obtain ⟨v18, hv18⟩ := getElem_ltq (hF.did 0 6 rfl rfl)
       have e18 := hF.link 0 6 18 _ rfl rfl rfl hv18
       obtain rfl : v18 = .string (decB (fi : Int)) := (Option.some.inj (hJ.val 0 v18 hv18)).symm
       rw [hS7] at hk
       exact wp_concat rfl e15 e18 (by omega) hk
      | 8, ho =>
       simp only [List.getElem?_toArray, List.getElem?_cons_zero, List.getElem?_cons_succ, Option.some.injEq] at ho
       subst ho
       have e19 := hF.pure 7 19 (.string S7) rfl rfl rfl rfl
       rw [hS8] at hk
       exact wp_concat rfl e19 rfl (by show ¬ _ < (_ : Int) + 1; omega) hk
      | 9, ho =>
       simp only [List.getElem?_toArray, List.getElem?_cons_zero, List.getElem?_cons_succ, Option.some.injEq] at ho
       subst ho
       have e5 := hF.old 5 (.pointer (some ⟨gx, 0, none⟩)) rfl rfl
       exact wp_loadB 67 (.tmp 5) rfl gx 67 _ _ e5 (HBf.out.ext hJ.ext) Tryz.underlying67 rfl (by exact size_fateI) hk
      | 10, ho => simp at hc
      | 11, ho =>
       simp only [List.getElem?_toArray, List.getElem?_cons_zero, List.getElem?_cons_succ, Option.some.injEq] at ho
       subst ho
       have e20 := hF.pure 8 20 (.string S8) rfl rfl rfl rfl
       obtain ⟨v22, hv22⟩ := getElem_ltq (hF.did 1 10 rfl rfl)
       have e22 := hF.link 1 10 22 _ rfl rfl rfl hv22
       obtain rfl : v22 = .string (wordN np fl) := (Option.some.inj (hJ.val 1 v22 hv22)).symm
       rw [hS11] at hk
       exact wp_concat rfl e20 e22 (by omega) hk
      | 12, ho =>
       simp only [List.getElem?_toArray, List.getElem?_cons_zero, List.getElem?_cons_succ, Option.some.injEq] at ho
       subst ho
       have e23 := hF.pure 11 23 (.string S11) rfl rfl rfl rfl
       rw [hS12] at hk
       exact wp_concat rfl e23 rfl (by show ¬ _ < (_ : Int) + 1; omega) hk
      | 13, ho =>
       simp only [List.getElem?_toArray, List.getElem?_cons_zero, List.getElem?_cons_succ, Option.some.injEq] at ho
       subst ho
       have e5 := hF.old 5 (.pointer (some ⟨gx, 0, none⟩)) rfl rfl
       simp only [Act.eval] at e5
       clear hF hlim hJ
       go_simp
       exact hk
      | 14, ho =>
       simp only [List.getElem?_toArray, List.getElem?_cons_zero, List.getElem?_cons_succ, Option.some.injEq] at ho
       subst ho
       have e25 := hF.pure 13 25 (.pointer (some ⟨gx, 2, none⟩)) rfl rfl rfl rfl
       have hcl : w'.cell? ⟨gx, 2, none⟩ = some (.slice pA np pc) := (HBf.out.ext hJ.ext).cell 2
       simp only [Act.eval] at e25
       clear hF hlim hJ
       go_simp
       exact hk
      | 15, ho =>
       simp only [List.getElem?_toArray, List.getElem?_cons_zero, List.getElem?_cons_succ, Option.some.injEq] at ho
       subst ho
       have e26 := hF.pure 14 26 (.slice pA np pc) rfl rfl rfl rfl
       simp only [Act.eval] at e26
       clear hF hlim hJ
       go_simp
       exact hk
      | 16, ho => simp at hc
      | 17, ho =>
       simp only [List.getElem?_toArray, List.getElem?_cons_zero, List.getElem?_cons_succ, Option.some.injEq] at ho
       subst ho
       have e24 := hF.pure 12 24 (.string S12) rfl rfl rfl rfl
       obtain ⟨v28, hv28⟩ := getElem_ltq (hF.did 2 16 rfl rfl)
       have e28 := hF.link 2 16 28 _ rfl rfl rfl hv28
       obtain rfl : v28 = .string (decB (np : Int)) := (Option.some.inj (hJ.val 2 v28 hv28)).symm
       rw [hS17] at hk
       exact wp_concat rfl e24 e28 (by omega) hk
      | 18, ho =>
       simp only [List.getElem?_toArray, List.getElem?_cons_zero, List.getElem?_cons_succ, Option.some.injEq] at ho
       subst ho
       have e29 := hF.pure 17 29 (.string S17) rfl rfl rfl rfl
       rw [hS18] at hk
       exact wp_concat rfl e29 rfl (by show ¬ _ < (_ : Int) + 1; omega) hk
      | 19, ho =>
       simp only [List.getElem?_toArray, List.getElem?_cons_zero, List.getElem?_cons_succ, Option.some.injEq] at ho
       subst ho
       have e5 := hF.old 5 (.pointer (some ⟨gx, 0, none⟩)) rfl rfl
       simp only [Act.eval] at e5
       clear hF hlim hJ
       go_simp
       exact hk
      | 20, ho =>
       simp only [List.getElem?_toArray, List.getElem?_cons_zero, List.getElem?_cons_succ, Option.some.injEq] at ho
       subst ho
       have e31 := hF.pure 19 31 (.pointer (some ⟨gx, 3, none⟩)) rfl rfl rfl rfl
       have hcl : w'.cell? ⟨gx, 3, none⟩ = some (.int .i64 fl) := (HBf.out.ext hJ.ext).cell 3
       simp only [Act.eval] at e31
       clear hF hlim hJ
       go_simp
       exact hk
      | 21, ho => simp at hc
      | 22, ho =>
       simp only [List.getElem?_toArray, List.getElem?_cons_zero, List.getElem?_cons_succ, Option.some.injEq] at ho
       subst ho
       have e30 := hF.pure 18 30 (.string S18) rfl rfl rfl rfl
       obtain ⟨v33, hv33⟩ := getElem_ltq (hF.did 3 21 rfl rfl)
       have e33 := hF.link 3 21 33 _ rfl rfl rfl hv33
       obtain rfl : v33 = .string (decB (fl : Int)) := (Option.some.inj (hJ.val 3 v33 hv33)).symm
       rw [hS22] at hk
       exact wp_concat rfl e30 e33 (by omega) hk
      | 23, ho =>
       simp only [List.getElem?_toArray, List.getElem?_cons_zero, List.getElem?_cons_succ, Option.some.injEq] at ho
       subst ho
       have e34 := hF.pure 22 34 (.string S22) rfl rfl rfl rfl
       rw [hS23] at hk
       exact wp_concat rfl e34 rfl (by show ¬ _ < (_ : Int) + 1; omega) hk
      | 24, ho =>
       simp only [List.getElem?_toArray, List.getElem?_cons_zero, List.getElem?_cons_succ, Option.some.injEq] at ho
       subst ho
       have e5 := hF.old 5 (.pointer (some ⟨gx, 0, none⟩)) rfl rfl
       simp only [Act.eval] at e5
       clear hF hlim hJ
       go_simp
       exact hk
      | 25, ho =>
       simp only [List.getElem?_toArray, List.getElem?_cons_zero, List.getElem?_cons_succ, Option.some.injEq] at ho
       subst ho
       have e36 := hF.pure 24 36 (.pointer (some ⟨gx, 4, none⟩)) rfl rfl rfl rfl
       have hcl : w'.cell? ⟨gx, 4, none⟩ = some (.slice sA ns sc) := (HBf.out.ext hJ.ext).cell 4
       simp only [Act.eval] at e36
       clear hF hlim hJ
       go_simp
       exact hk
      | 26, ho =>
       simp only [List.getElem?_toArray, List.getElem?_cons_zero, List.getElem?_cons_succ, Option.some.injEq] at ho
       subst ho
       have e37 := hF.pure 25 37 (.slice sA ns sc) rfl rfl rfl rfl
       simp only [Act.eval] at e37
       clear hF hlim hJ
       go_simp
       exact hk
      | 27, ho => simp at hc
      | 28, ho =>
       simp only [List.getElem?_toArray, List.getElem?_cons_zero, List.getElem?_cons_succ, Option.some.injEq] at ho
       subst ho
       have e35 := hF.pure 23 35 (.string S23) rfl rfl rfl rfl
       obtain ⟨v39, hv39⟩ := getElem_ltq (hF.did 4 27 rfl rfl)
       have e39 := hF.link 4 27 39 _ rfl rfl rfl hv39
       obtain rfl : v39 = .string (decB (ns : Int)) := (Option.some.inj (hJ.val 4 v39 hv39)).symm
       rw [hS28] at hk
       exact wp_concat rfl e35 e39 (by omega) hk
      | 29, ho =>
       simp only [List.getElem?_toArray, List.getElem?_cons_zero, List.getElem?_cons_succ, Option.some.injEq] at ho
       subst ho
       have e40 := hF.pure 28 40 (.string S28) rfl rfl rfl rfl
       rw [hS29] at hk
       exact wp_concat rfl e40 rfl (by show ¬ _ < (_ : Int) + 1; omega) hk
      | 30, ho =>
       simp only [List.getElem?_toArray, List.getElem?_cons_zero, List.getElem?_cons_succ, Option.some.injEq] at ho
       subst ho
       have e12 := hF.pure 0 12 (.string T0) rfl rfl rfl rfl
       have e41 := hF.pure 29 41 (.string S29) rfl rfl rfl rfl
       rw [hS30] at hk
       exact wp_concat rfl e12 e41 (by omega) hk
      | 31, ho => simp at hc
      | i + 32, ho => simp at ho
    · intro p c' o hp ho a w' us K' hl hJ hF hk
      match p, hp with
      | 0, hp =>
       obtain rfl : 6 = c' := by simpa using hp
       simp only [List.getElem?_toArray, List.getElem?_cons_zero, List.getElem?_cons_succ, Option.some.injEq] at ho
       subst ho
       obtain rfl : us = [] := List.eq_nil_of_length_eq_zero hl
       have e17 := hF.pure 5 17 (.int .i64 fi) rfl rfl rfl rfl
       exact wp_call1 rfl e17 Tryz.call66 (R7Decimal_int fi _ hid.1 hid.2) (fun en w5 h5 => ⟨_, h5.1, hk _ w5 (hJ.call h5.2 rfl)⟩)
      | 1, hp =>
       obtain rfl : 10 = c' := by simpa using hp
       simp only [List.getElem?_toArray, List.getElem?_cons_zero, List.getElem?_cons_succ, Option.some.injEq] at ho
       subst ho
       obtain ⟨u0, rfl⟩ := list_1 hl
       have e21 := hF.pure 9 21 (.agg #[.string f.reel, .int .i64 fi, .slice pA np pc, .int .i64 fl, .slice sA ns sc]) rfl rfl rfl rfl
       exact wp_call1 rfl e21 Tryz.call67 (State_any _ _ _ _ _ _ _ _ _ _) (fun en w5 h5 => ⟨_, h5.1, hk _ w5 (hJ.call h5.2 rfl)⟩)
      | 2, hp =>
       obtain rfl : 16 = c' := by simpa using hp
       simp only [List.getElem?_toArray, List.getElem?_cons_zero, List.getElem?_cons_succ, Option.some.injEq] at ho
       subst ho
       obtain ⟨u0, u1, rfl⟩ := list_2 hl
       have e27 := hF.pure 15 27 (.int .i64 (np : Int)) rfl rfl rfl rfl
       exact wp_call1 rfl e27 Tryz.call68 (R1Decimal_any np _ (by omega)) (fun en w5 h5 => ⟨_, h5.1, hk _ w5 (hJ.call h5.2 rfl)⟩)
      | 3, hp =>
       obtain rfl : 21 = c' := by simpa using hp
       simp only [List.getElem?_toArray, List.getElem?_cons_zero, List.getElem?_cons_succ, Option.some.injEq] at ho
       subst ho
       obtain ⟨u0, u1, u2, rfl⟩ := list_3 hl
       have e32 := hF.pure 20 32 (.int .i64 fl) rfl rfl rfl rfl
       exact wp_call1 rfl e32 Tryz.call66 (R7Decimal_int fl _ hlo.1 hlo.2) (fun en w5 h5 => ⟨_, h5.1, hk _ w5 (hJ.call h5.2 rfl)⟩)
      | 4, hp =>
       obtain rfl : 27 = c' := by simpa using hp
       simp only [List.getElem?_toArray, List.getElem?_cons_zero, List.getElem?_cons_succ, Option.some.injEq] at ho
       subst ho
       obtain ⟨u0, u1, u2, u3, rfl⟩ := list_4 hl
       have e38 := hF.pure 26 38 (.int .i64 (ns : Int)) rfl rfl rfl rfl
       exact wp_call1 rfl e38 Tryz.call68 (R1Decimal_any ns _ (by omega)) (fun en w5 h5 => ⟨_, h5.1, hk _ w5 (hJ.call h5.2 rfl)⟩)
      | 5, hp =>
       obtain rfl : 31 = c' := by simpa using hp
       simp only [List.getElem?_toArray, List.getElem?_cons_zero, List.getElem?_cons_succ, Option.some.injEq] at ho
       subst ho
       obtain ⟨u0, u1, u2, u3, u4, rfl⟩ := list_5 hl
       have e42 := hF.pure 30 42 (.string S30) rfl rfl rfl rfl
       exact wp_assignx _ _ rfl e42 (hk _ _ (hJ.call (Ext.refl _) rfl))
      | p + 6, hp => simp at hp
    intro us w9 hl hJ
    obtain ⟨q0, q1, q2, q3, q4, q5, rfl⟩ := list_6 hl
    first | (rename_i hK; refine hK _ _ ?_; clear hK) | (rename_i hK hK_1; refine hK _ _ ?_; clear hK) | (rename_i hK hK_1 hK_2; refine hK _ _ ?_; clear hK) | (rename_i hK hK_1 hK_2 hK_3; refine hK _ _ ?_; clear hK)
    generalize hL : frameL _ _ _ _ = L
    obtain rfl : L = [(12, .string T0), (13, .pointer (some ⟨gx, 0, none⟩)), (14, .string f.reel), (15, .string S3), (16, .pointer (some ⟨gx, 1, none⟩)), (17, .int .i64 fi), (18, q0), (19, .string S7), (20, .string S8), (21, .agg #[.string f.reel, .int .i64 fi, .slice pA np pc, .int .i64 fl, .slice sA ns sc]), (22, q1), (23, .string S11), (24, .string S12), (25, .pointer (some ⟨gx, 2, none⟩)), (26, .slice pA np pc), (27, .int .i64 (np : Int)), (28, q2), (29, .string S17), (30, .string S18), (31, .pointer (some ⟨gx, 3, none⟩)), (32, .int .i64 fl), (33, q3), (34, .string S22), (35, .string S23), (36, .pointer (some ⟨gx, 4, none⟩)), (37, .slice sA ns sc), (38, .int .i64 (ns : Int)), (39, q4), (40, .string S28), (41, .string S29), (42, .string S30), (3, q5)] := hL.symm.trans (by kernel_rfl)
    clear hL hl
    simp only [Act.put, List.foldl_cons, List.foldl_nil, List.setIfInBounds_toArray, List.set_cons_zero, List.set_cons_succ]
    obtain rfl : q5 = .string S30 := (Option.some.inj (hJ.val 5 q5 rfl)).symm
    have HX9 := Lib.hid (HX.out.trans (HXf.out.trans hJ.ext))
    clear hJ hz hz1 hz2 hbig hS3 hZ3 hS7 hZ7 hS8 hZ8 hS11 hZ11 hS12 hZ12 hS17 hZ17 hS18 hZ18 hS22 hZ22 hS23 hZ23 hS28 hZ28 hS29 hZ29 hS30 hZ30
    go_wp2_with fail
    exact ⟨⟨k + 1, by omega, by go_num, HX9.out, by rw [HS30.out, HTx.out]⟩, by simp [intOf]; omega⟩
  · have hkn : k = n := by omega
    subst hkn
    have HT : Hid (l.take k = l) := List.take_of_length_le (by rw [HLn.out]; omega)
    rw [HT.out]
    go_wp2_with fail
    go_ret
    exact ⟨rfl, HX.out⟩
end
section
open Go.RowKit
theorem doc_ok {d : Doc} (h : d.err = 0) : d.headErr = 0 ∧ regsErr d.regs = 0 ∧ d.evs.length ≤ 400 ∧ evsLoop d.regs d.last [] d.evs = 0 ∧ d.coms.length ≤ 64 ∧ comsLoop d.last d.evs none d.coms = 0 := by
 unfold Doc.err at h
 split at h
 · rename_i h1; exact absurd h h1
 · rename_i h1
   split at h
   · rename_i h2; exact absurd h h2
   · rename_i h2
     split at h
     · simp at h
     · rename_i h3
       split at h
       · rename_i h4; exact absurd h h4
       · rename_i h4
         split at h
         · simp at h
         · rename_i h5
           exact ⟨by simpa using h1, by simpa using h2, by omega, by simpa using h4, by omega, h⟩
theorem evs_ok {regs : List Reg} {last : Int} : ∀ {l pre : List Ev}, evsLoop regs last pre l = 0 → ∀ (k : Nat) (x : Ev), l[k]? = some x →
 x.err regs = 0 ∧ x.id ≤ last ∧ ¬ (((pre ++ l.take k).getLast?.map fun p => lessB p x) = some false) ∧ findE (pre ++ l.take k) x.id = none
 | [], pre, _, k, x, hx => by simp at hx
 | y :: l, pre, h, 0, x, hx => by
  simp at hx; subst hx
  rw [evs_cons] at h
  split at h
  · rename_i h1; exact absurd h h1
  · rename_i h1
    have h1' : evErr regs last pre y = 0 := by simpa using h1
    unfold evErr at h1'
    split at h1'
    · rename_i h2; exact absurd h1' h2
    · rename_i h2
      split at h1'
      · simp at h1'
      · rename_i h3
        split at h1'
        · simp at h1'
        · rename_i h4
          split at h1'
          · simp at h1'
          · rename_i h5
            refine ⟨by simpa using h2, by omega, by simpa using h4, ?_⟩
            simp only [List.take_zero, List.append_nil]
            cases hf : findE pre y.id with
            | none => rfl
            | some j => rw [hf] at h5; simp at h5
 | y :: l, pre, h, k + 1, x, hx => by
  rw [evs_cons] at h
  split at h
  · rename_i h1; exact absurd h h1
  · have := evs_ok h k x (by simpa using hx)
    simpa using this
theorem ev_ok {e : Ev} {regs : List Reg} (h : e.err regs = 0) : 1 ≤ e.id ∧ e.id ≤ 1099511627776 ∧ spansB e.inn e.out = true := by
 unfold Ev.err at h
 split at h
 · simp at h
 · rename_i h1
   refine ⟨by omega, by omega, ?_⟩
   cases hs : spansB e.inn e.out
   · exact absurd (.inr (.inr hs)) h1
   · rfl
end
section
open Go.RowKit
theorem less_tr {x y z : Ev} (h : lessB x y = true) (k : lessB y z = true) : lessB x z = true := by
 unfold lessB at *
 simp only [decide_eq_true_eq] at *
 omega
structure EvsV (regs : List Reg) (last : Int) (l : List Ev) : Prop where
 each : ∀ x ∈ l, x.err regs = 0 ∧ x.id ≤ last
 srt : l.Pairwise fun x y => lessB x y = true
 ids : l.Pairwise fun x y => x.id ≠ y.id
theorem findE_none {l : List Ev} {id : Int} (h : findE l id = none) : ∀ e ∈ l, e.id ≠ id := fun e he => by
 have := List.findIdx?_eq_none_iff.1 h e he
 simpa using this
theorem evs_v {regs : List Reg} {last : Int} {l : List Ev} (h : evsLoop regs last [] l = 0) : EvsV regs last l := by
 have hk := evs_ok h
 have hids : ∀ i j (hi : i < l.length) (hj : j < l.length), i < j → l[i].id ≠ l[j].id := fun i j hi hj hij => by
  have := (hk j l[j] (List.getElem?_eq_getElem hj)).2.2.2
  rw [List.nil_append] at this
  exact findE_none this l[i] (List.mem_of_getElem? (i := i) (by rw [List.getElem?_take, if_pos hij]; exact List.getElem?_eq_getElem hi))
 refine ⟨fun x hx => ?_, ?_, List.pairwise_iff_getElem.2 hids⟩
 · obtain ⟨i, hi⟩ := List.getElem?_of_mem hx
   exact ⟨(hk i x hi).1, (hk i x hi).2.1⟩
 · have hs : ∀ j (hj : j + 1 < l.length), lessB l[j] l[j + 1] = true := fun j hj => by
    have h1 := (hk (j + 1) l[j + 1] (List.getElem?_eq_getElem hj)).2.2.1
    rw [List.nil_append, List.getLast?_eq_getElem?, List.length_take, Nat.min_eq_left (by omega), List.getElem?_take, if_pos (by omega), Nat.add_sub_cancel, List.getElem?_eq_getElem (show j < l.length by omega)] at h1
    simpa using h1
   have hd : ∀ d i (hj : i + d + 1 < l.length), lessB (l[i]'(by omega)) l[i + d + 1] = true := by
    intro d
    induction d with
    | zero => intro i hj; exact hs i hj
    | succ d ih => intro i hj; exact less_tr (ih i (by omega)) (hs (i + d + 1) hj)
   refine List.pairwise_iff_getElem.2 fun i j hi hj hij => ?_
   have := hd (j - i - 1) i (by omega)
   have e : i + (j - i - 1) + 1 = j := by omega
   simp only [e] at this
   exact this
end
section
open Go.RowKit
def noteAll (r : ByteArray) (id : Int) (pid : Int) (sh : Bool) (l : List Fat) : List Fat := l.map fun f => if f.reel = r ∧ f.id = id then f.note pid sh else f
def refCStep (c : Cut) (least : Int) (x : Ev) (s : ConSt) : ConSt :=
 match partE c x with
 | none => s
 | some p => ⟨s.evs ++ [x.as ((s.evs.length : Int) + 1) p], noteAll c.reel x.id ((s.evs.length : Int) + 1) (decide (p.out - p.inn < least)) s.fats⟩
def refEvs (c : Cut) (least : Int) (l : List Ev) (s : ConSt) : ConSt := l.foldl (fun s x => refCStep c least x s) s
def refCut (docs : List RDoc) (least : Int) (s : ConSt) (c : Cut) : ConSt :=
 match findRd docs c.reel with
 | none => s
 | some k => refEvs c least (evsR docs k) s
def refCuts (docs : List RDoc) (least : Int) (l : List Cut) (s : ConSt) : ConSt := l.foldl (refCut docs least) s
def Fat.key (f : Fat) : ByteArray × Int := (f.reel, f.id)
def keysR (docs : List RDoc) : List (ByteArray × Int) := docs.flatMap fun d => d.doc.evs.map fun x => (d.reel, x.id)
theorem keys_fats (e : Edl) (docs : List RDoc) : (fatsR e docs).map Fat.key = keysR docs := by
 unfold fatsR keysR
 rw [List.map_flatMap]
 congr 1
 funext d
 unfold fatsD
 rw [List.map_map]
 rfl
theorem keys_at : ∀ {docs : List RDoc} {k j : Nat} {d : RDoc} {x : Ev}, docs[k]? = some d → d.doc.evs[j]? = some x → (keysR docs)[offR docs k + j]? = some (d.reel, x.id)
 | [], k, j, d, x, h, _ => by simp at h
 | y :: docs, 0, j, d, x, h, hx => by
  simp at h; subst h
  have hj := (List.getElem?_eq_some_iff.1 hx).1
  unfold keysR offR
  rw [List.flatMap_cons, List.take_zero, List.map_nil, List.sum_nil, Nat.zero_add, List.getElem?_append_left (by simpa using hj), List.getElem?_map, hx]
  rfl
 | y :: docs, k + 1, j, d, x, h, hx => by
  rw [List.getElem?_cons_succ] at h
  have ih := keys_at h hx
  have ho : offR (y :: docs) (k + 1) = y.doc.evs.length + offR docs k := by unfold offR; simp
  have hk : keysR (y :: docs) = (y.doc.evs.map fun x => (y.reel, x.id)) ++ keysR docs := by unfold keysR; rw [List.flatMap_cons]
  rw [hk, ho, Nat.add_assoc, List.getElem?_append_right (by simp), List.length_map, Nat.add_sub_cancel_left]
  exact ih
theorem findRd_at {docs : List RDoc} {s : ByteArray} {k : Nat} (h : findRd docs s = some k) : ∃ d, docs[k]? = some d ∧ d.reel = s := by
 obtain ⟨hk, h1, -⟩ := List.findIdx?_eq_some_iff_getElem.1 h
 exact ⟨docs[k], List.getElem?_eq_getElem hk, by simpa using h1⟩
theorem rd_reels {rate : Int} {drop : Bool} : ∀ {l : List RDoc} {p : Option ByteArray}, rdLoop rate drop p l = 0 → (∀ q, p = some q → ∀ d ∈ l, q.toList < d.reel.toList) ∧ l.Pairwise fun a b => a.reel.toList < b.reel.toList
 | [], p, _ => ⟨fun _ _ d hd => by simp at hd, List.Pairwise.nil⟩
 | x :: l, p, h => by
  unfold rdLoop at h
  split at h
  · rename_i h1; exact absurd h h1
  · rename_i h1
    have h1 : rdNext rate drop p x = 0 := by simpa using h1
    obtain ⟨k1, k2⟩ := rd_reels h
    have hlt : ∀ q, p = some q → q.toList < x.reel.toList := fun q hq => by
     subst hq
     unfold rdNext at h1
     split at h1
     · omega
     · split at h1
       · omega
       · rename_i h3
         simp only [Option.map_some, Option.some.injEq, Bool.or_eq_true, beq_iff_eq, not_or, Bool.not_eq_true] at h3
         obtain ⟨h4, h5⟩ := h3
         rw [Go.Proofs.bytesLess_eq] at h4
         have h6 : ¬ x.reel.toList < q.toList := by simpa using h4
         exact Bs.lt_of_le_of_ne (List.not_lt.1 h6) (fun e => h5 e.symm)
    refine ⟨fun q hq d hd => ?_, List.pairwise_cons.2 ⟨fun d hd => k1 x.reel rfl d hd, k2⟩⟩
    rcases List.mem_cons.1 hd with rfl | hd
    · exact hlt q hq
    · exact Bs.lt_trans (hlt q hq) (k1 x.reel rfl d hd)
end
section
open Go.RowKit
structure Ent where
 i : Nat
 c : Cut
 x : Ev
 p : Spn
def entAt (c : Cut) (i : Nat) (x : Ev) : List Ent := match partE c x with | none => [] | some p => [⟨i, c, x, p⟩]
def entEvs (c : Cut) : Nat → List Ev → List Ent
 | _, [] => []
 | i, x :: l => entAt c i x ++ entEvs c (i + 1) l
def entC (docs : List RDoc) (c : Cut) : List Ent := match findRd docs c.reel with | none => [] | some k => entEvs c (offR docs k) (evsR docs k)
def ents (docs : List RDoc) (l : List Cut) : List Ent := l.flatMap (entC docs)
def addE (least : Int) (s : ConSt) (t : Ent) : ConSt := ⟨s.evs ++ [t.x.as ((s.evs.length : Int) + 1) t.p], s.fats.modify t.i fun f => f.note ((s.evs.length : Int) + 1) (decide (t.p.out - t.p.inn < least))⟩
def evsOf (l : List Ent) : List Ev := l.mapIdx fun j t => t.x.as ((j : Int) + 1) t.p
def idsW (q : Ent → Bool) (l : List Ent) : List Int := (l.zipIdx.filter fun u => q u.1).map fun u => (u.2 : Int) + 1
def atI (i : Nat) (t : Ent) : Bool := decide (t.i = i)
def shI (least : Int) (t : Ent) : Bool := decide (t.p.out - t.p.inn < least)
def fatOf (least : Int) (l : List Ent) (i : Nat) (f : Fat) : Fat := ⟨f.reel, f.id, idsW (atI i) l, f.lost, idsW (fun t => atI i t && shI least t) l⟩
end
section
open Go.RowKit
def xRun : Run := ⟨⟨#[72, 105]⟩, 0, false, false, ⟨#[]⟩⟩
def xE1 : Ev := ⟨1, 10, 30, ⟨#[]⟩, 1, ⟨#[]⟩, [[xRun]]⟩
def xE2 : Ev := ⟨2, 40, 50, ⟨#[]⟩, 1, ⟨#[]⟩, [[xRun]]⟩
def xDoc : Doc := ⟨⟨#[]⟩, ⟨#[]⟩, 3, false, 2, [], [xE1, xE2], []⟩
def xDocs : List RDoc := [⟨⟨#[65]⟩, xDoc⟩]
def xC1 : Cut := ⟨1, ⟨#[65]⟩, 0, 0, 20, 1, 1⟩
def xC2 : Cut := ⟨2, ⟨#[65]⟩, 25, 20, 30, 1, 1⟩
def xEdl : Edl := ⟨⟨#[]⟩, 3, false, [xC1, xC2]⟩
def xF1 : Fat := ⟨⟨#[65]⟩, 1, [1, 2], 5, [2]⟩
def xF2 : Fat := ⟨⟨#[65]⟩, 2, [], 10, []⟩
def xOut : Doc := ⟨⟨#[]⟩, ⟨#[]⟩, 3, false, 2, [], [xE1.as 1 ⟨10, 20⟩, xE1.as 2 ⟨20, 25⟩], []⟩
theorem xRd : rdLoop 3 false none xDocs = 0 := by kernel_rfl
theorem xVld : vld xEdl.title = true := by kernel_rfl
theorem xRok : rateOkB xEdl.rate xEdl.drop = true := by kernel_rfl
theorem xCuts : cutsErr (dayOf xEdl.rate xEdl.drop) 0 0 xEdl.cuts = 0 := by kernel_rfl
theorem cnt_le (ss : List Bs) : cnt ss ≤ ss.length := by
 unfold cnt
 rw [← len_srt ss]
 generalize srt ss = zs
 have h : ∀ m, (Lib.compactUpTo zs.toArray m).length ≤ m := by
  intro m
  induction m with
  | zero => simp [Lib.compactUpTo]
  | succ m ih =>
   rw [Lib.compactUpTo_succ, List.length_append]
   split <;> simp <;> omega
 unfold Lib.compact
 exact Nat.le_trans (h _) (by simp)
theorem xCnt : ¬ 16 < cnt xEdl.names := by
 have h := cnt_le xEdl.names
 have : xEdl.names.length = 2 := rfl
 omega
theorem xEdl_err : edlErr xEdl = 0 := edl_ok xVld (by decide) xRok (by decide) xCuts xCnt
theorem xText : textF [xF1, xF2] = [65, 32, 49, 32, 83, 80, 76, 73, 84, 32, 50, 32, 53, 32, 49, 10, 65, 32, 50, 32, 68, 82, 79, 80, 80, 69, 68, 32, 48, 32, 49, 48, 32, 48, 10] := by kernel_rfl
theorem xOrig : orig [xF1, xF2] 2 = (⟨#[65]⟩, 1, true) := by kernel_rfl
theorem xPlJ : joinS (plC xEdl.cuts ⟨#[65]⟩) = [⟨0, 20⟩, ⟨25, 35⟩] := by kernel_rfl
theorem xPl : plE xEdl ⟨#[65]⟩ = [⟨0, 20⟩, ⟨25, 35⟩] := by unfold plE; rw [if_pos xEdl_err, xPlJ]
theorem xJoin : joinC xEdl.cuts = [xC1, xC2] := by kernel_rfl
theorem xErr : conErr xDocs xEdl = 0 := by
 unfold conErr
 rw [if_neg (by simp [xEdl_err]), if_neg (by decide), if_neg (by rw [show xEdl.rate = 3 from rfl, show xEdl.drop = false from rfl, xRd]; decide)]
 kernel_rfl
theorem xLost1 : lostS ⟨10, 30⟩ [⟨0, 20⟩, ⟨25, 35⟩] = 5 := by kernel_rfl
theorem xLost2 : lostS ⟨40, 50⟩ [⟨0, 20⟩, ⟨25, 35⟩] = 10 := by kernel_rfl
theorem xFats : fatsR xEdl xDocs = [⟨⟨#[65]⟩, 1, [], 5, []⟩, ⟨⟨#[65]⟩, 2, [], 10, []⟩] := by
 show [Fat.mk ⟨#[65]⟩ 1 [] (lostS ⟨10, 30⟩ (plE xEdl ⟨#[65]⟩)) [], Fat.mk ⟨#[65]⟩ 2 [] (lostS ⟨40, 50⟩ (plE xEdl ⟨#[65]⟩)) []] = _
 rw [xPl, xLost1, xLost2]
theorem xSt0 : conCuts xDocs 6 [xC1, xC2] ⟨[], [⟨⟨#[65]⟩, 1, [], 5, []⟩, ⟨⟨#[65]⟩, 2, [], 10, []⟩]⟩ = ⟨[xE1.as 1 ⟨10, 20⟩, xE1.as 2 ⟨20, 25⟩], [xF1, xF2]⟩ := by kernel_rfl
theorem xSt : conSt xDocs xEdl 6 = ⟨[xE1.as 1 ⟨10, 20⟩, xE1.as 2 ⟨20, 25⟩], [xF1, xF2]⟩ := by unfold conSt; rw [xJoin, xFats, xSt0]
theorem xE : conE xDocs xEdl 6 = 0 := by
 unfold conE
 rw [if_neg (by simp [xErr]), if_neg (by decide), xSt]
 rfl
theorem xConDoc : conDoc xDocs xEdl 6 = xOut := by
 unfold conDoc
 rw [if_pos xE, xSt]
 rfl
theorem xConFats : conFats xDocs xEdl 6 = [xF1, xF2] := by unfold conFats; rw [if_pos xE, xSt]
theorem xFit : RDocsFit xDocs := by
 refine ⟨fun d hd => ?_, fun d hd => ?_⟩
 · simp [xDocs] at hd; subst hd; decide
 · simp [xDocs] at hd
   subst hd
   have hev : ∀ e ∈ xDoc.evs, e = xE1 ∨ e = xE2 := fun e he => by simpa [xDoc] using he
   have hrow : ∀ r ∈ [[xRun]], RowSmall r := fun r hr => by
    simp at hr; subst hr
    refine ⟨by decide, fun x hx => ?_⟩
    simp at hx; subst hx
    exact ⟨by decide, by decide⟩
   refine ⟨⟨by decide, by decide, by decide, by decide⟩, (fun r hr => by cases hr), (fun e he => ?_), (fun e he => ?_), (fun c hc => by cases hc)⟩
   · rcases hev e he with rfl | rfl
     · exact ⟨⟨by decide, by decide, hrow⟩, by decide⟩
     · exact ⟨⟨by decide, by decide, hrow⟩, by decide⟩
   · rcases hev e he with rfl | rfl
     · exact ⟨by decide, by decide⟩
     · exact ⟨by decide, by decide⟩
theorem xEdlOk : EdlOk xEdl := ⟨by decide, by decide, by decide, fun c hc => by
 have : c = xC1 ∨ c = xC2 := by simpa [xEdl] using hc
 rcases this with rfl | rfl
 · exact ⟨⟨by decide, by decide⟩, ⟨by decide, by decide⟩, ⟨by decide, by decide⟩, ⟨by decide, by decide⟩, ⟨by decide, by decide⟩, ⟨by decide, by decide⟩, by decide⟩
 · exact ⟨⟨by decide, by decide⟩, ⟨by decide, by decide⟩, ⟨by decide, by decide⟩, ⟨by decide, by decide⟩, ⟨by decide, by decide⟩, ⟨by decide, by decide⟩, by decide⟩⟩
theorem xTx : FatsTx [xF1, xF2] := by
 refine ⟨fun f hf => ?_, fun f hf => ?_, ⟨fun f hf => ?_, fun f hf => ?_⟩, by rw [xText]; decide⟩
 all_goals
  have : f = xF1 ∨ f = xF2 := by simpa using hf
  rcases this with rfl | rfl <;> decide
end
section
open Go.RowKit
theorem info_regI : (Tryz.prog.info? 105).map (fun i => (i.zero, i.size, i.bytes)) = some (some (.agg #[.string ⟨#[]⟩, .int .i64 0, .int .i64 0, .int .i64 0, .int .i64 0, .int .u8 0, .bool false]), 7, 56) := by kernel_rfl
theorem info_comI : (Tryz.prog.info? 152).map (fun i => (i.zero, i.size, i.bytes)) = some (some (.agg #[.int .i64 0, .int .i64 0, .int .i64 0, .int .i64 0, .string ⟨#[]⟩, .string ⟨#[]⟩, .bool false, .bool false]), 8, 72) := by kernel_rfl
theorem info_evtI : (Tryz.prog.info? 64).map (fun i => (i.zero, i.size, i.bytes)) = some (some (.agg #[.int .i64 0, .int .i64 0, .int .i64 0, .string ⟨#[]⟩, .int .u8 0, .string ⟨#[]⟩, .slice none 0 0]), 7, 88) := by kernel_rfl
theorem reg_ones : ∀ (r : Reg), ∀ u ∈ r.vals, u.oneCell' = true := by intro r u hu; simp [Reg.vals] at hu; rcases hu with rfl | rfl | rfl | rfl | rfl | rfl | rfl <;> rfl
theorem com_ones : ∀ (r : Com), ∀ u ∈ r.vals, u.oneCell' = true := by intro r u hu; simp [Com.vals] at hu; rcases hu with rfl | rfl | rfl | rfl | rfl | rfl | rfl | rfl <;> rfl
theorem eh_ones : ∀ (r : EH), ∀ u ∈ r.vals, u.oneCell' = true := by intro r u hu; simp [EH.vals] at hu; rcases hu with rfl | rfl | rfl | rfl | rfl | rfl | rfl <;> rfl
def CloneRegsPost (l : List Reg) (n : Nat) (w : World) (e : Ending) (w' : World) : Prop :=
 ∃ A c, e = .returned (.slice A n c) ∧ w'.ownsRow w.heap.size 105 7 (.slice A n c) n (l.flatMap Reg.vals) ∧ Ext w w'
set_option maxHeartbeats 1000000 in
theorem CloneRegs_any (A : Option Addr) (n c : Nat) (l : List Reg) (w : World) (hl : Sl w 7 (Cells Reg.vals) A n l) (hn : n * 56 ≤ 140737488355328) :
 Calls Tryz.prog 116 #[.slice A n c] w (CloneRegsPost l n w) := by
 have hq := fun w => Lib.run_eql_slice_nil (P := Tryz.prog) w 48 105 A n c 0 0 Tryz.underlying48
 have HL := Lib.hid hl
 clear hl
 cases A with
 | none =>
  have hn0 : n = 0 := by
   rcases Nat.eq_zero_or_pos n with h | h
   · exact h
   · obtain ⟨_, _, h, _⟩ := HL.out.2 h; cases h
  subst hn0
  have hs0 : l = [] := List.eq_nil_of_length_eq_zero HL.out.len
  subst hs0
  simp only [Option.isNone_none] at hq
  go_enter Tryz.func116, Tryz.ntmps116
  go_wp2_with fail
  go_ret
  exact ⟨none, 0, rfl, ⟨rfl, .inl ⟨rfl, rfl⟩⟩, Ext.refl _⟩
 | some ad =>
  simp only [Option.isNone_some] at hq
  go_enter Tryz.func116, Tryz.ntmps116
  go_wp2_with (at_builtin; refine wpList_appendS rfl (.tmp 5) (.tmp 6) 48 rfl info_regI Tryz.underlying48 rfl (by decide) (by exact own_nil0 w _ _ w.heap.size (Nat.le_refl _)) (by exact rfl) (by exact rfl) (by exact Sl.ext (Cells.stays _) HL.out ((Ext.refl w).alloc _)) (fun _ => rfl) reg_ones (by omega) (by simp [maxLen]; omega) (by simp) ?_; intro v' w' hown hgr hnil)
  go_ret
  simp only [Nat.zero_add, List.nil_append] at hown
  obtain ⟨A', c', rfl, hc, _, hsl, hfr⟩ := own_sl (f := Reg.vals) (size := 7) (fun _ => rfl) HL.out.len hown
  exact ⟨A', c', rfl, hown, ((Ext.refl w).alloc _).grown hgr (fun q hq => by simp [Value.ownBlock] at hq; omega)⟩
def CloneComsPost (l : List Com) (n : Nat) (w : World) (e : Ending) (w' : World) : Prop :=
 ∃ A c, e = .returned (.slice A n c) ∧ w'.ownsRow w.heap.size 152 8 (.slice A n c) n (l.flatMap Com.vals) ∧ Ext w w'
set_option maxHeartbeats 1000000 in
theorem CloneComs_any (A : Option Addr) (n c : Nat) (l : List Com) (w : World) (hl : Sl w 8 (Cells Com.vals) A n l) (hn : n * 72 ≤ 140737488355328) :
 Calls Tryz.prog 117 #[.slice A n c] w (CloneComsPost l n w) := by
 have hq := fun w => Lib.run_eql_slice_nil (P := Tryz.prog) w 50 152 A n c 0 0 Tryz.underlying50
 have HL := Lib.hid hl
 clear hl
 cases A with
 | none =>
  have hn0 : n = 0 := by
   rcases Nat.eq_zero_or_pos n with h | h
   · exact h
   · obtain ⟨_, _, h, _⟩ := HL.out.2 h; cases h
  subst hn0
  have hs0 : l = [] := List.eq_nil_of_length_eq_zero HL.out.len
  subst hs0
  simp only [Option.isNone_none] at hq
  go_enter Tryz.func117, Tryz.ntmps117
  go_wp2_with fail
  go_ret
  exact ⟨none, 0, rfl, ⟨rfl, .inl ⟨rfl, rfl⟩⟩, Ext.refl _⟩
 | some ad =>
  simp only [Option.isNone_some] at hq
  go_enter Tryz.func117, Tryz.ntmps117
  go_wp2_with (at_builtin; refine wpList_appendS rfl (.tmp 5) (.tmp 6) 50 rfl info_comI Tryz.underlying50 rfl (by decide) (by exact own_nil0 w _ _ w.heap.size (Nat.le_refl _)) (by exact rfl) (by exact rfl) (by exact Sl.ext (Cells.stays _) HL.out ((Ext.refl w).alloc _)) (fun _ => rfl) com_ones (by omega) (by simp [maxLen]; omega) (by simp) ?_; intro v' w' hown hgr hnil)
  go_ret
  simp only [Nat.zero_add, List.nil_append] at hown
  obtain ⟨A', c', rfl, hc, _, hsl, hfr⟩ := own_sl (f := Com.vals) (size := 8) (fun _ => rfl) HL.out.len hown
  exact ⟨A', c', rfl, hown, ((Ext.refl w).alloc _).grown hgr (fun q hq => by simp [Value.ownBlock] at hq; omega)⟩
def CloneEHsPost (l : List EH) (n : Nat) (w : World) (e : Ending) (w' : World) : Prop :=
 ∃ A c, e = .returned (.slice A n c) ∧ w'.ownsRow w.heap.size 64 7 (.slice A n c) n (l.flatMap EH.vals) ∧ Ext w w'
set_option maxHeartbeats 1000000 in
theorem CloneEHs_any (A : Option Addr) (n c : Nat) (l : List EH) (w : World) (hl : Sl w 7 (Cells EH.vals) A n l) (hn : n * 88 ≤ 140737488355328) :
 Calls Tryz.prog 118 #[.slice A n c] w (CloneEHsPost l n w) := by
 have hq := fun w => Lib.run_eql_slice_nil (P := Tryz.prog) w 49 64 A n c 0 0 Tryz.underlying49
 have HL := Lib.hid hl
 clear hl
 cases A with
 | none =>
  have hn0 : n = 0 := by
   rcases Nat.eq_zero_or_pos n with h | h
   · exact h
   · obtain ⟨_, _, h, _⟩ := HL.out.2 h; cases h
  subst hn0
  have hs0 : l = [] := List.eq_nil_of_length_eq_zero HL.out.len
  subst hs0
  simp only [Option.isNone_none] at hq
  go_enter Tryz.func118, Tryz.ntmps118
  go_wp2_with fail
  go_ret
  exact ⟨none, 0, rfl, ⟨rfl, .inl ⟨rfl, rfl⟩⟩, Ext.refl _⟩
 | some ad =>
  simp only [Option.isNone_some] at hq
  go_enter Tryz.func118, Tryz.ntmps118
  go_wp2_with (at_builtin; refine wpList_appendS rfl (.tmp 5) (.tmp 6) 49 rfl info_evtI Tryz.underlying49 rfl (by decide) (by exact own_nil0 w _ _ w.heap.size (Nat.le_refl _)) (by exact rfl) (by exact rfl) (by exact Sl.ext (Cells.stays _) HL.out ((Ext.refl w).alloc _)) (fun _ => rfl) eh_ones (by omega) (by simp [maxLen]; omega) (by simp) ?_; intro v' w' hown hgr hnil)
  go_ret
  simp only [Nat.zero_add, List.nil_append] at hown
  obtain ⟨A', c', rfl, hc, _, hsl, hfr⟩ := own_sl (f := EH.vals) (size := 7) (fun _ => rfl) HL.out.len hown
  exact ⟨A', c', rfl, hown, ((Ext.refl w).alloc _).grown hgr (fun q hq => by simp [Value.ownBlock] at hq; omega)⟩
theorem RegsAt.vals {w : World} {A : Option Addr} {n : Nat} {l : List Reg} (h : RegsAt w A n l) : Sl w 7 (Cells Reg.vals) A n l := Sl.change h fun _ _ _ => cells_regC
theorem evs_heads {w : World} {A : Option Addr} {n : Nat} {l : List Ev} (h : EvsAt w A n l) : ∃ hs : List EH, Sl w 7 (Cells EH.vals) A n hs ∧ ∀ (i : Nat) (x : EH) (e : Ev), hs[i]? = some x → l[i]? = some e → x = EH.of e x.A x.n x.c ∧ EvAt w e x.A x.n x.c := by
 have hall : ∀ i : Nat, ∃ x : EH, i < n → (∀ b off, A = some ⟨b, off, none⟩ → ∀ j u, x.vals[j]? = some u → w.cell? ⟨b, off + i * 7 + j, none⟩ = some u) ∧ ∀ e, l[i]? = some e → x = EH.of e x.A x.n x.c ∧ EvAt w e x.A x.n x.c := by
  intro i
  by_cases hi : i < n
  · obtain ⟨b, off, e, hA, he, A', n', c', h1, h2⟩ := h.at_ hi
    refine ⟨EH.of e A' n' c', fun _ => ⟨fun b' off' hA' => ?_, fun e' he' => ?_⟩⟩
    · rw [hA] at hA'
      cases hA'
      exact h1
    · rw [he] at he'
      cases he'
      exact ⟨rfl, h2⟩
  · exact ⟨⟨0, 0, 0, ⟨#[]⟩, 0, ⟨#[]⟩, none, 0, 0⟩, fun h => absurd h hi⟩
 obtain ⟨f, hf⟩ := Classical.axiomOfChoice hall
 have hat : ∀ (i : Nat) (x : EH), ((List.range n).map f)[i]? = some x → i < n ∧ x = f i := fun i x hx => by
  have hi : i < n := by
   have := (List.getElem?_eq_some_iff.1 hx).1
   simpa using this
  rw [List.getElem?_map, List.getElem?_range hi] at hx
  exact ⟨hi, (Option.some.inj hx).symm⟩
 refine ⟨(List.range n).map f, ⟨by simp, fun hn => ?_⟩, fun i x e hx he => ?_⟩
 · obtain ⟨b, off, hA, _⟩ := h.2 hn
   refine ⟨b, off, hA, fun i x hx j u hu => ?_⟩
   obtain ⟨hi, rfl⟩ := hat i x hx
   exact (hf i hi).1 b off hA j u hu
 · obtain ⟨hi, rfl⟩ := hat i x hx
   exact (hf i hi).2 e he
end
end Go.Proofs.YtablhmobekmflaaGreatDoor