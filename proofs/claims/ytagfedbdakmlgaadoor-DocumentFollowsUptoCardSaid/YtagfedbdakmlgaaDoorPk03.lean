/- Laid together: The stable sort of events: the symmetric merge. The stable sort of events: the merge at whatever length, the blocks, SortStableFunc. Plain functions on strings and runes: no program in sight. The walks of package charset (place, Index, Valid, Len): what each returns, as a plain function. The walks of package charset (Valid, Len). The walks of strings.Builder's copyCheck and WriteString (the shelf's contracts do not fit this translation: its copyCheck bears a refused statement), after the library's own texts. -/
import Derived.Test.YtagfedbdakmlgaaDoorPk02
import Derived.Laws.RangeAny
import Derived.Test.YtagfedbdakmlgaaDoorPk01
import Derived.Test.YtagfedbdakmlgaaDoorShelf
import Derived.Lib.OthersKept
import Derived.Lib.Builder
import Derived.Lib.AppendStr

/-! StbD -/
namespace Go.Proofs.YtagfedbdakmlgaaDoor
set_option linter.unusedVariables false
set_option linter.unusedSimpArgs false
open Go.Shelf Go.RowKit Go.Lib Go.Sort
variable {P : Program} {k : Nat} {α : Type} [Inhabited α]

set_option maxHeartbeats 8000000 in
set_option maxRecDepth 1000000 in
theorem symC_st (L : StL P k) (enc : α → List Value) (cf : α → α → Int) (g : Nat) (cb : Array Value) (blk off cap : Nat) (d0 d : Array α) (w0 w : World) (a m b N0 : Nat) (eg : ∀ args w, (callFunc g args).run P w = .ok (.enter g args) w) (hcmp : CmpLays P g cb enc k cf blk off d0.size w0) (R : RowK enc k w0 blk off d0) (hs : d0.size = d.size) (S : SWK enc k w0 blk off d w) (hsz : d.size < 1152921504606846976) (hw : Stb.SW (ltOf cf)) (ham : a < m) (hm1 : m ≠ a + 1) (hmb : m < b) (hm2 : b ≠ m + 1) (hb : b ≤ d.size) (hs1 : Stb.Srt (ltOf cf) d.toList a m) (hs2 : Stb.Srt (ltOf cf) d.toList m b) (hN : b - a = N0)
    (IH : Aside (∀ (a m b : Nat) (dk : Array α) (w : World), b - a < N0 → a < m → m < b → b ≤ dk.size → dk.size = d.size → SWK enc k w0 blk off dk w → Stb.Srt (ltOf cf) dk.toList a m → Stb.Srt (ltOf cf) dk.toList m b → Calls P 111 #[.slice (some ⟨blk, off, none⟩) d.size cap, .int .i64 a, .int .i64 m, .int .i64 b, .func (.func g) #[] cb] w fun e w' => e = .returned (.tuple #[]) ∧ ∃ d', d'.size = d.size ∧ SWK enc k w0 blk off d' w' ∧ Stb.Loc (ltOf cf) a b dk.toList d'.toList ∧ Stb.Srt (ltOf cf) d'.toList a b)) :
    Calls P 111 #[.slice (some ⟨blk, off, none⟩) d.size cap, .int .i64 a, .int .i64 m, .int .i64 b, .func (.func g) #[] cb] w fun e w' => e = .returned (.tuple #[]) ∧ ∃ d', d'.size = d.size ∧ SWK enc k w0 blk off d' w' ∧ Stb.Loc (ltOf cf) a b d.toList d'.toList ∧ Stb.Srt (ltOf cf) d'.toList a b := by
  have mixed := L.mixed; have t0 := L.t0; have a0 := L.a0; have z0 := L.z0; have v0 := L.v0; have t3 := L.t3; have a3 := L.a3; have z3 := L.z3; have v3 := L.v3; have t4 := L.t4; have a4 := L.a4; have z4 := L.z4; have v4 := L.v4; have tS := L.tS; have aS := L.aS; have zS := L.zS; have vS := L.vS; have tF := L.tF; have aF := L.aF; have zF := L.zF; have vF := L.vF; have tU := L.tU; have aU := L.aU; have zU := L.zU; have vU := L.vU; have aE := L.aE; have zE := L.zE
  have uS := run_underlying L.tS; have u3 := run_underlying L.t3; have uU := run_underlying L.tU
  have erotate : ∀ args w, (callFunc 116 args).run P w = .ok (.enter 116 args) w := enters_of L.frotate (by kernel_rfl) rfl
  have esymMerge : ∀ args w, (callFunc 111 args).run P w = .ok (.enter 111 args) w := enters_of L.fsymMerge (by kernel_rfl) rfl
  have HC : Aside _ := hcmp
  have HW := Lib.hid hw
  have HS1 := Lib.hid hs1
  have HS2 := Lib.hid hs2
  have S0 : Aside _ := S
  have HLd : Hid (d.toList.length = d.size) := Array.length_toList
  have HRt : Aside (∀ (a m b : Nat) (dk : Array α) (w : World), dk.size = d.size → SWK enc k w0 blk off dk w → a < m → m < b → b ≤ dk.size → Calls P 116 #[.slice (some ⟨blk, off, none⟩) d.size cap, .int .i64 a, .int .i64 m, .int .i64 b, .func (.func g) #[] cb] w fun e w' => e = .returned (.tuple #[]) ∧ ∃ d', d'.size = d.size ∧ SWK enc k w0 blk off d' w' ∧ d'.toList = Stb.rot dk.toList a m b) := fun a m b dk w hd hS h1 h2 h3 => by
    have := rotate_st L enc cf g cb blk off cap d0 dk w0 w a m b R (by omega) hS (by omega) h1 h2 h3
    rwa [hd] at this
  have hz1 : ((m : Int) - (a : Int) == 1) = false := by simp; omega
  have hz2 : ((b : Int) - (m : Int) == 1) = false := by simp; omega
  obtain ⟨mid, hmid⟩ : ∃ mid, mid = (a + b) / 2 := ⟨_, rfl⟩
  have hmz : ((a : Int) + (b : Int)) / 2 = (mid : Int) := by omega
  obtain ⟨N, hNn⟩ : ∃ N, N = mid + m := ⟨_, rfl⟩
  have hNz : (mid : Int) + (m : Int) = (N : Int) := by omega
  obtain ⟨p, hp⟩ : ∃ p, p = N - 1 := ⟨_, rfl⟩
  have hpz : (N : Int) - 1 = (p : Int) := by omega
  obtain ⟨s0, hs0⟩ : ∃ s0, s0 = if mid < m then N - b else a := ⟨_, rfl⟩
  obtain ⟨r0, hr0⟩ : ∃ r0, r0 = if mid < m then mid else m := ⟨_, rfl⟩
  have HB : Hid (a ≤ s0 ∧ s0 ≤ r0 ∧ r0 ≤ m ∧ r0 ≤ mid ∧ N ≤ b + s0 ∧ a < mid ∧ mid < b ∧ m ≤ b) := by
    show _ ∧ _
    split at hs0 <;> rename_i hif <;> simp only [hif, if_true, if_false] at hr0 <;> omega
  have HSR : Hid ((mid < m → N = b + s0 ∧ r0 = mid) ∧ (¬ mid < m → s0 = a ∧ r0 = m)) := by
    show _ ∧ _
    split at hs0 <;> rename_i hif <;> simp only [hif, if_true, if_false] at hr0
    · exact ⟨fun _ => by omega, fun h => absurd hif h⟩
    · exact ⟨fun h => absurd h hif, fun _ => by omega⟩
  have HNn := Lib.hid hNn
  have HPn := Lib.hid hp
  have HMn := Lib.hid hmid
  clear hcmp S hw hs1 hs2 hs0 hr0 hNn hp hmid
  have b1 : mid < d.size := by have := HB.out; omega
  have b2 : N < 2305843009213693952 := by have := HNn.out; omega
  go_enter L.fsymMerge, Tryd.ntmps111
  go_upto_if 140 with fail
  have S1 := S0
  clear S0
  go_cut [20, 21] (fun s20 s21 wr => s20 = .int .i64 s0 ∧ s21 = .int .i64 r0 ∧ Aside (SWK enc k w0 blk off d wr))
  case first =>
    by_cases hgt : mid < m
    · have hgz : (mid : Int) < (m : Int) := by omega
      have hd1 : (N : Int) - (b : Int) = (s0 : Int) := by have := (HSR.out.1 hgt).1; omega
      have hd2 : Hid (r0 = mid) := (HSR.out.1 hgt).2
      go_wp2_with fail
      go_meet
      case rel => exact ⟨rfl, by rw [hd2.out], S1⟩
    · have hgz : ¬ (mid : Int) < (m : Int) := by omega
      have hd1 := Lib.hid (HSR.out.2 hgt)
      go_wp2_with fail
      go_meet
      case rel => exact ⟨by rw [hd1.out.1], by rw [hd1.out.2], S1⟩
  case rest =>
  obtain ⟨rfl, rfl, S2⟩ := hcut
  clear S1
  go_wp2_with fail
  go_loopg [20, 21] (r0 - s0) (fun kx s20 s21 wr => ∃ (s r : Nat), s20 = .int .i64 s ∧ s21 = .int .i64 r ∧ s0 ≤ s ∧ s ≤ r ∧ r ≤ r0 ∧ r - s ≤ kx ∧ Aside (SWK enc k w0 blk off d wr) ∧ Hid (∀ x y, a < s → d.toList[s - 1]? = some x → d.toList[N - s]? = some y → N - s < b → ltOf cf y x = false) ∧ Hid (∀ x y, r < m → m < N - r → d.toList[r]? = some x → d.toList[N - r - 1]? = some y → ltOf cf y x = true))
  case atStart =>
    have e1 := HSR.out
    have e2 := HNn.out
    have e3 := HB.out
    refine ⟨s0, r0, rfl, rfl, Nat.le_refl _, e3.2.1, Nat.le_refl _, Nat.le_refl _, S2, (show Hid _ from fun x y h1 h2 h3 h4 => ?_), (show Hid _ from fun x y h1 h2 h3 h4 => ?_)⟩
    · exfalso
      by_cases hif : mid < m
      · have := e1.1 hif; omega
      · have := e1.2 hif; omega
    · exfalso
      by_cases hif : mid < m
      · have := e1.1 hif; omega
      · have := e1.2 hif; omega
  case round =>
    clear S2
    obtain ⟨s, r, rfl, rfl, hs0, hsr, hrr, hkx, S3, HLo, HHi⟩ := hrel
    by_cases hlt : s < r
    · have hltz : (s : Int) < (r : Int) := by omega
      obtain ⟨c, hc⟩ : ∃ c, c = (s + r) / 2 := ⟨_, rfl⟩
      have hcz : ((s : Int) + (r : Int)) / 2 = (c : Int) := by omega
      have hcs : s ≤ c := by omega
      have hcr : c < r := by omega
      obtain ⟨q, hq⟩ : ∃ q, q = p - c := ⟨_, rfl⟩
      have hqz : (p : Int) - (c : Int) = (q : Int) := by have := HB.out; have := HNn.out; have := HPn.out; omega
      have hcd : c < d.size := by have := HB.out; omega
      have hqd : q < d.size := by have := HB.out; have := HNn.out; have := HPn.out; omega
      have HQn : Hid (q = N - 1 - c) := by show _ = _; have := HPn.out; omega
      have HQv : Hid (d.toList[q]? = some d[q]!) := arr_get hqd
      have HCv : Hid (d.toList[c]? = some d[c]!) := arr_get hcd
      clear hc hq
      by_cases hv : cf d[q]! d[c]! < 0
      · have HLt := Lib.hid (lts_true hv)
        have ea1 : ((q : Int)).toNat = q := by omega
        have pa1 : (0 : Int) ≤ (q : Int) := by omega
        have ba1 : (q : Int) < (d.size : Int) := by omega
        have ra1 : IntKind.i64.wrap ((q : Int)) = (q : Int) := by rw [IntKind.wrap_i64]; omega
        have ec1 : ((c : Int)).toNat = c := by omega
        have pc1 : (0 : Int) ≤ (c : Int) := by omega
        have bc1 : (c : Int) < (d.size : Int) := by omega
        have rc1 : IntKind.i64.wrap ((c : Int)) = (c : Int) := by rw [IntKind.wrap_i64]; omega
        obtain ⟨x1, hx1⟩ : ∃ x, x = d[q]! := ⟨_, rfl⟩
        obtain ⟨y1, hy1⟩ : ∃ x, x = d[c]! := ⟨_, rfl⟩
        have l1a := S3.out.ld R (by omega) P (q) (by omega)
        have l1b := S3.out.ld R (by omega) P (c) (by omega)
        rw [← hx1] at l1a
        rw [← hy1] at l1b
        have hc1 := S3.out.cmp HC.out (by omega) x1 y1
        have hv1 : cf x1 y1 < 0 := by rw [hx1, hy1]; exact hv
        have hd1 : decide (cf x1 y1 < 0) = true := decide_eq_true hv1
        clear hx1 hy1
        go_wp2_with fail
        go_quiet_grown (first | (go_at_fn g; refine Calls.grown_of (hc1 _ _)))
        have S4 : Aside (SWK enc k w0 blk off d (grow (wr.drewN nq) osq)) := S3.out.grown nq osq
        clear l1a l1b hc1 S3 hv1 hd1
        generalize grow (wr.drewN nq) osq = w4 at S4 ⊢
        clear nq osq
        clear ea1 pa1 ba1 ra1 ec1 pc1 bc1 rc1
        go_wp2
        go_roundg (c - s)
        case measure => omega
        case rel =>
          refine ⟨s, c, rfl, rfl, hs0, hcs, by omega, Nat.le_refl _, S4, HLo, (show Hid _ from fun x y h1 h2 h3 h4 => ?_)⟩
          rw [show N - c - 1 = q by have := HQn.out; omega, HQv.out] at h4
          rw [HCv.out] at h3
          cases h3
          cases h4
          exact HLt.out
      · have HLt := Lib.hid (lts_false hv)
        have ea2 : ((q : Int)).toNat = q := by omega
        have pa2 : (0 : Int) ≤ (q : Int) := by omega
        have ba2 : (q : Int) < (d.size : Int) := by omega
        have ra2 : IntKind.i64.wrap ((q : Int)) = (q : Int) := by rw [IntKind.wrap_i64]; omega
        have ec2 : ((c : Int)).toNat = c := by omega
        have pc2 : (0 : Int) ≤ (c : Int) := by omega
        have bc2 : (c : Int) < (d.size : Int) := by omega
        have rc2 : IntKind.i64.wrap ((c : Int)) = (c : Int) := by rw [IntKind.wrap_i64]; omega
        obtain ⟨x2, hx2⟩ : ∃ x, x = d[q]! := ⟨_, rfl⟩
        obtain ⟨y2, hy2⟩ : ∃ x, x = d[c]! := ⟨_, rfl⟩
        have l2a := S3.out.ld R (by omega) P (q) (by omega)
        have l2b := S3.out.ld R (by omega) P (c) (by omega)
        rw [← hx2] at l2a
        rw [← hy2] at l2b
        have hc2 := S3.out.cmp HC.out (by omega) x2 y2
        have hv2 : ¬ cf x2 y2 < 0 := by rw [hx2, hy2]; exact hv
        have hd2 : decide (cf x2 y2 < 0) = false := decide_eq_false hv2
        clear hx2 hy2
        go_wp2_with fail
        go_quiet_grown (first | (go_at_fn g; refine Calls.grown_of (hc2 _ _)))
        have S4 : Aside (SWK enc k w0 blk off d (grow (wr.drewN nq) osq)) := S3.out.grown nq osq
        clear l2a l2b hc2 S3 hv2 hd2
        generalize grow (wr.drewN nq) osq = w4 at S4 ⊢
        clear nq osq
        clear ea2 pa2 ba2 ra2 ec2 pc2 bc2 rc2
        go_wp2
        go_roundg (r - (c + 1))
        case measure => omega
        case rel =>
          refine ⟨c + 1, r, by go_num, rfl, by omega, by omega, hrr, Nat.le_refl _, S4, (show Hid _ from fun x y h1 h2 h3 h4 => ?_), HHi⟩
          rw [show N - (c + 1) = q by have := HQn.out; omega, HQv.out] at h3
          rw [show c + 1 - 1 = c by omega, HCv.out] at h2
          cases h2
          cases h3
          exact HLt.out
    · obtain rfl : r = s := by omega
      have hltz : ¬ (r : Int) < (r : Int) := by omega
      obtain ⟨e, he⟩ : ∃ e, e = N - r := ⟨_, rfl⟩
      have hez : (N : Int) - (r : Int) = (e : Int) := by have := HB.out; have := HNn.out; omega
      have hbe : e ≤ b := by have := HB.out; omega
      have hem : mid ≤ e := by have := HB.out; have := HNn.out; omega
      have hrm : r ≤ mid := by have := HB.out; omega
      have har : a ≤ r := by have := HB.out; omega
      have HEn : Hid (mid + m - r = e) := by show _ = _; have := HNn.out; omega
      have hrm2 : r ≤ m := by have := HB.out; omega
      have hme : m ≤ e := by have := HNn.out; omega
      have ham2 : a < mid := by have := HB.out; omega
      have hmb2 : mid < b := by have := HB.out; omega
      have HCut : Hid (Stb.Cut (ltOf cf) d.toList a m b mid r) := by
        show Stb.Cut _ _ _ _ _ _ _
        have e2 := HNn.out
        refine ⟨har, hrm2, by omega, by omega, hrm, fun x y h1 h2 h3 h4 => HLo.out x y h1 h2 (by rw [e2]; exact h3) (by omega), fun x y h1 h2 h3 h4 => HHi.out x y h1 (by omega) h3 (by rw [e2]; exact h4)⟩
      have HRo := Lib.hid (HCut.out.rot HW.out (by rw [HLd.out]; exact hb) HS1.out HS2.out)
      rw [HEn.out] at HRo
      clear he HLo HHi HCut HSR
      have HI1 : Hid (m < e ↔ r < mid) := by show _ ↔ _; have := HEn.out; omega
      have HI2 : Hid (r < m ↔ mid < e) := by show _ ↔ _; have := HEn.out; omega
      go_upto_region 39 with fail
      by_cases q1 : r < m
      · have q1z : (r : Int) < (m : Int) := by omega
        by_cases q2 : m < e
        · have q2z : (m : Int) < (e : Int) := by omega
          have hrot := HRt.out r m e d _ rfl S3.out q1 q2 (by omega)
          clear S3
          go_upto_region 41 with (go_at_fn 116; refine hrot.mono ?_; rintro e w' ⟨rfl, d2, hd2, hS2, hl2⟩)
          have S5 : Aside _ := hS2
          rw [← hl2] at HRo
          clear hl2 hS2 HRt
          by_cases q3 : a < r
          · have q3z : (a : Int) < (r : Int) := by omega
            have q4 : r < mid := HI1.out.1 q2
            have q4z : (r : Int) < (mid : Int) := by omega
            have hih := IH.out a r mid d2 _ (by omega) q3 q4 (by omega) (by first | rfl | exact hd2) S5.out HRo.out.2.1 HRo.out.2.2.1
            clear S5
            go_upto_region 43 with (go_at_fn 111; refine hih.mono ?_; rintro e w' ⟨rfl, d3, hd3, hS3, hL3, hs3⟩)
            have S9 : Aside _ := hS3
            have HL3 := Lib.hid hL3
            have HS3 := Lib.hid hs3
            clear hS3 hL3 hs3
            have HA1 : Hid (Stb.Srt (ltOf cf) d3.toList mid e) := HRo.out.2.2.2.1.of_out HL3.out (.inr (Nat.le_refl _))
            have HA2 : Hid (Stb.Srt (ltOf cf) d3.toList e b) := HRo.out.2.2.2.2.1.of_out HL3.out (.inr hem)
            have q7z : (mid : Int) < (e : Int) := by have := HI2.out.1 q1; omega
            by_cases q8 : e < b
            · have q8z : (e : Int) < (b : Int) := by omega
              have hih := IH.out mid e b d3 _ (by omega) (HI2.out.1 q1) q8 (by omega) (by first | rfl | exact hd3) S9.out HA1.out HA2.out
              clear S9
              go_wp2_with (go_at_fn 111; refine hih.mono ?_; rintro e w' ⟨rfl, d4, hd4, hS4, hL4, hs4⟩)
              go_end0
              have hj := Stb.Srt.join HW.out HL3.out hL4 HS3.out hs4 (by omega) (by omega) HRo.out.2.2.2.2.2
              exact ⟨rfl, d4, hd4, hS4, HRo.out.1.trans hj.1, hj.2⟩
            · have q8z : ¬ (e : Int) < (b : Int) := by omega
              go_wp2_with fail
              go_end0
              have hs4 : Stb.Srt (ltOf cf) d3.toList mid b := by
                have := HA1.out; rwa [show e = b by omega] at this
              have hj := Stb.Srt.join HW.out HL3.out (Stb.Loc.refl _) HS3.out hs4 (by omega) (by omega) HRo.out.2.2.2.2.2
              exact ⟨rfl, d3, (by first | rfl | exact hd3), S9.out, HRo.out.1.trans hj.1, hj.2⟩
          · have q3z : ¬ (a : Int) < (r : Int) := by omega
            go_upto_region 43 with fail
            have HL3 : Hid (Stb.Loc (ltOf cf) a mid d2.toList d2.toList) := Stb.Loc.refl _
            have HS3 : Hid (Stb.Srt (ltOf cf) d2.toList a mid) := by
              show Stb.Srt _ _ _ _
              have := HRo.out.2.2.1; rwa [show r = a by omega] at this
            have hd3 := hd2
            have HA1 : Hid (Stb.Srt (ltOf cf) d2.toList mid e) := HRo.out.2.2.2.1.of_out HL3.out (.inr (Nat.le_refl _))
            have HA2 : Hid (Stb.Srt (ltOf cf) d2.toList e b) := HRo.out.2.2.2.2.1.of_out HL3.out (.inr hem)
            have q7z : (mid : Int) < (e : Int) := by have := HI2.out.1 q1; omega
            by_cases q8 : e < b
            · have q8z : (e : Int) < (b : Int) := by omega
              have hih := IH.out mid e b d2 _ (by omega) (HI2.out.1 q1) q8 (by omega) (by first | rfl | exact hd3) S5.out HA1.out HA2.out
              clear S5
              go_wp2_with (go_at_fn 111; refine hih.mono ?_; rintro e w' ⟨rfl, d4, hd4, hS4, hL4, hs4⟩)
              go_end0
              have hj := Stb.Srt.join HW.out HL3.out hL4 HS3.out hs4 (by omega) (by omega) HRo.out.2.2.2.2.2
              exact ⟨rfl, d4, hd4, hS4, HRo.out.1.trans hj.1, hj.2⟩
            · have q8z : ¬ (e : Int) < (b : Int) := by omega
              go_wp2_with fail
              go_end0
              have hs4 : Stb.Srt (ltOf cf) d2.toList mid b := by
                have := HA1.out; rwa [show e = b by omega] at this
              have hj := Stb.Srt.join HW.out HL3.out (Stb.Loc.refl _) HS3.out hs4 (by omega) (by omega) HRo.out.2.2.2.2.2
              exact ⟨rfl, d2, (by first | rfl | exact hd3), S5.out, HRo.out.1.trans hj.1, hj.2⟩
        · have q2z : ¬ (m : Int) < (e : Int) := by omega
          go_upto_region 41 with fail
          have hd2 : d.size = d.size := rfl
          have HE2 : Hid (d.toList = Stb.rot d.toList r m e) := by
            show _ = _
            rw [show e = m by omega]; exact (Stb.rot_nil' _ _ _ hrm2 (by rw [HLd.out]; omega)).symm
          rw [← HE2.out] at HRo
          by_cases q3 : a < r
          · have q3z : (a : Int) < (r : Int) := by omega
            have q4 : ¬ r < mid := fun h => q2 (HI1.out.2 h)
            have q4z : ¬ (r : Int) < (mid : Int) := by omega
            go_upto_region 43 with fail
            have HL3 : Hid (Stb.Loc (ltOf cf) a mid d.toList d.toList) := Stb.Loc.refl _
            have HS3 : Hid (Stb.Srt (ltOf cf) d.toList a mid) := by
              show Stb.Srt _ _ _ _
              have := HRo.out.2.1; rwa [show r = mid by omega] at this
            have hd3 := hd2
            have HA1 : Hid (Stb.Srt (ltOf cf) d.toList mid e) := HRo.out.2.2.2.1.of_out HL3.out (.inr (Nat.le_refl _))
            have HA2 : Hid (Stb.Srt (ltOf cf) d.toList e b) := HRo.out.2.2.2.2.1.of_out HL3.out (.inr hem)
            have q7z : (mid : Int) < (e : Int) := by have := HI2.out.1 q1; omega
            by_cases q8 : e < b
            · have q8z : (e : Int) < (b : Int) := by omega
              have hih := IH.out mid e b d _ (by omega) (HI2.out.1 q1) q8 (by omega) (by first | rfl | exact hd3) S3.out HA1.out HA2.out
              clear S3
              go_wp2_with (go_at_fn 111; refine hih.mono ?_; rintro e w' ⟨rfl, d4, hd4, hS4, hL4, hs4⟩)
              go_end0
              have hj := Stb.Srt.join HW.out HL3.out hL4 HS3.out hs4 (by omega) (by omega) HRo.out.2.2.2.2.2
              exact ⟨rfl, d4, hd4, hS4, HRo.out.1.trans hj.1, hj.2⟩
            · have q8z : ¬ (e : Int) < (b : Int) := by omega
              go_wp2_with fail
              go_end0
              have hs4 : Stb.Srt (ltOf cf) d.toList mid b := by
                have := HA1.out; rwa [show e = b by omega] at this
              have hj := Stb.Srt.join HW.out HL3.out (Stb.Loc.refl _) HS3.out hs4 (by omega) (by omega) HRo.out.2.2.2.2.2
              exact ⟨rfl, d, (by first | rfl | exact hd3), S3.out, HRo.out.1.trans hj.1, hj.2⟩
          · have q3z : ¬ (a : Int) < (r : Int) := by omega
            go_upto_region 43 with fail
            have HL3 : Hid (Stb.Loc (ltOf cf) a mid d.toList d.toList) := Stb.Loc.refl _
            have HS3 : Hid (Stb.Srt (ltOf cf) d.toList a mid) := by
              show Stb.Srt _ _ _ _
              have := HRo.out.2.2.1; rwa [show r = a by omega] at this
            have hd3 := hd2
            have HA1 : Hid (Stb.Srt (ltOf cf) d.toList mid e) := HRo.out.2.2.2.1.of_out HL3.out (.inr (Nat.le_refl _))
            have HA2 : Hid (Stb.Srt (ltOf cf) d.toList e b) := HRo.out.2.2.2.2.1.of_out HL3.out (.inr hem)
            have q7z : (mid : Int) < (e : Int) := by have := HI2.out.1 q1; omega
            by_cases q8 : e < b
            · have q8z : (e : Int) < (b : Int) := by omega
              have hih := IH.out mid e b d _ (by omega) (HI2.out.1 q1) q8 (by omega) (by first | rfl | exact hd3) S3.out HA1.out HA2.out
              clear S3
              go_wp2_with (go_at_fn 111; refine hih.mono ?_; rintro e w' ⟨rfl, d4, hd4, hS4, hL4, hs4⟩)
              go_end0
              have hj := Stb.Srt.join HW.out HL3.out hL4 HS3.out hs4 (by omega) (by omega) HRo.out.2.2.2.2.2
              exact ⟨rfl, d4, hd4, hS4, HRo.out.1.trans hj.1, hj.2⟩
            · have q8z : ¬ (e : Int) < (b : Int) := by omega
              go_wp2_with fail
              go_end0
              have hs4 : Stb.Srt (ltOf cf) d.toList mid b := by
                have := HA1.out; rwa [show e = b by omega] at this
              have hj := Stb.Srt.join HW.out HL3.out (Stb.Loc.refl _) HS3.out hs4 (by omega) (by omega) HRo.out.2.2.2.2.2
              exact ⟨rfl, d, (by first | rfl | exact hd3), S3.out, HRo.out.1.trans hj.1, hj.2⟩
      · have q1z : ¬ (r : Int) < (m : Int) := by omega
        go_upto_region 41 with fail
        have hd2 : d.size = d.size := rfl
        have HE2 : Hid (d.toList = Stb.rot d.toList r m e) := by
          show _ = _
          rw [show r = m by omega]; exact (Stb.rot_nil _ _ _ hme (by rw [HLd.out]; omega)).symm
        rw [← HE2.out] at HRo
        by_cases q3 : a < r
        · have q3z : (a : Int) < (r : Int) := by omega
          by_cases q4 : r < mid
          · have q4z : (r : Int) < (mid : Int) := by omega
            have hih := IH.out a r mid d _ (by omega) q3 q4 (by omega) (by first | rfl | exact hd2) S3.out HRo.out.2.1 HRo.out.2.2.1
            clear S3
            go_upto_region 43 with (go_at_fn 111; refine hih.mono ?_; rintro e w' ⟨rfl, d3, hd3, hS3, hL3, hs3⟩)
            have S9 : Aside _ := hS3
            have HL3 := Lib.hid hL3
            have HS3 := Lib.hid hs3
            clear hS3 hL3 hs3
            have HA1 : Hid (Stb.Srt (ltOf cf) d3.toList mid e) := HRo.out.2.2.2.1.of_out HL3.out (.inr (Nat.le_refl _))
            have HA2 : Hid (Stb.Srt (ltOf cf) d3.toList e b) := HRo.out.2.2.2.2.1.of_out HL3.out (.inr hem)
            have q7z : ¬ (mid : Int) < (e : Int) := by have := HI2.out; have := fun h => q1 (HI2.out.2 h); omega
            go_wp2_with fail
            go_end0
            have hs4 : Stb.Srt (ltOf cf) d3.toList mid b := by
              have := HA2.out; rwa [show e = mid by have := fun h => q1 (HI2.out.2 h); omega] at this
            have hj := Stb.Srt.join HW.out HL3.out (Stb.Loc.refl _) HS3.out hs4 (by omega) (by omega) HRo.out.2.2.2.2.2
            exact ⟨rfl, d3, (by first | rfl | exact hd3), S9.out, HRo.out.1.trans hj.1, hj.2⟩
          · have q4z : ¬ (r : Int) < (mid : Int) := by omega
            go_upto_region 43 with fail
            have HL3 : Hid (Stb.Loc (ltOf cf) a mid d.toList d.toList) := Stb.Loc.refl _
            have HS3 : Hid (Stb.Srt (ltOf cf) d.toList a mid) := by
              show Stb.Srt _ _ _ _
              have := HRo.out.2.1; rwa [show r = mid by omega] at this
            have hd3 := hd2
            have HA1 : Hid (Stb.Srt (ltOf cf) d.toList mid e) := HRo.out.2.2.2.1.of_out HL3.out (.inr (Nat.le_refl _))
            have HA2 : Hid (Stb.Srt (ltOf cf) d.toList e b) := HRo.out.2.2.2.2.1.of_out HL3.out (.inr hem)
            have q7z : ¬ (mid : Int) < (e : Int) := by have := HI2.out; have := fun h => q1 (HI2.out.2 h); omega
            go_wp2_with fail
            go_end0
            have hs4 : Stb.Srt (ltOf cf) d.toList mid b := by
              have := HA2.out; rwa [show e = mid by have := fun h => q1 (HI2.out.2 h); omega] at this
            have hj := Stb.Srt.join HW.out HL3.out (Stb.Loc.refl _) HS3.out hs4 (by omega) (by omega) HRo.out.2.2.2.2.2
            exact ⟨rfl, d, (by first | rfl | exact hd3), S3.out, HRo.out.1.trans hj.1, hj.2⟩
        · have q3z : ¬ (a : Int) < (r : Int) := by omega
          go_upto_region 43 with fail
          have HL3 : Hid (Stb.Loc (ltOf cf) a mid d.toList d.toList) := Stb.Loc.refl _
          have HS3 : Hid (Stb.Srt (ltOf cf) d.toList a mid) := by
            show Stb.Srt _ _ _ _
            have := HRo.out.2.2.1; rwa [show r = a by omega] at this
          have hd3 := hd2
          have HA1 : Hid (Stb.Srt (ltOf cf) d.toList mid e) := HRo.out.2.2.2.1.of_out HL3.out (.inr (Nat.le_refl _))
          have HA2 : Hid (Stb.Srt (ltOf cf) d.toList e b) := HRo.out.2.2.2.2.1.of_out HL3.out (.inr hem)
          have q7z : ¬ (mid : Int) < (e : Int) := by have := HI2.out; have := fun h => q1 (HI2.out.2 h); omega
          go_wp2_with fail
          go_end0
          have hs4 : Stb.Srt (ltOf cf) d.toList mid b := by
            have := HA2.out; rwa [show e = mid by have := fun h => q1 (HI2.out.2 h); omega] at this
          have hj := Stb.Srt.join HW.out HL3.out (Stb.Loc.refl _) HS3.out hs4 (by omega) (by omega) HRo.out.2.2.2.2.2
          exact ⟨rfl, d, (by first | rfl | exact hd3), S3.out, HRo.out.1.trans hj.1, hj.2⟩
end Go.Proofs.YtagfedbdakmlgaaDoor

/-! StbE -/
namespace Go.Proofs.YtagfedbdakmlgaaDoor
set_option linter.unusedVariables false
set_option linter.unusedSimpArgs false
open Go.Shelf Go.RowKit Go.Lib Go.Sort
variable {P : Program} {k : Nat} {α : Type} [Inhabited α]

theorem symMerge_st (L : StL P k) (enc : α → List Value) (cf : α → α → Int) (g : Nat) (cb : Array Value) (blk off cap : Nat) (d0 : Array α) (w0 : World) (eg : ∀ args w, (callFunc g args).run P w = .ok (.enter g args) w) (hcmp : CmpLays P g cb enc k cf blk off d0.size w0) (R : RowK enc k w0 blk off d0) (hsz : d0.size < 1152921504606846976) (hw : Stb.SW (ltOf cf)) :
    ∀ (f a m b : Nat) (d : Array α) (w : World), b - a ≤ f → a < m → m < b → b ≤ d.size → d.size = d0.size → SWK enc k w0 blk off d w → Stb.Srt (ltOf cf) d.toList a m → Stb.Srt (ltOf cf) d.toList m b →
    Calls P 111 #[.slice (some ⟨blk, off, none⟩) d.size cap, .int .i64 a, .int .i64 m, .int .i64 b, .func (.func g) #[] cb] w fun e w' => e = .returned (.tuple #[]) ∧ ∃ d', d'.size = d.size ∧ SWK enc k w0 blk off d' w' ∧ Stb.Loc (ltOf cf) a b d.toList d'.toList ∧ Stb.Srt (ltOf cf) d'.toList a b := by
  intro f
  induction f with
  | zero => intro a m b d w h1 h2 h3; omega
  | succ f ih =>
    intro a m b d w h1 h2 h3 h4 h5 hS hs1 hs2
    by_cases c1 : m = a + 1
    · exact symA_st L enc cf g cb blk off cap d0 d w0 w a m b eg hcmp R h5.symm hS (by omega) hw c1 (by omega) h4 hs2
    · by_cases c2 : b = m + 1
      · exact symB_st L enc cf g cb blk off cap d0 d w0 w a m b eg hcmp R h5.symm hS (by omega) hw h2 c1 c2 h4 hs1
      · refine symC_st L enc cf g cb blk off cap d0 d w0 w a m b (b - a) eg hcmp R h5.symm hS (by omega) hw h2 c1 h3 c2 h4 hs1 hs2 rfl (show Aside _ from fun a' m' b' dk w' i1 i2 i3 i4 i5 i6 i7 i8 => ?_)
        have := ih a' m' b' dk w' (by omega) i2 i3 i4 (by omega) i6 i7 i8
        rwa [i5] at this

set_option maxHeartbeats 8000000 in
set_option maxRecDepth 1000000 in
theorem stable_st (L : StL P k) (enc : α → List Value) (cf : α → α → Int) (g : Nat) (cb : Array Value) (blk off cap : Nat) (d0 d : Array α) (w0 w : World) (eg : ∀ args w, (callFunc g args).run P w = .ok (.enter g args) w) (hcmp : CmpLays P g cb enc k cf blk off d0.size w0) (R : RowK enc k w0 blk off d0) (hs : d0.size = d.size) (S : SWK enc k w0 blk off d w) (hsz : d.size < 1152921504606846976) (hw : Stb.SW (ltOf cf)) :
    Calls P 94 #[.slice (some ⟨blk, off, none⟩) d.size cap, .int .i64 d.size, .func (.func g) #[] cb] w fun e w' => e = .returned (.tuple #[]) ∧ ∃ d', d'.size = d.size ∧ SWK enc k w0 blk off d' w' ∧ d'.toList = Stb.sortS (ltOf cf) d.toList := by
  have mixed := L.mixed; have t0 := L.t0; have a0 := L.a0; have z0 := L.z0; have v0 := L.v0; have t3 := L.t3; have a3 := L.a3; have z3 := L.z3; have v3 := L.v3; have t4 := L.t4; have a4 := L.a4; have z4 := L.z4; have v4 := L.v4; have tS := L.tS; have aS := L.aS; have zS := L.zS; have vS := L.vS; have tF := L.tF; have aF := L.aF; have zF := L.zF; have vF := L.vF; have tU := L.tU; have aU := L.aU; have zU := L.zU; have vU := L.vU; have aE := L.aE; have zE := L.zE
  have uS := run_underlying L.tS; have u3 := run_underlying L.t3; have uU := run_underlying L.tU
  have einsertionSort : ∀ args w, (callFunc 110 args).run P w = .ok (.enter 110 args) w := enters_of L.finsertionSort (by kernel_rfl) rfl
  have esymMerge : ∀ args w, (callFunc 111 args).run P w = .ok (.enter 111 args) w := enters_of L.fsymMerge (by kernel_rfl) rfl
  have HIn : Aside (∀ (a b : Nat) (dk : Array α) (w : World), dk.size = d.size → SWK enc k w0 blk off dk w → a ≤ b → b ≤ dk.size → Calls P 110 #[.slice (some ⟨blk, off, none⟩) d.size cap, .int .i64 a, .int .i64 b, .func (.func g) #[] cb] w fun e w' => e = .returned (.tuple #[]) ∧ ∃ d', d'.size = d.size ∧ SWK enc k w0 blk off d' w' ∧ Stb.Loc (ltOf cf) a b dk.toList d'.toList ∧ Stb.Srt (ltOf cf) d'.toList a b) := fun a b dk w hd hS h1 h2 => by
    have := insertion_st L enc cf g cb blk off cap d0 dk w0 w a b eg hcmp R (by omega) hS (by omega) hw h1 h2
    rwa [hd] at this
  have HSm : Aside (∀ (a m b : Nat) (dk : Array α) (w : World), dk.size = d.size → SWK enc k w0 blk off dk w → a < m → m < b → b ≤ dk.size → Stb.Srt (ltOf cf) dk.toList a m → Stb.Srt (ltOf cf) dk.toList m b → Calls P 111 #[.slice (some ⟨blk, off, none⟩) d.size cap, .int .i64 a, .int .i64 m, .int .i64 b, .func (.func g) #[] cb] w fun e w' => e = .returned (.tuple #[]) ∧ ∃ d', d'.size = d.size ∧ SWK enc k w0 blk off d' w' ∧ Stb.Loc (ltOf cf) a b dk.toList d'.toList ∧ Stb.Srt (ltOf cf) d'.toList a b) := fun a m b dk w hd hS h1 h2 h3 h4 h5 => by
    have := symMerge_st L enc cf g cb blk off cap d0 w0 eg hcmp R (by omega) hw (b - a) a m b dk w (Nat.le_refl _) h1 h2 h3 (by omega) hS h4 h5
    rwa [hd] at this
  have HW := Lib.hid hw
  have S0 : Aside _ := S
  clear hcmp S hw
  go_enter L.fstable, Tryd.ntmps94
  go_wp2_with fail
  go_loopg [7, 8] d.size (fun kx s7 s8 wr => ∃ (e : Nat) (dk : Array α), s7 = .int .i64 e ∧ s8 = .int .i64 ((e : Int) + 20) ∧ e ≤ d.size ∧ d.size - e ≤ kx ∧ dk.size = d.size ∧ Aside (SWK enc k w0 blk off dk wr) ∧ Hid (Stb.Loc (ltOf cf) 0 d.size d.toList dk.toList) ∧ Hid (Stb.Up (ltOf cf) dk.toList 20 e))
  case atStart => exact ⟨0, d, rfl, rfl, Nat.zero_le _, by omega, rfl, S0, (show Hid _ from Stb.Loc.refl _), (show Hid _ from Stb.Up.nil)⟩
  case round =>
    clear S0
    obtain ⟨e, dk, rfl, rfl, hen, hkx, hds, S1, HLo, HUp⟩ := hrel
    by_cases hlt : e + 20 ≤ d.size
    · have hltz : (e : Int) + 20 ≤ (d.size : Int) := by omega
      have hin := HIn.out e (e + 20) dk wr hds S1.out (by omega) (by omega)
      rw [show ((e + 20 : Nat) : Int) = (e : Int) + 20 by omega] at hin
      clear S1
      go_wp2_with (go_at_fn 110; refine hin.mono ?_; rintro e9 w' ⟨rfl, d', hd', hS', hL', hs'⟩)
      go_roundg (d.size - (e + 20))
      case measure => omega
      case rel => exact ⟨e + 20, d', by go_num, by go_num, by omega, Nat.le_refl _, hd', hS', (show Hid _ from HLo.out.trans (hL'.wide (Nat.zero_le _) (by omega))), (show Hid _ from (HUp.out.out hL' (Nat.le_refl _)).snoc hs')⟩
    · have hltz : ¬ (e : Int) + 20 ≤ (d.size : Int) := by omega
      have hin := HIn.out e d.size dk wr hds S1.out (by omega) (by omega)
      clear S1
      go_wp2_with (go_at_fn 110; refine hin.mono ?_; rintro e9 w' ⟨rfl, d2, hd2, hS2, hL2, hs2⟩)
      have HL2 : Hid (Stb.Loc (ltOf cf) 0 d.size d.toList d2.toList) := HLo.out.trans (hL2.wide (Nat.zero_le _) (Nat.le_refl _))
      have HB2 : Hid (Stb.Bl (ltOf cf) d2.toList 20 d.size 0) := (HUp.out.out hL2 (Nat.le_refl _)).join (.cons (by rw [Nat.min_eq_right (by omega)]; exact hs2) (.nil (by omega))) hen
      have S3 : Aside _ := hS2
      clear hL2 hs2 hS2 HLo HUp hds
      go_loopg [6] d.size (fun kx s6 wr => ∃ (B : Nat) (dk : Array α), s6 = .int .i64 B ∧ 20 ≤ B ∧ B ≤ 2 * d.size + 20 ∧ d.size - B ≤ kx ∧ dk.size = d.size ∧ Aside (SWK enc k w0 blk off dk wr) ∧ Hid (Stb.Loc (ltOf cf) 0 d.size d.toList dk.toList) ∧ Hid (Stb.Bl (ltOf cf) dk.toList B d.size 0))
      case atStart => exact ⟨20, d2, rfl, Nat.le_refl _, by omega, by omega, hd2, S3, HL2, HB2⟩
      case round =>
        clear S3 HL2 HB2 hd2
        obtain ⟨B, dB, rfl, hB0, hB1, hkB, hdB, S4, HL4, HB4⟩ := hrel
        by_cases hBn : B < d.size
        · have hBz : (B : Int) < (d.size : Int) := by omega
          go_wp2_with fail
          go_loopg [7, 8] d.size (fun k2 s7 s8 wr => ∃ (e : Nat) (dk : Array α), s7 = .int .i64 e ∧ s8 = .int .i64 ((e : Int) + 2 * (B : Int)) ∧ e ≤ d.size ∧ d.size - e ≤ k2 ∧ dk.size = d.size ∧ Aside (SWK enc k w0 blk off dk wr) ∧ Hid (Stb.Loc (ltOf cf) 0 d.size d.toList dk.toList) ∧ Hid (Stb.Up (ltOf cf) dk.toList (2 * B) e) ∧ Hid (Stb.Bl (ltOf cf) dk.toList B d.size e))
          case atStart => exact ⟨0, dB, rfl, by go_num, Nat.zero_le _, by omega, hdB, S4, HL4, (show Hid _ from Stb.Up.nil), HB4⟩
          case round =>
            clear S4 HL4 HB4 hdB
            obtain ⟨e, de, rfl, rfl, hen, hke, hde, S5, HL5, HU5, HB5⟩ := hrel
            by_cases hle : e + 2 * B ≤ d.size
            · have hlez : (e : Int) + 2 * (B : Int) ≤ (d.size : Int) := by omega
              have hh := HB5.out.head (by omega)
              have hh2 := hh.2.head (by omega)
              have hsm := HSm.out e (e + B) (e + 2 * B) de wr hde S5.out (by omega) (by omega) (by omega) (by have := hh.1; rwa [Nat.min_eq_left (by omega)] at this) (by have := hh2.1; rwa [show e + B + B = e + 2 * B by omega, Nat.min_eq_left (by omega)] at this)
              have HB6 : Hid (Stb.Bl (ltOf cf) de.toList B d.size (e + 2 * B)) := by have := hh2.2; rwa [show e + B + B = e + 2 * B by omega] at this
              rw [show ((e + B : Nat) : Int) = (e : Int) + (B : Int) by omega, show ((e + 2 * B : Nat) : Int) = (e : Int) + 2 * (B : Int) by omega] at hsm
              clear S5 hh hh2
              go_wp2_with (go_at_fn 111; refine hsm.mono ?_; rintro e9 w' ⟨rfl, d', hd', hS', hL', hs'⟩)
              go_roundg (d.size - (e + 2 * B))
              case measure => omega
              case rel => exact ⟨e + 2 * B, d', by go_num, by go_num, hle, Nat.le_refl _, hd', hS', (show Hid _ from HL5.out.trans (hL'.wide (Nat.zero_le _) hle)), (show Hid _ from (HU5.out.out hL' (Nat.le_refl _)).snoc hs'), (show Hid _ from HB6.out.out hL' (Nat.le_refl _))⟩
            · have hlez : ¬ (e : Int) + 2 * (B : Int) ≤ (d.size : Int) := by omega
              by_cases hm : e + B < d.size
              · have hmz : (e : Int) + (B : Int) < (d.size : Int) := by omega
                have hh := HB5.out.head (by omega)
                have hh2 := hh.2.head (by omega)
                have hsm := HSm.out e (e + B) d.size de wr hde S5.out (by omega) (by omega) (by omega) (by have := hh.1; rwa [Nat.min_eq_left (by omega)] at this) (by have := hh2.1; rwa [Nat.min_eq_right (by omega)] at this)
                rw [show ((e + B : Nat) : Int) = (e : Int) + (B : Int) by omega] at hsm
                clear S5 hh hh2
                go_wp2_with (go_at_fn 111; refine hsm.mono ?_; rintro e9 w' ⟨rfl, d', hd', hS', hL', hs'⟩)
                go_roundg (d.size - 2 * B)
                case measure => omega
                case rel => exact ⟨2 * B, d', by go_num, by omega, by omega, Nat.le_refl _, hd', hS', (show Hid _ from HL5.out.trans (hL'.wide (Nat.zero_le _) (Nat.le_refl _))), (show Hid _ from (HU5.out.out hL' (Nat.le_refl _)).join (.cons (by rw [Nat.min_eq_right (by omega)]; exact hs') (.nil (by omega))) hen)⟩
              · have hmz : ¬ (e : Int) + (B : Int) < (d.size : Int) := by omega
                have HB6 : Hid (Stb.Bl (ltOf cf) de.toList (2 * B) d.size e) := by
                  show Stb.Bl _ _ _ _ _
                  by_cases he : e < d.size
                  · have hh := (HB5.out.head he).1
                    rw [Nat.min_eq_right (by omega)] at hh
                    exact .cons (by rw [Nat.min_eq_right (by omega)]; exact hh) (.nil (by omega))
                  · exact .nil (by omega)
                go_wp2_with fail
                go_roundg (d.size - 2 * B)
                case measure => omega
                case rel => exact ⟨2 * B, de, by go_num, by omega, by omega, Nat.le_refl _, hde, S5, HL5, (show Hid _ from HU5.out.join HB6.out hen)⟩
        · have hBz : ¬ (B : Int) < (d.size : Int) := by omega
          go_wp2_with fail
          go_end0
          have hs := HB4.out.all (by omega)
          have hl : dB.toList.length = d.size := by rw [Array.length_toList]; omega
          exact ⟨rfl, dB, hdB, S4.out, Stb.stab_sort HW.out HL4.out (by rw [hl]; exact hs)⟩
set_option maxHeartbeats 8000000 in
set_option maxRecDepth 1000000 in
theorem sortStable_st (L : StL P k) (enc : α → List Value) (cf : α → α → Int) (g : Nat) (cb : Array Value) (blk off cap : Nat) (d0 d : Array α) (w0 w : World) (eg : ∀ args w, (callFunc g args).run P w = .ok (.enter g args) w) (hcmp : CmpLays P g cb enc k cf blk off d0.size w0) (R : RowK enc k w0 blk off d0) (hs : d0.size = d.size) (S : SWK enc k w0 blk off d w) (hsz : d.size < 1152921504606846976) (hw : Stb.SW (ltOf cf)) :
    Calls P 69 #[.slice (some ⟨blk, off, none⟩) d.size cap, .func (.func g) #[] cb] w fun e w' => e = .returned (.tuple #[]) ∧ ∃ d', d'.size = d.size ∧ SWK enc k w0 blk off d' w' ∧ d'.toList = Stb.sortS (ltOf cf) d.toList := by
  have mixed := L.mixed; have t0 := L.t0; have a0 := L.a0; have z0 := L.z0; have v0 := L.v0; have t3 := L.t3; have a3 := L.a3; have z3 := L.z3; have v3 := L.v3; have t4 := L.t4; have a4 := L.a4; have z4 := L.z4; have v4 := L.v4; have tS := L.tS; have aS := L.aS; have zS := L.zS; have vS := L.vS; have tF := L.tF; have aF := L.aF; have zF := L.zF; have vF := L.vF; have tU := L.tU; have aU := L.aU; have zU := L.zU; have vU := L.vU; have aE := L.aE; have zE := L.zE
  have uS := run_underlying L.tS; have u3 := run_underlying L.t3; have uU := run_underlying L.tU
  have estable : ∀ args w, (callFunc 94 args).run P w = .ok (.enter 94 args) w := enters_of L.fstable (by kernel_rfl) rfl
  have hst := stable_st L enc cf g cb blk off cap d0 d w0 w eg hcmp R hs S hsz hw
  clear hcmp S hw
  go_enter L.fsort, Tryd.ntmps69
  go_wp2_with (go_at_fn 94; refine hst.mono ?_; rintro e9 w' ⟨rfl, d', hd', hS', hl'⟩)
  go_end0
  exact ⟨rfl, d', hd', hS', hl'⟩

set_option maxHeartbeats 8000000 in
set_option maxRecDepth 1000000 in
/-- at the empty slice -/
theorem sortStable_nil (L : StL P k) (F : Value) (w : World) : Calls P 69 #[.slice none 0 0, F] w fun e w' => e = .returned (.tuple #[]) ∧ w' = w := by
  have mixed := L.mixed; have t0 := L.t0; have a0 := L.a0; have z0 := L.z0; have v0 := L.v0; have t3 := L.t3; have a3 := L.a3; have z3 := L.z3; have v3 := L.v3; have t4 := L.t4; have a4 := L.a4; have z4 := L.z4; have v4 := L.v4; have tS := L.tS; have aS := L.aS; have zS := L.zS; have vS := L.vS; have tF := L.tF; have aF := L.aF; have zF := L.zF; have vF := L.vF; have tU := L.tU; have aU := L.aU; have zU := L.zU; have vU := L.vU; have aE := L.aE; have zE := L.zE
  have uS := run_underlying L.tS; have u3 := run_underlying L.t3; have uU := run_underlying L.tU
  have estable : ∀ args w, (callFunc 94 args).run P w = .ok (.enter 94 args) w := enters_of L.fstable (by kernel_rfl) rfl
  have einsertionSort : ∀ args w, (callFunc 110 args).run P w = .ok (.enter 110 args) w := enters_of L.finsertionSort (by kernel_rfl) rfl
  have hin : ∀ w, Calls P 110 #[.slice none 0 0, .int .i64 0, .int .i64 0, F] w fun e w' => e = .returned (.tuple #[]) ∧ w' = w := fun w => by
    go_enter L.finsertionSort, Tryd.ntmps110
    go_wp2_with fail
    go_loopg [8] 0 (fun kx s8 wr => s8 = .int .i64 1 ∧ Hid (wr = w))
    case atStart => exact ⟨rfl, rfl⟩
    case round =>
      obtain ⟨rfl, HW⟩ := hrel
      go_wp2_with fail
      go_end0
      exact ⟨rfl, HW.out⟩
  have hst : Calls P 94 #[.slice none 0 0, .int .i64 0, F] w fun e w' => e = .returned (.tuple #[]) ∧ w' = w := by
    go_enter L.fstable, Tryd.ntmps94
    go_wp2_with fail
    go_loopg [7, 8] 0 (fun kx s7 s8 wr => s7 = .int .i64 0 ∧ s8 = .int .i64 20 ∧ Hid (wr = w))
    case atStart => exact ⟨rfl, rfl, rfl⟩
    case round =>
      obtain ⟨rfl, rfl, HW⟩ := hrel
      go_wp2_with (go_at_fn 110; refine (hin _).mono ?_; rintro e9 w' ⟨rfl, rfl⟩)
      go_loopg [6] 0 (fun kx s6 wr9 => s6 = .int .i64 20 ∧ Hid (wr9 = w))
      case atStart => exact ⟨rfl, HW⟩
      case round =>
        obtain ⟨rfl, HW9⟩ := hrel
        go_wp2_with fail
        go_end0
        exact ⟨rfl, HW9.out⟩
  go_enter L.fsort, Tryd.ntmps69
  go_wp2_with (go_at_fn 94; refine hst.mono ?_; rintro e9 w' ⟨rfl, rfl⟩)
  go_end0
  exact ⟨rfl, rfl⟩
end Go.Proofs.YtagfedbdakmlgaaDoor

/-! Plain -/
namespace Go.Proofs.YtagfedbdakmlgaaDoor
set_option linter.unusedVariables false
set_option linter.unusedSimpArgs false

theorem dec_pos (s : ByteArray) (pos : Nat) (h : pos < s.size) : 1 ≤ (Utf8.decode s pos).2 := by
  by_cases ha : (s[pos]'h).toNat < 128
  · rw [decode_ascii s pos h ha]; exact Nat.le_refl _
  · exact (decode_high s pos h (by omega)).2

def runesAt (s : ByteArray) : Nat → Nat → List Int
  | 0, _ => []
  | f + 1, pos => if pos < s.size then ((Utf8.decode s pos).1 : Int) :: runesAt s f (pos + (Utf8.decode s pos).2) else []
/-- the runes of a string from a place on -/
def runes (s : ByteArray) (pos : Nat) : List Int := runesAt s (s.size - pos) pos

theorem runesAt_fuel (s : ByteArray) : ∀ (f g pos : Nat), s.size - pos ≤ f → s.size - pos ≤ g → runesAt s f pos = runesAt s g pos
  | 0, 0, _, _, _ => rfl
  | 0, g + 1, pos, h, _ => by simp only [runesAt]; rw [if_neg (by omega)]
  | f + 1, 0, pos, _, h => by simp only [runesAt]; rw [if_neg (by omega)]
  | f + 1, g + 1, pos, hf, hg => by
    simp only [runesAt]
    by_cases h : pos < s.size
    · have hw := dec_pos s pos h
      rw [if_pos h, if_pos h, runesAt_fuel s f g _ (by omega) (by omega)]
    · rw [if_neg h, if_neg h]
theorem runes_step (s : ByteArray) (pos : Nat) (h : pos < s.size) : runes s pos = ((Utf8.decode s pos).1 : Int) :: runes s (pos + (Utf8.decode s pos).2) := by
  have hw := dec_pos s pos h
  obtain ⟨f, hf⟩ : ∃ f, s.size - pos = f + 1 := ⟨s.size - pos - 1, by omega⟩
  unfold runes
  rw [hf]
  simp only [runesAt]
  rw [if_pos h, runesAt_fuel s f (s.size - (pos + (Utf8.decode s pos).2)) _ (by omega) (Nat.le_refl _)]
theorem runes_end (s : ByteArray) (pos : Nat) (h : ¬ pos < s.size) : runes s pos = [] := by
  unfold runes
  rw [Nat.sub_eq_zero_of_le (by omega)]
  rfl

/-- the index of a rune in a list, counted from n on; -1 if it is not there -/
def placeL (r : Int) : List Int → Int → Int
  | [], _ => -1
  | x :: l, n => if x = r then n else placeL r l (n + 1)

theorem placeL_ge (r : Int) : ∀ (l : List Int) (n : Int), 0 ≤ n → placeL r l n = -1 ∨ (n ≤ placeL r l n ∧ placeL r l n < n + l.length)
  | [], _, _ => .inl rfl
  | x :: l, n, h => by
    unfold placeL
    by_cases hx : x = r
    · rw [if_pos hx]; exact .inr ⟨by omega, by simp only [List.length_cons]; omega⟩
    · rw [if_neg hx]
      rcases placeL_ge r l (n + 1) (by omega) with h1 | h1
      · exact .inl h1
      · exact .inr ⟨by omega, by simp only [List.length_cons]; omega⟩

end Go.Proofs.YtagfedbdakmlgaaDoor

/-! Char -/
namespace Go.Proofs.YtagfedbdakmlgaaDoor
set_option linter.unusedVariables false
set_option linter.unusedSimpArgs false
open Go.RowKit

def PlaceRel (s : ByteArray) (r : Int) (w : World) (n : Value) (wr : World) : Prop :=
  ∃ pos k : Nat, k ≤ pos ∧ n = .int .i64 k ∧ wr = w.iter s pos ∧ placeL r (runes s 0) 0 = placeL r (runes s pos) k

set_option maxHeartbeats 400000 in
theorem place_any (s : ByteArray) (r : Int) (w : World) (hs : s.size ≤ 9223372036854775807) :
    Calls Tryd.prog 103 #[.string s, .int .i32 r] w fun e w' => e = .returned (.int .i64 (placeL r (runes s 0) 0)) ∧ Ext w w' := by
  go_enter Tryd.func103, Tryd.ntmps103
  go_wp2
  go_loopw [5] (fun n wr => PlaceRel s r w n wr) (fun _ wr => s.size - wr.iterPos w.heap.size)
  case atStart => exact ⟨0, 0, Nat.le_refl _, rfl, rfl, rfl⟩
  case round =>
    obtain ⟨pos, k, hk, rfl, rfl, hp⟩ := hrel
    have HP := Lib.hid hp
    clear hp
    by_cases hlt : pos < s.size
    · have hn := run_next_any (P := Tryd.prog) w s pos
      have hstep := Lib.hid (runes_step s pos hlt)
      have hw := dec_pos s pos hlt
      go_wp2
      · go_ret
        have he : ((Utf8.decode s pos).1 : Int) = r := by simpa using ‹((((Utf8.decode s pos).1 : Int)) == r) = true›
        exact ⟨ret_int (by rw [HP.out, hstep.out, placeL, if_pos he]), (Ext.refl w).iter s _⟩
      · have he : ¬ ((Utf8.decode s pos).1 : Int) = r := by simpa using ‹((((Utf8.decode s pos).1 : Int)) == r) = false›
        refine ⟨⟨pos + (Utf8.decode s pos).2, k + 1, by omega, by go_num, rfl, ?_⟩, by simp; omega⟩
        rw [HP.out, hstep.out, placeL, if_neg he]
        rfl
    · have hn := run_next_end (P := Tryd.prog) w s pos
      have hend := Lib.hid (runes_end s pos hlt)
      go_wp2
      go_ret
      exact ⟨ret_int (by rw [HP.out, hend.out]; rfl), (Ext.refl w).iter s _⟩

/-- the repertoire, as the text has it -/
def allBytes : ByteArray := ⟨#[32, 33, 34, 35, 36, 37, 38, 39, 40, 41, 42, 43, 44, 45, 46, 47, 48, 49, 50, 51, 52, 53, 54, 55, 56, 57, 58, 59, 60, 61, 62, 63, 64, 65, 66, 67, 68, 69, 70, 71, 72, 73, 74, 75, 76, 77, 78, 79, 80, 81, 82, 83, 84, 85, 86, 87, 88, 89, 90, 91, 92, 93, 94, 95, 96, 97, 98, 99, 100, 101, 102, 103, 104, 105, 106, 107, 108, 109, 110, 111, 112, 113, 114, 115, 116, 117, 118, 119, 120, 121, 122, 123, 124, 125, 126, 194, 161, 194, 162, 194, 163, 194, 164, 194, 165, 194, 166, 194, 167, 194, 169, 194, 171, 194, 174, 194, 176, 194, 183, 194, 187, 194, 189, 194, 191, 195, 128, 195, 129, 195, 130, 195, 131, 195, 132, 195, 133, 195, 134, 195, 135, 195, 136, 195, 137, 195, 138, 195, 139, 195, 140, 195, 141, 195, 142, 195, 143, 195, 145, 195, 146, 195, 147, 195, 148, 195, 149, 195, 150, 195, 152, 195, 153, 195, 154, 195, 155, 195, 156, 195, 159, 195, 160, 195, 161, 195, 162, 195, 163, 195, 164, 195, 165, 195, 166, 195, 167, 195, 168, 195, 169, 195, 170, 195, 171, 195, 172, 195, 173, 195, 174, 195, 175, 195, 177, 195, 178, 195, 179, 195, 180, 195, 181, 195, 182, 195, 184, 195, 185, 195, 186, 195, 187, 195, 188, 197, 146, 197, 147, 226, 128, 148, 226, 128, 152, 226, 128, 153, 226, 128, 156, 226, 128, 157, 226, 128, 162, 226, 128, 166, 226, 132, 162, 226, 153, 170]⟩

/-- the index of a character in the repertoire -/
def idx (r : Int) : Int := if 32 ≤ r ∧ r ≤ 126 then r - 32 else placeL r (runes allBytes 0) 0

set_option maxRecDepth 100000 in
set_option maxHeartbeats 1000000 in
theorem Index_any (r : Int) (w : World) : Calls Tryd.prog 83 #[.int .i32 r] w fun e w' => e = .returned (.int .i64 (idx r)) ∧ Ext w w' := by
  by_cases h1 : 32 ≤ r
  · by_cases h2 : r ≤ 126
    · go_enter Tryd.func83, Tryd.ntmps83
      go_wp2_with fail
      go_ret
      exact ⟨ret_int (by unfold idx; rw [if_pos ⟨h1, h2⟩]), Ext.refl _⟩
    · go_enter Tryd.func83, Tryd.ntmps83
      go_wp2_with fail
      refine (place_any allBytes r w (by decide)).mono ?_
      rintro e w1 ⟨rfl, h1⟩
      go_wp2_with fail
      go_ret
      exact ⟨ret_int (by unfold idx; rw [if_neg (by omega)]), h1⟩
  · go_enter Tryd.func83, Tryd.ntmps83
    go_wp2_with fail
    refine (place_any allBytes r w (by decide)).mono ?_
    rintro e w1 ⟨rfl, h1⟩
    go_wp2_with fail
    go_ret
    exact ⟨ret_int (by unfold idx; rw [if_neg (by omega)]), h1⟩
end Go.Proofs.YtagfedbdakmlgaaDoor

/-! CharB -/
namespace Go.Proofs.YtagfedbdakmlgaaDoor
set_option linter.unusedVariables false
set_option linter.unusedSimpArgs false
open Go.RowKit

/-- a string of characters of the repertoire -/
def vld (s : ByteArray) : Bool := Lib.validD s.data.toList && (runes s 0).all fun r => decide (0 ≤ idx r)

theorem Ext.iterAt {w w1 : World} (h : Ext w w1) {k : Nat} (hk : w.heap.size ≤ k) (s : ByteArray) (p : Nat) : Ext w (w1.iterAt k s p) := Lib.below_iterAt h hk s p
theorem Ext.obj {w w1 : World} {k : Nat} {o : Obj} (h : Ext w w1) (hk : w.heap[k]? = some o) : w1.heap[k]? = some o :=
  (h.block k (Array.getElem?_eq_some_iff.1 hk).1).trans hk

theorem ValidString_any (s : ByteArray) (w : World) (hE : Env w) (hs : s.size ≤ 9223372036854775807) :
    Calls Tryd.prog 82 #[.string s] w fun e w' => e = .returned (.bool (Lib.validD s.data.toList)) ∧ Ext w w' :=
  Any.utf8_ValidString Tryd.laysValid s w hs hE.1

def ValidRel (s : ByteArray) (w : World) (g : Nat) (wr : World) : Prop :=
  ∃ pos : Nat, wr.heap[g]? = some (.stringIter s pos) ∧ Ext w wr ∧ ((runes s 0).all fun r => decide (0 ≤ idx r)) = ((runes s pos).all fun r => decide (0 ≤ idx r))

set_option maxHeartbeats 400000 in
theorem Valid_any (s : ByteArray) (w : World) (hE : Env w) (hs : s.size ≤ 9223372036854775807) :
    Calls Tryd.prog 58 #[.string s] w fun e w' => e = .returned (.bool (vld s)) ∧ Ext w w' := by
  cases hv : Lib.validD s.data.toList
  · have HV := Lib.hid hv
    have HF : Hid (vld s = false) := by unfold vld; rw [hv]; rfl
    go_enter Tryd.func58, Tryd.ntmps58
    go_wp2_with fail
    refine (ValidString_any s w hE hs).mono ?_
    rintro e w1 ⟨rfl, h1⟩
    rw [HV.out]
    go_wp2_with fail
    go_ret
    exact ⟨by rw [HF.out]; rfl, h1⟩
  · have HV := Lib.hid hv
    have HF : Hid (vld s = ((runes s 0).all fun r => decide (0 ≤ idx r))) := by unfold vld; rw [hv]; rfl
    clear hv
    go_enter Tryd.func58, Tryd.ntmps58
    go_wp2_with fail
    refine (ValidString_any s w hE hs).mono ?_
    rintro e w1 ⟨rfl, h1⟩
    rw [HV.out]
    go_wp2_with fail
    go_loopw [] (fun wr => ValidRel s w w1.heap.size wr) (fun wr => s.size - wr.iterPos w1.heap.size)
    case atStart => exact ⟨0, w1.iter_heap s 0, h1.iter s 0, rfl⟩
    case round =>
      obtain ⟨pos, hk, hx, hp⟩ := hrel
      have HP := Lib.hid hp
      have HK := Lib.hid hk
      clear hp
      by_cases hlt : pos < s.size
      · have hn := fun ty => Lib.run_next_any_at (P := Tryd.prog) wr _ s pos ty hk hlt
        have hstep := Lib.hid (runes_step s pos hlt)
        have hw := dec_pos s pos hlt
        have hk2 := Lib.hid (Lib.iterAt_heap wr _ s pos (pos + (Utf8.decode s pos).2) hk)
        clear hk
        go_wp2_with fail
        refine (Index_any _ _).mono ?_
        rintro e w2 ⟨rfl, h2⟩
        have hx2 : Ext w w2 := (hx.iterAt h1.size s _).trans h2
        have hk3 := Lib.hid (h2.obj hk2.out)
        by_cases hi : idx ((Utf8.decode s pos).1 : Int) < 0
        · go_wp2_with fail
          go_ret
          exact ⟨by rw [HF.out, HP.out, hstep.out, List.all_cons, decide_eq_false (by omega)]; rfl, hx2⟩
        · go_wp2_with fail
          refine ⟨⟨_, hk3.out, hx2, ?_⟩, ?_⟩
          · rw [HP.out, hstep.out, List.all_cons, decide_eq_true (by omega), Bool.true_and]
          · rw [iterPos_of hk3.out, iterPos_of HK.out]; omega
      · have hn := fun ty => Lib.run_next_end_at (P := Tryd.prog) wr _ s pos ty hk hlt
        have hend := Lib.hid (runes_end s pos hlt)
        clear hk
        go_wp2_with fail
        go_ret
        exact ⟨by rw [HF.out, HP.out, hend.out]; rfl, hx⟩

/-- the number of characters, -1 where one is none -/
def clen (s : ByteArray) : Int := if vld s then (Lib.runeCount s : Int) else -1

theorem RuneCount_any (s : ByteArray) (w : World) (hs : s.size < 9223372036854775807) :
    Calls Tryd.prog 115 #[.string s] w fun e w' => e = .returned (.int .i64 (Lib.runeCount s)) ∧ Ext w w' :=
  (Tryd.utf8_RuneCountInString s w hs).mono fun _ _ ⟨he, pos, hw⟩ => ⟨he, by rw [hw]; exact (Ext.refl w).iter s pos⟩

set_option maxHeartbeats 400000 in
theorem CLen_any (s : ByteArray) (w : World) (hE : Env w) (hs : s.size < 9223372036854775807) :
    Calls Tryd.prog 109 #[.string s] w fun e w' => e = .returned (.int .i64 (clen s)) ∧ Ext w w' := by
  cases hv : vld s
  · have HV := Lib.hid hv
    clear hv
    go_enter Tryd.func109, Tryd.ntmps109
    go_wp2_with fail
    refine (Valid_any s w hE (by omega)).mono ?_
    rintro e w1 ⟨rfl, h1⟩
    rw [HV.out]
    go_wp2_with fail
    go_ret
    exact ⟨ret_int (by unfold clen; rw [HV.out]; rfl), h1⟩
  · have HV := Lib.hid hv
    clear hv
    go_enter Tryd.func109, Tryd.ntmps109
    go_wp2_with fail
    refine (Valid_any s w hE (by omega)).mono ?_
    rintro e w1 ⟨rfl, h1⟩
    rw [HV.out]
    go_wp2_with fail
    refine (RuneCount_any s w1 hs).mono ?_
    rintro e w2 ⟨rfl, h2⟩
    go_wp2_with fail
    go_ret
    exact ⟨ret_int (by unfold clen; rw [HV.out]; rfl), h1.trans h2⟩
end Go.Proofs.YtagfedbdakmlgaaDoor

/-! Builder -/
namespace Go.Proofs.YtagfedbdakmlgaaDoor
set_option linter.unusedVariables false
set_option linter.unusedSimpArgs false
open Go.RowKit

theorem info_byte : (Tryd.prog.info? 5).map (fun i => (i.zero, i.size, i.bytes)) = some (some (.int .u8 0), 1, 1) := by kernel_rfl
theorem size_builder : (Tryd.prog.info? 133).map (·.size) = some 2 := by kernel_rfl

set_option maxHeartbeats 1000000 in
set_option maxRecDepth 100000 in
theorem copyCheck_used (b : Nat) (w : World) (h0 : w.cell? ⟨b, 0, none⟩ = some (.pointer (some ⟨b, 0, none⟩))) :
    Calls Tryd.prog 100 #[.pointer (some ⟨b, 0, none⟩)] w fun e w' => e = .returned (.tuple #[]) ∧ w' = w := by
  obtain ⟨j, hj, _⟩ := Option.map_eq_some_iff.1 size_builder
  go_enter Tryd.func100, Tryd.ntmps100
  go_wp2
  rw [Lib.run_neq_ptr_same w _ Tryd.underlying130 hj]
  go_wp2
  go_end0
  exact ⟨rfl, rfl⟩

set_option maxHeartbeats 1000000 in
set_option maxRecDepth 100000 in
theorem copyCheck_fresh (b : Nat) (w : World) (h0 : w.cell? ⟨b, 0, none⟩ = some (.pointer none)) (hsh : w.shape? b = some (133, 2)) (hfz : w.frozen? ⟨b, 0, none⟩ = false) :
    Calls Tryd.prog 100 #[.pointer (some ⟨b, 0, none⟩)] w fun e w' => e = .returned (.tuple #[]) ∧ w' = w.setCell ⟨b, 0, none⟩ (.pointer (some ⟨b, 0, none⟩)) := by
  obtain ⟨j, hj, hjs⟩ := Option.map_eq_some_iff.1 size_builder
  go_enter Tryd.func100, Tryd.ntmps100
  go_wp2
  rw [Lib.run_to_unsafe w ⟨b, 0, none⟩ Tryd.underlying130 Tryd.underlying172 hj (by rw [hjs]; decide) hsh (Nat.zero_lt_succ 1)]
  simp only [Result.andThen]
  rw [Oper.upon_value]
  go_wp2
  rw [run_callFunc_extern Tryd.func112 (by kernel_rfl) (by kernel_rfl) (by kernel_rfl) (e := Extern.AbiNoEscape.same) (by kernel_rfl)]
  rw [Lib.run_noEscape]
  simp only [Result.andThen]
  rw [Oper.upon_value]
  go_wp2
  rw [Lib.run_from_unsafe w ⟨b, 0, none⟩ Tryd.underlying172 Tryd.underlying130 hj hsh (by kernel_rfl)]
  simp only [Result.andThen]
  rw [Oper.upon_value]
  go_wp2
  go_end0
  exact ⟨rfl, rfl⟩

theorem copyCheck_any (B b : Nat) (bs : List Value) (w : World) (h : Lib.IsBuilder 133 5 B b bs w) :
    Calls Tryd.prog 100 #[.pointer (some ⟨b, 0, none⟩)] w fun e w' => e = .returned (.tuple #[]) ∧ (Lib.BuilderAt 133 5 B b (.pointer (some ⟨b, 0, none⟩)) bs w' ∧ Below B w w') := by
  rcases h with h | h
  · refine (copyCheck_fresh b w h.cell0 h.shape h.frozen0).mono ?_
    rintro e w' ⟨rfl, rfl⟩
    exact ⟨rfl, h.used _, (Below.refl B w).setCell (p := ⟨b, 0, none⟩) h.1 _⟩
  · refine (copyCheck_used b w h.cell0).mono ?_
    rintro e w' ⟨rfl, rfl⟩
    exact ⟨rfl, h, Below.refl B _⟩

set_option maxHeartbeats 2000000 in
set_option maxRecDepth 100000 in
theorem WriteString_any (B b : Nat) (bs : List Value) (s : ByteArray) (w : World) (h : Lib.IsBuilder 133 5 B b bs w) (hlen : bs.length + s.size ≤ 140737488355328) (hBw : B ≤ w.heap.size) :
    Calls Tryd.prog 79 #[.pointer (some ⟨b, 0, none⟩), .string s] w fun e w' => e = .returned (.tuple #[.int .i64 s.size, .nilIface]) ∧ (Lib.BuilderAt 133 5 B b (.pointer (some ⟨b, 0, none⟩)) (bs ++ Lib.strCells s) w' ∧ Below B w w') := by
  obtain ⟨i0, hi, hz0, hz1, hz2⟩ := info_parts info_byte
  go_enter Tryd.func79, Tryd.ntmps79
  go_wp2_with fail
  refine (copyCheck_any B b bs _ h).mono ?_
  rintro e w1 ⟨rfl, h1, hb1⟩
  obtain ⟨hB, v, hbk, hown, hne⟩ := h1
  have c0 : w1.cell? ⟨b, 0, none⟩ = some (.pointer (some ⟨b, 0, none⟩)) := by rw [Lib.cell_of_heap hbk]; rfl
  have c1 : w1.cell? ⟨b, 1, none⟩ = some v := by rw [Lib.cell_of_heap hbk]; rfl
  go_wp2_with (at_builtin; refine Lib.wpList_append_own_string _ rfl _ _ 131 9 rfl B 5 i0 Tryd.underlying131 Tryd.underlying9 hi hz0 hz1 hz2 _ _ _ rfl hown s rfl ?c3 ?c4 ?c5 ?_)
  case c3 => unfold maxLen; omega
  case c4 => omega
  case c5 => have := hb1.size; omega
  intro v' w2 hown' hgrow _
  have hlt : b < w1.heap.size := (Array.getElem?_eq_some_iff.1 hbk).1
  have hb2 : w2.heap[b]? = some (.cells #[.pointer (some ⟨b, 0, none⟩), v] 133 (0, 0)) := by
    rw [hgrow.block b hlt (fun e => hne e.symm)]
    exact hbk
  have d0 : w2.cell? ⟨b, 0, none⟩ = some (.pointer (some ⟨b, 0, none⟩)) := by rw [Lib.cell_of_heap hb2]; rfl
  have d1 : w2.cell? ⟨b, 1, none⟩ = some v := by rw [Lib.cell_of_heap hb2]; rfl
  have f1 : w2.frozen? ⟨b, 1, none⟩ = false := Lib.frozen_of_heap hb2 1
  obtain ⟨ao, n', cap, rfl⟩ : ∃ ao n' cap, v' = .slice ao n' cap := by
    rcases hown'.2 with ⟨hv, _⟩ | ⟨g, cap, cur, hv, _⟩
    · exact ⟨_, _, _, hv⟩
    · exact ⟨_, _, _, hv⟩
  go_wp2
  go_ret2
  refine ⟨rfl, ?_, ?_⟩
  · exact Lib.BuilderAt.put (T := 133) (e := 5) hB hb2 (bs' := bs ++ Lib.strCells s) (by simpa [Lib.strCells_length] using hown') (by decide)
  · exact (hb1.grown hgrow (by have := hb1.size; omega) (fun k hk => (hown.lt k hk).1)).setCell (p := ⟨b, 1, none⟩) hB _
end Go.Proofs.YtagfedbdakmlgaaDoor
