/- Laid together: The stable sort of events: the merge at whatever length, the blocks, SortStableFunc. Copies of rows, the reference's. The walks of event.Clone and of the reference's Clone. Lists of events in memory of their own: blocks that are kept by stores elsewhere; the heads of events; documents of one's own. -/
import Derived.Test.YtagfedbdakmlgaaDoorKe09
import Derived.Test.YtagfedbdakmlgaaDoorKe10
import Derived.Test.YtagfedbdakmlgaaDoorKe03
import Derived.Test.YtagfedbdakmlgaaDoorKe05

/-! StbE -/
namespace Go.Proofs.YtagfedbdakmlgaaDoor
set_option linter.unusedVariables false
set_option linter.unusedSimpArgs false
open Go.Shelf Go.RowKit Go.Lib Go.Sort
variable {P : Program} {k : Nat} {α : Type} [Inhabited α]
theorem symMerge_st (L : StL P k) (enc : α → List Value) (cf : α → α → Int) (g : Nat) (cb : Array Value) (blk off cap : Nat) (d0 : Array α) (w0 : World) (eg : ∀ args w, (callFunc g args).run P w = .ok (.enter g args) w) (hcmp : CmpLays P g cb enc k cf blk off d0.size w0) (R : RowK enc k w0 blk off d0) (hsz : d0.size < 1152921504606846976) (hw : Stb.SW (ltOf cf)) :
    ∀ (f a m b : Nat) (d : Array α) (w : World), b - a ≤ f → a < m → m < b → b ≤ d.size → d.size = d0.size → SWK enc k w0 blk off d w → Stb.Srt (ltOf cf) d.toList a m → Stb.Srt (ltOf cf) d.toList m b →
    Calls P 111 #[.slice (some ⟨blk, off, none⟩) d.size cap, .int .i64 a, .int .i64 m, .int .i64 b, .func (.func g) #[] cb] w fun e w' => e = .returned (.tuple #[]) ∧ ∃ d', d'.size = d.size ∧ SWK enc k w0 blk off d' w' ∧ Stb.Loc (ltOf cf) a b d.toList d'.toList ∧ Stb.Srt (ltOf cf) d'.toList a b := by
  intro f
  induction f with
  | zero => intro a m b d w h1 h2 h3; omega
  | succ f ih =>
    intro a m b d w h1 h2 h3 h4 h5 hS hs1 hs2
    by_cases c1 : m = a + 1
    · exact symA_st L enc cf g cb blk off cap d0 d w0 w a m b eg hcmp R h5.symm hS (by omega) hw c1 (by omega) h4 hs2
    · by_cases c2 : b = m + 1
      · exact symB_st L enc cf g cb blk off cap d0 d w0 w a m b eg hcmp R h5.symm hS (by omega) hw h2 c1 c2 h4 hs1
      · refine symC_st L enc cf g cb blk off cap d0 d w0 w a m b (b - a) eg hcmp R h5.symm hS (by omega) hw h2 c1 h3 c2 h4 hs1 hs2 rfl (show Aside _ from fun a' m' b' dk w' i1 i2 i3 i4 i5 i6 i7 i8 => ?_)
        have := ih a' m' b' dk w' (by omega) i2 i3 i4 (by omega) i6 i7 i8
        rwa [i5] at this
set_option maxHeartbeats 8000000 in
set_option maxRecDepth 1000000 in
theorem stable_st (L : StL P k) (enc : α → List Value) (cf : α → α → Int) (g : Nat) (cb : Array Value) (blk off cap : Nat) (d0 d : Array α) (w0 w : World) (eg : ∀ args w, (callFunc g args).run P w = .ok (.enter g args) w) (hcmp : CmpLays P g cb enc k cf blk off d0.size w0) (R : RowK enc k w0 blk off d0) (hs : d0.size = d.size) (S : SWK enc k w0 blk off d w) (hsz : d.size < 1152921504606846976) (hw : Stb.SW (ltOf cf)) :
    Calls P 94 #[.slice (some ⟨blk, off, none⟩) d.size cap, .int .i64 d.size, .func (.func g) #[] cb] w fun e w' => e = .returned (.tuple #[]) ∧ ∃ d', d'.size = d.size ∧ SWK enc k w0 blk off d' w' ∧ d'.toList = Stb.sortS (ltOf cf) d.toList := by
  have mixed := L.mixed; have t0 := L.t0; have a0 := L.a0; have z0 := L.z0; have v0 := L.v0; have t3 := L.t3; have a3 := L.a3; have z3 := L.z3; have v3 := L.v3; have t4 := L.t4; have a4 := L.a4; have z4 := L.z4; have v4 := L.v4; have tS := L.tS; have aS := L.aS; have zS := L.zS; have vS := L.vS; have tF := L.tF; have aF := L.aF; have zF := L.zF; have vF := L.vF; have tU := L.tU; have aU := L.aU; have zU := L.zU; have vU := L.vU; have aE := L.aE; have zE := L.zE
  have uS := run_underlying L.tS; have u3 := run_underlying L.t3; have uU := run_underlying L.tU
  have einsertionSort : ∀ args w, (callFunc 110 args).run P w = .ok (.enter 110 args) w := enters_of L.finsertionSort (by kernel_rfl) rfl
  have esymMerge : ∀ args w, (callFunc 111 args).run P w = .ok (.enter 111 args) w := enters_of L.fsymMerge (by kernel_rfl) rfl
  have HIn : Aside (∀ (a b : Nat) (dk : Array α) (w : World), dk.size = d.size → SWK enc k w0 blk off dk w → a ≤ b → b ≤ dk.size → Calls P 110 #[.slice (some ⟨blk, off, none⟩) d.size cap, .int .i64 a, .int .i64 b, .func (.func g) #[] cb] w fun e w' => e = .returned (.tuple #[]) ∧ ∃ d', d'.size = d.size ∧ SWK enc k w0 blk off d' w' ∧ Stb.Loc (ltOf cf) a b dk.toList d'.toList ∧ Stb.Srt (ltOf cf) d'.toList a b) := fun a b dk w hd hS h1 h2 => by
    have := insertion_st L enc cf g cb blk off cap d0 dk w0 w a b eg hcmp R (by omega) hS (by omega) hw h1 h2
    rwa [hd] at this
  have HSm : Aside (∀ (a m b : Nat) (dk : Array α) (w : World), dk.size = d.size → SWK enc k w0 blk off dk w → a < m → m < b → b ≤ dk.size → Stb.Srt (ltOf cf) dk.toList a m → Stb.Srt (ltOf cf) dk.toList m b → Calls P 111 #[.slice (some ⟨blk, off, none⟩) d.size cap, .int .i64 a, .int .i64 m, .int .i64 b, .func (.func g) #[] cb] w fun e w' => e = .returned (.tuple #[]) ∧ ∃ d', d'.size = d.size ∧ SWK enc k w0 blk off d' w' ∧ Stb.Loc (ltOf cf) a b dk.toList d'.toList ∧ Stb.Srt (ltOf cf) d'.toList a b) := fun a m b dk w hd hS h1 h2 h3 h4 h5 => by
    have := symMerge_st L enc cf g cb blk off cap d0 w0 eg hcmp R (by omega) hw (b - a) a m b dk w (Nat.le_refl _) h1 h2 h3 (by omega) hS h4 h5
    rwa [hd] at this
  have HW := Lib.hid hw
  have S0 : Aside _ := S
  clear hcmp S hw
  go_enter L.fstable, Tryd.ntmps94
  go_wp2_with fail
  go_loopg [7, 8] d.size (fun kx s7 s8 wr => ∃ (e : Nat) (dk : Array α), s7 = .int .i64 e ∧ s8 = .int .i64 ((e : Int) + 20) ∧ e ≤ d.size ∧ d.size - e ≤ kx ∧ dk.size = d.size ∧ Aside (SWK enc k w0 blk off dk wr) ∧ Hid (Stb.Loc (ltOf cf) 0 d.size d.toList dk.toList) ∧ Hid (Stb.Up (ltOf cf) dk.toList 20 e))
  case atStart => exact ⟨0, d, rfl, rfl, Nat.zero_le _, by omega, rfl, S0, (show Hid _ from Stb.Loc.refl _), (show Hid _ from Stb.Up.nil)⟩
  case round =>
    clear S0
    obtain ⟨e, dk, rfl, rfl, hen, hkx, hds, S1, HLo, HUp⟩ := hrel
    by_cases hlt : e + 20 ≤ d.size
    · have hltz : (e : Int) + 20 ≤ (d.size : Int) := by omega
      have hin := HIn.out e (e + 20) dk wr hds S1.out (by omega) (by omega)
      rw [show ((e + 20 : Nat) : Int) = (e : Int) + 20 by omega] at hin
      clear S1
      go_wp2_with (go_at_fn 110; refine hin.mono ?_; rintro e9 w' ⟨rfl, d', hd', hS', hL', hs'⟩)
      go_roundg (d.size - (e + 20))
      case measure => omega
      case rel => exact ⟨e + 20, d', by go_num, by go_num, by omega, Nat.le_refl _, hd', hS', (show Hid _ from HLo.out.trans (hL'.wide (Nat.zero_le _) (by omega))), (show Hid _ from (HUp.out.out hL' (Nat.le_refl _)).snoc hs')⟩
    · have hltz : ¬ (e : Int) + 20 ≤ (d.size : Int) := by omega
      have hin := HIn.out e d.size dk wr hds S1.out (by omega) (by omega)
      clear S1
      go_wp2_with (go_at_fn 110; refine hin.mono ?_; rintro e9 w' ⟨rfl, d2, hd2, hS2, hL2, hs2⟩)
      have HL2 : Hid (Stb.Loc (ltOf cf) 0 d.size d.toList d2.toList) := HLo.out.trans (hL2.wide (Nat.zero_le _) (Nat.le_refl _))
      have HB2 : Hid (Stb.Bl (ltOf cf) d2.toList 20 d.size 0) := (HUp.out.out hL2 (Nat.le_refl _)).join (.cons (by rw [Nat.min_eq_right (by omega)]; exact hs2) (.nil (by omega))) hen
      have S3 : Aside _ := hS2
      clear hL2 hs2 hS2 HLo HUp hds
      go_loopg [6] d.size (fun kx s6 wr => ∃ (B : Nat) (dk : Array α), s6 = .int .i64 B ∧ 20 ≤ B ∧ B ≤ 2 * d.size + 20 ∧ d.size - B ≤ kx ∧ dk.size = d.size ∧ Aside (SWK enc k w0 blk off dk wr) ∧ Hid (Stb.Loc (ltOf cf) 0 d.size d.toList dk.toList) ∧ Hid (Stb.Bl (ltOf cf) dk.toList B d.size 0))
      case atStart => exact ⟨20, d2, rfl, Nat.le_refl _, by omega, by omega, hd2, S3, HL2, HB2⟩
      case round =>
        clear S3 HL2 HB2 hd2
        obtain ⟨B, dB, rfl, hB0, hB1, hkB, hdB, S4, HL4, HB4⟩ := hrel
        by_cases hBn : B < d.size
        · have hBz : (B : Int) < (d.size : Int) := by omega
          go_wp2_with fail
          go_loopg [7, 8] d.size (fun k2 s7 s8 wr => ∃ (e : Nat) (dk : Array α), s7 = .int .i64 e ∧ s8 = .int .i64 ((e : Int) + 2 * (B : Int)) ∧ e ≤ d.size ∧ d.size - e ≤ k2 ∧ dk.size = d.size ∧ Aside (SWK enc k w0 blk off dk wr) ∧ Hid (Stb.Loc (ltOf cf) 0 d.size d.toList dk.toList) ∧ Hid (Stb.Up (ltOf cf) dk.toList (2 * B) e) ∧ Hid (Stb.Bl (ltOf cf) dk.toList B d.size e))
          case atStart => exact ⟨0, dB, rfl, by go_num, Nat.zero_le _, by omega, hdB, S4, HL4, (show Hid _ from Stb.Up.nil), HB4⟩
          case round =>
            clear S4 HL4 HB4 hdB
            obtain ⟨e, de, rfl, rfl, hen, hke, hde, S5, HL5, HU5, HB5⟩ := hrel
            by_cases hle : e + 2 * B ≤ d.size
            · have hlez : (e : Int) + 2 * (B : Int) ≤ (d.size : Int) := by omega
              have hh := HB5.out.head (by omega)
              have hh2 := hh.2.head (by omega)
              have hsm := HSm.out e (e + B) (e + 2 * B) de wr hde S5.out (by omega) (by omega) (by omega) (by have := hh.1; rwa [Nat.min_eq_left (by omega)] at this) (by have := hh2.1; rwa [show e + B + B = e + 2 * B by omega, Nat.min_eq_left (by omega)] at this)
              have HB6 : Hid (Stb.Bl (ltOf cf) de.toList B d.size (e + 2 * B)) := by have := hh2.2; rwa [show e + B + B = e + 2 * B by omega] at this
              rw [show ((e + B : Nat) : Int) = (e : Int) + (B : Int) by omega, show ((e + 2 * B : Nat) : Int) = (e : Int) + 2 * (B : Int) by omega] at hsm
              clear S5 hh hh2
              go_wp2_with (go_at_fn 111; refine hsm.mono ?_; rintro e9 w' ⟨rfl, d', hd', hS', hL', hs'⟩)
              go_roundg (d.size - (e + 2 * B))
              case measure => omega
              case rel => exact ⟨e + 2 * B, d', by go_num, by go_num, hle, Nat.le_refl _, hd', hS', (show Hid _ from HL5.out.trans (hL'.wide (Nat.zero_le _) hle)), (show Hid _ from (HU5.out.out hL' (Nat.le_refl _)).snoc hs'), (show Hid _ from HB6.out.out hL' (Nat.le_refl _))⟩
            · have hlez : ¬ (e : Int) + 2 * (B : Int) ≤ (d.size : Int) := by omega
              by_cases hm : e + B < d.size
              · have hmz : (e : Int) + (B : Int) < (d.size : Int) := by omega
                have hh := HB5.out.head (by omega)
                have hh2 := hh.2.head (by omega)
                have hsm := HSm.out e (e + B) d.size de wr hde S5.out (by omega) (by omega) (by omega) (by have := hh.1; rwa [Nat.min_eq_left (by omega)] at this) (by have := hh2.1; rwa [Nat.min_eq_right (by omega)] at this)
                rw [show ((e + B : Nat) : Int) = (e : Int) + (B : Int) by omega] at hsm
                clear S5 hh hh2
                go_wp2_with (go_at_fn 111; refine hsm.mono ?_; rintro e9 w' ⟨rfl, d', hd', hS', hL', hs'⟩)
                go_roundg (d.size - 2 * B)
                case measure => omega
                case rel => exact ⟨2 * B, d', by go_num, by omega, by omega, Nat.le_refl _, hd', hS', (show Hid _ from HL5.out.trans (hL'.wide (Nat.zero_le _) (Nat.le_refl _))), (show Hid _ from (HU5.out.out hL' (Nat.le_refl _)).join (.cons (by rw [Nat.min_eq_right (by omega)]; exact hs') (.nil (by omega))) hen)⟩
              · have hmz : ¬ (e : Int) + (B : Int) < (d.size : Int) := by omega
                have HB6 : Hid (Stb.Bl (ltOf cf) de.toList (2 * B) d.size e) := by
                  show Stb.Bl _ _ _ _ _
                  by_cases he : e < d.size
                  · have hh := (HB5.out.head he).1
                    rw [Nat.min_eq_right (by omega)] at hh
                    exact .cons (by rw [Nat.min_eq_right (by omega)]; exact hh) (.nil (by omega))
                  · exact .nil (by omega)
                go_wp2_with fail
                go_roundg (d.size - 2 * B)
                case measure => omega
                case rel => exact ⟨2 * B, de, by go_num, by omega, by omega, Nat.le_refl _, hde, S5, HL5, (show Hid _ from HU5.out.join HB6.out hen)⟩
        · have hBz : ¬ (B : Int) < (d.size : Int) := by omega
          go_wp2_with fail
          go_end0
          have hs := HB4.out.all (by omega)
          have hl : dB.toList.length = d.size := by rw [Array.length_toList]; omega
          exact ⟨rfl, dB, hdB, S4.out, Stb.stab_sort HW.out HL4.out (by rw [hl]; exact hs)⟩
set_option maxHeartbeats 8000000 in
set_option maxRecDepth 1000000 in
theorem sortStable_st (L : StL P k) (enc : α → List Value) (cf : α → α → Int) (g : Nat) (cb : Array Value) (blk off cap : Nat) (d0 d : Array α) (w0 w : World) (eg : ∀ args w, (callFunc g args).run P w = .ok (.enter g args) w) (hcmp : CmpLays P g cb enc k cf blk off d0.size w0) (R : RowK enc k w0 blk off d0) (hs : d0.size = d.size) (S : SWK enc k w0 blk off d w) (hsz : d.size < 1152921504606846976) (hw : Stb.SW (ltOf cf)) :
    Calls P 69 #[.slice (some ⟨blk, off, none⟩) d.size cap, .func (.func g) #[] cb] w fun e w' => e = .returned (.tuple #[]) ∧ ∃ d', d'.size = d.size ∧ SWK enc k w0 blk off d' w' ∧ d'.toList = Stb.sortS (ltOf cf) d.toList := by
  have mixed := L.mixed; have t0 := L.t0; have a0 := L.a0; have z0 := L.z0; have v0 := L.v0; have t3 := L.t3; have a3 := L.a3; have z3 := L.z3; have v3 := L.v3; have t4 := L.t4; have a4 := L.a4; have z4 := L.z4; have v4 := L.v4; have tS := L.tS; have aS := L.aS; have zS := L.zS; have vS := L.vS; have tF := L.tF; have aF := L.aF; have zF := L.zF; have vF := L.vF; have tU := L.tU; have aU := L.aU; have zU := L.zU; have vU := L.vU; have aE := L.aE; have zE := L.zE
  have uS := run_underlying L.tS; have u3 := run_underlying L.t3; have uU := run_underlying L.tU
  have estable : ∀ args w, (callFunc 94 args).run P w = .ok (.enter 94 args) w := enters_of L.fstable (by kernel_rfl) rfl
  have hst := stable_st L enc cf g cb blk off cap d0 d w0 w eg hcmp R hs S hsz hw
  clear hcmp S hw
  go_enter L.fsort, Tryd.ntmps69
  go_wp2_with (go_at_fn 94; refine hst.mono ?_; rintro e9 w' ⟨rfl, d', hd', hS', hl'⟩)
  go_end0
  exact ⟨rfl, d', hd', hS', hl'⟩
set_option maxHeartbeats 8000000 in
set_option maxRecDepth 1000000 in
/-- at the empty slice -/
theorem sortStable_nil (L : StL P k) (F : Value) (w : World) : Calls P 69 #[.slice none 0 0, F] w fun e w' => e = .returned (.tuple #[]) ∧ w' = w := by
  have mixed := L.mixed; have t0 := L.t0; have a0 := L.a0; have z0 := L.z0; have v0 := L.v0; have t3 := L.t3; have a3 := L.a3; have z3 := L.z3; have v3 := L.v3; have t4 := L.t4; have a4 := L.a4; have z4 := L.z4; have v4 := L.v4; have tS := L.tS; have aS := L.aS; have zS := L.zS; have vS := L.vS; have tF := L.tF; have aF := L.aF; have zF := L.zF; have vF := L.vF; have tU := L.tU; have aU := L.aU; have zU := L.zU; have vU := L.vU; have aE := L.aE; have zE := L.zE
  have uS := run_underlying L.tS; have u3 := run_underlying L.t3; have uU := run_underlying L.tU
  have estable : ∀ args w, (callFunc 94 args).run P w = .ok (.enter 94 args) w := enters_of L.fstable (by kernel_rfl) rfl
  have einsertionSort : ∀ args w, (callFunc 110 args).run P w = .ok (.enter 110 args) w := enters_of L.finsertionSort (by kernel_rfl) rfl
  have hin : ∀ w, Calls P 110 #[.slice none 0 0, .int .i64 0, .int .i64 0, F] w fun e w' => e = .returned (.tuple #[]) ∧ w' = w := fun w => by
    go_enter L.finsertionSort, Tryd.ntmps110
    go_wp2_with fail
    go_loopg [8] 0 (fun kx s8 wr => s8 = .int .i64 1 ∧ Hid (wr = w))
    case atStart => exact ⟨rfl, rfl⟩
    case round =>
      obtain ⟨rfl, HW⟩ := hrel
      go_wp2_with fail
      go_end0
      exact ⟨rfl, HW.out⟩
  have hst : Calls P 94 #[.slice none 0 0, .int .i64 0, F] w fun e w' => e = .returned (.tuple #[]) ∧ w' = w := by
    go_enter L.fstable, Tryd.ntmps94
    go_wp2_with fail
    go_loopg [7, 8] 0 (fun kx s7 s8 wr => s7 = .int .i64 0 ∧ s8 = .int .i64 20 ∧ Hid (wr = w))
    case atStart => exact ⟨rfl, rfl, rfl⟩
    case round =>
      obtain ⟨rfl, rfl, HW⟩ := hrel
      go_wp2_with (go_at_fn 110; refine (hin _).mono ?_; rintro e9 w' ⟨rfl, rfl⟩)
      go_loopg [6] 0 (fun kx s6 wr9 => s6 = .int .i64 20 ∧ Hid (wr9 = w))
      case atStart => exact ⟨rfl, HW⟩
      case round =>
        obtain ⟨rfl, HW9⟩ := hrel
        go_wp2_with fail
        go_end0
        exact ⟨rfl, HW9.out⟩
  go_enter L.fsort, Tryd.ntmps69
  go_wp2_with (go_at_fn 94; refine hst.mono ?_; rintro e9 w' ⟨rfl, rfl⟩)
  go_end0
  exact ⟨rfl, rfl⟩
end Go.Proofs.YtagfedbdakmlgaaDoor

/-! CloneR -/
namespace Go.Proofs.YtagfedbdakmlgaaDoor
set_option linter.unusedVariables false
set_option linter.unusedSimpArgs false
open Go.RowKit
theorem run_ones : ∀ (r : Run), ∀ u ∈ r.cells, u.oneCell' = true := by intro r u hu; simp [Run.cells] at hu; rcases hu with rfl | rfl | rfl | rfl | rfl <;> rfl
def RCloneRel (w : World) (rows : List Row) (n : Nat) (v i : Value) (wr : World) : Prop :=
  ∃ (k : Nat) (hs : List Hd), k ≤ n ∧ i = .int .i64 k ∧ hs.length = k ∧ wr.ownsRow w.heap.size 61 1 v k (hs.flatMap fun h => [Hd.val h]) ∧ Ext w wr ∧ Goods wr hs (rows.take k) ∧
    (∀ g, v.ownBlock = some g → ∀ h ∈ hs, Apart g h) ∧ (∀ h ∈ hs, Fresh wr 66 w.heap.size h.1)
theorem Good.grown {w w1 : World} {h : Hd} {r : Row} {row : Option Nat} (g : Good w h r) (hg : w.grownBy w1 row) (hp : ∀ q, row = some q → Apart q h) : Good w1 h r :=
  ⟨g.1, g.2.1, Sl.keep g.2.2 fun hn b off hA o x hx => by
    have hb : b < w.heap.size := World.block_lt_of_cell? w _ hx.1
    have key : ∀ q v, w.cell? ⟨b, q, none⟩ = some v → w1.cell? ⟨b, q, none⟩ = some v := fun q v hv =>
      (World.cell?_of_block (w := w) (a := ⟨b, q, none⟩) (hg.block b hb (fun e => hp b e.symm hn _ hA rfl))).trans hv
    exact ⟨key _ _ hx.1, key _ _ hx.2.1, key _ _ hx.2.2.1, key _ _ hx.2.2.2.1, key _ _ hx.2.2.2.2⟩⟩
theorem rclone_step {w wr w1 w3 : World} {rows : List Row} {n k : Nat} {hs : List Hd} {r : Row} {v v' : Value} {A1 : Option Addr} {n' c1 : Nat} {o : Obj} (hlt : k < n) (hx : Ext w wr) (hx1 : Ext wr w1) (hsl : hs.length = k)
    (hO : wr.ownsRow w.heap.size 61 1 v k (hs.flatMap fun h => [Hd.val h])) (hG : Goods wr hs (rows.take k))
    (hA : ∀ g, v.ownBlock = some g → ∀ h ∈ hs, Apart g h) (hF : ∀ h ∈ hs, Fresh wr 66 w.heap.size h.1) (hr : rows[k]? = some r) (hn40 : n' * 40 ≤ 140737488355328) (hnc : n' ≤ c1) (hru : RunsAt w1 A1 n' r) (hfr : Fresh w1 66 wr.heap.size A1) (hlt1 : 0 < n' → ∀ ad, A1 = some ad → ad.block < w1.heap.size)
    (hO3 : w3.ownsRow w.heap.size 61 1 v' (k + 1) ((hs.flatMap fun h => [Hd.val h]) ++ [Value.slice A1 n' c1])) (hgr : (w1.alloc o).grownBy w3 v.ownBlock) (hat : v'.ownBlock = v.ownBlock ∨ v'.ownBlock = some (w1.alloc o).heap.size) :
    RCloneRel w rows n v' (.int .i64 ((k : Int) + 1)) w3 := by
  have hvb : ∀ g, v.ownBlock = some g → w.heap.size ≤ g ∧ g < wr.heap.size := fun g hg => hO.lt g hg
  have hapn : ∀ g, v.ownBlock = some g → Apart g (A1, n', c1) := fun g hg _ ad had => by have := (hfr ad had).1; have := hvb g hg; omega
  have hx3 : Ext w w3 := ((hx.trans hx1).alloc o).grown hgr (fun q hq => (hvb q hq).1)
  have hblk : ∀ h ∈ hs, ∀ (r' : Row), Good wr h r' → 0 < h.2.1 → ∀ ad, h.1 = some ad → ad.block < wr.heap.size := fun h _ r' hg hp ad had => by
    obtain ⟨b, off, x, hA', _, hC⟩ := hg.2.2.at_ (i := 0) hp
    rw [hA'] at had
    cases had
    exact World.block_lt_of_cell? wr _ hC.1
  refine ⟨k + 1, hs ++ [(A1, n', c1)], by omega, by simp, by simp [hsl], ?_, hx3, ?_, ?_, ?_⟩
  · rw [List.flatMap_append]
    exact hO3
  · intro i h q hi hq
    rw [take_snoc' rows k r hr] at hq
    by_cases hik : i < k
    · rw [List.getElem?_append_left (by omega)] at hi
      rw [List.getElem?_append_left (by rw [List.length_take]; have := (List.getElem?_eq_some_iff.1 hr).1; omega)] at hq
      have hm := List.mem_of_getElem? hi
      exact (((hG i h q hi hq).ext hx1).ext ((Ext.refl w1).alloc o)).grown hgr (fun g hg => hA g hg h hm)
    · have hlen : (rows.take k).length = k := by rw [List.length_take]; have := (List.getElem?_eq_some_iff.1 hr).1; omega
      have hik' : i = k := by
        have := (List.getElem?_eq_some_iff.1 hi).1
        simp [hsl] at this
        omega
      subst hik'
      rw [List.getElem?_append_right (by omega)] at hi
      rw [List.getElem?_append_right (by omega)] at hq
      simp only [hsl, hlen, Nat.sub_self, List.getElem?_cons_zero, Option.some.injEq] at hi hq
      subst hi hq
      exact (Good.ext (h := (A1, n', c1)) ⟨hnc, hn40, hru⟩ ((Ext.refl w1).alloc o)).grown hgr hapn
  · intro g hg h hm
    rcases hat with e | e
    · rw [e] at hg
      rcases List.mem_append.1 hm with h1 | h1
      · exact hA g hg h h1
      · rw [List.mem_singleton] at h1; subst h1; exact hapn g hg
    · rw [e] at hg
      have hge : g = w1.heap.size + 1 := by simpa using hg.symm
      have hs1 := hx1.size
      rcases List.mem_append.1 hm with h1 | h1
      · intro hp ad had
        obtain ⟨i, hi⟩ := List.getElem?_of_mem h1
        have hil : i < (rows.take k).length := by
          have := (List.getElem?_eq_some_iff.1 hi).1
          rw [List.length_take]; have := (List.getElem?_eq_some_iff.1 hr).1; omega
        have := hblk h h1 _ (hG i h _ hi (List.getElem?_eq_getElem hil)) hp ad had
        omega
      · rw [List.mem_singleton] at h1
        subst h1
        intro hp ad had
        have := hlt1 hp ad had
        omega
  · intro h hm
    have hty : ∀ q, v.ownBlock = some q → Typed (w1.alloc o) 61 q := fun q hq => ((own_typed hO q hq).ext hx1).ext ((Ext.refl w1).alloc o)
    rcases List.mem_append.1 hm with h1 | h1
    · exact (((hF h h1).ext hx1).ext ((Ext.refl w1).alloc o)).grown hgr hty (by decide)
    · rw [List.mem_singleton] at h1
      subst h1
      exact ((hfr.le hx.size).ext ((Ext.refl w1).alloc o)).grown hgr hty (by decide)
set_option maxRecDepth 100000 in
set_option maxHeartbeats 2000000 in
theorem RClone_own (A : Option Addr) (n c : Nat) (rows : List Row) (w : World) (hl : RowsAt w A n rows) (hn : n * 24 ≤ 140737488355328) :
    Calls Tryd.prog 35 #[.slice A n c] w (SOwnPost rows n w) := by
  have HL := Lib.hid hl
  have HLn := Lib.hid hl.len
  clear hl
  go_enter Tryd.func35, Tryd.ntmps35
  go_wp2_with fail
  go_loopw [3, 8] (fun v i wr => RCloneRel w rows n v i wr) (fun _ i _ => n - (intOf i).toNat)
  case atStart => exact ⟨0, [], Nat.zero_le _, rfl, rfl, ⟨rfl, .inl ⟨rfl, rfl⟩⟩, Ext.refl _, fun i h r hi _ => by simp at hi, fun g hg h hm => by simp at hm, fun h hm => by simp at hm⟩
  case round =>
    obtain ⟨k, hs, hk, rfl, hsl, hown, hx, hgd, hap, hfr⟩ := hrel
    have HGd := Lib.hid hgd
    have HAp := Lib.hid hap
    have HFr := Lib.hid hfr
    have HSl := Lib.hid hsl
    have HO := Lib.hid hown
    clear hgd hap hfr hsl hown
    by_cases hlt : k < n
    · obtain ⟨b, off, r, rfl, hr, A', n', c', hcell, hnc, hc40, hruns⟩ := (HL.out.ext hx).at_ hlt
      simp only [Nat.mul_one] at hcell
      have HRu := Lib.hid hruns
      have HRr := Lib.hid hr
      clear hr hruns
      have hwr : w.heap.size ≤ wr.heap.size := hx.size
      go_wp2_with (first | (at_builtin; refine wpList_appendS rfl (.tmp 13) (.tmp 15) 59 rfl info_run Tryd.underlying59 rfl (by decide) (by exact own_nil0' (g := wr.heap.size + 1) (base := wr.heap.size + 1) (by simp) (Nat.le_refl _)) (by exact rfl) (by exact rfl) (by exact Sl.ext (Cells.stays _) HRu.out.cells (((Ext.refl wr).alloc _).alloc _)) (fun _ => rfl) run_ones (by omega) (by simp [maxLen]; omega) (by simp) ?_; intro v1 w1 hown1 hgr1 hnil1; simp only [Nat.zero_add, List.nil_append] at hown1; obtain ⟨A1, c1, hv1, hc1, _, hsl1, hfr1⟩ := own_sl (f := Run.cells) (size := 5) (fun _ => rfl) HRu.out.len hown1; have hx1 : Ext wr w1 := ((((Ext.refl wr).alloc _).alloc _).grown hgr1 (fun q hq => by simp [Value.ownBlock] at hq; omega)); have HX1 := Lib.hid hx1; have HS1 := Lib.hid hsl1; have HF1 := Lib.hid hfr1; have HOw1 := Lib.hid hown1; have hsz1 := hx1.size; clear hx1 hsl1 hfr1 hown1 hgr1 hnil1; rw [hv1] at HOw1; rw [hv1]; clear hv1) | (at_builtin; refine wpList_append1a rfl (.tmp 12) (.tmp 18) 43 rfl info_row Tryd.underlying43 rfl (by decide) ((own_ext HO.out HX1.out).alloc _) (by exact rfl) w1.heap.size _ (by exact rfl) (by exact Blk.new' rfl) (by exact rfl) (by simp [Value.oneCell']) (by omega) (by simp [maxLen]; omega) (by simp; omega) ?_; intro v' w3 hown3 hgr3 hat3))
      refine ⟨rclone_step hlt hx HX1.out HSl.out HO.out HGd.out HAp.out HFr.out HRr.out hc40 hc1 (RunsAt.of_cells HS1.out) ((Fresh.of_own HOw1.out).le (by omega)) (fun hp ad had => ?_) hown3 hgr3 hat3, by simp [intOf]; omega⟩
      obtain ⟨b', off', x, hA', _, hC⟩ := HS1.out.at_ (i := 0) hp
      rw [hA'] at had
      cases had
      exact World.block_lt_of_cell? w1 _ (hC 0 _ rfl)
    · have hkn : k = n := by omega
      subst hkn
      go_wp2_with fail
      go_ret
      obtain ⟨A', c', hv, hc, _, hsl', hfr'⟩ := own_sl (f := fun h : Hd => [Hd.val h]) (size := 1) (fun _ => rfl) HSl.out HO.out
      have HT : rows.take k = rows := List.take_of_length_le (by rw [HLn.out]; omega)
      refine ⟨A', c', by rw [← hv]; rfl, hc, ⟨hs, by rw [← hv]; exact HO.out, HSl.out, by have := HGd.out; rw [HT] at this; exact this, HLn.out, fun h hm => HFr.out h hm⟩, hx⟩
end Go.Proofs.YtagfedbdakmlgaaDoor

/-! ECl -/
namespace Go.Proofs.YtagfedbdakmlgaaDoor
set_option linter.unusedVariables false
set_option linter.unusedSimpArgs false
open Go.RowKit
/-- a store into a block of another type leaves the rows as they are -/
theorem RowsFresh.put {w : World} {L : Nat} {A : Option Addr} {n : Nat} {l : List Row} (h : RowsFresh w L A n l) {g : Nat} {t : TypeId} {cs : Array Value} (hB : Blk w g t cs) (cs' : Array Value) (h1 : 61 ≠ t) (h2 : 66 ≠ t) : RowsFresh (putB w g t cs') L A n l := by
  obtain ⟨hs, a1, a2, a3, a4, a5⟩ := h
  refine ⟨hs, Sl.keep a1 fun _ b off hA o x hx j u hu => ?_, fun i hd r a b => ?_, a3, a4.put hB cs' h1, fun x hx => (a5 x hx).put hB cs' h2⟩
  · have hb : b ≠ g := Typed.ne (a4 _ hA).2 hB.typed h1
    rw [putB_cell_other (p := ⟨b, o + j, none⟩) hb]; exact hx j u hu
  · have gd := a2 i hd r a b
    refine ⟨gd.1, gd.2.1, Sl.keep gd.2.2 fun _ b' off hA o x hx => ?_⟩
    have hb : b' ≠ g := Typed.ne (a5 hd (List.mem_of_getElem? a) _ hA).2 hB.typed h2
    have key : ∀ q v, w.cell? ⟨b', q, none⟩ = some v → (putB w g t cs').cell? ⟨b', q, none⟩ = some v := fun q v hv => by rw [putB_cell_other (p := ⟨b', q, none⟩) hb]; exact hv
    exact ⟨key _ _ hx.1, key _ _ hx.2.1, key _ _ hx.2.2.1, key _ _ hx.2.2.2.1, key _ _ hx.2.2.2.2⟩
theorem own_put {w : World} {L : Nat} {e : TypeId} {size : Nat} {v : Value} {n : Nat} {xs : List Value} (h : w.ownsRow L e size v n xs) {g : Nat} {t : TypeId} {cs : Array Value} (hB : Blk w g t cs) (cs' : Array Value) (hne : e ≠ t) : (putB w g t cs').ownsRow L e size v n xs := by
  have ht := own_typed h
  refine ⟨h.1, ?_⟩
  rcases h.2 with hn | ⟨g', cap, cur, rfl, hb, hg, rest⟩
  · exact .inl hn
  · refine .inr ⟨g', cap, cur, rfl, hb, ?_, rest⟩
    have : g ≠ g' := fun e => Typed.ne (ht g' rfl) hB.typed hne e.symm
    unfold putB
    simp only
    rw [Array.getElem?_setIfInBounds_ne this]
    exact hg
theorem RowsOwn.put {w : World} {L : Nat} {A : Option Addr} {n c : Nat} {l : List Row} (h : RowsOwn w L A n c l) {g : Nat} {t : TypeId} {cs : Array Value} (hB : Blk w g t cs) (cs' : Array Value) (h1 : 61 ≠ t) (h2 : 66 ≠ t) : RowsOwn (putB w g t cs') L A n c l := by
  obtain ⟨hs, a1, a2, a3, a4, a5⟩ := h
  refine ⟨hs, own_put a1 hB cs' h1, a2, fun i hd r a b => ?_, a4, fun x hx => (a5 x hx).put hB cs' h2⟩
  have gd := a3 i hd r a b
  refine ⟨gd.1, gd.2.1, Sl.keep gd.2.2 fun _ b' off hA o x hx => ?_⟩
  have hb : b' ≠ g := Typed.ne (a5 hd (List.mem_of_getElem? a) _ hA).2 hB.typed h2
  have key : ∀ q v, w.cell? ⟨b', q, none⟩ = some v → (putB w g t cs').cell? ⟨b', q, none⟩ = some v := fun q v hv => by rw [putB_cell_other (p := ⟨b', q, none⟩) hb]; exact hv
  exact ⟨key _ _ hx.1, key _ _ hx.2.1, key _ _ hx.2.2.1, key _ _ hx.2.2.2.1, key _ _ hx.2.2.2.2⟩
theorem size_event : (Tryd.prog.info? 45).map (·.size) = some 7 := by kernel_rfl
def evZero : Array Value := #[.int .i64 0, .int .i64 0, .int .i64 0, .string ⟨#[]⟩, .int .u8 0, .string ⟨#[]⟩, .slice none 0 0]
/-- what a copy of an event comes to -/
def EClPost (e : Ev) (n : Nat) (w : World) (en : Ending) (w' : World) : Prop :=
  ∃ A c, en = .returned (.agg (e.cells A n c)) ∧ n ≤ c ∧ RowsFresh w' w.heap.size A n e.rows ∧ Ext w w'
def EOwnPost (e : Ev) (n : Nat) (w : World) (en : Ending) (w' : World) : Prop :=
  ∃ A c, en = .returned (.agg (e.cells A n c)) ∧ n ≤ c ∧ RowsOwn w' w.heap.size A n c e.rows ∧ Ext w w'
set_option maxRecDepth 100000 in
set_option maxHeartbeats 2000000 in
theorem EClone_own (e : Ev) (A : Option Addr) (n c : Nat) (w : World) (he : EvAt w e A n c) :
    Calls Tryd.prog 43 #[.agg (e.cells A n c)] w (EOwnPost e n w) := by
  have hn24 := he.2.2
  have HE := Lib.hid he
  clear he
  have hx0 := ((Ext.refl w).alloc (.cells (e.cells A n c) 45)).alloc (.cells evZero 45)
  unfold Ev.cells evZero at hx0
  have HX0 := Lib.hid hx0
  clear hx0
  unfold Ev.cells
  go_enter Tryd.func43, Tryd.ntmps43
  go_wp2_with fail
  refine (SClone_own A n c e.rows _ (HE.out.1.ext HX0.out) hn24).mono ?_
  rintro en w1 ⟨A1, c1, rfl, hnc1, hrf, hx1⟩
  have HB0 := Lib.hid (Blk.ext ((Blk.new w 45 #[.int .i64 e.id, .int .i64 e.inn, .int .i64 e.out, .string e.region, .int .u8 e.kind, .string e.speaker, .slice A n c]).alloc _) hx1)
  have HB1 := Lib.hid (Blk.ext (Blk.new' (g := w.heap.size + 1) (by simp)) hx1)
  have hc0 := fun o => HB0.out.cell o
  have hf0 := fun o => HB0.out.frozen o
  have hset := fun u => setCell_put HB0.out 6 u
  have HRF := Lib.hid hrf
  clear hrf
  simp at hset
  go_wp2_with (first | (refine wpList_loadB rfl 45 (.tmp 1) rfl w.heap.size 45 _ _ (by exact rfl) (by exact HB0.out.put _) Tryd.underlying45 rfl (by exact size_event) ?_) | (refine wpList_storeB rfl 45 (.tmp 2) (.tmp 7) rfl (w.heap.size + 1) 45 _ _ (by exact rfl) (by exact rfl) (by exact HB1.out.put_other (by omega) _) (by exact rfl) (by exact size_event) (by simp [Value.oneCell']) ?_))
  refine bodyPost_ret (v := .agg (e.cells A1 n c1)) ?_ rfl ⟨A1, c1, rfl, hnc1, ?_, ?_⟩
  · exact results_B (P := Tryd.prog) Tryd.results43 (g := w.heap.size + 1) rfl (by exact (HB1.out.put_other (by omega) _).put _) Tryd.underlying45 rfl size_event
  · exact (RowsOwn.put (RowsOwn.put HRF.out HB0.out _ (by decide) (by decide)) (HB1.out.put_other (by omega) _) _ (by decide) (by decide)).le (by simp only [World.size_alloc]; omega)
  · exact (((HX0.out.trans hx1)).put (Nat.le_refl _) _ _).put (by omega) _ _
set_option maxRecDepth 100000 in
set_option maxHeartbeats 2000000 in
theorem REClone_own (e : Ev) (A : Option Addr) (n c : Nat) (w : World) (he : EvAt w e A n c) :
    Calls Tryd.prog 14 #[.agg (e.cells A n c)] w (EOwnPost e n w) := by
  have hn24 := he.2.2
  have HE := Lib.hid he
  clear he
  have hx0 := ((Ext.refl w).alloc (.cells (e.cells A n c) 45)).alloc (.cells evZero 45)
  unfold Ev.cells evZero at hx0
  have HX0 := Lib.hid hx0
  clear hx0
  unfold Ev.cells
  go_enter Tryd.func14, Tryd.ntmps14
  go_wp2_with fail
  refine (RClone_own A n c e.rows _ (HE.out.1.ext HX0.out) hn24).mono ?_
  rintro en w1 ⟨A1, c1, rfl, hnc1, hrf, hx1⟩
  have HB0 := Lib.hid (Blk.ext ((Blk.new w 45 #[.int .i64 e.id, .int .i64 e.inn, .int .i64 e.out, .string e.region, .int .u8 e.kind, .string e.speaker, .slice A n c]).alloc _) hx1)
  have HB1 := Lib.hid (Blk.ext (Blk.new' (g := w.heap.size + 1) (by simp)) hx1)
  have hc0 := fun o => HB0.out.cell o
  have hf0 := fun o => HB0.out.frozen o
  have hset := fun u => setCell_put HB0.out 6 u
  have HRF := Lib.hid hrf
  clear hrf
  simp at hset
  go_wp2_with (first | (refine wpList_loadB rfl 45 (.tmp 1) rfl w.heap.size 45 _ _ (by exact rfl) (by exact HB0.out.put _) Tryd.underlying45 rfl (by exact size_event) ?_) | (refine wpList_storeB rfl 45 (.tmp 2) (.tmp 7) rfl (w.heap.size + 1) 45 _ _ (by exact rfl) (by exact rfl) (by exact HB1.out.put_other (by omega) _) (by exact rfl) (by exact size_event) (by simp [Value.oneCell']) ?_))
  refine bodyPost_ret (v := .agg (e.cells A1 n c1)) ?_ rfl ⟨A1, c1, rfl, hnc1, ?_, ?_⟩
  · exact results_B (P := Tryd.prog) Tryd.results14 (g := w.heap.size + 1) rfl (by exact (HB1.out.put_other (by omega) _).put _) Tryd.underlying45 rfl size_event
  · exact (RowsOwn.put (RowsOwn.put HRF.out HB0.out _ (by decide) (by decide)) (HB1.out.put_other (by omega) _) _ (by decide) (by decide)).le (by simp only [World.size_alloc]; omega)
  · exact (((HX0.out.trans hx1)).put (Nat.le_refl _) _ _).put (by omega) _ _
theorem EClone_any (e : Ev) (A : Option Addr) (n c : Nat) (w : World) (he : EvAt w e A n c) : Calls Tryd.prog 43 #[.agg (e.cells A n c)] w (EClPost e n w) :=
  (EClone_own e A n c w he).mono fun _ _ ⟨A1, c1, h1, h2, h3, h4⟩ => ⟨A1, c1, h1, h2, h3.fresh, h4⟩
theorem REClone_any (e : Ev) (A : Option Addr) (n c : Nat) (w : World) (he : EvAt w e A n c) : Calls Tryd.prog 14 #[.agg (e.cells A n c)] w (EClPost e n w) :=
  (REClone_own e A n c w he).mono fun _ _ ⟨A1, c1, h1, h2, h3, h4⟩ => ⟨A1, c1, h1, h2, h3.fresh, h4⟩
end Go.Proofs.YtagfedbdakmlgaaDoor

/-! Evs -/
namespace Go.Proofs.YtagfedbdakmlgaaDoor
set_option linter.unusedVariables false
set_option linter.unusedSimpArgs false
open Go.RowKit
/-- the rows of elements of type T stay as they are -/
def KB (T : TypeId) (w w' : World) : Prop := ∀ (b : Nat) (cur : Array Value), w.heap[b]? = some (Obj.cells cur T (0, 0)) → w'.heap[b]? = some (Obj.cells cur T (0, 0))
section
variable {T T' : TypeId} {w w1 w2 : World} {L n : Nat} {A : Option Addr}
theorem KB.refl (w : World) : KB T w w := fun _ _ h => h
theorem KB.trans (h : KB T w w1) (k : KB T w1 w2) : KB T w w2 := fun b cur hb => k b cur (h b cur hb)
theorem KB.ext (k : Ext w w1) : KB T w w1 := fun b _ hb => (k.block b (Array.getElem?_eq_some_iff.1 hb).1).trans hb
theorem KB.put {g : Nat} {cs cs' : Array Value} (hB : Blk w g T' cs) (hne : T ≠ T') : KB T w (putB w g T' cs') := fun b cur hb => by
  have hn : g ≠ b := (Typed.ne ⟨cur, hb⟩ hB.typed hne).symm
  unfold putB
  simp only
  rw [Array.getElem?_setIfInBounds_ne hn]
  exact hb
theorem KB.set {p : Addr} {u : Value} (hT : Typed w T' p.block) (hne : T ≠ T') : KB T w (w.setCell p u) := fun b cur hb => by
  have hn : b ≠ p.block := Typed.ne ⟨cur, hb⟩ hT hne
  rw [RowKit.Below.heap_setCell _ _ _ _ hn]
  exact hb
theorem KB.sets {g : Nat} (hne : T ≠ T') : ∀ (vs : List Value) (o : Nat) (w : World), Typed w T' g → KB T w (w.setCells g o vs)
  | [], _, w, _ => KB.refl w
  | v :: vs, o, w, h => (KB.set (p := ⟨g, o, none⟩) h hne).trans (KB.sets hne vs (o + 1) _ (h.setCell _ _))
theorem KB.grown {row : Option Nat} (hg : w.grownBy w1 row) (hr : ∀ q, row = some q → Typed w T' q) (hne : T ≠ T') : KB T w w1 := fun b cur hb => by
  refine (hg.block b (Array.getElem?_eq_some_iff.1 hb).1 (fun e => ?_)).trans hb
  exact Typed.ne ⟨cur, hb⟩ (hr b e.symm) hne rfl
theorem KB.turned {b : Nat} (h : w.mapTurned w1 b) : KB T w w1 := fun c cur hc => by
  obtain ⟨es, cl, es', cl', hb, rfl⟩ := h
  have hn : b ≠ c := fun e => by subst e; rw [hb] at hc; cases hc
  show (w.heap.setIfInBounds b _)[c]? = _
  rw [Array.getElem?_setIfInBounds_ne hn]
  exact hc
theorem Typed.kb (h : Typed w T n) (k : KB T w w1) : Typed w1 T n := h.elim fun cur hb => ⟨cur, k _ _ hb⟩
theorem Typed.sets {g b : Nat} : ∀ (vs : List Value) (o : Nat) (w : World), Typed w T b → Typed (w.setCells g o vs) T b
  | [], _, _, h => h
  | v :: vs, o, w, h => Typed.sets vs (o + 1) _ (h.setCell _ _)
theorem Typed.cell_kb (h : Typed w T n) (k : KB T w w1) (o : Nat) : w1.cell? ⟨n, o, none⟩ = w.cell? ⟨n, o, none⟩ := by
  obtain ⟨cur, hb⟩ := h
  simp [World.cell?, hb, k _ _ hb]
theorem Fresh.kb (h : Fresh w T L A) (k : KB T w w1) : Fresh w1 T L A := fun ad e => ⟨(h ad e).1, (h ad e).2.kb k⟩
theorem own_kb {size : Nat} {v : Value} {xs : List Value} (h : w.ownsRow L T size v n xs) (k : KB T w w1) : w1.ownsRow L T size v n xs := by
  refine ⟨h.1, ?_⟩
  rcases h.2 with hn | ⟨g, cap, cur, rfl, hb, hg, rest⟩
  · exact .inl hn
  · exact .inr ⟨g, cap, cur, rfl, hb, k _ _ hg, rest⟩
end
theorem RowsFresh.kb {w w1 : World} {L : Nat} {A : Option Addr} {n : Nat} {l : List Row} (h : RowsFresh w L A n l) (k1 : KB 61 w w1) (k2 : KB 66 w w1) : RowsFresh w1 L A n l := by
  obtain ⟨hs, a1, a2, a3, a4, a5⟩ := h
  refine ⟨hs, Sl.keep a1 fun _ b off hA o x hx j u hu => ?_, fun i hd r a b => ?_, a3, a4.kb k1, fun x hx => (a5 x hx).kb k2⟩
  · rw [(a4 _ hA).2.cell_kb k1]; exact hx j u hu
  · have gd := a2 i hd r a b
    refine ⟨gd.1, gd.2.1, Sl.keep gd.2.2 fun _ b' off hA o x hx => ?_⟩
    have key : ∀ q v, w.cell? ⟨b', q, none⟩ = some v → w1.cell? ⟨b', q, none⟩ = some v := fun q v hv => by rw [((a5 hd (List.mem_of_getElem? a)) _ hA).2.cell_kb k2]; exact hv
    exact ⟨key _ _ hx.1, key _ _ hx.2.1, key _ _ hx.2.2.1, key _ _ hx.2.2.2.1, key _ _ hx.2.2.2.2⟩
theorem flat_set {α : Type} {f : α → List Value} {size : Nat} (hf : ∀ x, (f x).length = size) : ∀ (l : List α) (k j : Nat) (x y : α) (u : Value), l[k]? = some x → f y = (f x).set j u → j < size → (l.flatMap f).set (k * size + j) u = (l.set k y).flatMap f
  | [], k, j, x, y, u, h, _, _ => by simp at h
  | z :: l, 0, j, x, y, u, h, hy, hj => by
    simp at h; subst h
    rw [List.flatMap_cons, List.set_cons_zero, List.flatMap_cons, hy, Nat.zero_mul, Nat.zero_add, List.set_append, if_pos (by rw [hf]; exact hj)]
  | z :: l, k + 1, j, x, y, u, h, hy, hj => by
    have hz := hf z
    rw [List.flatMap_cons, List.set_cons_succ, List.flatMap_cons, List.set_append, if_neg (by rw [hz, Nat.add_mul]; omega), ← flat_set hf l k j x y u (by simpa using h) hy hj]
    congr 2
    rw [hz, Nat.add_mul]; omega
def setMany : List Value → Nat → List Value → List Value
  | xs, _, [] => xs
  | xs, j, v :: vs => setMany (xs.set j v) (j + 1) vs
theorem setMany_split : ∀ (vs pre old post : List Value), old.length = vs.length → setMany (pre ++ old ++ post) pre.length vs = pre ++ vs ++ post
  | [], pre, old, post, h => by
    obtain rfl : old = [] := List.eq_nil_of_length_eq_zero h
    rfl
  | v :: vs, pre, [], post, h => by simp at h
  | v :: vs, pre, o :: old, post, h => by
    have e : (pre ++ o :: old ++ post).set pre.length v = (pre ++ [v]) ++ old ++ post := by simp [List.set_append]
    have := setMany_split vs (pre ++ [v]) old post (by simpa using h)
    rw [List.length_append, List.length_singleton] at this
    rw [setMany, e, this]
    simp
theorem flat_setMany {α : Type} {f : α → List Value} {size : Nat} (hf : ∀ x, (f x).length = size) (l : List α) (k : Nat) (y : α) (hk : k < l.length) : setMany (l.flatMap f) (k * size) (f y) = (l.set k y).flatMap f := by
  have e1 : l = l.take k ++ l[k] :: l.drop (k + 1) := by rw [← List.drop_eq_getElem_cons hk, List.take_append_drop]
  have e2 : l.set k y = l.take k ++ y :: l.drop (k + 1) := by rw [List.set_eq_take_append_cons_drop, if_pos hk]
  have hl : ((l.take k).flatMap f).length = k * size := by rw [flatMap_len f size hf, List.length_take, Nat.min_eq_left (by omega)]
  rw [e2, List.flatMap_append, List.flatMap_cons]
  conv => lhs; rw [e1]
  rw [List.flatMap_append, List.flatMap_cons, ← hl, ← List.append_assoc, setMany_split _ _ _ _ (by rw [hf, hf]), List.append_assoc]
theorem own_sets {L size n cap g : Nat} {T : TypeId} : ∀ (vs : List Value) (j : Nat) (w : World) (xs : List Value), w.ownsRow L T size (.slice (some ⟨g, 0, none⟩) n cap) n xs →
    (w.setCells g j vs).ownsRow L T size (.slice (some ⟨g, 0, none⟩) n cap) n (setMany xs j vs)
  | [], _, _, _, h => h
  | v :: vs, j, w, xs, h => own_sets vs (j + 1) _ _ (h.stored j v).1
theorem ext_sets {w0 : World} {g : Nat} (hg : w0.heap.size ≤ g) : ∀ (vs : List Value) (j : Nat) (w : World), Ext w0 w → Ext w0 (w.setCells g j vs)
  | [], _, _, h => h
  | v :: vs, j, w, h => ext_sets hg vs (j + 1) _ (h.setCell hg v)
structure EH where
  id : Int
  inn : Int
  out : Int
  region : ByteArray
  kind : Int
  speaker : ByteArray
  A : Option Addr
  n : Nat
  c : Nat
def EH.vals (h : EH) : List Value := [.int .i64 h.id, .int .i64 h.inn, .int .i64 h.out, .string h.region, .int .u8 h.kind, .string h.speaker, .slice h.A h.n h.c]
def EH.of (e : Ev) (A : Option Addr) (n c : Nat) : EH := ⟨e.id, e.inn, e.out, e.region, e.kind, e.speaker, A, n, c⟩
theorem EH.of_vals (e : Ev) (A : Option Addr) (n c : Nat) : (EH.of e A n c).vals = (e.cells A n c).toList := rfl
theorem EH.len (h : EH) : h.vals.length = 7 := rfl
def Reg.vals (r : Reg) : List Value := [.string r.name, .int .i64 r.top, .int .i64 r.height, .int .i64 r.left, .int .i64 r.width, .int .u8 r.align, .bool r.bottom]
/-- the head is an event's, its rows lie from L on -/
def EGood (w : World) (L : Nat) (h : EH) (e : Ev) : Prop := h = EH.of e h.A h.n h.c ∧ h.n ≤ h.c ∧ h.n * 24 ≤ 140737488355328 ∧ RowsFresh w L h.A h.n e.rows
theorem EGood.kb {w w1 : World} {L : Nat} {h : EH} {e : Ev} (g : EGood w L h e) (k1 : KB 61 w w1) (k2 : KB 66 w w1) : EGood w1 L h e := ⟨g.1, g.2.1, g.2.2.1, g.2.2.2.kb k1 k2⟩
theorem EGood.ext {w w1 : World} {L : Nat} {h : EH} {e : Ev} (g : EGood w L h e) (k : Ext w w1) : EGood w1 L h e := g.kb (KB.ext k) (KB.ext k)
theorem EGood.le {w : World} {L L' : Nat} {h : EH} {e : Ev} (g : EGood w L h e) (hl : L' ≤ L) : EGood w L' h e := ⟨g.1, g.2.1, g.2.2.1, g.2.2.2.le hl⟩
theorem EGood.at_ {w : World} {L : Nat} {h : EH} {e : Ev} (g : EGood w L h e) : EvAt w e h.A h.n h.c := ⟨g.2.2.2.rows, g.2.1, g.2.2.1⟩
/-- events whose heads lie in a row of their own, from L on -/
def EvsOwn (w : World) (L : Nat) (v : Value) (n : Nat) (l : List Ev) : Prop :=
  ∃ hs : List EH, w.ownsRow L 45 7 v n (hs.flatMap EH.vals) ∧ hs.length = n ∧ l.length = n ∧ ∀ (i : Nat) (h : EH) (e : Ev), hs[i]? = some h → l[i]? = some e → EGood w L h e
section
variable {w w1 : World} {L L' n c : Nat} {A : Option Addr} {v : Value} {l : List Ev}
theorem EvsOwn.ext (h : EvsOwn w L v n l) (k : Ext w w1) : EvsOwn w1 L v n l := by
  obtain ⟨hs, h1, h2, h3, h4⟩ := h
  exact ⟨hs, own_ext h1 k, h2, h3, fun i x e a b => (h4 i x e a b).ext k⟩
theorem EvsOwn.kb (h : EvsOwn w L v n l) (k0 : KB 45 w w1) (k1 : KB 61 w w1) (k2 : KB 66 w w1) : EvsOwn w1 L v n l := by
  obtain ⟨hs, h1, h2, h3, h4⟩ := h
  exact ⟨hs, own_kb h1 k0, h2, h3, fun i x e a b => (h4 i x e a b).kb k1 k2⟩
theorem EvsOwn.le (h : EvsOwn w L v n l) (hl : L' ≤ L) : EvsOwn w L' v n l := by
  obtain ⟨hs, h1, h2, h3, h4⟩ := h
  exact ⟨hs, own_le h1 hl, h2, h3, fun i x e a b => (h4 i x e a b).le hl⟩
theorem EvsOwn.len (h : EvsOwn w L v n l) : l.length = n := h.elim fun _ h => h.2.2.1
theorem EvsOwn.nil (w : World) (L : Nat) : EvsOwn w L (.slice none 0 0) 0 [] := ⟨[], ⟨rfl, .inl ⟨rfl, rfl⟩⟩, rfl, rfl, fun i x e a _ => by simp at a⟩
theorem EvsOwn.at_ (h : EvsOwn w L v n l) : ∃ A c, v = .slice A n c ∧ n ≤ c ∧ c ≤ maxLen ∧ EvsAt w A n l := by
  obtain ⟨hs, h1, h2, h3, h4⟩ := h
  obtain ⟨A, c, hv, hc, hm, hsl, _⟩ := own_sl (f := EH.vals) (size := 7) EH.len h2 h1
  refine ⟨A, c, hv, hc, hm, h3, fun hn => ?_⟩
  obtain ⟨b, off, hA, hcs⟩ := hsl.2 hn
  refine ⟨b, off, hA, fun i e he => ?_⟩
  have hi : i < hs.length := by rw [h2, ← h3]; exact (List.getElem?_eq_some_iff.1 he).1
  have hx : hs[i]? = some hs[i] := List.getElem?_eq_getElem hi
  have g := h4 i _ e hx he
  refine ⟨hs[i].A, hs[i].n, hs[i].c, fun j u hu => ?_, g.at_⟩
  refine hcs i _ hx j u ?_
  rw [g.1, EH.of_vals]
  exact hu
theorem EvsOwn.evs (h : EvsOwn w L (.slice A n c) n l) : EvsAt w A n l := by
  obtain ⟨A', c', hv, _, _, h1⟩ := h.at_
  cases hv
  exact h1
/-- the head at a place is set anew -/
theorem EvsOwn.set {g k : Nat} {e : Ev} {A' : Option Addr} {n' c' : Nat} (h : EvsOwn w L (.slice (some ⟨g, 0, none⟩) n c) n l) (hk : k < n) (hL : L ≤ g) (hg : EGood w L (EH.of e A' n' c') e) :
    EvsOwn (w.setCells g (k * 7) (e.cells A' n' c').toList) L (.slice (some ⟨g, 0, none⟩) n c) n (l.set k e) := by
  obtain ⟨hs, h1, h2, h3, h4⟩ := h
  have hty : Typed w 45 g := own_typed h1 g rfl
  refine ⟨hs.set k (EH.of e A' n' c'), ?_, by simpa using h2, by simpa using h3, fun i x y hx hy => ?_⟩
  · rw [← flat_setMany EH.len hs k (EH.of e A' n' c') (by omega)]
    exact own_sets _ _ _ _ h1
  · have k1 : KB 61 w (w.setCells g (k * 7) (e.cells A' n' c').toList) := KB.sets (T' := 45) (by decide) _ _ _ hty
    have k2 : KB 66 w (w.setCells g (k * 7) (e.cells A' n' c').toList) := KB.sets (T' := 45) (by decide) _ _ _ hty
    by_cases hik : k = i
    · subst hik
      rw [List.getElem?_set_self (by omega)] at hx hy
      cases hx
      cases hy
      exact hg.kb k1 k2
    · rw [List.getElem?_set_ne hik] at hx hy
      exact (h4 i x y hx hy).kb k1 k2
/-- an event is appended -/
theorem EvsOwn.snoc {k : Nat} {e : Ev} {v' : Value} {A' : Option Addr} {n' c' : Nat} (h : EvsOwn w L v k l) (hg : EGood w L (EH.of e A' n' c') e) (hgr : w.grownBy w1 v.ownBlock)
    (hO : ∀ xs, w.ownsRow L 45 7 v k xs → w1.ownsRow L 45 7 v' (k + 1) (xs ++ (e.cells A' n' c').toList)) : EvsOwn w1 L v' (k + 1) (l ++ [e]) := by
  obtain ⟨hs, h1, h2, h3, h4⟩ := h
  have hty : ∀ q, v.ownBlock = some q → Typed w 45 q := own_typed h1
  have k1 : KB 61 w w1 := KB.grown hgr hty (by decide)
  have k2 : KB 66 w w1 := KB.grown hgr hty (by decide)
  refine ⟨hs ++ [EH.of e A' n' c'], ?_, by simp [h2], by simp [h3], fun i x y hx hy => ?_⟩
  · rw [List.flatMap_append]
    have := hO _ h1
    simpa [EH.of_vals] using this
  · by_cases hik : i < k
    · rw [List.getElem?_append_left (by omega)] at hx hy
      exact (h4 i x y hx hy).kb k1 k2
    · have hik' : i = k := by
        have := (List.getElem?_eq_some_iff.1 hx).1
        simp [h2] at this
        omega
      subst hik'
      rw [List.getElem?_append_right (by omega)] at hx hy
      simp only [h2, h3, Nat.sub_self, List.getElem?_cons_zero, Option.some.injEq] at hx hy
      subst hx hy
      exact hg.kb k1 k2
end
structure DocOwn (w : World) (L : Nat) (d : Doc) (h : DocH) : Prop where
  regs : w.ownsRow L 58 7 (.slice h.ra h.rn h.rc) h.rn (d.regs.flatMap Reg.vals)
  rlen : d.regs.length = h.rn
  evs : EvsOwn w L (.slice h.ea h.en h.ec) h.en d.evs
  coms : w.ownsRow L 31 8 (.slice h.ca h.cn h.cc) h.cn (d.coms.flatMap Com.vals)
  clen : d.coms.length = h.cn
theorem DocOwn.ext {w w1 : World} {L : Nat} {d : Doc} {h : DocH} (o : DocOwn w L d h) (k : Ext w w1) : DocOwn w1 L d h := ⟨own_ext o.regs k, o.rlen, o.evs.ext k, own_ext o.coms k, o.clen⟩
theorem DocOwn.kb {w w1 : World} {L : Nat} {d : Doc} {h : DocH} (o : DocOwn w L d h) (k1 : KB 58 w w1) (k2 : KB 45 w w1) (k3 : KB 61 w w1) (k4 : KB 66 w w1) (k5 : KB 31 w w1) : DocOwn w1 L d h :=
  ⟨own_kb o.regs k1, o.rlen, o.evs.kb k2 k3 k4, own_kb o.coms k5, o.clen⟩
theorem DocOwn.put {w : World} {L : Nat} {d : Doc} {h : DocH} (o : DocOwn w L d h) {g : Nat} {cs : Array Value} (hB : Blk w g 39 cs) (cs' : Array Value) : DocOwn (putB w g 39 cs') L d h :=
  o.kb (KB.put hB (by decide)) (KB.put hB (by decide)) (KB.put hB (by decide)) (KB.put hB (by decide)) (KB.put hB (by decide))
theorem DocOwn.le {w : World} {L L' : Nat} {d : Doc} {h : DocH} (o : DocOwn w L d h) (hl : L' ≤ L) : DocOwn w L' d h := ⟨own_le o.regs hl, o.rlen, o.evs.le hl, own_le o.coms hl, o.clen⟩
theorem regC_cells {w : World} {b o : Nat} {r : Reg} (h : Cells Reg.vals w b o r) : RegC w b o r := ⟨h 0 _ rfl, h 1 _ rfl, h 2 _ rfl, h 3 _ rfl, h 4 _ rfl, h 5 _ rfl, h 6 _ rfl⟩
theorem cells_regC {w : World} {b o : Nat} {r : Reg} (h : RegC w b o r) : Cells Reg.vals w b o r := by
  obtain ⟨h0, h1, h2, h3, h4, h5, h6⟩ := h
  intro j u hu
  match j, hu with
  | 0, hu => simp [Reg.vals] at hu; subst hu; exact h0
  | 1, hu => simp [Reg.vals] at hu; subst hu; exact h1
  | 2, hu => simp [Reg.vals] at hu; subst hu; exact h2
  | 3, hu => simp [Reg.vals] at hu; subst hu; exact h3
  | 4, hu => simp [Reg.vals] at hu; subst hu; exact h4
  | 5, hu => simp [Reg.vals] at hu; subst hu; exact h5
  | 6, hu => simp [Reg.vals] at hu; subst hu; exact h6
  | j + 7, hu => simp [Reg.vals] at hu
theorem own_slice {α : Type} {f : α → List Value} {size : Nat} (hf : ∀ x, (f x).length = size) {w : World} {base : Nat} {e : TypeId} {A : Option Addr} {c n : Nat} {l : List α} (hl : l.length = n)
    (h : w.ownsRow base e size (.slice A n c) n (l.flatMap f)) : n ≤ c ∧ c ≤ maxLen ∧ Sl w size (Cells f) A n l := by
  obtain ⟨A', c', hv, h1, h2, h3, _⟩ := own_sl hf hl h
  cases hv
  exact ⟨h1, h2, h3⟩
theorem DocOwn.at_ {w : World} {L : Nat} {d : Doc} {h : DocH} (o : DocOwn w L d h) : DocAt w d h :=
  ⟨Sl.change (own_slice (f := Reg.vals) (fun _ => rfl) o.rlen o.regs).2.2 fun _ _ _ => regC_cells, o.evs.evs, (own_slice (f := Com.vals) (fun _ => rfl) o.clen o.coms).2.2⟩
end Go.Proofs.YtagfedbdakmlgaaDoor
