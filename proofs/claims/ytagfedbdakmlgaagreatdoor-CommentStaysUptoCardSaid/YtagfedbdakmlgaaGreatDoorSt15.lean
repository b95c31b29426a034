/- Laid together: The stable sort of events: the merge at whatever length, the blocks, SortStableFunc. A row of one's own under the sort: what the sort asks of it, and what lies there behind it. The walk of document.Sort. A document without an event, plainly; own rows under the stores. A document in another rate is accepted; its drifts are small: plainly. A region that draws its order, by an invariant: each operation is met once, whatever came ahead of it. The walks of event.Split and of the reference's Split: the errors. What a join of two events comes to; appends of rows, at a step of a region that draws its order. The plain law of EventReturns: the parts of a valid event are valid, share its frames and rows, and give it back when they are joined. No walk here. Events moved in time, plainly; a cell of an event of one's own is stored. A document with an event more, plainly. A comment moved from one text to another, plainly. -/
import Derived.Test.YtagfedbdakmlgaaGreatDoorSt13
import Derived.Test.YtagfedbdakmlgaaGreatDoorSt14
import Derived.Test.YtagfedbdakmlgaaGreatDoorSt09
import Derived.Test.YtagfedbdakmlgaaGreatDoorSt10
import Derived.Test.YtagfedbdakmlgaaGreatDoorSt04
import Derived.Test.YtagfedbdakmlgaaGreatDoorSt05
import Derived.Deep.AppendLies
import Derived.Test.YtagfedbdakmlgaaGreatDoorSt11

/-! StbE -/
namespace Go.Proofs.YtagfedbdakmlgaaGreatDoor
set_option linter.unusedVariables false
set_option linter.unusedSimpArgs false
open Go.Shelf Go.RowKit Go.Lib Go.Sort
variable {P : Program} {k : Nat} {α : Type} [Inhabited α]
theorem symMerge_st (L : StL P k) (enc : α → List Value) (cf : α → α → Int) (g : Nat) (cb : Array Value) (blk off cap : Nat) (d0 : Array α) (w0 : World) (eg : ∀ args w, (callFunc g args).run P w = .ok (.enter g args) w) (hcmp : CmpLays P g cb enc k cf blk off d0.size w0) (R : RowK enc k w0 blk off d0) (hsz : d0.size < 1152921504606846976) (hw : Stb.SW (ltOf cf)) :
    ∀ (f a m b : Nat) (d : Array α) (w : World), b - a ≤ f → a < m → m < b → b ≤ d.size → d.size = d0.size → SWK enc k w0 blk off d w → Stb.Srt (ltOf cf) d.toList a m → Stb.Srt (ltOf cf) d.toList m b →
    Calls P 190 #[.slice (some ⟨blk, off, none⟩) d.size cap, .int .i64 a, .int .i64 m, .int .i64 b, .func (.func g) #[] cb] w fun e w' => e = .returned (.tuple #[]) ∧ ∃ d', d'.size = d.size ∧ SWK enc k w0 blk off d' w' ∧ Stb.Loc (ltOf cf) a b d.toList d'.toList ∧ Stb.Srt (ltOf cf) d'.toList a b := by
  intro f
  induction f with
  | zero => intro a m b d w h1 h2 h3; omega
  | succ f ih =>
    intro a m b d w h1 h2 h3 h4 h5 hS hs1 hs2
    by_cases c1 : m = a + 1
    · exact symA_st L enc cf g cb blk off cap d0 d w0 w a m b eg hcmp R h5.symm hS (by omega) hw c1 (by omega) h4 hs2
    · by_cases c2 : b = m + 1
      · exact symB_st L enc cf g cb blk off cap d0 d w0 w a m b eg hcmp R h5.symm hS (by omega) hw h2 c1 c2 h4 hs1
      · refine symC_st L enc cf g cb blk off cap d0 d w0 w a m b (b - a) eg hcmp R h5.symm hS (by omega) hw h2 c1 h3 c2 h4 hs1 hs2 rfl (show Aside _ from fun a' m' b' dk w' i1 i2 i3 i4 i5 i6 i7 i8 => ?_)
        have := ih a' m' b' dk w' (by omega) i2 i3 i4 (by omega) i6 i7 i8
        rwa [i5] at this
set_option maxHeartbeats 8000000 in
set_option maxRecDepth 1000000 in
theorem stable_st (L : StL P k) (enc : α → List Value) (cf : α → α → Int) (g : Nat) (cb : Array Value) (blk off cap : Nat) (d0 d : Array α) (w0 w : World) (eg : ∀ args w, (callFunc g args).run P w = .ok (.enter g args) w) (hcmp : CmpLays P g cb enc k cf blk off d0.size w0) (R : RowK enc k w0 blk off d0) (hs : d0.size = d.size) (S : SWK enc k w0 blk off d w) (hsz : d.size < 1152921504606846976) (hw : Stb.SW (ltOf cf)) :
    Calls P 152 #[.slice (some ⟨blk, off, none⟩) d.size cap, .int .i64 d.size, .func (.func g) #[] cb] w fun e w' => e = .returned (.tuple #[]) ∧ ∃ d', d'.size = d.size ∧ SWK enc k w0 blk off d' w' ∧ d'.toList = Stb.sortS (ltOf cf) d.toList := by
  have mixed := L.mixed; have t0 := L.t0; have a0 := L.a0; have z0 := L.z0; have v0 := L.v0; have t3 := L.t3; have a3 := L.a3; have z3 := L.z3; have v3 := L.v3; have t4 := L.t4; have a4 := L.a4; have z4 := L.z4; have v4 := L.v4; have tS := L.tS; have aS := L.aS; have zS := L.zS; have vS := L.vS; have tF := L.tF; have aF := L.aF; have zF := L.zF; have vF := L.vF; have tU := L.tU; have aU := L.aU; have zU := L.zU; have vU := L.vU; have aE := L.aE; have zE := L.zE
  have uS := run_underlying L.tS; have u3 := run_underlying L.t3; have uU := run_underlying L.tU
  have einsertionSort : ∀ args w, (callFunc 189 args).run P w = .ok (.enter 189 args) w := enters_of L.finsertionSort (by kernel_rfl) rfl
  have esymMerge : ∀ args w, (callFunc 190 args).run P w = .ok (.enter 190 args) w := enters_of L.fsymMerge (by kernel_rfl) rfl
  have HIn : Aside (∀ (a b : Nat) (dk : Array α) (w : World), dk.size = d.size → SWK enc k w0 blk off dk w → a ≤ b → b ≤ dk.size → Calls P 189 #[.slice (some ⟨blk, off, none⟩) d.size cap, .int .i64 a, .int .i64 b, .func (.func g) #[] cb] w fun e w' => e = .returned (.tuple #[]) ∧ ∃ d', d'.size = d.size ∧ SWK enc k w0 blk off d' w' ∧ Stb.Loc (ltOf cf) a b dk.toList d'.toList ∧ Stb.Srt (ltOf cf) d'.toList a b) := fun a b dk w hd hS h1 h2 => by
    have := insertion_st L enc cf g cb blk off cap d0 dk w0 w a b eg hcmp R (by omega) hS (by omega) hw h1 h2
    rwa [hd] at this
  have HSm : Aside (∀ (a m b : Nat) (dk : Array α) (w : World), dk.size = d.size → SWK enc k w0 blk off dk w → a < m → m < b → b ≤ dk.size → Stb.Srt (ltOf cf) dk.toList a m → Stb.Srt (ltOf cf) dk.toList m b → Calls P 190 #[.slice (some ⟨blk, off, none⟩) d.size cap, .int .i64 a, .int .i64 m, .int .i64 b, .func (.func g) #[] cb] w fun e w' => e = .returned (.tuple #[]) ∧ ∃ d', d'.size = d.size ∧ SWK enc k w0 blk off d' w' ∧ Stb.Loc (ltOf cf) a b dk.toList d'.toList ∧ Stb.Srt (ltOf cf) d'.toList a b) := fun a m b dk w hd hS h1 h2 h3 h4 h5 => by
    have := symMerge_st L enc cf g cb blk off cap d0 w0 eg hcmp R (by omega) hw (b - a) a m b dk w (Nat.le_refl _) h1 h2 h3 (by omega) hS h4 h5
    rwa [hd] at this
  have HW := Lib.hid hw
  have S0 : Aside _ := S
  clear hcmp S hw
  go_enter L.fstable, Tryz.ntmps152
  go_wp2_with fail
  go_loopg [7, 8] d.size (fun kx s7 s8 wr => ∃ (e : Nat) (dk : Array α), s7 = .int .i64 e ∧ s8 = .int .i64 ((e : Int) + 20) ∧ e ≤ d.size ∧ d.size - e ≤ kx ∧ dk.size = d.size ∧ Aside (SWK enc k w0 blk off dk wr) ∧ Hid (Stb.Loc (ltOf cf) 0 d.size d.toList dk.toList) ∧ Hid (Stb.Up (ltOf cf) dk.toList 20 e))
  case atStart => exact ⟨0, d, rfl, rfl, Nat.zero_le _, by omega, rfl, S0, (show Hid _ from Stb.Loc.refl _), (show Hid _ from Stb.Up.nil)⟩
  case round =>
    clear S0
    obtain ⟨e, dk, rfl, rfl, hen, hkx, hds, S1, HLo, HUp⟩ := hrel
    by_cases hlt : e + 20 ≤ d.size
    · have hltz : (e : Int) + 20 ≤ (d.size : Int) := by omega
      have hin := HIn.out e (e + 20) dk wr hds S1.out (by omega) (by omega)
      rw [show ((e + 20 : Nat) : Int) = (e : Int) + 20 by omega] at hin
      clear S1
      go_wp2_with (go_at_fn 189; refine hin.mono ?_; rintro e9 w' ⟨rfl, d', hd', hS', hL', hs'⟩)
      go_roundg (d.size - (e + 20))
      case measure => omega
      case rel => exact ⟨e + 20, d', by go_num, by go_num, by omega, Nat.le_refl _, hd', hS', (show Hid _ from HLo.out.trans (hL'.wide (Nat.zero_le _) (by omega))), (show Hid _ from (HUp.out.out hL' (Nat.le_refl _)).snoc hs')⟩
    · have hltz : ¬ (e : Int) + 20 ≤ (d.size : Int) := by omega
      have hin := HIn.out e d.size dk wr hds S1.out (by omega) (by omega)
      clear S1
      go_wp2_with (go_at_fn 189; refine hin.mono ?_; rintro e9 w' ⟨rfl, d2, hd2, hS2, hL2, hs2⟩)
      have HL2 : Hid (Stb.Loc (ltOf cf) 0 d.size d.toList d2.toList) := HLo.out.trans (hL2.wide (Nat.zero_le _) (Nat.le_refl _))
      have HB2 : Hid (Stb.Bl (ltOf cf) d2.toList 20 d.size 0) := (HUp.out.out hL2 (Nat.le_refl _)).join (.cons (by rw [Nat.min_eq_right (by omega)]; exact hs2) (.nil (by omega))) hen
      have S3 : Aside _ := hS2
      clear hL2 hs2 hS2 HLo HUp hds
      go_loopg [6] d.size (fun kx s6 wr => ∃ (B : Nat) (dk : Array α), s6 = .int .i64 B ∧ 20 ≤ B ∧ B ≤ 2 * d.size + 20 ∧ d.size - B ≤ kx ∧ dk.size = d.size ∧ Aside (SWK enc k w0 blk off dk wr) ∧ Hid (Stb.Loc (ltOf cf) 0 d.size d.toList dk.toList) ∧ Hid (Stb.Bl (ltOf cf) dk.toList B d.size 0))
      case atStart => exact ⟨20, d2, rfl, Nat.le_refl _, by omega, by omega, hd2, S3, HL2, HB2⟩
      case round =>
        clear S3 HL2 HB2 hd2
        obtain ⟨B, dB, rfl, hB0, hB1, hkB, hdB, S4, HL4, HB4⟩ := hrel
        by_cases hBn : B < d.size
        · have hBz : (B : Int) < (d.size : Int) := by omega
          go_wp2_with fail
          go_loopg [7, 8] d.size (fun k2 s7 s8 wr => ∃ (e : Nat) (dk : Array α), s7 = .int .i64 e ∧ s8 = .int .i64 ((e : Int) + 2 * (B : Int)) ∧ e ≤ d.size ∧ d.size - e ≤ k2 ∧ dk.size = d.size ∧ Aside (SWK enc k w0 blk off dk wr) ∧ Hid (Stb.Loc (ltOf cf) 0 d.size d.toList dk.toList) ∧ Hid (Stb.Up (ltOf cf) dk.toList (2 * B) e) ∧ Hid (Stb.Bl (ltOf cf) dk.toList B d.size e))
          case atStart => exact ⟨0, dB, rfl, by go_num, Nat.zero_le _, by omega, hdB, S4, HL4, (show Hid _ from Stb.Up.nil), HB4⟩
          case round =>
            clear S4 HL4 HB4 hdB
            obtain ⟨e, de, rfl, rfl, hen, hke, hde, S5, HL5, HU5, HB5⟩ := hrel
            by_cases hle : e + 2 * B ≤ d.size
            · have hlez : (e : Int) + 2 * (B : Int) ≤ (d.size : Int) := by omega
              have hh := HB5.out.head (by omega)
              have hh2 := hh.2.head (by omega)
              have hsm := HSm.out e (e + B) (e + 2 * B) de wr hde S5.out (by omega) (by omega) (by omega) (by have := hh.1; rwa [Nat.min_eq_left (by omega)] at this) (by have := hh2.1; rwa [show e + B + B = e + 2 * B by omega, Nat.min_eq_left (by omega)] at this)
              have HB6 : Hid (Stb.Bl (ltOf cf) de.toList B d.size (e + 2 * B)) := by have := hh2.2; rwa [show e + B + B = e + 2 * B by omega] at this
              rw [show ((e + B : Nat) : Int) = (e : Int) + (B : Int) by omega, show ((e + 2 * B : Nat) : Int) = (e : Int) + 2 * (B : Int) by omega] at hsm
              clear S5 hh hh2
              go_wp2_with (go_at_fn 190; refine hsm.mono ?_; rintro e9 w' ⟨rfl, d', hd', hS', hL', hs'⟩)
              go_roundg (d.size - (e + 2 * B))
              case measure => omega
              case rel => exact ⟨e + 2 * B, d', by go_num, by go_num, hle, Nat.le_refl _, hd', hS', (show Hid _ from HL5.out.trans (hL'.wide (Nat.zero_le _) hle)), (show Hid _ from (HU5.out.out hL' (Nat.le_refl _)).snoc hs'), (show Hid _ from HB6.out.out hL' (Nat.le_refl _))⟩
            · have hlez : ¬ (e : Int) + 2 * (B : Int) ≤ (d.size : Int) := by omega
              by_cases hm : e + B < d.size
              · have hmz : (e : Int) + (B : Int) < (d.size : Int) := by omega
                have hh := HB5.out.head (by omega)
                have hh2 := hh.2.head (by omega)
                have hsm := HSm.out e (e + B) d.size de wr hde S5.out (by omega) (by omega) (by omega) (by have := hh.1; rwa [Nat.min_eq_left (by omega)] at this) (by have := hh2.1; rwa [Nat.min_eq_right (by omega)] at this)
                rw [show ((e + B : Nat) : Int) = (e : Int) + (B : Int) by omega] at hsm
                clear S5 hh hh2
                go_wp2_with (go_at_fn 190; refine hsm.mono ?_; rintro e9 w' ⟨rfl, d', hd', hS', hL', hs'⟩)
                go_roundg (d.size - 2 * B)
                case measure => omega
                case rel => exact ⟨2 * B, d', by go_num, by omega, by omega, Nat.le_refl _, hd', hS', (show Hid _ from HL5.out.trans (hL'.wide (Nat.zero_le _) (Nat.le_refl _))), (show Hid _ from (HU5.out.out hL' (Nat.le_refl _)).join (.cons (by rw [Nat.min_eq_right (by omega)]; exact hs') (.nil (by omega))) hen)⟩
              · have hmz : ¬ (e : Int) + (B : Int) < (d.size : Int) := by omega
                have HB6 : Hid (Stb.Bl (ltOf cf) de.toList (2 * B) d.size e) := by
                  show Stb.Bl _ _ _ _ _
                  by_cases he : e < d.size
                  · have hh := (HB5.out.head he).1
                    rw [Nat.min_eq_right (by omega)] at hh
                    exact .cons (by rw [Nat.min_eq_right (by omega)]; exact hh) (.nil (by omega))
                  · exact .nil (by omega)
                go_wp2_with fail
                go_roundg (d.size - 2 * B)
                case measure => omega
                case rel => exact ⟨2 * B, de, by go_num, by omega, by omega, Nat.le_refl _, hde, S5, HL5, (show Hid _ from HU5.out.join HB6.out hen)⟩
        · have hBz : ¬ (B : Int) < (d.size : Int) := by omega
          go_wp2_with fail
          go_end0
          have hs := HB4.out.all (by omega)
          have hl : dB.toList.length = d.size := by rw [Array.length_toList]; omega
          exact ⟨rfl, dB, hdB, S4.out, Stb.stab_sort HW.out HL4.out (by rw [hl]; exact hs)⟩
set_option maxHeartbeats 8000000 in
set_option maxRecDepth 1000000 in
theorem sortStable_st (L : StL P k) (enc : α → List Value) (cf : α → α → Int) (g : Nat) (cb : Array Value) (blk off cap : Nat) (d0 d : Array α) (w0 w : World) (eg : ∀ args w, (callFunc g args).run P w = .ok (.enter g args) w) (hcmp : CmpLays P g cb enc k cf blk off d0.size w0) (R : RowK enc k w0 blk off d0) (hs : d0.size = d.size) (S : SWK enc k w0 blk off d w) (hsz : d.size < 1152921504606846976) (hw : Stb.SW (ltOf cf)) :
    Calls P 106 #[.slice (some ⟨blk, off, none⟩) d.size cap, .func (.func g) #[] cb] w fun e w' => e = .returned (.tuple #[]) ∧ ∃ d', d'.size = d.size ∧ SWK enc k w0 blk off d' w' ∧ d'.toList = Stb.sortS (ltOf cf) d.toList := by
  have mixed := L.mixed; have t0 := L.t0; have a0 := L.a0; have z0 := L.z0; have v0 := L.v0; have t3 := L.t3; have a3 := L.a3; have z3 := L.z3; have v3 := L.v3; have t4 := L.t4; have a4 := L.a4; have z4 := L.z4; have v4 := L.v4; have tS := L.tS; have aS := L.aS; have zS := L.zS; have vS := L.vS; have tF := L.tF; have aF := L.aF; have zF := L.zF; have vF := L.vF; have tU := L.tU; have aU := L.aU; have zU := L.zU; have vU := L.vU; have aE := L.aE; have zE := L.zE
  have uS := run_underlying L.tS; have u3 := run_underlying L.t3; have uU := run_underlying L.tU
  have estable : ∀ args w, (callFunc 152 args).run P w = .ok (.enter 152 args) w := enters_of L.fstable (by kernel_rfl) rfl
  have hst := stable_st L enc cf g cb blk off cap d0 d w0 w eg hcmp R hs S hsz hw
  clear hcmp S hw
  go_enter L.fsort, Tryz.ntmps106
  go_wp2_with (go_at_fn 152; refine hst.mono ?_; rintro e9 w' ⟨rfl, d', hd', hS', hl'⟩)
  go_end0
  exact ⟨rfl, d', hd', hS', hl'⟩
set_option maxHeartbeats 8000000 in
set_option maxRecDepth 1000000 in
/-- at the empty slice -/
theorem sortStable_nil (L : StL P k) (F : Value) (w : World) : Calls P 106 #[.slice none 0 0, F] w fun e w' => e = .returned (.tuple #[]) ∧ w' = w := by
  have mixed := L.mixed; have t0 := L.t0; have a0 := L.a0; have z0 := L.z0; have v0 := L.v0; have t3 := L.t3; have a3 := L.a3; have z3 := L.z3; have v3 := L.v3; have t4 := L.t4; have a4 := L.a4; have z4 := L.z4; have v4 := L.v4; have tS := L.tS; have aS := L.aS; have zS := L.zS; have vS := L.vS; have tF := L.tF; have aF := L.aF; have zF := L.zF; have vF := L.vF; have tU := L.tU; have aU := L.aU; have zU := L.zU; have vU := L.vU; have aE := L.aE; have zE := L.zE
  have uS := run_underlying L.tS; have u3 := run_underlying L.t3; have uU := run_underlying L.tU
  have estable : ∀ args w, (callFunc 152 args).run P w = .ok (.enter 152 args) w := enters_of L.fstable (by kernel_rfl) rfl
  have einsertionSort : ∀ args w, (callFunc 189 args).run P w = .ok (.enter 189 args) w := enters_of L.finsertionSort (by kernel_rfl) rfl
  have hin : ∀ w, Calls P 189 #[.slice none 0 0, .int .i64 0, .int .i64 0, F] w fun e w' => e = .returned (.tuple #[]) ∧ w' = w := fun w => by
    go_enter L.finsertionSort, Tryz.ntmps189
    go_wp2_with fail
    go_loopg [8] 0 (fun kx s8 wr => s8 = .int .i64 1 ∧ Hid (wr = w))
    case atStart => exact ⟨rfl, rfl⟩
    case round =>
      obtain ⟨rfl, HW⟩ := hrel
      go_wp2_with fail
      go_end0
      exact ⟨rfl, HW.out⟩
  have hst : Calls P 152 #[.slice none 0 0, .int .i64 0, F] w fun e w' => e = .returned (.tuple #[]) ∧ w' = w := by
    go_enter L.fstable, Tryz.ntmps152
    go_wp2_with fail
    go_loopg [7, 8] 0 (fun kx s7 s8 wr => s7 = .int .i64 0 ∧ s8 = .int .i64 20 ∧ Hid (wr = w))
    case atStart => exact ⟨rfl, rfl, rfl⟩
    case round =>
      obtain ⟨rfl, rfl, HW⟩ := hrel
      go_wp2_with (go_at_fn 189; refine (hin _).mono ?_; rintro e9 w' ⟨rfl, rfl⟩)
      go_loopg [6] 0 (fun kx s6 wr9 => s6 = .int .i64 20 ∧ Hid (wr9 = w))
      case atStart => exact ⟨rfl, HW⟩
      case round =>
        obtain ⟨rfl, HW9⟩ := hrel
        go_wp2_with fail
        go_end0
        exact ⟨rfl, HW9.out⟩
  go_enter L.fsort, Tryz.ntmps106
  go_wp2_with (go_at_fn 152; refine hst.mono ?_; rintro e9 w' ⟨rfl, rfl⟩)
  go_end0
  exact ⟨rfl, rfl⟩
end Go.Proofs.YtagfedbdakmlgaaGreatDoor

/-! SrtW -/
namespace Go.Proofs.YtagfedbdakmlgaaGreatDoor
set_option linter.unusedVariables false
set_option linter.unusedSimpArgs false
open Go.Shelf Go.RowKit Go.Lib Go.Sort
section
variable {α : Type} [Inhabited α] {enc : α → List Value} {k : Nat}
theorem flatK_list (hk : ∀ x, (enc x).length = k) (d : Array α) : (flatK enc k d).toList = d.toList.flatMap enc := by
  have hl : (d.toList.flatMap enc).length = d.size * k := by rw [flatMap_len enc k hk, Array.length_toList]
  apply List.ext_getElem?
  intro t
  by_cases ht : t < d.size * k
  · have hk0 : 0 < k := by
      cases k with
      | zero => omega
      | succ k => omega
    have hq : t / k < d.size := Nat.div_lt_of_lt_mul (by rwa [Nat.mul_comm])
    have hr : t % k < k := Nat.mod_lt _ hk0
    have h1 := flatMap_at enc k hk d.toList (t / k) d[t / k]! (t % k) (arr_get hq) hr
    rw [Nat.div_add_mod' t k] at h1
    rw [h1, arr_get (by rw [size_flatK]; exact ht), get_flatK enc k d t ht, List.getElem?_eq_getElem (by rw [hk]; exact hr), getElem!_pos _ _ (by rw [hk]; exact hr)]
  · rw [List.getElem?_eq_none (by rw [Array.length_toList, size_flatK]; omega), List.getElem?_eq_none (by omega)]
variable {w W : World} {L g n c : Nat} {T : TypeId} {l : List α}
theorem own_holds (hk : ∀ x, (enc x).length = k) (h : w.ownsRow L T k (.slice (some ⟨g, 0, none⟩) n c) n (l.flatMap enc)) (hl : l.length = n) : HoldsK enc k w g 0 l.toArray := by
  intro j hj
  rw [size_flatK] at hj
  have hj' : j < n * k := by simpa [hl] using hj
  have h1 := h.cellAt j hj'
  have h2 : (flatK enc k l.toArray).toList[j]? = some (flatK enc k l.toArray)[j]! := arr_get (by rw [size_flatK]; exact hj)
  rw [flatK_list hk] at h2
  refine ⟨by rw [Nat.zero_add, h1]; exact h2, ?_⟩
  rcases h.2 with ⟨hv, hn⟩ | ⟨g', cap, cur, hv, hg, hb, -⟩
  · cases hv
  · cases hv
    simp [World.frozen?, hb]
theorem swk_heap {m : Nat} {os : Array Obj} {cur : Array Value} {e : TypeId} {fr : Nat × Nat} (d : Array α) (hb : w.heap[g]? = some (.cells cur e fr)) :
    (sortWorldK enc k w g 0 m d os).heap[g]? = some (.cells (putCells id 0 (flatK enc k d) cur) e fr) := by
  have hg : g < w.heap.size := (Array.getElem?_eq_some_iff.1 hb).1
  unfold sortWorldK
  rw [heap_grow_old _ _ (by rw [size_putRowK]; exact hg)]
  simp [putRowK, putRow, mapBlock, Sort.ahead, Array.getElem?_modify, hb, onCells]
theorem swk_grown (h : SWK enc k w g 0 l.toArray W) : w.grownBy W (some g) := by
  obtain ⟨m, os, rfl⟩ := h
  refine ⟨rfl, rfl, rfl, by unfold sortWorldK; rw [size_grow, size_putRowK]; exact Nat.le_add_right _ _, fun q hq hne => ?_⟩
  unfold sortWorldK
  rw [heap_grow_old _ _ (by rw [size_putRowK]; exact hq)]
  have : g ≠ q := fun e => hne (by rw [e])
  simp [putRowK, putRow, mapBlock, Sort.ahead, Array.getElem?_modify, this]
theorem take_putF (cur : Array Value) (F : Array Value) (h : F.size ≤ cur.size) : (putCells id 0 F cur).toList.take F.size = F.toList := by
  apply List.ext_getElem?
  intro j
  by_cases hj : j < F.size
  · rw [List.getElem?_take_of_lt hj, Array.getElem?_toList]
    simp [putCells, hj, show j < cur.size by omega]
  · rw [List.getElem?_take_eq_none (by omega), List.getElem?_eq_none (by simp; omega)]
/-- behind the sort the same slice owns what the sort has left there -/
theorem swk_own (hk : ∀ x, (enc x).length = k) {xs : List Value} (h : w.ownsRow L T k (.slice (some ⟨g, 0, none⟩) n c) n xs) (hS : SWK enc k w g 0 l.toArray W) (hl : l.length = n) : W.ownsRow L T k (.slice (some ⟨g, 0, none⟩) n c) n (l.flatMap enc) := by
  refine ⟨by rw [flatMap_len enc k hk, hl], ?_⟩
  rcases h.2 with ⟨hv, hn⟩ | ⟨g', cap, cur, hv, hg, hb, hnc, hcm, hcs, ht⟩
  · cases hv
  · cases hv
    obtain ⟨m, os, rfl⟩ := hS
    refine .inr ⟨g, c, _, rfl, hg, swk_heap _ hb, hnc, hcm, by simp [putCells, hcs], ?_⟩
    have h1 := take_putF cur (flatK enc k l.toArray) (by rw [size_flatK]; simp [hl, hcs]; exact Nat.mul_le_mul_right _ hnc)
    rw [flatK_list hk, size_flatK] at h1
    simpa [hl] using h1
end
theorem insS_congr {α : Type} {lt lt' : α → α → Bool} (x : α) : ∀ (l : List α), (∀ y ∈ l, lt x y = lt' x y ∧ lt y x = lt' y x) → Stb.insS lt x l = Stb.insS lt' x l
  | [], _ => rfl
  | y :: l, h => by
    have h1 := h y (by simp)
    unfold Stb.insS
    rw [h1.1, insS_congr x l (fun z hz => h z (by simp [hz]))]
theorem sortS_congr {α : Type} {lt lt' : α → α → Bool} {l : List α} (h : ∀ p q, p ∈ l → q ∈ l → lt p q = lt' p q) : Stb.sortS lt l = Stb.sortS lt' l := by
  have key : ∀ (l acc : List α), (∀ p q, (p ∈ l ∨ p ∈ acc) → (q ∈ l ∨ q ∈ acc) → lt p q = lt' p q) → l.foldl (fun acc x => Stb.insS lt x acc) acc = l.foldl (fun acc x => Stb.insS lt' x acc) acc := by
    intro l
    induction l with
    | nil => intro acc _; rfl
    | cons x l ih =>
      intro acc h
      simp only [List.foldl_cons]
      rw [insS_congr x acc (fun y hy => ⟨h x y (.inl (by simp)) (.inr hy), h y x (.inr hy) (.inl (by simp))⟩)]
      refine ih _ (fun p q hp hq => h p q ?_ ?_)
      · rcases hp with hp | hp
        · exact .inl (by simp [hp])
        · rcases (Stb.insS_mem x acc p).1 hp with rfl | hp
          · exact .inl (by simp)
          · exact .inr hp
      · rcases hq with hq | hq
        · exact .inl (by simp [hq])
        · rcases (Stb.insS_mem x acc q).1 hq with rfl | hq
          · exact .inl (by simp)
          · exact .inr hq
  exact key l [] (fun p q hp hq => h p q (by simpa using hp) (by simpa using hq))
instance : Inhabited EH := ⟨⟨0, 0, 0, ⟨#[]⟩, 0, ⟨#[]⟩, none, 0, 0⟩⟩
def cmpH (x y : EH) : Int := orI (cmpI x.inn y.inn) (cmpI x.id y.id)
def ltH (x y : EH) : Bool := decide (x.inn < y.inn ∨ x.inn = y.inn ∧ x.id < y.id)
theorem ltOf_cmpH (x y : EH) : ltOf cmpH x y = ltH x y := by
  unfold ltOf ltH cmpH orI cmpI
  congr 1
  apply propext
  repeat' split
  all_goals omega
theorem ltOf_H : ltOf cmpH = ltH := by funext x y; exact ltOf_cmpH x y
theorem ltH_sw : Stb.SW ltH := ⟨fun x y h => by unfold ltH at *; simp only [decide_eq_true_eq, decide_eq_false_iff_not] at *; omega, fun x y z h k => by unfold ltH at *; simp only [decide_eq_false_iff_not] at *; omega⟩
theorem lessB_sw : Stb.SW lessB := ⟨fun x y h => by unfold lessB at *; simp only [decide_eq_true_eq, decide_eq_false_iff_not] at *; omega, fun x y z h k => by unfold lessB at *; simp only [decide_eq_false_iff_not] at *; omega⟩
/-- what Sort comes to -/
def srtE (l : List Ev) : List Ev := Stb.sortS lessB l
theorem EvsOwn.sorted {w W : World} {L g n c : Nat} {l : List Ev} {hs hs' : List EH} (h1 : w.ownsRow L 66 7 (.slice (some ⟨g, 0, none⟩) n c) n (hs.flatMap EH.vals)) (h2 : hs.length = n) (h3 : l.length = n) (h4 : ∀ (i : Nat) (h : EH) (e : Ev), hs[i]? = some h → l[i]? = some e → EGood w L h e)
    (hS : SWK EH.vals 7 w g 0 hs'.toArray W) (hh : hs' = Stb.sortS ltH hs) : EvsOwn W L (.slice (some ⟨g, 0, none⟩) n c) n (srtE l) := by
  have hgr := swk_grown hS
  have hty := own_typed h1
  have k1 : KB 87 w W := KB.grown hgr hty (by decide)
  have k2 : KB 84 w W := KB.grown hgr hty (by decide)
  have hl' : hs'.length = n := by rw [hh, Stb.sortS_len, h2]
  refine ⟨hs', swk_own EH.len h1 hS hl', hl', by unfold srtE; rw [Stb.sortS_len, h3], fun i x e hx he => ?_⟩
  -- pairs
  have hz1 : (hs.zip l).map Prod.fst = hs := List.map_fst_zip (by omega)
  have hz2 : (hs.zip l).map Prod.snd = l := List.map_snd_zip (by omega)
  have hg : ∀ p ∈ hs.zip l, EGood w L p.1 p.2 := by
    intro p hp
    obtain ⟨j, hj⟩ := List.mem_iff_getElem?.1 hp
    have hj1 : ((hs.zip l).map Prod.fst)[j]? = some p.1 := by rw [List.getElem?_map, hj]; rfl
    have hj2 : ((hs.zip l).map Prod.snd)[j]? = some p.2 := by rw [List.getElem?_map, hj]; rfl
    rw [hz1] at hj1
    rw [hz2] at hj2
    exact h4 j _ _ hj1 hj2
  have hs1 : (Stb.sortS (fun p q : EH × Ev => ltH p.1 q.1) (hs.zip l)).map Prod.fst = hs' := by rw [Stb.sortS_map (lt' := ltH) (fun x y => rfl), hz1, hh]
  have hs2 : Stb.sortS (fun p q : EH × Ev => ltH p.1 q.1) (hs.zip l) = Stb.sortS (fun p q : EH × Ev => lessB p.2 q.2) (hs.zip l) := by
    refine sortS_congr (fun p q hp hq => ?_)
    have e1 := (hg p hp).1
    have e2 := (hg q hq).1
    unfold ltH lessB
    rw [e1, e2]
    rfl
  have hs3 : (Stb.sortS (fun p q : EH × Ev => ltH p.1 q.1) (hs.zip l)).map Prod.snd = srtE l := by rw [hs2, Stb.sortS_map (lt' := lessB) (fun x y => rfl), hz2]; rfl
  rw [← hs1, List.getElem?_map] at hx
  rw [← hs3, List.getElem?_map] at he
  obtain ⟨p, hp, rfl⟩ := Option.map_eq_some_iff.1 hx
  rw [hp] at he
  obtain rfl := Option.some.inj he
  exact (hg p ((Stb.sortS_mem _ _).1 (List.mem_of_getElem? hp))).kb k1 k2
end Go.Proofs.YtagfedbdakmlgaaGreatDoor

/-! SortD -/
namespace Go.Proofs.YtagfedbdakmlgaaGreatDoor
set_option linter.unusedVariables false
set_option linter.unusedSimpArgs false
open Go.RowKit
set_option maxRecDepth 100000 in
set_option maxHeartbeats 2000000 in
theorem sortF_d (x y : EH) (w : World) :
    Calls Tryz.prog 107 #[.agg x.vals.toArray, .agg y.vals.toArray] w fun e w' => e = .returned (.int .i64 (cmpH x y)) ∧ Extd w w' := by
  have HX := Lib.hid (((Extd.refl w).alloc (.cells x.vals.toArray 66)).alloc (.cells y.vals.toArray 66))
  have HV : Hid (orI (cmpI x.inn y.inn) (cmpI x.id y.id) = cmpH x y) := rfl
  unfold EH.vals at HX ⊢
  go_enter Tryz.func107, Tryz.ntmps107
  go_wp2_with fail
  go_region_held3 (fun w' => w'.cell? ⟨w.heap.size, 0, none⟩ = some (.int .i64 x.id) ∧ w'.cell? ⟨w.heap.size, 1, none⟩ = some (.int .i64 x.inn) ∧ w'.cell? ⟨w.heap.size + 1, 0, none⟩ = some (.int .i64 y.id) ∧ w'.cell? ⟨w.heap.size + 1, 1, none⟩ = some (.int .i64 y.inn)) (go_keep) (first | (go_at_call 109; refine (Compare_any _ _ _).mono ?_; rintro e w1 ⟨rfl, rfl⟩) | (go_at_call 108; refine (Or_any (cmpI x.inn y.inn) (cmpI x.id y.id) _ _ _ (by exact (Blk.drew (Blk.new' (by simp))).cell 0) (by exact (Blk.drew (Blk.new' (by simp))).cell 1)).mono ?_; rintro e w1 ⟨rfl, rfl⟩))
  go_wp2_with fail
  go_ret
  exact ⟨ret_int HV.out, (HX.out.drew).alloc _⟩
theorem sortF_lays (g off n : Nat) (w : World) : Go.Proofs.CmpLays Tryz.prog 107 #[] EH.vals 7 cmpH g off n w :=
  fun _ _ _ _ x y => (sortF_d x y _).mono fun _ _ ⟨he, hx⟩ => ⟨he, hx.grow⟩
theorem sortF_enter : ∀ args w, (callFunc 107 args).run Tryz.prog w = .ok (.enter 107 args) w := Go.Proofs.enters_of Tryz.func107 (by kernel_rfl) rfl
theorem EH.ones (x : EH) : ∀ v ∈ x.vals, v.oneCell' = true := by
  intro v hv
  simp only [EH.vals, List.mem_cons, List.not_mem_nil, or_false] at hv
  rcases hv with rfl | rfl | rfl | rfl | rfl | rfl | rfl <;> rfl
/-- events are sorted into memory of one's own -/
def SortPost (l : List Ev) (n : Nat) (w : World) (en : Ending) (w' : World) : Prop := ∃ v, en = .returned v ∧ EvsOwn w' w.heap.size v n (srtE l) ∧ Ext w w'
def SortLoop (l : List Ev) (n : Nat) (w : World) (v i : Value) (wr : World) : Prop := ∃ k : Nat, k ≤ n ∧ i = .int .i64 k ∧ Ext w wr ∧ EvsOwn wr w.heap.size v k (l.take k)
theorem SortLoop.step {w wr w2 : World} {k : Nat} {l : List Ev} {v v' : Value} {e : Ev} {hs : List EH} {A' : Option Addr} {n' c' : Nat} (hx : Ext w wr) (r : EvsOwn wr w.heap.size v k (l.take k)) (he : l[k]? = some e) (h1 : wr.ownsRow w.heap.size 66 7 v k (hs.flatMap EH.vals))
    (hg : EGood wr w.heap.size (EH.of e A' n' c') e) (hgr : wr.grownBy w2 v.ownBlock) (hO : w2.ownsRow w.heap.size 66 7 v' (k + 1) (hs.flatMap EH.vals ++ (e.cells A' n' c').toList)) : Ext w w2 ∧ EvsOwn w2 w.heap.size v' (k + 1) (l.take (k + 1)) := by
  refine ⟨hx.grown hgr (fun q hq => own_lt h1 q hq), ?_⟩
  rw [take_snoc' l k e he]
  exact r.push h1 hg hgr hO
/-- SortStableFunc at a row of events of one's own -/
theorem stable_own {w w0 : World} {L n : Nat} {v : Value} {l : List Ev} (h : EvsOwn w L v n l) (hn : n < 1152921504606846976) (hx : Ext w0 w) (hL : w0.heap.size ≤ L) :
    Calls Tryz.prog 106 #[v, .func (.func 107) #[] #[]] w fun e w' => e = .returned (.tuple #[]) ∧ EvsOwn w' L v n (srtE l) ∧ Ext w0 w' := by
  obtain ⟨hs, h1, h2, h3, h4⟩ := h
  rcases h1.2 with ⟨hv, hn0⟩ | ⟨g, c, cur, rfl, hg, hb, -⟩
  · subst hv
    refine (sortStable_nil stL _ w).mono ?_
    rintro e w' ⟨rfl, rfl⟩
    have hl : l = [] := List.length_eq_zero_iff.1 (by omega)
    subst hl
    exact ⟨rfl, ⟨hs, h1, h2, h3, fun i h e a b => by simp [srtE, Stb.sortS] at b⟩, hx⟩
  · have hg' : g < w.heap.size := (Array.getElem?_eq_some_iff.1 hb).1
    have hz : hs.toArray.size = n := by simp [h2]
    have hH := own_holds EH.len h1 h2
    have hcon := sortStable_st stL EH.vals cmpH 107 #[] g 0 c hs.toArray hs.toArray w w sortF_enter (sortF_lays g 0 _ w) ⟨EH.len, EH.ones, hH, hg'⟩ rfl (Go.Proofs.SWK.start hH) (by rw [hz]; exact hn) (by rw [ltOf_H]; exact ltH_sw)
    rw [hz] at hcon
    refine hcon.mono ?_
    rintro e w' ⟨rfl, d', hd', hS, hl⟩
    obtain ⟨hs', rfl⟩ : ∃ hs' : List EH, d' = hs'.toArray := ⟨d'.toList, by simp⟩
    refine ⟨rfl, EvsOwn.sorted h1 h2 h3 h4 hS (by rw [ltOf_H] at hl; simpa using hl), hx.grown (swk_grown hS) (fun q hq => by cases hq; omega)⟩
set_option maxRecDepth 100000 in
set_option maxHeartbeats 4000000 in
theorem DSort_any (l : List Ev) (A : Option Addr) (n c : Nat) (w : World) (hat : EvsAt w A n l) (hn : n * 88 ≤ 140737488355328) :
    Calls Tryz.prog 44 #[.slice A n c] w (SortPost l n w) := by
  have HE := Lib.hid hat
  have HEl := Lib.hid hat.len
  clear hat
  go_enter Tryz.func44, Tryz.ntmps44
  go_wp2_with fail
  go_loopw [3, 8] (fun v i wr => SortLoop l n w v i wr) (fun _ i _ => n - (intOf i).toNat)
  case atStart => exact ⟨0, Nat.zero_le _, rfl, Ext.refl w, EvsOwn.nil _ _⟩
  case round =>
    obtain ⟨k, hk, rfl, hx, hev⟩ := hrel
    have HXr := Lib.hid hx
    have HEv := Lib.hid hev
    clear hx hev
    by_cases hlt : k < n
    · obtain ⟨b, off, x, A', n', c', rfl, hxx, hxat, e0, e1, e2, e3, e4, e5, e6⟩ := (HE.out.ext HXr.out).at_ev hlt
      have HXx := Lib.hid hxx
      have HCn := Lib.hid (fun w' (hx : Ext wr w') => EClone_any x A' n' c' w' (hxat.ext hx))
      have hn24 := hxat.2.2
      clear hxx hxat
      unfold EClPost Ev.cells at HCn
      have HBx := Lib.hid (Blk.new wr 66 #[.int .i64 x.id, .int .i64 x.inn, .int .i64 x.out, .string x.region, .int .u8 x.kind, .string x.speaker, .slice A' n' c'])
      go_wp2_with (refine wpList_loadB rfl 66 (.tmp 5) rfl wr.heap.size 66 _ _ (by exact rfl) (by exact HBx.out) Tryz.underlying66 rfl (by exact size_event) ?_)
      clear e0 e1 e2 e3 e4 e5 e6
      refine (HCn.out _ ((Ext.refl wr).alloc _)).mono ?_
      rintro en w5 ⟨A5, c5, rfl, hnc5, hrf5, hx5⟩
      have HX5 := Lib.hid (((Ext.refl wr).alloc (.cells #[.int .i64 x.id, .int .i64 x.inn, .int .i64 x.out, .string x.region, .int .u8 x.kind, .string x.speaker, .slice A' n' c'] 66)).trans hx5)
      have HRf := Lib.hid hrf5
      have hsz := HXr.out.size
      have hsz5 := HX5.out.size
      obtain ⟨hs, hown⟩ := (HEv.out.ext HX5.out).heads
      have HOw := Lib.hid hown
      clear hrf5 hx5 hown
      go_wp2_with (at_builtin; refine wpList_append1 rfl (.tmp 12) (.tmp 15) 24 rfl info_evtI Tryz.underlying24 rfl (by decide) (HOw.out.alloc _) (by exact rfl) w5.heap.size _ (by exact rfl) (by exact Blk.new' (by simp)) (by exact rfl) (by simp [Value.oneCell']) (by omega) (by simp [maxLen]; omega) (by simp; omega) ?_; intro v' w6 hown' hgr)
      have hg : EGood (w5.alloc (.cells #[.int .i64 x.id, .int .i64 x.inn, .int .i64 x.out, .string x.region, .int .u8 x.kind, .string x.speaker, .slice A5 n' c5] 66)) w.heap.size (EH.of x A5 n' c5) x := ⟨rfl, hnc5, hn24, (HRf.out.ext ((Ext.refl w5).alloc _)).le (by simp; omega)⟩
      have hst := SortLoop.step (HXr.out.trans (HX5.out.trans ((Ext.refl w5).alloc (.cells #[.int .i64 x.id, .int .i64 x.inn, .int .i64 x.out, .string x.region, .int .u8 x.kind, .string x.speaker, .slice A5 n' c5] 66)))) ((HEv.out.ext HX5.out).ext ((Ext.refl w5).alloc (.cells #[.int .i64 x.id, .int .i64 x.inn, .int .i64 x.out, .string x.region, .int .u8 x.kind, .string x.speaker, .slice A5 n' c5] 66))) HXx.out (HOw.out.alloc _) hg hgr hown'
      exact ⟨⟨k + 1, by omega, by go_num, hst.1, hst.2⟩, by simp [intOf]; omega⟩
    · have hkn : k = n := by omega
      subst hkn
      have htk : l.take k = l := List.take_of_length_le (by rw [HEl.out]; omega)
      have hev := HEv.out
      rw [htk] at hev
      obtain ⟨A6, c6, hv, hc6, -, -⟩ := hev.at_
      subst hv
      have HS := Lib.hid (stable_own hev (by omega) HXr.out (Nat.le_refl _))
      clear hev htk HEv
      go_wp2_with fail
      refine HS.out.mono ?_
      rintro en w9 ⟨rfl, ho9, hx9⟩
      go_wp2_with fail
      go_ret
      exact ⟨_, rfl, ho9, hx9⟩
end Go.Proofs.YtagfedbdakmlgaaGreatDoor

/-! RemP -/
namespace Go.Proofs.YtagfedbdakmlgaaGreatDoor
set_option linter.unusedVariables false
set_option linter.unusedSimpArgs false
open Go.RowKit
def Com.lose (id : Int) (c : Com) : Com := if c.ev = id then ⟨c.id, c.ev, 0, 0, c.author, c.text, c.done, true⟩ else c
def Doc.cutE (d : Doc) (k : Nat) : Doc := ⟨d.title, d.lang, d.rate, d.drop, d.last, d.regs, d.evs.take k ++ d.evs.drop (k + 1), d.coms⟩
/-- what Remove comes to -/
def Doc.remX (d : Doc) (id : Int) : DE :=
  if d.err ≠ 0 then (Doc.zero, d.err) else match findE d.evs id with
    | none => (Doc.zero, 6)
    | some k => ((d.cutE k).withComs (d.coms.map (Com.lose id)), 0)
section
variable {d : Doc} {id : Int} {k : Nat}
theorem rem_1 (h : d.err ≠ 0) : d.remX id = (Doc.zero, d.err) := by unfold Doc.remX; rw [if_pos h]
theorem rem_2 (h : d.err = 0) (h2 : findE d.evs id = none) : d.remX id = (Doc.zero, 6) := by unfold Doc.remX; rw [if_neg (by simpa using h), h2]
theorem rem_3 (h : d.err = 0) (h2 : findE d.evs id = some k) : d.remX id = ((d.cutE k).withComs (d.coms.map (Com.lose id)), 0) := by unfold Doc.remX; rw [if_neg (by simpa using h), h2]
end
theorem DocOwn.ev_at {w : World} {L k : Nat} {d : Doc} {h : DocH} (o : DocOwn w L d h) (hk : k < h.en) : ∃ g, h.ea = some ⟨g, 0, none⟩ ∧ L ≤ g := by
  obtain ⟨hs, h1, -⟩ := o.evs
  rcases h1.2 with ⟨hv, hn⟩ | ⟨g, cap, cur, hv, hg, hb, hnc, hcm, hcs, ht⟩
  · omega
  · exact ⟨g, by injection hv, hg⟩
/-- events of one's own without one of them -/
theorem EvsOwn.cut {w w' : World} {L n k : Nat} {v : Value} {hs : List EH} {l : List Ev} (h2 : hs.length = n) (h3 : l.length = n) (h4 : ∀ (i : Nat) (h : EH) (e : Ev), hs[i]? = some h → l[i]? = some e → EGood w L h e) (hk : k < n)
    (k1 : KB 87 w w') (k2 : KB 84 w w') (ho : w'.ownsRow L 66 7 v (n - 1) ((hs.take k ++ hs.drop (k + 1)).flatMap EH.vals)) : EvsOwn w' L v (n - 1) (l.take k ++ l.drop (k + 1)) := by
  refine ⟨hs.take k ++ hs.drop (k + 1), ho, ?_, ?_, fun i h e hi he => ?_⟩
  · rw [List.length_append, List.length_take, List.length_drop]; omega
  · rw [List.length_append, List.length_take, List.length_drop]; omega
  · rw [List.getElem?_append] at hi he
    rw [List.length_take, h2] at hi
    rw [List.length_take, h3] at he
    split at hi
    · rename_i hlt
      rw [if_pos hlt] at he
      rw [List.getElem?_take_of_lt (by omega)] at hi he
      exact (h4 i h e hi he).kb k1 k2
    · rename_i hlt
      rw [if_neg hlt] at he
      rw [List.getElem?_drop] at hi he
      exact (h4 _ h e hi he).kb k1 k2
/-- a cell of a comment of a document of one's own is stored -/
theorem DocOwn.com_set {w : World} {L k j g : Nat} {d : Doc} {h : DocH} {c c' : Com} {u : Value} (o : DocOwn w L d h) (hca : h.ca = some ⟨g, 0, none⟩) (hc : d.coms[k]? = some c) (hv : c'.vals = c.vals.set j u) (hj : j < 8) :
    DocOwn (w.setCell ⟨g, k * 8 + j, none⟩ u) L (d.withComs (d.coms.set k c')) h ∧ w.grownBy (w.setCell ⟨g, k * 8 + j, none⟩ u) (some g) := by
  obtain ⟨a1, a2, a3, a4, a5⟩ := o
  have hty := own_typed a4
  rw [hca] at a4 hty
  have hs := a4.stored (k * 8 + j) u
  have hT : Typed w 78 g := hty g rfl
  have hkb : ∀ {T : TypeId}, T ≠ 78 → KB T w (w.setCell ⟨g, k * 8 + j, none⟩ u) := fun hne => KB.grown hs.2 (fun q hq => by cases hq; exact hT) hne
  have hfl : (d.coms.flatMap Com.vals).set (k * 8 + j) u = (d.coms.set k c').flatMap Com.vals := flatMap_setC (f := Com.vals) (s := 8) (fun _ => rfl) hc hv hj
  refine ⟨⟨own_kb a1 (hkb (by decide)), a2, a3.kb (hkb (by decide)) (hkb (by decide)) (hkb (by decide)), ?_, by show (d.coms.set k c').length = _; simpa using a5⟩, hs.2⟩
  show World.ownsRow _ _ _ _ _ _ ((d.coms.set k c').flatMap Com.vals)
  rw [← hfl, hca]
  exact hs.1
theorem DocOwn.com_cell {w : World} {L k j g : Nat} {d : Doc} {h : DocH} {c : Com} {u : Value} (o : DocOwn w L d h) (hca : h.ca = some ⟨g, 0, none⟩) (hc : d.coms[k]? = some c) (hu : c.vals[j]? = some u) : w.cell? ⟨g, k * 8 + j, none⟩ = some u ∧ w.frozen? ⟨g, k * 8 + j, none⟩ = false := by
  have hk := (List.getElem?_eq_some_iff.1 hc).1
  have hj : j < 8 := by have := (List.getElem?_eq_some_iff.1 hu).1; exact this
  have a4 := o.coms
  have hty := own_typed a4
  rw [hca] at a4 hty
  have a5 := o.clen
  exact ⟨by rw [a4.cellAt (k * 8 + j) (by omega), flatMap_at Com.vals 8 (fun _ => rfl) d.coms k c j hc hj, hu], (hty g rfl).frozen _⟩
theorem lose_step (id : Int) (l : List Com) (i : Nat) (c : Com) (h : l[i]? = some c) : ((l.take i).map (Com.lose id) ++ l.drop i)[i]? = some c ∧ ∀ c' : Com, ((l.take i).map (Com.lose id) ++ l.drop i).set i c' = (l.take i).map (Com.lose id) ++ c' :: l.drop (i + 1) := by
  have hi := (List.getElem?_eq_some_iff.1 h).1
  have hl : ((l.take i).map (Com.lose id)).length = i := by rw [List.length_map, List.length_take]; omega
  constructor
  · rw [List.getElem?_append_right (by omega), hl, Nat.sub_self, drop_at l i c h]; rfl
  · intro c'
    rw [List.set_append_right _ _ (by omega), hl, Nat.sub_self, drop_at l i c h]
    rfl
theorem lose_next (id : Int) (l : List Com) (i : Nat) (c : Com) (h : l[i]? = some c) : (l.take (i + 1)).map (Com.lose id) ++ l.drop (i + 1) = (l.take i).map (Com.lose id) ++ c.lose id :: l.drop (i + 1) := by
  rw [take_snoc' l i c h, List.map_append, List.append_assoc]
  rfl
end Go.Proofs.YtagfedbdakmlgaaGreatDoor

/-! RetV -/
namespace Go.Proofs.YtagfedbdakmlgaaGreatDoor
set_option linter.unusedVariables false
set_option linter.unusedSimpArgs false
open Go.RowKit
section
variable {d : Doc} {b m : Int} {drop : Bool}
/-- what a comment that is not lost must have -/
def Com.Good (c : Com) (evs : List Ev) : Prop := (∃ k e, findE evs c.ev = some k ∧ evs[k]? = some e ∧ 0 ≤ c.fr ∧ c.fr < c.til ∧ c.til ≤ e.len) ∧ nameB c.author = true ∧ vld c.text = true ∧ c.text.toList.isEmpty = false ∧ c.text.size ≤ 400
end
end Go.Proofs.YtagfedbdakmlgaaGreatDoor

/-! RegionInv -/
namespace Go.Proofs.YtagfedbdakmlgaaGreatDoor
set_option linter.unusedVariables false
set_option linter.unusedSimpArgs false
open Go.RowKit
/-- what the region 'a, b := Clone(e), Clone(e)' keeps, whatever has been done of it -/
def C2Inv (mk : Value → Value → Value → Value → Value → Value → Act) (e : Ev) (A : Option Addr) (n c : Nat) (W : World) (l : Array Bool) (a : Act) (w : World) : Prop :=
  l.size = 8 ∧ Ext W w ∧ ∃ v1 v2 v3 v4 va vb : Value, a = mk v1 v2 v3 v4 va vb ∧ (l.getD 0 false = true → v1 = .agg (e.cells A n c)) ∧ (l.getD 2 false = true → v3 = .agg (e.cells A n c)) ∧
    (l.getD 1 false = true → ∃ A1 c1, v2 = .agg (e.cells A1 n c1) ∧ n ≤ c1 ∧ RowsFresh w W.heap.size A1 n e.rows) ∧ (l.getD 3 false = true → ∃ A1 c1, v4 = .agg (e.cells A1 n c1) ∧ n ≤ c1 ∧ RowsFresh w W.heap.size A1 n e.rows) ∧
    (l.getD 4 false = true → ∃ g cs, va = .pointer (some ⟨g, 0, none⟩) ∧ W.heap.size ≤ g ∧ Blk w g 66 cs ∧ cs.size = 7 ∧ (l.getD 6 false = true → v2 = .agg cs)) ∧
    (l.getD 5 false = true → ∃ g cs, vb = .pointer (some ⟨g, 0, none⟩) ∧ W.heap.size ≤ g ∧ Blk w g 66 cs ∧ cs.size = 7 ∧ (l.getD 7 false = true → v4 = .agg cs)) ∧
    (l.getD 4 false = true → l.getD 5 false = true → va ≠ vb) ∧ (l.getD 6 false = true → l.getD 1 false = true) ∧ (l.getD 7 false = true → l.getD 3 false = true) ∧ (l.getD 6 false = true → l.getD 4 false = true) ∧ (l.getD 7 false = true → l.getD 5 false = true)
/-- a frame with six slots written -/
def put6 (a : Act) (x1 x2 x3 x4 sa sb : Nat) (v1 v2 v3 v4 va vb : Value) : Act :=
  { a with tmps := (((((a.tmps.setIfInBounds x1 v1).setIfInBounds x2 v2).setIfInBounds x3 v3).setIfInBounds x4 v4).setIfInBounds sa va).setIfInBounds sb vb }
end Go.Proofs.YtagfedbdakmlgaaGreatDoor

/-! Split -/
namespace Go.Proofs.YtagfedbdakmlgaaGreatDoor
set_option linter.unusedVariables false
set_option linter.unusedSimpArgs false
open Go.RowKit
/-- the error of a split -/
def Ev.splitErr (e : Ev) (frame : Int) (row : Int) (id : Int) : Int :=
  if row < 1 ∨ (e.rows.length : Int) ≤ row then 1
  else if frame ≤ e.inn ∨ e.out ≤ frame ∨ id < 1 ∨ 1099511627776 < id then 2
  else if id = e.id then 7 else 0
def Ev.left (e : Ev) (frame : Int) (row : Nat) : Ev := { e with out := frame, rows := e.rows.take row }
def Ev.right (e : Ev) (frame : Int) (row : Nat) (id : Int) : Ev := { e with id := id, inn := frame, rows := e.rows.drop row }
def Ev.zero : Ev := ⟨0, 0, 0, ⟨#[]⟩, 0, ⟨#[]⟩, []⟩
def Ev.splitL (e : Ev) (frame row id : Int) : Ev := if e.splitErr frame row id = 0 then e.left frame row.toNat else Ev.zero
def Ev.splitR (e : Ev) (frame row id : Int) : Ev := if e.splitErr frame row id = 0 then e.right frame row.toNat id else Ev.zero
/-- what a split comes to -/
def SplitPost (e : Ev) (frame row id : Int) (w : World) (en : Ending) (w' : World) : Prop :=
  ∃ A1 n1 c1 A2 n2 c2, en = .returned (.tuple #[.agg ((e.splitL frame row id).cells A1 n1 c1), .agg ((e.splitR frame row id).cells A2 n2 c2), .int .i64 (e.splitErr frame row id)]) ∧
    n1 ≤ c1 ∧ n2 ≤ c2 ∧ n1 ≤ e.rows.length ∧ n2 ≤ e.rows.length ∧ RowsFresh w' w.heap.size A1 n1 (e.splitL frame row id).rows ∧ RowsFresh w' w.heap.size A2 n2 (e.splitR frame row id).rows ∧ Ext w w'
theorem RowsFresh.nil (w : World) (L c : Nat) : RowsFresh w L none 0 [] := ⟨[], Sl.nil, fun i h r a b => by simp at a, rfl, fun ad h => (by cases h), fun x hx => (by cases hx)⟩
def SplitErrs (k : Int) (w : World) (en : Ending) (w' : World) : Prop := en = .returned (.tuple #[.agg evZero, .agg evZero, .int .i64 k]) ∧ Ext w w'
theorem SplitErrs.post {e : Ev} {frame row id : Int} {w : World} {en : Ending} {w' : World} (h : SplitErrs (e.splitErr frame row id) w en w') (hk : e.splitErr frame row id ≠ 0) : SplitPost e frame row id w en w' := by
  have e1 : e.splitL frame row id = Ev.zero := if_neg hk
  have e2 : e.splitR frame row id = Ev.zero := if_neg hk
  refine ⟨none, 0, 0, none, 0, 0, ?_, Nat.le_refl _, Nat.le_refl _, Nat.zero_le _, Nat.zero_le _, ?_, ?_, h.2⟩
  · rw [e1, e2]; exact h.1
  · rw [e1]; exact RowsFresh.nil _ _ 0
  · rw [e2]; exact RowsFresh.nil _ _ 0
/-- the cases of a split that fails -/
inductive SplitBad (e : Ev) (frame row id : Int) : Int → Prop
  | low : (row < 1) → SplitBad e frame row id 1
  | high : 1 ≤ row → (e.rows.length : Int) ≤ row → SplitBad e frame row id 1
  | ahead : 1 ≤ row → row < e.rows.length → frame ≤ e.inn → SplitBad e frame row id 2
  | behind : 1 ≤ row → row < e.rows.length → e.inn < frame → e.out ≤ frame → SplitBad e frame row id 2
  | idLow : 1 ≤ row → row < e.rows.length → e.inn < frame → frame < e.out → id < 1 → SplitBad e frame row id 2
  | idHigh : 1 ≤ row → row < e.rows.length → e.inn < frame → frame < e.out → 1 ≤ id → 1099511627776 < id → SplitBad e frame row id 2
  | same : 1 ≤ row → row < e.rows.length → e.inn < frame → frame < e.out → 1 ≤ id → id ≤ 1099511627776 → id = e.id → SplitBad e frame row id 7
end Go.Proofs.YtagfedbdakmlgaaGreatDoor

/-! JoinA -/
namespace Go.Proofs.YtagfedbdakmlgaaGreatDoor
set_option linter.unusedVariables false
set_option linter.unusedSimpArgs false
open Go.RowKit
def Ev.joinErr (x y : Ev) : Int := if lessB x y = false then 8 else if 4 < x.rows.length + y.rows.length then 9 else 0
def Ev.joined (x y : Ev) : Ev := { x with inn := min x.inn y.inn, out := max x.out y.out, rows := x.rows ++ y.rows }
def Ev.join (x y : Ev) : Ev := if x.joinErr y = 0 then x.joined y else Ev.zero
def JoinPost (x y : Ev) (w : World) (en : Ending) (w' : World) : Prop :=
  ∃ A n c, en = .returned (.tuple #[.agg ((x.join y).cells A n c), .int .i64 (x.joinErr y)]) ∧ n ≤ c ∧ n ≤ 4 ∧ RowsFresh w' w.heap.size A n (x.join y).rows ∧ Ext w w'
theorem run_appendS {α : Type} {f : α → List Value} {P : Program} (w : World) (t ty : TypeId) {base : Nat} {e : TypeId} {z : Value} {size bytes : Nat} (inf : (P.info? e).map (fun i => (i.zero, i.size, i.bytes)) = some (some z, size, bytes)) (ht : P.underlying t = some (.slice e)) (hzs : z.cells.size = size) (hsz : 0 < size)
    {v : Value} {n : Nat} {xs : List Value} (hown : w.ownsRow base e size v n xs) {A : Option Addr} {m c : Nat} {l : List α} (hS : Sl w size (Cells f) A m l) (hf : ∀ x, (f x).length = size) (h1 : ∀ x, ∀ u ∈ f x, u.oneCell' = true)
    (hroom : (n + m) * bytes ≤ 140737488355328) (hmax : n + m ≤ maxLen) (hbase : base ≤ w.heap.size) :
    ∃ v' w', (Builtin.append_ #[t, t] ty #[v, .slice A m c]).run P w = .ok v' w' ∧ w'.ownsRow base e size v' (n + m) (xs ++ l.flatMap f) ∧ w.grownBy w' v.ownBlock := by
  obtain ⟨i, hi, hz0, hz1, hz2⟩ := info_parts inf
  have hlen : (l.flatMap f).length = m * size := by rw [flatMap_len f size hf, hS.len]
  cases A with
  | none =>
    have hm : m = 0 := by
      rcases Nat.eq_zero_or_pos m with h0 | h0
      · exact h0
      · obtain ⟨_, _, h, _⟩ := hS.2 h0
        cases h
    subst hm
    obtain rfl : l = [] := List.eq_nil_of_length_eq_zero hS.len
    exact ⟨v, w, run_append_of_nil (P := P) w base t ty e i size ht hi v n xs hown c, by simpa using hown, World.grownBy.refl w _⟩
  | some ad =>
    obtain ⟨v', w', hrun, h2, h3, _, h5⟩ := run_append_own_at (P := P) w base t ty e i z size bytes ht hi hz0 hz1 hz2 hzs hsz v n xs hown ad m c (l.flatMap f) hlen (fun j u hu => by
      rcases Nat.eq_zero_or_pos m with h0 | h0
      · subst h0
        obtain rfl : l = [] := List.eq_nil_of_length_eq_zero hS.len
        simp at hu
      · obtain ⟨b, off, hA, hc⟩ := hS.2 h0
        cases hA
        exact sl_news hf hS.len hc j u hu) (flatMap_one h1 l) hmax hroom hbase
    exact ⟨v', w', hrun, h2, h3⟩
theorem wp_appendS {α : Type} {f : α → List Value} {P : Program} {o : Oper} {a : Act} {w : World} {K : Act → World → Prop} {Q : Exit → Act → World → Prop} (s x : Operand) (t : TypeId)
    (ho : o.op = .call { callee := .builtin .append, args := #[s, x], argTypes := #[t, t] })
    {base : Nat} {e : TypeId} {z : Value} {size bytes : Nat} (inf : (P.info? e).map (fun i => (i.zero, i.size, i.bytes)) = some (some z, size, bytes)) (ht : P.underlying t = some (.slice e)) (hzs : z.cells.size = size) (hsz : 0 < size)
    {v : Value} {n : Nat} {xs : List Value} (hown : w.ownsRow base e size v n xs) (hs : a.eval s = v) {A : Option Addr} {m c : Nat} {l : List α} (hx : a.eval x = .slice A m c) (hS : Sl w size (Cells f) A m l) (hf : ∀ x, (f x).length = size) (h1 : ∀ x, ∀ u ∈ f x, u.oneCell' = true)
    (hroom : (n + m) * bytes ≤ 140737488355328) (hmax : n + m ≤ maxLen) (hbase : base ≤ w.heap.size)
    (h : ∀ v' w', w'.ownsRow base e size v' (n + m) (xs ++ l.flatMap f) → w.grownBy w' v.ownBlock → K (a.put o.dst v') w') : o.wp P a w K Q := by
  obtain ⟨v', w', hrun, h2, h3⟩ := run_appendS (P := P) w t o.type inf ht hzs hsz hown (c := c) hS hf h1 hroom hmax hbase
  unfold Oper.wp execOp
  simp only [ho, resolve, invoke, builtin, Sem.run_bind, Sem.run_pure, Result.andThen_ok, List.map_toArray, List.map_cons, List.map_nil, hs, hx, hrun]
  exact h v' w' h2 h3
/-- a block of another type is as it was behind an append -/
theorem Blk.grown {w w1 : World} {g : Nat} {t T : TypeId} {cs : Array Value} {row : Option Nat} (h : Blk w g t cs) (hg : w.grownBy w1 row) (hr : ∀ q, row = some q → Typed w T q) (hne : t ≠ T) : Blk w1 g t cs := by
  refine (hg.block g h.lt (fun e => ?_)).trans h
  exact Typed.ne h.typed (hr g e.symm) hne rfl
end Go.Proofs.YtagfedbdakmlgaaGreatDoor

/-! RetPlain -/
namespace Go.Proofs.YtagfedbdakmlgaaGreatDoor
set_option linter.unusedVariables false
set_option linter.unusedSimpArgs false
open Go.RowKit
theorem lensErr_zero {r : Reg} : ∀ {l : List Int}, r.lensErr l = 0 → ∀ x ∈ l, 0 ≤ x ∧ x ≤ r.width
  | [], _, x, hx => by cases hx
  | n :: l, h, x, hx => by
    unfold Reg.lensErr at h
    split at h
    · omega
    · split at h
      · omega
      · rcases List.mem_cons.1 hx with rfl | hx
        · omega
        · exact lensErr_zero h x hx
theorem rowsErr_zero : ∀ {l : List Row}, rowsErr l = 0 → ∀ r ∈ l, rowErrE r = 0
  | [], _, r, hr => by cases hr
  | x :: l, h, r, hr => by
    unfold rowsErr at h
    split at h
    · rename_i hx
      rcases List.mem_cons.1 hr with rfl | hr
      · exact hx
      · exact rowsErr_zero h r hr
    · rename_i hx; exact absurd h hx
/-- what a valid event is -/
structure Ev.Ok (e : Ev) (regs : List Reg) : Prop where
  id1 : 1 ≤ e.id
  id2 : e.id ≤ 1099511627776
  span : spansB e.inn e.out = true
  found : ∃ r, findR regs e.region = some r ∧ r.usable = true ∧ (e.rows.length : Int) ≤ r.height ∧ ∀ x ∈ e.rows, 0 ≤ rowLen x ∧ rowLen x ≤ r.width
  kind : noKind e.kind = false
  name : ¬ (e.speaker.toList.isEmpty = false ∧ nameB e.speaker = false)
  some_ : e.rows.length ≠ 0
  few : e.rows.length ≤ 4
  rows : ∀ r ∈ e.rows, rowErrE r = 0
theorem Ev.ok_of {e : Ev} {regs : List Reg} (h : e.err regs = 0) : e.Ok regs := by
  unfold Ev.err at h
  split at h
  · omega
  · rename_i h1
    split at h
    · omega
    · rename_i r hr
      split at h
      · omega
      · rename_i h2
        split at h
        · omega
        · rename_i h3
          split at h
          · omega
          · rename_i h4
            split at h
            · rename_i h5; exact absurd h h5
            · rename_i h5
              unfold Reg.place at h
              split at h
              · omega
              · rename_i h6
                split at h
                · omega
                · rename_i h7
                  have hz := lensErr_zero h
                  refine ⟨by omega, by omega, by cases hs : spansB e.inn e.out <;> simp_all, ⟨r, hr, by simpa using h6, by simpa using h7, fun x hx => hz _ (List.mem_map.2 ⟨x, hx, rfl⟩)⟩, by simpa using h2, h3, by omega, by omega, rowsErr_zero (by simpa using h5)⟩
/-- an event with some of the rows of a valid one -/
theorem Ev.Ok.part {e f : Ev} {regs : List Reg} (h : e.Ok regs) (h1 : 1 ≤ f.id) (h2 : f.id ≤ 1099511627776) (h3 : spansB f.inn f.out = true) (hr : f.region = e.region) (hk : f.kind = e.kind) (hs : f.speaker = e.speaker) (hl : f.rows.length ≠ 0) (hle : f.rows.length ≤ e.rows.length) (hsub : ∀ r ∈ f.rows, r ∈ e.rows) : f.Ok regs := by
  obtain ⟨_, _, _, ⟨r, hr', hu, hh, hw⟩, h4, h5, h6, h7, h8⟩ := h
  exact ⟨h1, h2, h3, ⟨r, by rw [hr]; exact hr', hu, by omega, fun x hx => hw x (hsub x hx)⟩, by rw [hk]; exact h4, by rw [hs]; exact h5, hl, by omega, fun x hx => h8 x (hsub x hx)⟩
theorem lenSum_of : ∀ {l : List Int} (s : Int), (∀ x ∈ l, 0 ≤ x) → lenSum s l = s + l.sum
  | [], s, _ => by simp [lenSum]
  | n :: l, s, h => by
    have h1 := h n (List.mem_cons_self ..)
    unfold lenSum
    rw [if_neg (by omega), lenSum_of (s + n) fun x hx => h x (List.mem_cons_of_mem _ hx), List.sum_cons]
    omega
theorem Ev.Ok.len {e : Ev} {regs : List Reg} (h : e.Ok regs) : e.len = (e.rows.length : Int) - 1 + (e.rows.map rowLen).sum := by
  obtain ⟨_, _, _, hw⟩ := h.found
  unfold Ev.len
  rw [lenSum_of _ (fun x hx => by obtain ⟨y, hy, rfl⟩ := List.mem_map.1 hx; exact (hw.2 y hy).1)]
  have := h.some_
  omega
theorem Ev.Ok.frames {e : Ev} {regs : List Reg} (h : e.Ok regs) : e.frames = e.out - e.inn := by unfold Ev.frames; rw [if_pos h.span]
end Go.Proofs.YtagfedbdakmlgaaGreatDoor

/-! ShP -/
namespace Go.Proofs.YtagfedbdakmlgaaGreatDoor
set_option linter.unusedVariables false
set_option linter.unusedSimpArgs false
open Go.RowKit
def Ev.mv (fr sh : Int) (e : Ev) : Ev := if e.inn < fr then e else ⟨e.id, e.inn + sh, e.out + sh, e.region, e.kind, e.speaker, e.rows⟩
def Ev.mvBad (fr sh : Int) (e : Ev) : Bool := decide (¬ e.inn < fr ∧ (e.inn + sh < 0 ∨ 5184000 < e.out + sh))
def Doc.withEvs (d : Doc) (l : List Ev) : Doc := ⟨d.title, d.lang, d.rate, d.drop, d.last, d.regs, l, d.coms⟩
/-- what Shift comes to -/
def Doc.shX (d : Doc) (fr sh : Int) : DE :=
  if d.err ≠ 0 then (Doc.zero, d.err) else if sh < -5184000 ∨ 5184000 < sh then (Doc.zero, 2) else if d.evs.any (Ev.mvBad fr sh) = true then (Doc.zero, 2) else (d.withEvs (srtE (d.evs.map (Ev.mv fr sh))), 0)
section
variable {d : Doc} {fr sh : Int}
end
theorem upd_step {α : Type} (f : α → α) (l : List α) (i : Nat) (c : α) (h : l[i]? = some c) : ((l.take i).map f ++ l.drop i)[i]? = some c ∧ ∀ c' : α, ((l.take i).map f ++ l.drop i).set i c' = (l.take i).map f ++ c' :: l.drop (i + 1) := by
  have hi := (List.getElem?_eq_some_iff.1 h).1
  have hl : ((l.take i).map f).length = i := by rw [List.length_map, List.length_take]; omega
  constructor
  · rw [List.getElem?_append_right (by omega), hl, Nat.sub_self, drop_at l i c h]; rfl
  · intro c'
    rw [List.set_append_right _ _ (by omega), hl, Nat.sub_self, drop_at l i c h]
    rfl
theorem upd_next {α : Type} (f : α → α) (l : List α) (i : Nat) (c : α) (h : l[i]? = some c) : (l.take (i + 1)).map f ++ l.drop (i + 1) = (l.take i).map f ++ f c :: l.drop (i + 1) := by
  rw [take_snoc' l i c h, List.map_append, List.append_assoc]
  rfl
end Go.Proofs.YtagfedbdakmlgaaGreatDoor

/-! InsP -/
namespace Go.Proofs.YtagfedbdakmlgaaGreatDoor
set_option linter.unusedVariables false
set_option linter.unusedSimpArgs false
open Go.RowKit
def Ev.setId (e : Ev) (i : Int) : Ev := ⟨i, e.inn, e.out, e.region, e.kind, e.speaker, e.rows⟩
def Doc.takenB (d : Doc) (id : Int) : Bool := decide (0 ≤ findI d.evs id) || decide (0 ≤ findCI d.coms id)
def Doc.insId (d : Doc) (e : Ev) : Int := if e.id = 0 then d.last + 1 else e.id
def Doc.insLast (d : Doc) (e : Ev) : Int := if e.id = 0 then d.last + 1 else d.last
/-- the error of the new event's number -/
def Doc.insE1 (d : Doc) (e : Ev) : Int := if e.id = 0 then (if 1099511627776 ≤ d.last then 9 else 0) else if e.id < 1 ∨ d.last < e.id then 2 else if d.takenB e.id = true then 7 else 0
def Doc.insErr (d : Doc) (e : Ev) : Int := if d.err ≠ 0 then d.err else if d.insE1 e ≠ 0 then d.insE1 e else if (e.setId (d.insId e)).err d.regs ≠ 0 then (e.setId (d.insId e)).err d.regs else if 400 ≤ d.evs.length then 9 else 0
def Doc.insD (d : Doc) (e : Ev) : Doc := ⟨d.title, d.lang, d.rate, d.drop, d.insLast e, d.regs, srtE (d.evs ++ [e.setId (d.insId e)]), d.coms⟩
/-- what Insert comes to -/
abbrev DIE : Type := Doc × Int × Int
def Doc.insX (d : Doc) (e : Ev) : DIE := if d.insErr e = 0 then (d.insD e, d.insId e, 0) else (Doc.zero, 0, d.insErr e)
def DIEPost (X : DIE) (w : World) (en : Ending) (w' : World) : Prop :=
  ∃ h', en = .returned (.tuple #[.agg (X.1.cells h'), .int .i64 X.2.1, .int .i64 X.2.2]) ∧ DocOwn w' w.heap.size X.1 h' ∧ Ext w w'
section
variable {d : Doc} {e : Ev}
end
/-- heads whose rows lie somewhere: events -/
theorem evsAt_heads {w : World} {A : Option Addr} {n : Nat} {hs : List EH} {l : List Ev} (h : Sl w 7 (Cells EH.vals) A n hs) (hl : l.length = n) (hg : ∀ (i : Nat) (h : EH) (e : Ev), hs[i]? = some h → l[i]? = some e → h = EH.of e h.A h.n h.c ∧ EvAt w e h.A h.n h.c) : EvsAt w A n l := by
  refine ⟨hl, fun hn => ?_⟩
  obtain ⟨b, off, hA, hcs⟩ := h.2 hn
  refine ⟨b, off, hA, fun i e he => ?_⟩
  have hi : i < hs.length := by rw [h.1, ← hl]; exact (List.getElem?_eq_some_iff.1 he).1
  obtain ⟨x, hx⟩ : ∃ x, hs[i]? = some x := ⟨_, List.getElem?_eq_getElem hi⟩
  obtain ⟨hg1, hg2⟩ := hg i x e hx he
  refine ⟨x.A, x.n, x.c, ?_, hg2⟩
  have := hcs i x hx
  rw [hg1] at this
  exact this
theorem EvAt.setId {w : World} {e : Ev} {A : Option Addr} {n c : Nat} (h : EvAt w e A n c) (i : Int) : EvAt w (e.setId i) A n c := h
theorem EvSmall.setId {e : Ev} (h : EvSmall e) (i : Int) : EvSmall (e.setId i) := h
end Go.Proofs.YtagfedbdakmlgaaGreatDoor

/-! FolP -/
namespace Go.Proofs.YtagfedbdakmlgaaGreatDoor
set_option linter.unusedVariables false
set_option linter.unusedSimpArgs false
open Go.RowKit
def wfrom (n m p s : Nat) (i : Int) : Int := if (n : Int) - s ≤ i then IntKind.i64.wrap (i + ((m : Int) - n)) else if i < p then i else (m : Int) - s
def wto (n m p s : Nat) (i : Int) : Int := if i ≤ p then i else if (n : Int) - s < i then IntKind.i64.wrap (i + ((m : Int) - n)) else p
def Com.moved (c : Com) (f t : Int) : Com := if t ≤ f then ⟨c.id, c.ev, 0, 0, c.author, c.text, c.done, true⟩ else ⟨c.id, c.ev, f, t, c.author, c.text, c.done, c.lost⟩
/-- what Follow comes to -/
def Com.fol (c : Com) (a b : List Int) : Com := if c.lost = true then c else c.moved (wfrom a.length b.length (Mv.pre a b) (Mv.suf a b (Mv.pre a b)) c.fr) (wto a.length b.length (Mv.pre a b) (Mv.suf a b (Mv.pre a b)) c.til)
theorem size_comI : (Tryz.prog.info? 78).map (·.size) = some 8 := by kernel_rfl
def comZero : Array Value := #[.int .i64 0, .int .i64 0, .int .i64 0, .int .i64 0, .string ⟨#[]⟩, .string ⟨#[]⟩, .bool false, .bool false]
end Go.Proofs.YtagfedbdakmlgaaGreatDoor
