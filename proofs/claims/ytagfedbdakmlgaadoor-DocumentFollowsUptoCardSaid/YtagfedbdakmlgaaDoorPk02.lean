/- Laid together: The stable sort of events: the insertion. The stable sort of events: ranges exchanged, blocks turned. The stable sort of events: the merge where one side is one. -/
import Derived.Test.YtagfedbdakmlgaaDoorPk01

/-! StbB -/
namespace Go.Proofs.YtagfedbdakmlgaaDoor
set_option linter.unusedVariables false
set_option linter.unusedSimpArgs false
open Go.Shelf Go.RowKit Go.Lib Go.Sort
variable {P : Program} {k : Nat} {α : Type} [Inhabited α]

set_option maxHeartbeats 8000000 in
set_option maxRecDepth 1000000 in
theorem insertion_st (L : StL P k) (enc : α → List Value) (cf : α → α → Int) (g : Nat) (cb : Array Value) (blk off cap : Nat) (d0 d : Array α) (w0 w : World) (a b : Nat) (eg : ∀ args w, (callFunc g args).run P w = .ok (.enter g args) w) (hcmp : CmpLays P g cb enc k cf blk off d0.size w0) (R : RowK enc k w0 blk off d0) (hs : d0.size = d.size) (S : SWK enc k w0 blk off d w) (hsz : d.size < 1152921504606846976) (hw : Stb.SW (ltOf cf)) (hab : a ≤ b) (hb : b ≤ d.size) :
    Calls P 110 #[.slice (some ⟨blk, off, none⟩) d.size cap, .int .i64 a, .int .i64 b, .func (.func g) #[] cb] w fun e w' => e = .returned (.tuple #[]) ∧ ∃ d', d'.size = d.size ∧ SWK enc k w0 blk off d' w' ∧ Stb.Loc (ltOf cf) a b d.toList d'.toList ∧ Stb.Srt (ltOf cf) d'.toList a b := by
  have mixed := L.mixed; have t0 := L.t0; have a0 := L.a0; have z0 := L.z0; have v0 := L.v0; have t3 := L.t3; have a3 := L.a3; have z3 := L.z3; have v3 := L.v3; have t4 := L.t4; have a4 := L.a4; have z4 := L.z4; have v4 := L.v4; have tS := L.tS; have aS := L.aS; have zS := L.zS; have vS := L.vS; have tF := L.tF; have aF := L.aF; have zF := L.zF; have vF := L.vF; have tU := L.tU; have aU := L.aU; have zU := L.zU; have vU := L.vU; have aE := L.aE; have zE := L.zE
  have uS := run_underlying L.tS; have u3 := run_underlying L.t3; have uU := run_underlying L.tU
  have HC : Aside _ := hcmp
  have HW := Lib.hid hw
  have S0 : Aside _ := S
  clear hcmp S hw
  go_enter L.finsertionSort, Tryd.ntmps110
  go_wp2
  go_loopg [8] (b - a) (fun kx s8 wr => ∃ (i : Nat) (dk : Array α), s8 = .int .i64 i ∧ a < i ∧ i ≤ b + 1 ∧ b + 1 - i ≤ kx + 1 ∧ dk.size = d.size ∧ Aside (SWK enc k w0 blk off dk wr) ∧ Hid (Stb.Loc (ltOf cf) a b d.toList dk.toList) ∧ Hid (Stb.Srt (ltOf cf) dk.toList a (min i b)))
  case atStart => exact ⟨a + 1, d, by go_num, by omega, by omega, by omega, rfl, S0, (show Hid _ from Stb.Loc.refl _), (show Hid _ from Stb.Srt.one (by omega))⟩
  case round =>
    clear S0
    obtain ⟨i, dk, rfl, hai, hib, hkx, hds, S1, HLo, HSr⟩ := hrel
    by_cases hlt : i < b
    · have hltz : (i : Int) < (b : Int) := by omega
      go_wp2_with fail
      go_loopg [9] i (fun k2 s9 wr2 => ∃ (j : Nat) (dj : Array α), s9 = .int .i64 j ∧ a ≤ j ∧ j ≤ i ∧ j ≤ k2 ∧ dj.size = d.size ∧ Aside (SWK enc k w0 blk off dj wr2) ∧ Hid (Stb.Loc (ltOf cf) a b d.toList dj.toList) ∧ Hid (Stb.Ins (ltOf cf) dj.toList a j i))
      case atStart => exact ⟨i, dk, rfl, by omega, Nat.le_refl _, Nat.le_refl _, hds, S1, HLo, (show Hid _ from Stb.Ins.start (by have := HSr.out; rwa [Nat.min_eq_left (by omega)] at this))⟩
      case round =>
        clear S1 HLo HSr
        obtain ⟨j, dj, rfl, haj, hji, hk2, hdj, S2, HL2, HI2⟩ := hrel
        have HLn : Hid (dj.toList.length = d.size) := by show _ = _; rw [Array.length_toList]; exact hdj
        by_cases hja : a < j
        · have hjaz : (a : Int) < (j : Int) := by omega
          obtain ⟨jm, hjm⟩ : ∃ jm, jm = j - 1 := ⟨_, rfl⟩
          have hj1 : (j : Int) - 1 = (jm : Int) := by omega
          have hjl : jm < d.size := by omega
          have HJm := Lib.hid hjm
          have HX : Hid (dj.toList[j - 1]? = some dj[jm]!) := by show _ = _; rw [hjm]; exact arr_get (by omega)
          have HY : Hid (dj.toList[j]? = some dj[j]!) := arr_get (by omega)
          clear hjm
          by_cases hv : cf dj[j]! dj[jm]! < 0
          · have HLt : Hid (ltOf cf dj[j]! dj[jm]! = true) := decide_eq_true hv
            have ea1 : ((j : Int)).toNat = j := by omega
            have pa1 : (0 : Int) ≤ (j : Int) := by omega
            have ba1 : (j : Int) < (d.size : Int) := by omega
            have ra1 : IntKind.i64.wrap ((j : Int)) = (j : Int) := by rw [IntKind.wrap_i64]; omega
            have ec1 : ((jm : Int)).toNat = jm := by omega
            have pc1 : (0 : Int) ≤ (jm : Int) := by omega
            have bc1 : (jm : Int) < (d.size : Int) := by omega
            have rc1 : IntKind.i64.wrap ((jm : Int)) = (jm : Int) := by rw [IntKind.wrap_i64]; omega
            obtain ⟨x1, hx1⟩ : ∃ x, x = dj[j]! := ⟨_, rfl⟩
            obtain ⟨y1, hy1⟩ : ∃ x, x = dj[jm]! := ⟨_, rfl⟩
            have l1a := S2.out.ld R (by omega) P (j) (by omega)
            have l1b := S2.out.ld R (by omega) P (jm) (by omega)
            rw [← hx1] at l1a
            rw [← hy1] at l1b
            have hc1 := S2.out.cmp HC.out (by omega) x1 y1
            have hv1 : cf x1 y1 < 0 := by rw [hx1, hy1]; exact hv
            have hd1 : decide (cf x1 y1 < 0) = true := decide_eq_true hv1
            clear hx1 hy1
            go_wp2_with fail
            go_quiet_grown (first | (go_at_fn g; refine Calls.grown_of (hc1 _ _)))
            have S3 : Aside (SWK enc k w0 blk off dj (grow (wr.drewN nq) osq)) := S2.out.grown nq osq
            clear l1a l1b hc1 S2 hv1 hd1
            generalize grow (wr.drewN nq) osq = w3 at S3 ⊢
            clear nq osq
            clear ea1 pa1 ba1 ra1 ec1 pc1 bc1 rc1
            have ea2 : ((j : Int)).toNat = j := by omega
            have pa2 : (0 : Int) ≤ (j : Int) := by omega
            have ba2 : (j : Int) < (d.size : Int) := by omega
            have ra2 : IntKind.i64.wrap ((j : Int)) = (j : Int) := by rw [IntKind.wrap_i64]; omega
            have ec2 : ((jm : Int)).toNat = jm := by omega
            have pc2 : (0 : Int) ≤ (jm : Int) := by omega
            have bc2 : (jm : Int) < (d.size : Int) := by omega
            have rc2 : IntKind.i64.wrap ((jm : Int)) = (jm : Int) := by rw [IntKind.wrap_i64]; omega
            have S4 : Aside (SWK enc k w0 blk off (swp dj (j) (jm)) ((w3.drew.setCells blk (off + (j) * k) (enc dj[jm]!)).setCells blk (off + (jm) * k) (enc dj[j]!))) := S3.out.swapped R (j) (jm) (by omega) (by omega)
            have l2a := S3.out.ld1 R (by omega) P (j) (by omega)
            have l2b := S3.out.ld1 R (by omega) P (jm) (by omega)
            have s2a := S3.out.st1 R (by omega) P (j) (by omega) dj[jm]!
            have s2b := S3.out.st2 R (by omega) P (j) (jm) (by omega) (by omega) dj[jm]! dj[j]!
            have n2a : (enc dj[j]!).length = k := R.hk _
            have n2b : (enc dj[jm]!).length = k := R.hk _
            generalize enc dj[j]! = cI2 at S4 l2a s2b n2a
            generalize enc dj[jm]! = cJ2 at S4 l2b s2a s2b n2b
            clear S3
            go_wp2_with fail
            go_big_region_o
            clear l2a l2b s2a s2b
            generalize (w3.drew.setCells blk (off + (j) * k) cJ2).setCells blk (off + (jm) * k) cI2 = w4 at S4 ⊢
            clear n2a n2b ea2 pa2 ba2 ra2 ec2 pc2 bc2 rc2
            go_wp2
            go_roundg (j - 1)
            case measure => omega
            case rel =>
              have hjm := HJm.out
              refine ⟨j - 1, swp dj j jm, by rw [show ((j - 1 : Nat) : Int) = (jm : Int) by omega], by omega, by omega, Nat.le_refl _, by rw [size_swp]; exact hdj, S4, (show Hid _ from ?_), (show Hid _ from ?_)⟩
              · show Stb.Loc _ _ _ _ _
                rw [arr_swp (by omega) (by omega), hjm]
                exact HL2.out.trans ((Stb.Loc.swap HW.out (by omega) (by rw [HLn.out]; omega) HX.out HY.out HLt.out).wide (by omega) (by omega))
              · show Stb.Ins _ _ _ _ _
                rw [arr_swp (by omega) (by omega), hjm]
                exact HI2.out.step HW.out hja hji (by rw [HLn.out]; omega) HX.out HY.out HLt.out
          · have HLt : Hid (ltOf cf dj[j]! dj[jm]! = false) := decide_eq_false hv
            have ea3 : ((j : Int)).toNat = j := by omega
            have pa3 : (0 : Int) ≤ (j : Int) := by omega
            have ba3 : (j : Int) < (d.size : Int) := by omega
            have ra3 : IntKind.i64.wrap ((j : Int)) = (j : Int) := by rw [IntKind.wrap_i64]; omega
            have ec3 : ((jm : Int)).toNat = jm := by omega
            have pc3 : (0 : Int) ≤ (jm : Int) := by omega
            have bc3 : (jm : Int) < (d.size : Int) := by omega
            have rc3 : IntKind.i64.wrap ((jm : Int)) = (jm : Int) := by rw [IntKind.wrap_i64]; omega
            obtain ⟨x3, hx3⟩ : ∃ x, x = dj[j]! := ⟨_, rfl⟩
            obtain ⟨y3, hy3⟩ : ∃ x, x = dj[jm]! := ⟨_, rfl⟩
            have l3a := S2.out.ld R (by omega) P (j) (by omega)
            have l3b := S2.out.ld R (by omega) P (jm) (by omega)
            rw [← hx3] at l3a
            rw [← hy3] at l3b
            have hc3 := S2.out.cmp HC.out (by omega) x3 y3
            have hv3 : ¬ cf x3 y3 < 0 := by rw [hx3, hy3]; exact hv
            have hd3 : decide (cf x3 y3 < 0) = false := decide_eq_false hv3
            clear hx3 hy3
            go_wp2_with fail
            go_quiet_grown (first | (go_at_fn g; refine Calls.grown_of (hc3 _ _)))
            have S3 : Aside (SWK enc k w0 blk off dj (grow (wr.drewN nq) osq)) := S2.out.grown nq osq
            clear l3a l3b hc3 S2 hv3 hd3
            generalize grow (wr.drewN nq) osq = w3 at S3 ⊢
            clear nq osq
            clear ea3 pa3 ba3 ra3 ec3 pc3 bc3 rc3
            go_wp2
            go_roundg (b - (i + 1))
            case measure => omega
            case rel =>
              refine ⟨i + 1, dj, by go_num, by omega, by omega, by omega, hdj, S3, HL2, (show Hid _ from ?_)⟩
              show Stb.Srt _ _ _ _
              rw [Nat.min_eq_left (by omega)]
              refine Stb.Ins.end_ HW.out HI2.out (by rw [HLn.out]; omega) hji (.inr fun x y hx hy => ?_)
              rw [HX.out] at hx
              rw [HY.out] at hy
              cases hx
              cases hy
              exact HLt.out
        · have hjaz : decide ((j : Int) > (a : Int)) = false := decide_eq_false (by omega)
          have hjaz' : ¬ (a : Int) < (j : Int) := by omega
          have S3 : Aside (SWK enc k w0 blk off dj wr.drew) := S2.out.drew
          go_wp2_with fail
          go_big_region_o
          all_goals go_wp2
          go_roundg (b - (i + 1))
          case measure => omega
          case rel =>
            refine ⟨i + 1, dj, by go_num, by omega, by omega, by omega, hdj, S3, HL2, (show Hid _ from ?_)⟩
            show Stb.Srt _ _ _ _
            rw [Nat.min_eq_left (by omega)]
            exact Stb.Ins.end_ HW.out HI2.out (by rw [HLn.out]; omega) hji (.inl (by omega))
    · have hltz : ¬ (i : Int) < (b : Int) := by omega
      go_wp2
      go_end0
      exact ⟨rfl, dk, hds, S1.out, HLo.out, by have := HSr.out; rwa [Nat.min_eq_right (by omega)] at this⟩
end Go.Proofs.YtagfedbdakmlgaaDoor

/-! StbA -/
namespace Go.Proofs.YtagfedbdakmlgaaDoor
set_option linter.unusedVariables false
set_option linter.unusedSimpArgs false
open Go.Shelf Go.RowKit Go.Lib Go.Sort
variable {P : Program} {k : Nat} {α : Type} [Inhabited α]

set_option maxHeartbeats 8000000 in
set_option maxRecDepth 1000000 in
theorem swapRange_st (L : StL P k) (enc : α → List Value) (cf : α → α → Int) (g : Nat) (cb : Array Value) (blk off cap : Nat) (d0 d : Array α) (w0 w : World) (a b n : Nat) (R : RowK enc k w0 blk off d0) (hs : d0.size = d.size) (S : SWK enc k w0 blk off d w) (hsz : d.size < 1152921504606846976) (hn : a + n ≤ d.size) (hb : b + n ≤ d.size) :
    Calls P 121 #[.slice (some ⟨blk, off, none⟩) d.size cap, .int .i64 a, .int .i64 b, .int .i64 n, .func (.func g) #[] cb] w fun e w' => e = .returned (.tuple #[]) ∧ ∃ d', d'.size = d.size ∧ SWK enc k w0 blk off d' w' ∧ d'.toList = Stb.swr d.toList a b n := by
  have mixed := L.mixed; have t0 := L.t0; have a0 := L.a0; have z0 := L.z0; have v0 := L.v0; have t3 := L.t3; have a3 := L.a3; have z3 := L.z3; have v3 := L.v3; have t4 := L.t4; have a4 := L.a4; have z4 := L.z4; have v4 := L.v4; have tS := L.tS; have aS := L.aS; have zS := L.zS; have vS := L.vS; have tF := L.tF; have aF := L.aF; have zF := L.zF; have vF := L.vF; have tU := L.tU; have aU := L.aU; have zU := L.zU; have vU := L.vU; have aE := L.aE; have zE := L.zE
  have uS := run_underlying L.tS; have u3 := run_underlying L.t3; have uU := run_underlying L.tU
  have S0 : Aside _ := S
  clear S
  go_enter L.fswapRange, Tryd.ntmps121
  go_wp2
  go_loopg [10] n (fun kx s10 wr => ∃ (i : Nat) (dk : Array α), s10 = .int .i64 i ∧ i ≤ n ∧ n - i ≤ kx ∧ dk.size = d.size ∧ Aside (SWK enc k w0 blk off dk wr) ∧ Hid (dk.toList = Stb.swr d.toList a b i))
  case atStart => exact ⟨0, d, rfl, Nat.zero_le _, by omega, rfl, S0, rfl⟩
  case round =>
    clear S0
    obtain ⟨i, dk, rfl, hi, hkx, hds, S1, HE⟩ := hrel
    by_cases hlt : i < n
    · have hltz : (i : Int) < (n : Int) := by omega
      have ea1 : ((a : Int) + (i : Int)).toNat = a + i := by omega
      have pa1 : (0 : Int) ≤ (a : Int) + (i : Int) := by omega
      have ba1 : (a : Int) + (i : Int) < (d.size : Int) := by omega
      have ra1 : IntKind.i64.wrap ((a : Int) + (i : Int)) = (a : Int) + (i : Int) := by rw [IntKind.wrap_i64]; omega
      have ec1 : ((b : Int) + (i : Int)).toNat = b + i := by omega
      have pc1 : (0 : Int) ≤ (b : Int) + (i : Int) := by omega
      have bc1 : (b : Int) + (i : Int) < (d.size : Int) := by omega
      have rc1 : IntKind.i64.wrap ((b : Int) + (i : Int)) = (b : Int) + (i : Int) := by rw [IntKind.wrap_i64]; omega
      have S2 : Aside (SWK enc k w0 blk off (swp dk (a + i) (b + i)) ((wr.drew.setCells blk (off + (a + i) * k) (enc dk[b + i]!)).setCells blk (off + (b + i) * k) (enc dk[a + i]!))) := S1.out.swapped R (a + i) (b + i) (by omega) (by omega)
      have l1a := S1.out.ld1 R (by omega) P (a + i) (by omega)
      have l1b := S1.out.ld1 R (by omega) P (b + i) (by omega)
      have s1a := S1.out.st1 R (by omega) P (a + i) (by omega) dk[b + i]!
      have s1b := S1.out.st2 R (by omega) P (a + i) (b + i) (by omega) (by omega) dk[b + i]! dk[a + i]!
      have n1a : (enc dk[a + i]!).length = k := R.hk _
      have n1b : (enc dk[b + i]!).length = k := R.hk _
      generalize enc dk[a + i]! = cI1 at S2 l1a s1b n1a
      generalize enc dk[b + i]! = cJ1 at S2 l1b s1a s1b n1b
      clear S1
      go_wp2_with fail
      go_big_region_o
      clear l1a l1b s1a s1b
      generalize (wr.drew.setCells blk (off + (a + i) * k) cJ1).setCells blk (off + (b + i) * k) cI1 = w2 at S2 ⊢
      clear n1a n1b ea1 pa1 ba1 ra1 ec1 pc1 bc1 rc1
      go_wp2
      go_roundg (n - (i + 1))
      case measure => omega
      case rel => exact ⟨i + 1, swp dk (a + i) (b + i), by go_num, by omega, Nat.le_refl _, by rw [size_swp]; exact hds, S2, (show Hid _ from by show _ = _; rw [arr_swp (by omega) (by omega), HE.out]; rfl)⟩
    · have hltz : ¬ (i : Int) < (n : Int) := by omega
      go_wp2
      go_end0
      exact ⟨rfl, dk, hds, S1.out, by rw [HE.out, show i = n by omega]⟩

set_option maxHeartbeats 8000000 in
set_option maxRecDepth 1000000 in
theorem rotate_st (L : StL P k) (enc : α → List Value) (cf : α → α → Int) (g : Nat) (cb : Array Value) (blk off cap : Nat) (d0 d : Array α) (w0 w : World) (a m b : Nat) (R : RowK enc k w0 blk off d0) (hs : d0.size = d.size) (S : SWK enc k w0 blk off d w) (hsz : d.size < 1152921504606846976) (h1 : a < m) (h2 : m < b) (h3 : b ≤ d.size) :
    Calls P 116 #[.slice (some ⟨blk, off, none⟩) d.size cap, .int .i64 a, .int .i64 m, .int .i64 b, .func (.func g) #[] cb] w fun e w' => e = .returned (.tuple #[]) ∧ ∃ d', d'.size = d.size ∧ SWK enc k w0 blk off d' w' ∧ d'.toList = Stb.rot d.toList a m b := by
  have mixed := L.mixed; have t0 := L.t0; have a0 := L.a0; have z0 := L.z0; have v0 := L.v0; have t3 := L.t3; have a3 := L.a3; have z3 := L.z3; have v3 := L.v3; have t4 := L.t4; have a4 := L.a4; have z4 := L.z4; have v4 := L.v4; have tS := L.tS; have aS := L.aS; have zS := L.zS; have vS := L.vS; have tF := L.tF; have aF := L.aF; have zF := L.zF; have vF := L.vF; have tU := L.tU; have aU := L.aU; have zU := L.zU; have vU := L.vU; have aE := L.aE; have zE := L.zE
  have uS := run_underlying L.tS; have u3 := run_underlying L.t3; have uU := run_underlying L.tU
  have eswapRange : ∀ args w, (callFunc 121 args).run P w = .ok (.enter 121 args) w := enters_of L.fswapRange (by kernel_rfl) rfl
  have S0 : Aside _ := S
  clear S
  have HSw : Aside (∀ (a b n : Nat) (dk : Array α) (w : World), dk.size = d.size → SWK enc k w0 blk off dk w → a + n ≤ d.size → b + n ≤ d.size → Calls P 121 #[.slice (some ⟨blk, off, none⟩) d.size cap, .int .i64 a, .int .i64 b, .int .i64 n, .func (.func g) #[] cb] w fun e w' => e = .returned (.tuple #[]) ∧ ∃ d', d'.size = d.size ∧ SWK enc k w0 blk off d' w' ∧ d'.toList = Stb.swr dk.toList a b n) := fun a b n dk w hd hS ha hb => by
    have := swapRange_st L enc cf g cb blk off cap d0 dk w0 w a b n R (by omega) hS (by omega) (by omega) (by omega)
    rwa [hd] at this
  go_enter L.frotate, Tryd.ntmps116
  go_wp2
  go_loopg [10, 11] (b - a) (fun kx s10 s11 wr => ∃ (i j : Nat) (dk : Array α), s10 = .int .i64 i ∧ s11 = .int .i64 j ∧ 1 ≤ i ∧ i ≤ m ∧ 1 ≤ j ∧ m + j ≤ d.size ∧ i + j ≤ kx ∧ dk.size = d.size ∧ Aside (SWK enc k w0 blk off dk wr) ∧ Hid (Stb.rot dk.toList (m - i) m (m + j) = Stb.rot d.toList a m b))
  case atStart => exact ⟨m - a, b - m, d, by go_num, by go_num, by omega, by omega, by omega, by omega, by omega, rfl, S0, (show Hid _ from by show _ = _; rw [show m - (m - a) = a by omega, show m + (b - m) = b by omega])⟩
  case round =>
    clear S0
    obtain ⟨i, j, dk, rfl, rfl, hi1, him, hj1, hjm, hkx, hds, S1, HE⟩ := hrel
    have HL : Hid (dk.toList.length = d.size) := by show _ = _; rw [Array.length_toList]; exact hds
    by_cases heq : i = j
    · subst heq
      have hne : ((i : Int) != (i : Int)) = false := by simp
      have hm1 : (m : Int) - (i : Int) = ((m - i : Nat) : Int) := by omega
      have hsw := HSw.out (m - i) m i dk wr hds S1.out (by omega) (by omega)
      have HR : Hid (Stb.swr dk.toList (m - i) m i = Stb.rot dk.toList (m - i) m (m + i)) := Stb.rot_eq him (by rw [HL.out]; omega)
      clear HSw
      go_wp2_with (go_at_fn 121; refine hsw.mono ?_; rintro e w' ⟨rfl, d', hd', hS', hl'⟩)
      go_end0
      exact ⟨rfl, d', hd', hS', by rw [hl', HR.out, HE.out]⟩
    · have hne : ((i : Int) != (j : Int)) = true := by simp; omega
      by_cases hgt : j < i
      · have hgz : (j : Int) < (i : Int) := by omega
        have hm1 : (m : Int) - (i : Int) = ((m - i : Nat) : Int) := by omega
        have hsw := HSw.out (m - i) m j dk wr hds S1.out (by omega) (by omega)
        have HR := Lib.hid (Stb.rot_gt (l := dk.toList) him hgt (by rw [HL.out]; omega))
        clear HSw
        go_wp2_with (go_at_fn 121; refine hsw.mono ?_; rintro e w' ⟨rfl, d', hd', hS', hl'⟩)
        go_roundg (i - j + j)
        case measure => omega
        case rel => exact ⟨i - j, j, d', by go_num, rfl, by omega, by omega, hj1, hjm, Nat.le_refl _, hd', hS', (show Hid _ from by show _ = _; rw [hl', HR.out]; exact HE.out)⟩
      · have hgz : ¬ (j : Int) < (i : Int) := by omega
        have hm1 : (m : Int) - (i : Int) = ((m - i : Nat) : Int) := by omega
        have hm2 : (m : Int) + (j : Int) - (i : Int) = ((m + j - i : Nat) : Int) := by omega
        have hsw := HSw.out (m - i) (m + j - i) i dk wr hds S1.out (by omega) (by omega)
        have HR := Lib.hid (Stb.rot_lt (l := dk.toList) him (show i < j by omega) (by rw [HL.out]; omega))
        clear HSw
        go_wp2_with (go_at_fn 121; refine hsw.mono ?_; rintro e w' ⟨rfl, d', hd', hS', hl'⟩)
        go_roundg (i + (j - i))
        case measure => omega
        case rel => exact ⟨i, j - i, d', rfl, by go_num, hi1, him, by omega, by omega, Nat.le_refl _, hd', hS', (show Hid _ from by show _ = _; rw [hl', HR.out]; exact HE.out)⟩
end Go.Proofs.YtagfedbdakmlgaaDoor

/-! StbC -/
namespace Go.Proofs.YtagfedbdakmlgaaDoor
set_option linter.unusedVariables false
set_option linter.unusedSimpArgs false
open Go.Shelf Go.RowKit Go.Lib Go.Sort
section
variable {α : Type}
theorem lts_true {cf : α → α → Int} {x y : α} (h : cf x y < 0) : ltOf cf x y = true := decide_eq_true h
theorem lts_false {cf : α → α → Int} {x y : α} (h : ¬ cf x y < 0) : ltOf cf x y = false := decide_eq_false h
/-- where one row ends, a search among sorted ones -/
theorem srch_le {lt : α → α → Bool} (w : Stb.SW lt) {l : List α} {a b c : Nat} (hs : Stb.Srt lt l a b) {x v : α} (hc : l[c]? = some v) (h1 : a ≤ c) (h2 : c < b) (h : lt v x = true) : ∀ q y, a ≤ q → q ≤ c → l[q]? = some y → lt y x = true := by
  intro q y hq hqc hy
  by_cases he : q = c
  · subst he; rw [hc] at hy; cases hy; exact h
  · have h3 := hs q c y v hq (by omega) h2 hy hc
    cases h4 : lt y x
    · have := w.trans x y v h4 h3
      rw [h] at this; exact absurd this (by simp)
    · rfl
theorem srch_ge {lt : α → α → Bool} (w : Stb.SW lt) {l : List α} {a b c : Nat} (hs : Stb.Srt lt l a b) {x v : α} (hc : l[c]? = some v) (h1 : a ≤ c) (h2 : c < b) (h : lt v x = false) : ∀ q y, c ≤ q → q < b → l[q]? = some y → lt y x = false := by
  intro q y hq hqb hy
  by_cases he : q = c
  · subst he; rw [hc] at hy; cases hy; exact h
  · exact w.trans x v y h (hs c q v y h1 (by omega) hqb hc hy)
theorem srch_le' {lt : α → α → Bool} (w : Stb.SW lt) {l : List α} {a b c : Nat} (hs : Stb.Srt lt l a b) {x v : α} (hc : l[c]? = some v) (h1 : a ≤ c) (h2 : c < b) (h : lt x v = false) : ∀ q y, a ≤ q → q ≤ c → l[q]? = some y → lt x y = false := by
  intro q y hq hqc hy
  by_cases he : q = c
  · subst he; rw [hc] at hy; cases hy; exact h
  · exact w.trans y v x (hs q c y v hq (by omega) h2 hy hc) h
theorem srch_ge' {lt : α → α → Bool} (w : Stb.SW lt) {l : List α} {a b c : Nat} (hs : Stb.Srt lt l a b) {x v : α} (hc : l[c]? = some v) (h1 : a ≤ c) (h2 : c < b) (h : lt x v = true) : ∀ q y, c ≤ q → q < b → l[q]? = some y → lt x y = true := by
  intro q y hq hqb hy
  by_cases he : q = c
  · subst he; rw [hc] at hy; cases hy; exact h
  · have h3 := hs c q v y h1 (by omega) hqb hc hy
    cases h4 : lt x y
    · have := w.trans v y x h3 h4
      rw [h] at this; exact absurd this (by simp)
    · rfl
end
variable {P : Program} {k : Nat} {α : Type} [Inhabited α]
set_option maxHeartbeats 8000000 in
set_option maxRecDepth 1000000 in
theorem symA_st (L : StL P k) (enc : α → List Value) (cf : α → α → Int) (g : Nat) (cb : Array Value) (blk off cap : Nat) (d0 d : Array α) (w0 w : World) (a m b : Nat) (eg : ∀ args w, (callFunc g args).run P w = .ok (.enter g args) w) (hcmp : CmpLays P g cb enc k cf blk off d0.size w0) (R : RowK enc k w0 blk off d0) (hs : d0.size = d.size) (S : SWK enc k w0 blk off d w) (hsz : d.size < 1152921504606846976) (hw : Stb.SW (ltOf cf)) (ham : m = a + 1) (hmb : m ≤ b) (hb : b ≤ d.size) (hs2 : Stb.Srt (ltOf cf) d.toList m b) :
    Calls P 111 #[.slice (some ⟨blk, off, none⟩) d.size cap, .int .i64 a, .int .i64 m, .int .i64 b, .func (.func g) #[] cb] w fun e w' => e = .returned (.tuple #[]) ∧ ∃ d', d'.size = d.size ∧ SWK enc k w0 blk off d' w' ∧ Stb.Loc (ltOf cf) a b d.toList d'.toList ∧ Stb.Srt (ltOf cf) d'.toList a b := by
  have mixed := L.mixed; have t0 := L.t0; have a0 := L.a0; have z0 := L.z0; have v0 := L.v0; have t3 := L.t3; have a3 := L.a3; have z3 := L.z3; have v3 := L.v3; have t4 := L.t4; have a4 := L.a4; have z4 := L.z4; have v4 := L.v4; have tS := L.tS; have aS := L.aS; have zS := L.zS; have vS := L.vS; have tF := L.tF; have aF := L.aF; have zF := L.zF; have vF := L.vF; have tU := L.tU; have aU := L.aU; have zU := L.zU; have vU := L.vU; have aE := L.aE; have zE := L.zE
  have uS := run_underlying L.tS; have u3 := run_underlying L.t3; have uU := run_underlying L.tU
  have HC : Aside _ := hcmp
  have HW := Lib.hid hw
  have HS2 := Lib.hid hs2
  have S0 : Aside _ := S
  have hm1 : (m : Int) - (a : Int) = 1 := by omega
  have HAm := Lib.hid ham
  have hq1 : m ≤ a + 1 := by omega
  have hq2 : a + 1 ≤ m := by omega
  clear hcmp S hw hs2 ham
  go_enter L.fsymMerge, Tryd.ntmps111
  go_wp2_with fail
  go_loopg [10, 11] (b - m) (fun kx s10 s11 wr => ∃ (i j : Nat), s10 = .int .i64 i ∧ s11 = .int .i64 j ∧ m ≤ i ∧ i ≤ j ∧ j ≤ b ∧ j - i ≤ kx ∧ Aside (SWK enc k w0 blk off d wr) ∧ Hid (∀ q y, m ≤ q → q < i → d.toList[q]? = some y → ltOf cf y d[a]! = true) ∧ Hid (∀ q y, j ≤ q → q < b → d.toList[q]? = some y → ltOf cf y d[a]! = false))
  case atStart => exact ⟨m, b, rfl, rfl, Nat.le_refl _, hmb, Nat.le_refl _, Nat.le_refl _, S0, (show Hid _ from fun q y h1 h2 => by omega), (show Hid _ from fun q y h1 h2 => by omega)⟩
  case round =>
    clear S0
    obtain ⟨i, j, rfl, rfl, hi, hij, hj, hkx, S1, HLo, HHi⟩ := hrel
    by_cases hlt : i < j
    · have hltz : (i : Int) < (j : Int) := by omega
      obtain ⟨c, hc⟩ : ∃ c, c = (i + j) / 2 := ⟨_, rfl⟩
      have hcz : ((i : Int) + (j : Int)) / 2 = (c : Int) := by omega
      have hci : i ≤ c := by omega
      have hcj : c < j := by omega
      have HV : Hid (d.toList[c]? = some d[c]!) := arr_get (by omega)
      clear hc
      by_cases hv : cf d[c]! d[a]! < 0
      · have HLt := Lib.hid (lts_true hv)
        have ea1 : ((c : Int)).toNat = c := by omega
        have pa1 : (0 : Int) ≤ (c : Int) := by omega
        have ba1 : (c : Int) < (d.size : Int) := by omega
        have ra1 : IntKind.i64.wrap ((c : Int)) = (c : Int) := by rw [IntKind.wrap_i64]; omega
        have ec1 : ((a : Int)).toNat = a := by omega
        have pc1 : (0 : Int) ≤ (a : Int) := by omega
        have bc1 : (a : Int) < (d.size : Int) := by omega
        have rc1 : IntKind.i64.wrap ((a : Int)) = (a : Int) := by rw [IntKind.wrap_i64]; omega
        obtain ⟨x1, hx1⟩ : ∃ x, x = d[c]! := ⟨_, rfl⟩
        obtain ⟨y1, hy1⟩ : ∃ x, x = d[a]! := ⟨_, rfl⟩
        have l1a := S1.out.ld R (by omega) P (c) (by omega)
        have l1b := S1.out.ld R (by omega) P (a) (by omega)
        rw [← hx1] at l1a
        rw [← hy1] at l1b
        have hc1 := S1.out.cmp HC.out (by omega) x1 y1
        have hv1 : cf x1 y1 < 0 := by rw [hx1, hy1]; exact hv
        have hd1 : decide (cf x1 y1 < 0) = true := decide_eq_true hv1
        clear hx1 hy1
        go_wp2_with fail
        go_quiet_grown (first | (go_at_fn g; refine Calls.grown_of (hc1 _ _)))
        have S2 : Aside (SWK enc k w0 blk off d (grow (wr.drewN nq) osq)) := S1.out.grown nq osq
        clear l1a l1b hc1 S1 hv1 hd1
        generalize grow (wr.drewN nq) osq = w2 at S2 ⊢
        clear nq osq
        clear ea1 pa1 ba1 ra1 ec1 pc1 bc1 rc1
        go_wp2
        go_roundg (j - (c + 1))
        case measure => omega
        case rel => exact ⟨c + 1, j, by go_num, rfl, by omega, by omega, hj, Nat.le_refl _, S2, (show Hid _ from fun q y h1 h2 h3 => srch_le HW.out HS2.out HV.out (by omega) (by omega) HLt.out q y h1 (by omega) h3), HHi⟩
      · have HLt := Lib.hid (lts_false hv)
        have ea2 : ((c : Int)).toNat = c := by omega
        have pa2 : (0 : Int) ≤ (c : Int) := by omega
        have ba2 : (c : Int) < (d.size : Int) := by omega
        have ra2 : IntKind.i64.wrap ((c : Int)) = (c : Int) := by rw [IntKind.wrap_i64]; omega
        have ec2 : ((a : Int)).toNat = a := by omega
        have pc2 : (0 : Int) ≤ (a : Int) := by omega
        have bc2 : (a : Int) < (d.size : Int) := by omega
        have rc2 : IntKind.i64.wrap ((a : Int)) = (a : Int) := by rw [IntKind.wrap_i64]; omega
        obtain ⟨x2, hx2⟩ : ∃ x, x = d[c]! := ⟨_, rfl⟩
        obtain ⟨y2, hy2⟩ : ∃ x, x = d[a]! := ⟨_, rfl⟩
        have l2a := S1.out.ld R (by omega) P (c) (by omega)
        have l2b := S1.out.ld R (by omega) P (a) (by omega)
        rw [← hx2] at l2a
        rw [← hy2] at l2b
        have hc2 := S1.out.cmp HC.out (by omega) x2 y2
        have hv2 : ¬ cf x2 y2 < 0 := by rw [hx2, hy2]; exact hv
        have hd2 : decide (cf x2 y2 < 0) = false := decide_eq_false hv2
        clear hx2 hy2
        go_wp2_with fail
        go_quiet_grown (first | (go_at_fn g; refine Calls.grown_of (hc2 _ _)))
        have S2 : Aside (SWK enc k w0 blk off d (grow (wr.drewN nq) osq)) := S1.out.grown nq osq
        clear l2a l2b hc2 S1 hv2 hd2
        generalize grow (wr.drewN nq) osq = w2 at S2 ⊢
        clear nq osq
        clear ea2 pa2 ba2 ra2 ec2 pc2 bc2 rc2
        go_wp2
        go_roundg (c - i)
        case measure => omega
        case rel => exact ⟨i, c, rfl, rfl, hi, hci, by omega, Nat.le_refl _, S2, HLo, (show Hid _ from fun q y h1 h2 h3 => srch_ge HW.out HS2.out HV.out (by omega) (by omega) HLt.out q y h1 h2 h3)⟩
    · obtain rfl : j = i := by omega
      have hltz : ¬ (j : Int) < (j : Int) := by omega
      have HA : Hid (d.toList[a]? = some d[a]!) := arr_get (by omega)
      go_wp2_with fail
      go_loopg [13] (j - 1 - a) (fun kx s13 wr => ∃ (x : Nat) (dk : Array α), s13 = .int .i64 x ∧ a ≤ x ∧ x + 1 ≤ j ∧ j - 1 - x ≤ kx ∧ dk.size = d.size ∧ Aside (SWK enc k w0 blk off dk wr) ∧ Hid (dk.toList = Stb.rot d.toList a (a + 1) (x + 1)))
      case atStart => exact ⟨a, d, rfl, Nat.le_refl _, by omega, Nat.le_refl _, rfl, S1, (show Hid _ from (Stb.rot_nil' d.toList a (a + 1) (by omega) (by rw [Array.length_toList]; omega)).symm)⟩
      case round =>
        clear S1
        obtain ⟨x, dk, rfl, hxa, hxj, hkx2, hds, S2, HE⟩ := hrel
        by_cases hlt2 : x + 1 < j
        · have hltz2 : (x : Int) < (j : Int) - 1 := by omega
          have ea3 : ((x : Int)).toNat = x := by omega
          have pa3 : (0 : Int) ≤ (x : Int) := by omega
          have ba3 : (x : Int) < (d.size : Int) := by omega
          have ra3 : IntKind.i64.wrap ((x : Int)) = (x : Int) := by rw [IntKind.wrap_i64]; omega
          have ec3 : ((x : Int) + 1).toNat = x + 1 := by omega
          have pc3 : (0 : Int) ≤ (x : Int) + 1 := by omega
          have bc3 : (x : Int) + 1 < (d.size : Int) := by omega
          have rc3 : IntKind.i64.wrap ((x : Int) + 1) = (x : Int) + 1 := by rw [IntKind.wrap_i64]; omega
          have S3 : Aside (SWK enc k w0 blk off (swp dk (x) (x + 1)) ((wr.drew.setCells blk (off + (x) * k) (enc dk[x + 1]!)).setCells blk (off + (x + 1) * k) (enc dk[x]!))) := S2.out.swapped R (x) (x + 1) (by omega) (by omega)
          have l3a := S2.out.ld1 R (by omega) P (x) (by omega)
          have l3b := S2.out.ld1 R (by omega) P (x + 1) (by omega)
          have s3a := S2.out.st1 R (by omega) P (x) (by omega) dk[x + 1]!
          have s3b := S2.out.st2 R (by omega) P (x) (x + 1) (by omega) (by omega) dk[x + 1]! dk[x]!
          have n3a : (enc dk[x]!).length = k := R.hk _
          have n3b : (enc dk[x + 1]!).length = k := R.hk _
          generalize enc dk[x]! = cI3 at S3 l3a s3b n3a
          generalize enc dk[x + 1]! = cJ3 at S3 l3b s3a s3b n3b
          clear S2
          go_wp2_with fail
          go_big_region_o
          clear l3a l3b s3a s3b
          generalize (wr.drew.setCells blk (off + (x) * k) cJ3).setCells blk (off + (x + 1) * k) cI3 = w3 at S3 ⊢
          clear n3a n3b ea3 pa3 ba3 ra3 ec3 pc3 bc3 rc3
          go_wp2
          go_roundg (j - 1 - (x + 1))
          case measure => omega
          case rel => exact ⟨x + 1, swp dk x (x + 1), by go_num, by omega, by omega, Nat.le_refl _, by rw [size_swp]; exact hds, S3, (show Hid _ from by show _ = _; rw [arr_swp (by omega) (by omega), HE.out]; exact Stb.rot_up hxa (by rw [Array.length_toList]; omega))⟩
        · have hltz2 : ¬ (x : Int) < (j : Int) - 1 := by omega
          go_wp2
          (try simp only [Exit.inBlock, Exit.then])
          refine bodyPost_ret (results_none rfl _ _ _) rfl ?_
          have hmg := Stb.merge_left HW.out (i := j) (show Stb.Srt (ltOf cf) d.toList (a + 1) b by rw [← HAm.out]; exact HS2.out) HA.out (by omega) hj (by rw [Array.length_toList]; omega) (fun q y h1 h2 h3 => HLo.out q y (by omega) h2 h3) (fun q y h1 h2 h3 => HHi.out q y h1 h2 h3)
          rw [← show x + 1 = j by omega, ← HE.out] at hmg
          exact ⟨rfl, dk, hds, S2.out, hmg.1, hmg.2⟩

set_option maxHeartbeats 8000000 in
set_option maxRecDepth 1000000 in
theorem symB_st (L : StL P k) (enc : α → List Value) (cf : α → α → Int) (g : Nat) (cb : Array Value) (blk off cap : Nat) (d0 d : Array α) (w0 w : World) (a m b : Nat) (eg : ∀ args w, (callFunc g args).run P w = .ok (.enter g args) w) (hcmp : CmpLays P g cb enc k cf blk off d0.size w0) (R : RowK enc k w0 blk off d0) (hs : d0.size = d.size) (S : SWK enc k w0 blk off d w) (hsz : d.size < 1152921504606846976) (hw : Stb.SW (ltOf cf)) (ham : a < m) (hm1 : m ≠ a + 1) (hmb : b = m + 1) (hb : b ≤ d.size) (hs1 : Stb.Srt (ltOf cf) d.toList a m) :
    Calls P 111 #[.slice (some ⟨blk, off, none⟩) d.size cap, .int .i64 a, .int .i64 m, .int .i64 b, .func (.func g) #[] cb] w fun e w' => e = .returned (.tuple #[]) ∧ ∃ d', d'.size = d.size ∧ SWK enc k w0 blk off d' w' ∧ Stb.Loc (ltOf cf) a b d.toList d'.toList ∧ Stb.Srt (ltOf cf) d'.toList a b := by
  have mixed := L.mixed; have t0 := L.t0; have a0 := L.a0; have z0 := L.z0; have v0 := L.v0; have t3 := L.t3; have a3 := L.a3; have z3 := L.z3; have v3 := L.v3; have t4 := L.t4; have a4 := L.a4; have z4 := L.z4; have v4 := L.v4; have tS := L.tS; have aS := L.aS; have zS := L.zS; have vS := L.vS; have tF := L.tF; have aF := L.aF; have zF := L.zF; have vF := L.vF; have tU := L.tU; have aU := L.aU; have zU := L.zU; have vU := L.vU; have aE := L.aE; have zE := L.zE
  have uS := run_underlying L.tS; have u3 := run_underlying L.t3; have uU := run_underlying L.tU
  have HC : Aside _ := hcmp
  have HW := Lib.hid hw
  have HS1 := Lib.hid hs1
  have S0 : Aside _ := S
  have hz1 : ((m : Int) - (a : Int) == 1) = false := by simp; omega
  have hz2 : (b : Int) - (m : Int) = 1 := by omega
  have HBm := Lib.hid hmb
  have hq1 : b ≤ m + 1 := by omega
  have hq2 : m + 1 ≤ b := by omega
  clear hcmp S hw hs1 hmb
  go_enter L.fsymMerge, Tryd.ntmps111
  go_wp2_with fail
  go_loopg [14, 15] (m - a) (fun kx s14 s15 wr => ∃ (i j : Nat), s14 = .int .i64 i ∧ s15 = .int .i64 j ∧ a ≤ i ∧ i ≤ j ∧ j ≤ m ∧ j - i ≤ kx ∧ Aside (SWK enc k w0 blk off d wr) ∧ Hid (∀ q y, a ≤ q → q < i → d.toList[q]? = some y → ltOf cf d[m]! y = false) ∧ Hid (∀ q y, j ≤ q → q < m → d.toList[q]? = some y → ltOf cf d[m]! y = true))
  case atStart => exact ⟨a, m, rfl, rfl, Nat.le_refl _, by omega, Nat.le_refl _, Nat.le_refl _, S0, (show Hid _ from fun q y h1 h2 => by omega), (show Hid _ from fun q y h1 h2 => by omega)⟩
  case round =>
    clear S0
    obtain ⟨i, j, rfl, rfl, hi, hij, hj, hkx, S1, HLo, HHi⟩ := hrel
    by_cases hlt : i < j
    · have hltz : (i : Int) < (j : Int) := by omega
      obtain ⟨c, hc⟩ : ∃ c, c = (i + j) / 2 := ⟨_, rfl⟩
      have hcz : ((i : Int) + (j : Int)) / 2 = (c : Int) := by omega
      have hci : i ≤ c := by omega
      have hcj : c < j := by omega
      have HV : Hid (d.toList[c]? = some d[c]!) := arr_get (by omega)
      clear hc
      by_cases hv : cf d[m]! d[c]! < 0
      · have HLt := Lib.hid (lts_true hv)
        have ea1 : ((m : Int)).toNat = m := by omega
        have pa1 : (0 : Int) ≤ (m : Int) := by omega
        have ba1 : (m : Int) < (d.size : Int) := by omega
        have ra1 : IntKind.i64.wrap ((m : Int)) = (m : Int) := by rw [IntKind.wrap_i64]; omega
        have ec1 : ((c : Int)).toNat = c := by omega
        have pc1 : (0 : Int) ≤ (c : Int) := by omega
        have bc1 : (c : Int) < (d.size : Int) := by omega
        have rc1 : IntKind.i64.wrap ((c : Int)) = (c : Int) := by rw [IntKind.wrap_i64]; omega
        obtain ⟨x1, hx1⟩ : ∃ x, x = d[m]! := ⟨_, rfl⟩
        obtain ⟨y1, hy1⟩ : ∃ x, x = d[c]! := ⟨_, rfl⟩
        have l1a := S1.out.ld R (by omega) P (m) (by omega)
        have l1b := S1.out.ld R (by omega) P (c) (by omega)
        rw [← hx1] at l1a
        rw [← hy1] at l1b
        have hc1 := S1.out.cmp HC.out (by omega) x1 y1
        have hv1 : cf x1 y1 < 0 := by rw [hx1, hy1]; exact hv
        have hd1 : decide (cf x1 y1 < 0) = true := decide_eq_true hv1
        clear hx1 hy1
        go_wp2_with fail
        go_quiet_grown (first | (go_at_fn g; refine Calls.grown_of (hc1 _ _)))
        have S2 : Aside (SWK enc k w0 blk off d (grow (wr.drewN nq) osq)) := S1.out.grown nq osq
        clear l1a l1b hc1 S1 hv1 hd1
        generalize grow (wr.drewN nq) osq = w2 at S2 ⊢
        clear nq osq
        clear ea1 pa1 ba1 ra1 ec1 pc1 bc1 rc1
        go_wp2
        go_roundg (c - i)
        case measure => omega
        case rel => exact ⟨i, c, rfl, rfl, hi, hci, by omega, Nat.le_refl _, S2, HLo, (show Hid _ from fun q y h1 h2 h3 => srch_ge' HW.out HS1.out HV.out (by omega) (by omega) HLt.out q y h1 h2 h3)⟩
      · have HLt := Lib.hid (lts_false hv)
        have ea2 : ((m : Int)).toNat = m := by omega
        have pa2 : (0 : Int) ≤ (m : Int) := by omega
        have ba2 : (m : Int) < (d.size : Int) := by omega
        have ra2 : IntKind.i64.wrap ((m : Int)) = (m : Int) := by rw [IntKind.wrap_i64]; omega
        have ec2 : ((c : Int)).toNat = c := by omega
        have pc2 : (0 : Int) ≤ (c : Int) := by omega
        have bc2 : (c : Int) < (d.size : Int) := by omega
        have rc2 : IntKind.i64.wrap ((c : Int)) = (c : Int) := by rw [IntKind.wrap_i64]; omega
        obtain ⟨x2, hx2⟩ : ∃ x, x = d[m]! := ⟨_, rfl⟩
        obtain ⟨y2, hy2⟩ : ∃ x, x = d[c]! := ⟨_, rfl⟩
        have l2a := S1.out.ld R (by omega) P (m) (by omega)
        have l2b := S1.out.ld R (by omega) P (c) (by omega)
        rw [← hx2] at l2a
        rw [← hy2] at l2b
        have hc2 := S1.out.cmp HC.out (by omega) x2 y2
        have hv2 : ¬ cf x2 y2 < 0 := by rw [hx2, hy2]; exact hv
        have hd2 : decide (cf x2 y2 < 0) = false := decide_eq_false hv2
        clear hx2 hy2
        go_wp2_with fail
        go_quiet_grown (first | (go_at_fn g; refine Calls.grown_of (hc2 _ _)))
        have S2 : Aside (SWK enc k w0 blk off d (grow (wr.drewN nq) osq)) := S1.out.grown nq osq
        clear l2a l2b hc2 S1 hv2 hd2
        generalize grow (wr.drewN nq) osq = w2 at S2 ⊢
        clear nq osq
        clear ea2 pa2 ba2 ra2 ec2 pc2 bc2 rc2
        go_wp2
        go_roundg (j - (c + 1))
        case measure => omega
        case rel => exact ⟨c + 1, j, by go_num, rfl, by omega, by omega, hj, Nat.le_refl _, S2, (show Hid _ from fun q y h1 h2 h3 => srch_le' HW.out HS1.out HV.out (by omega) (by omega) HLt.out q y h1 (by omega) h3), HHi⟩
    · obtain rfl : j = i := by omega
      have hltz : ¬ (j : Int) < (j : Int) := by omega
      have HA : Hid (d.toList[m]? = some d[m]!) := arr_get (by omega)
      go_wp2_with fail
      go_loopg [17] (m - j) (fun kx s17 wr => ∃ (x : Nat) (dk : Array α), s17 = .int .i64 x ∧ j ≤ x ∧ x ≤ m ∧ x - j ≤ kx ∧ dk.size = d.size ∧ Aside (SWK enc k w0 blk off dk wr) ∧ Hid (dk.toList = Stb.rot d.toList x m (m + 1)))
      case atStart => exact ⟨m, d, rfl, hj, Nat.le_refl _, Nat.le_refl _, rfl, S1, (show Hid _ from (Stb.rot_nil d.toList m (m + 1) (by omega) (by rw [Array.length_toList]; omega)).symm)⟩
      case round =>
        clear S1
        obtain ⟨x, dk, rfl, hxj, hxm, hkx2, hds, S2, HE⟩ := hrel
        by_cases hlt2 : j < x
        · have hltz2 : (j : Int) < (x : Int) := by omega
          obtain ⟨xm, hxm1⟩ : ∃ xm, xm = x - 1 := ⟨_, rfl⟩
          have hx1 : (x : Int) - 1 = (xm : Int) := by omega
          have hxl : xm < d.size := by omega
          have HXm := Lib.hid hxm1
          clear hxm1
          have ea3 : ((x : Int)).toNat = x := by omega
          have pa3 : (0 : Int) ≤ (x : Int) := by omega
          have ba3 : (x : Int) < (d.size : Int) := by omega
          have ra3 : IntKind.i64.wrap ((x : Int)) = (x : Int) := by rw [IntKind.wrap_i64]; omega
          have ec3 : ((xm : Int)).toNat = xm := by omega
          have pc3 : (0 : Int) ≤ (xm : Int) := by omega
          have bc3 : (xm : Int) < (d.size : Int) := by omega
          have rc3 : IntKind.i64.wrap ((xm : Int)) = (xm : Int) := by rw [IntKind.wrap_i64]; omega
          have S3 : Aside (SWK enc k w0 blk off (swp dk (x) (xm)) ((wr.drew.setCells blk (off + (x) * k) (enc dk[xm]!)).setCells blk (off + (xm) * k) (enc dk[x]!))) := S2.out.swapped R (x) (xm) (by omega) (by omega)
          have l3a := S2.out.ld1 R (by omega) P (x) (by omega)
          have l3b := S2.out.ld1 R (by omega) P (xm) (by omega)
          have s3a := S2.out.st1 R (by omega) P (x) (by omega) dk[xm]!
          have s3b := S2.out.st2 R (by omega) P (x) (xm) (by omega) (by omega) dk[xm]! dk[x]!
          have n3a : (enc dk[x]!).length = k := R.hk _
          have n3b : (enc dk[xm]!).length = k := R.hk _
          generalize enc dk[x]! = cI3 at S3 l3a s3b n3a
          generalize enc dk[xm]! = cJ3 at S3 l3b s3a s3b n3b
          clear S2
          go_wp2_with fail
          go_big_region_o
          clear l3a l3b s3a s3b
          generalize (wr.drew.setCells blk (off + (x) * k) cJ3).setCells blk (off + (xm) * k) cI3 = w3 at S3 ⊢
          clear n3a n3b ea3 pa3 ba3 ra3 ec3 pc3 bc3 rc3
          go_wp2
          go_roundg (x - 1 - j)
          case measure => omega
          case rel =>
            have hxm1 := HXm.out
            exact ⟨x - 1, swp dk x xm, by rw [show ((x - 1 : Nat) : Int) = (xm : Int) by omega], by omega, by omega, Nat.le_refl _, by rw [size_swp]; exact hds, S3, (show Hid _ from by show _ = _; rw [arr_swp (by omega) (by omega), HE.out, hxm1]; exact Stb.rot_down (by omega) hxm (by rw [Array.length_toList]; omega))⟩
        · have hltz2 : ¬ (j : Int) < (x : Int) := by omega
          go_wp2
          (try simp only [Exit.inBlock, Exit.then])
          refine bodyPost_ret (results_none rfl _ _ _) rfl ?_
          have hmg := Stb.merge_right HW.out (i := j) HS1.out HA.out hi (by omega) (by rw [Array.length_toList]; omega) (fun q y h1 h2 h3 => HLo.out q y h1 h2 h3) (fun q y h1 h2 h3 => HHi.out q y h1 h2 h3)
          rw [← show x = j by omega, ← HE.out, ← HBm.out] at hmg
          exact ⟨rfl, dk, hds, S2.out, hmg.1, hmg.2⟩
end Go.Proofs.YtagfedbdakmlgaaDoor
