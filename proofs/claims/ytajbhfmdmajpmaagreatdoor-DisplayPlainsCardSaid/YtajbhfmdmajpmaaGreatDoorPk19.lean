/- Laid together: The walk of display.Shows. -/
import Derived.Test.YtajbhfmdmajpmaaGreatDoorPk18
import Derived.Test.YtajbhfmdmajpmaaGreatDoorPk12
import Derived.Test.YtajbhfmdmajpmaaGreatDoorPk15

/-! ShwD -/
namespace Go.Proofs.YtajbhfmdmajpmaaGreatDoor
set_option linter.unusedVariables false
set_option linter.unusedSimpArgs false
open Go.RowKit Go.Shelf Go.Sort
theorem wp_alloc_show {o : Oper} {a : Act} {w : World} {K : Act → World → Prop} {Q : Exit → Act → World → Prop} (ho : o.op = .alloc 64) (h : K (a.put o.dst (.pointer (some ⟨w.heap.size, 0, none⟩))) (w.alloc (.cells #[.int .i64 0, .int .i64 0, .slice none 0 0] 64))) : o.wp Tryz.prog a w K Q := by
  obtain ⟨dst, op, ty, pos, after, guard⟩ := o
  simp only at ho
  subst ho
  go_simp
  exact h
theorem wp_ix_i64 {o : Oper} {a : Act} {w : World} {K : Act → World → Prop} {Q : Exit → Act → World → Prop} {s s' : Nat} {b off n c k : Nat} (ho : o.op = .indexAddr 71 (.tmp s) (.tmp s')) (hx : a.eval (.tmp s) = .slice (some ⟨b, off, none⟩) n c) (hy : a.eval (.tmp s') = .int .i64 k) (hk : k < n) (h : K (a.put o.dst (.pointer (some ⟨b, off + k, none⟩))) w) : o.wp Tryz.prog a w K Q := by
  obtain ⟨dst, op, ty, pos, after, guard⟩ := o
  simp only at ho
  subst ho
  have fx : a.tmps[s]?.getD undef = .slice (some ⟨b, off, none⟩) n c := by simpa [Act.eval] using hx
  have fy : a.tmps[s']?.getD undef = .int .i64 k := by simpa [Act.eval] using hy
  clear hx hy
  go_simp
  exact h
theorem wp_build2 {P : Program} {o : Oper} {a : Act} {w : World} {K : Act → World → Prop} {Q : Exit → Act → World → Prop} (t : TypeId) (x y : Operand) (ho : o.op = .build t #[(0, x), (1, y)]) {vx vy : Value} (hx : a.eval x = vx) (hy : a.eval y = vy) (cells : Array Value) (hb : P.built t [(0, vx), (1, vy)] = some cells) (h : K (a.put o.dst (.agg cells)) w) : o.wp P a w K Q := by
  have e : (#[((0 : Nat), x), (1, y)].map fun (i, x) => (i, a.eval x)).toList = [(0, vx), (1, vy)] := by simp [hx, hy]
  have hb' : P.built t (#[((0 : Nat), x), (1, y)].map fun (i, x) => (i, a.eval x)).toList = some cells := by rw [e]; exact hb
  unfold Oper.wp execOp
  simp only [ho, Sem.run_bind, run_build w t _ _ hb', Result.andThen_ok]
  exact h
/-- a show made and filled in a drawn region -/
structure ShwJ (W : World) (a b : Int) (l : List Gl) (us : List Value) (gs : Nat → Option Nat) (w : World) : Prop where
  ext : Ext W w
  val : ∀ u, us[0]? = some u → ∃ A c, u = .slice A l.length c ∧ GlsAt w A l.length l ∧ l.length ≤ c ∧ ∀ ad, A = some ad → W.heap.size ≤ ad.block ∧ Typed w 58 ad.block
  snd : ∀ u v, us[0]? = some u → us[1]? = some v → v = .agg #[.int .i64 a, .int .i64 b, u]
  va : ∀ g, gs 18 = some g → W.heap.size ≤ g ∧ ∃ cs, cs.size = 3 ∧ Blk w g 64 cs ∧ (2 < us.length → ∃ u, us[0]? = some u ∧ cs = #[.int .i64 a, .int .i64 b, u])
section
variable {W w w5 : World} {a b : Int} {l : List Gl} {us : List Value} {gs : Nat → Option Nat}
theorem ShwJ.start (W : World) : ShwJ W a b l [] (fun _ => none) W.drew := ⟨(Ext.refl W).drew, fun u h => by simp at h, fun u v h => by simp at h, fun g h => by cases h⟩
theorem ShwJ.valX {k : Ext w w5} (h : ∀ u, us[0]? = some u → ∃ A c, u = .slice A l.length c ∧ GlsAt w A l.length l ∧ l.length ≤ c ∧ ∀ ad, A = some ad → W.heap.size ≤ ad.block ∧ Typed w 58 ad.block) :
    ∀ u, us[0]? = some u → ∃ A c, u = .slice A l.length c ∧ GlsAt w5 A l.length l ∧ l.length ≤ c ∧ ∀ ad, A = some ad → W.heap.size ≤ ad.block ∧ Typed w5 58 ad.block := fun u hu => by
  obtain ⟨A, c, h1, h2, h3, h4⟩ := h u hu
  exact ⟨A, c, h1, h2.ext k, h3, fun ad e => ⟨(h4 ad e).1, (h4 ad e).2.kb (KB.ext k)⟩⟩
theorem ShwJ.alloc (h : ShwJ W a b l us gs w) (hl : us.length ≤ 2) : ShwJ W a b l us (upd gs 18 w.heap.size) (w.alloc (.cells #[.int .i64 0, .int .i64 0, .slice none 0 0] 64)) := by
  have hx : Ext w (w.alloc (.cells #[.int .i64 0, .int .i64 0, .slice none 0 0] 64)) := (Ext.refl w).alloc _
  refine ⟨h.ext.trans hx, ShwJ.valX (k := hx) h.val, h.snd, fun g hg => ?_⟩
  rw [upd_self] at hg
  obtain rfl : w.heap.size = g := Option.some.inj hg
  exact ⟨h.ext.size, _, rfl, Blk.new w _ _, fun h' => absurd h' (by omega)⟩
theorem ShwJ.call {A : Option Addr} {c : Nat} (h : ShwJ W a b l [] gs w) (hx : Ext w w5) (hg : GlsAt w5 A l.length l) (hc : l.length ≤ c) (hl : ∀ ad, A = some ad → w.heap.size ≤ ad.block ∧ Typed w5 58 ad.block) : ShwJ W a b l ([] ++ [.slice A l.length c]) gs w5 := by
  refine ⟨h.ext.trans hx, fun u hu => ?_, fun u v hu hv => by simp at hv, fun g hg' => ?_⟩
  · simp at hu
    subst hu
    exact ⟨A, c, rfl, hg, hc, fun ad e => ⟨Nat.le_trans h.ext.size (hl ad e).1, (hl ad e).2⟩⟩
  · obtain ⟨h1, cs, h2, h3, h4⟩ := h.va g hg'
    exact ⟨h1, cs, h2, h3.ext hx, fun h' => by simp at h'⟩
theorem ShwJ.build {u0 : Value} (h : ShwJ W a b l [u0] gs w) : ShwJ W a b l ([u0] ++ [.agg #[.int .i64 a, .int .i64 b, u0]]) gs w := by
  refine ⟨h.ext, fun u hu => h.val u (by simpa using hu), fun u v hu hv => ?_, fun g hg => ?_⟩
  · simp at hu hv
    subst hu; subst hv; rfl
  · obtain ⟨h1, cs, h2, h3, h4⟩ := h.va g hg
    exact ⟨h1, cs, h2, h3, fun h' => by simp at h'⟩
theorem ShwJ.store {u0 u1 v : Value} {g : Nat} (h : ShwJ W a b l [u0, u1] gs w) (hg : gs 18 = some g) : ShwJ W a b l ([u0, u1] ++ [v]) gs (putB w g 64 #[.int .i64 a, .int .i64 b, u0]) := by
  obtain ⟨h1, cs, h2, h3, h4⟩ := h.va g hg
  have hO : KB 58 w (putB w g 64 #[.int .i64 a, .int .i64 b, u0]) := KB.put h3 (by decide)
  refine ⟨h.ext.put h1 _ _, fun u hu => ?_, fun u v' hu hv => h.snd u v' (by simpa using hu) (by simpa using hv), fun g' hg' => ?_⟩
  · obtain ⟨A, c, k1, k2, k3, k4⟩ := h.val u (by simpa using hu)
    exact ⟨A, c, k1, k2.kb (fun ad e => (k4 ad e).2) hO, k3, fun ad e => ⟨(k4 ad e).1, (k4 ad e).2.kb hO⟩⟩
  · rw [hg] at hg'
    obtain rfl : g = g' := Option.some.inj hg'
    exact ⟨h1, _, rfl, h3.put _, fun _ => ⟨u0, rfl, rfl⟩⟩
theorem ShwJ.end_ {u0 u1 u2 : Value} {g : Nat} (h : ShwJ W a b l [u0, u1, u2] gs w) (hg : gs 18 = some g) : ∃ A c, u0 = .slice A l.length c ∧ Ext W w ∧ W.heap.size ≤ g ∧ Blk w g 64 #[.int .i64 a, .int .i64 b, .slice A l.length c] ∧ GlsAt w A l.length l ∧ l.length ≤ c ∧ ∀ ad, A = some ad → W.heap.size ≤ ad.block ∧ Typed w 58 ad.block := by
  obtain ⟨A, c, rfl, k2, k3, k4⟩ := h.val u0 rfl
  obtain ⟨h1, cs, h2, h3, h4⟩ := h.va g hg
  obtain ⟨u, hu, rfl⟩ := h4 (by simp)
  simp at hu
  subst hu
  exact ⟨A, c, rfl, h.ext, h1, h3, k2, k3, k4⟩
end
def TmRel (w1 : World) (n : Nat) (l : List Ev) (v i : Value) (wr : World) : Prop :=
  ∃ k : Nat, k ≤ n ∧ i = .int .i64 k ∧ Ext w1 wr ∧ wr.ownsRow w1.heap.size 2 1 v (evTs (l.take k)).length ((evTs (l.take k)).flatMap fun x => [Value.int .i64 x])
def ShwRel (w3 : World) (S : Int → List Gl) (t : List Int) (v i : Value) (wr : World) : Prop :=
  ∃ (k k1 : Nat) (ps : List ShP), k1 = k + 1 ∧ k ≤ t.length ∧ i = .int .i64 k1 ∧ Ext w3 wr ∧ ShOwn wr w3.heap.size v ps ∧ ps.map (·.1) = shL S (t.take (k + 1))
theorem ints2_new {w : World} {g : Nat} {a b : Int} (hg : g = w.heap.size) : IntsAt (w.alloc (.cells #[.int .i64 a, .int .i64 b] 2)) (some ⟨g, 0, none⟩) 2 [a, b] := by
  have hB : Blk (w.alloc (.cells #[.int .i64 a, .int .i64 b] 2)) g 2 #[.int .i64 a, .int .i64 b] := Blk.new' hg
  refine ⟨rfl, fun _ => ⟨g, 0, rfl, fun i x hx j u hu => ?_⟩⟩
  match i, hx with
  | 0, hx => simp at hx; subst hx; match j, hu with
    | 0, hu => simp at hu; subst hu; exact hB.cell 0
    | j + 1, hu => simp at hu
  | 1, hx => simp at hx; subst hx; match j, hu with
    | 0, hu => simp at hu; subst hu; exact hB.cell 1
    | j + 1, hu => simp at hu
  | i + 2, hx => simp at hx
set_option maxRecDepth 100000 in
set_option maxHeartbeats 16000000 in
theorem Shows_any (d : Doc) (h : DocH) (w : World) (hE : Env w) (hat : DocAt w d h) (hf : DocFit d) (hrn : h.rn ≤ 9223372036854775807) (hn : h.en ≤ 1000000) (hcn : h.cn ≤ 1000000) :
    Calls Tryz.prog 17 #[.agg (d.cells h)] w (ShowsPost d.err d.shw w) := by
  have HAt := Lib.hid hat
  have HCk := Lib.hid (fun w' (hx : Ext w w') => DCheck_any d h w' (hE.ext hx) (hat.ext hx) hf hrn hn (by omega))
  have HSc := Lib.hid (fun f w' (hx : Ext w w') (h0 : d.err = 0) => GScreen_any d h f w' (hE.ext hx) (hat.ext hx) hf hrn hn h0)
  have HLn := Lib.hid hat.evs.len
  have V1 : Hid (d.err ≠ 0 → d.shw = []) := fun h => by unfold Doc.shw; rw [if_neg h]
  have V2 : Hid (d.err = 0 → d.shw = shL d.scr d.tms) := fun h => by unfold Doc.shw Doc.shows; rw [if_pos h]
  have VT : Hid (Lib.compact (srtT (evTs d.evs)) = d.tms) := compact_tms _
  have VL : Hid (d.tms.length ≤ 2000000) := by show _ ≤ _; have h1 := tms_len (evTs d.evs); have h2 := evTs_len d.evs; have h3 := hat.evs.len; unfold Doc.tms; omega
  clear hE hat hf hrn hcn
  obtain ⟨ra, nr, rc, ea, en, ec, ca, nc, cc⟩ := h
  unfold GlsPost at HSc
  unfold Doc.cells at *
  dsimp only at *
  have HX0 := Lib.hid ((Ext.refl w).alloc (.cells #[.string d.title, .string d.lang, .int .u8 d.rate, .bool d.drop, .int .i64 d.last, .slice ra nr rc, .slice ea en ec, .slice ca nc cc] 27))
  have HB0 := Lib.hid (Blk.new w 27 #[.string d.title, .string d.lang, .int .u8 d.rate, .bool d.drop, .int .i64 d.last, .slice ra nr rc, .slice ea en ec, .slice ca nc cc])
  go_enter Tryz.func17, Tryz.ntmps17
  go_wp2_with (refine wpList_loadB rfl 27 (.tmp 1) rfl w.heap.size 27 _ _ (by exact rfl) (by exact HB0.out) Tryz.underlying27 rfl (by exact size_doc) ?_)
  refine (HCk.out _ HX0.out).mono ?_
  rintro en' w1 ⟨rfl, hx1⟩
  have HX1 := Lib.hid (HX0.out.trans hx1)
  have HB1 := Lib.hid (HB0.out.ext hx1)
  have hs1 : w.heap.size < w1.heap.size := HB1.out.lt
  clear hx1 HX0 HB0 HCk
  by_cases he : d.err = 0
  case neg =>
    have hne : (d.err != 0) = true := by simpa using he
    have HN := Lib.hid he
    clear he
    go_wp2_with fail
    go_ret2
    rw [V1.out HN.out]
    exact showsPost_err HX1.out
  have HOk := Lib.hid he
  have HSc2 := Lib.hid (fun f w' (hx : Ext w w') => HSc.out f w' hx he)
  have HV2 := Lib.hid (V2.out he)
  rw [he]
  clear he HSc V1 V2
  have hb6 : w1.cell? ⟨w.heap.size, 6, none⟩ = some (.slice ea en ec) := HB1.out.cell 6
  go_wp2_with fail
  clear hb6
  go_loopw [5, 20] (fun v i wr => TmRel w1 en d.evs v i wr) (fun _ i _ => en - (intOf i).toNat)
  case atStart => exact ⟨0, Nat.zero_le _, rfl, Ext.refl _, ⟨rfl, .inl ⟨rfl, rfl⟩⟩⟩
  case round =>
    obtain ⟨k, hk, rfl, hx, hown⟩ := hrel
    have HX := Lib.hid hx
    have HO := Lib.hid hown
    clear hx hown
    by_cases hlt : k < en
    · obtain ⟨b, off, x, A', n', c', rfl, hxx, -, c0, c1, c2, c3, c4, c5, c6⟩ := (HAt.out.evs.ext (HX1.out.trans HX.out)).at_ev hlt
      have HV := Lib.hid (evTs_snoc hxx)
      have HLk : Hid ((evTs (d.evs.take k)).length ≤ 2000000) := by show _ ≤ _; rw [evTs_len, List.length_take]; omega
      clear hxx
      go_upto_region 8 with fail
      clear c0 c1 c2 c3 c4 c5 c6
      have HXa := Lib.hid (HX.out.alloc (.cells #[.int .i64 x.id, .int .i64 x.inn, .int .i64 x.out, .string x.region, .int .u8 x.kind, .string x.speaker, .slice A' n' c'] 53))
      have HOa := Lib.hid (HO.out.alloc (.cells #[.int .i64 x.id, .int .i64 x.inn, .int .i64 x.out, .string x.region, .int .u8 x.kind, .string x.speaker, .slice A' n' c'] 53))
      have HBa := Lib.hid (Blk.new wr 53 #[.int .i64 x.id, .int .i64 x.inn, .int .i64 x.out, .string x.region, .int .u8 x.kind, .string x.speaker, .slice A' n' c'])
      have hszr := HX.out.size
      generalize wr.alloc (.cells #[.int .i64 x.id, .int .i64 x.inn, .int .i64 x.out, .string x.region, .int .u8 x.kind, .string x.speaker, .slice A' n' c'] 53) = W1 at *
      have hszW := HXa.out.size
      have hLk := HLk.out
      have hq1 : W1.cell? ⟨wr.heap.size, 1, none⟩ = some (.int .i64 x.inn) := HBa.out.cell 1
      have hq2 : W1.cell? ⟨wr.heap.size, 2, none⟩ = some (.int .i64 x.out) := HBa.out.cell 2
      go_wp2_with (at_builtin; refine wpList_appendS (f := fun x : Int => [Value.int .i64 x]) (A := some ⟨W1.heap.size, 0, none⟩) (m := 2) (c := 2) (l := [x.inn, x.out]) rfl (.tmp 24) (.tmp 31) 71 rfl info_i64 Tryz.underlying71 rfl (by decide) (HOa.out.alloc _) (by exact rfl) (by exact rfl) (ints2_new rfl) (fun _ => rfl) (by simp [Value.oneCell']) (by omega) (by simp [maxLen]; omega) (by simp; omega) ?_; intro v' w3 hown3 hgr _)
      refine ⟨⟨k + 1, by omega, by go_num, (HXa.out.alloc _).grown hgr (fun q hq => own_lt HOa.out q hq), ?_⟩, by simp [intOf]; omega⟩
      rw [HV.out, List.length_append, List.flatMap_append]
      exact hown3
    · have hkn : k = d.evs.length := by rw [HLn.out]; omega
      have hHO := HO.out
      rw [hkn, List.take_length] at hHO
      rw [flat_ints] at hHO
      clear HO hkn
      have HO := Lib.hid hHO
      have HXw := Lib.hid (HX1.out.trans HX.out)
      have HXB := Lib.hid (HB1.out.ext HX.out)
      have hLv : (evTs d.evs).length ≤ 2000000 := by rw [evTs_len, HLn.out]; omega
      have hs0 := HX.out.size
      clear hHO HX HB1
      rcases Classical.em (u5 = .slice none 0 0) with hv | hv
      · subst hv
        have hk0 : (evTs d.evs).length = 0 := by
          rcases HO.out.2 with ⟨_, h0⟩ | ⟨g, cap, cur, h0, _⟩
          · exact h0
          · cases h0
        have HN : Hid (d.tms = []) := by show _ = _; rw [← VT.out, List.eq_nil_of_length_eq_zero hk0]; simp [srtT, Lib.compact, Lib.compactUpTo]
        clear HO hk0 VT VL hLv
        go_wp2_with fail
        refine (sortT_none none 0 _).mono ?_
        rintro en2 w2 ⟨rfl, hx2⟩
        have HX2 := Lib.hid (HXw.out.trans hx2)
        clear hx2
        go_wp2_with fail
        refine (compactT_none none 0 _).mono ?_
        rintro en3 w3 ⟨rfl, rfl⟩
        go_wp2_with fail
        go_loopw [8, 9] (fun v i wr => v = .slice none 0 0 ∧ i = .int .i64 1 ∧ wr = w3) (fun _ _ _ => 0)
        case atStart => exact ⟨rfl, rfl, rfl⟩
        case round =>
          obtain ⟨rfl, rfl, rfl⟩ := hrel
          go_wp2_with fail
          go_ret2
          rw [HV2.out, HOk.out, HN.out]
          exact showsPost_err (e := 0) HX2.out
      · obtain ⟨g, cap, rfl, hbg, hgl, hncap, hcm, hlen, hH⟩ := Lib.holds_of_ownsRow HO.out hv
        have hsort := sortT_c g 0 cap (evTs d.evs) wr hH hgl (by omega)
        have HH := Lib.hid hH
        clear hH hv
        go_wp2_with fail
        refine hsort.mono ?_
        rintro en2 w2 ⟨rfl, nn, os, rfl⟩
        have hl2 : (srtT (evTs d.evs)).length = (evTs d.evs).length := len_srtT _
        have hH2 : Holds (Value.int .i64) (grow (putRow (Value.int .i64) (Sort.ahead wr nn) g 0 (srtT (evTs d.evs)).toArray) os) g 0 (srtT (evTs d.evs)).toArray :=
          holds_grow (Value.int .i64) _ os g 0 _ (by simpa [putRow, mapBlock, Sort.ahead] using hgl) (holds_putRow (Value.int .i64) _ g 0 _ _ (holds_ahead (Value.int .i64) wr nn g 0 _ HH.out) (by simp [len_srtT]))
        have hcomp := compactT_c g 0 cap (srtT (evTs d.evs)) _ hH2 (by omega) (by omega)
        rw [hl2, VT.out] at hcomp
        have HE := fun q dd => Lib.hid (timesT_end (nn := nn) (q := q) (os := os) (e := (srtT (evTs d.evs)).toArray) (d := dd) HXw.out HO.out (show w.heap.size ≤ g by omega))
        have HH3 := fun q dd (hdd : dd.size = (srtT (evTs d.evs)).toArray.size) => Lib.hid (holds_putRow (Value.int .i64) _ g 0 _ dd (holds_ahead (Value.int .i64) _ q g 0 _ hH2) hdd)
        have HBg := fun q dd => Lib.hid (timesT_blk (nn := nn) (q := q) (os := os) (e := (srtT (evTs d.evs)).toArray) (d := dd) HXB.out (show w.heap.size ≠ g by omega))
        clear hH2 hsort
        generalize grow (putRow (Value.int .i64) (Sort.ahead wr nn) g 0 (srtT (evTs d.evs)).toArray) os = w2 at *
        go_wp2_with fail
        refine hcomp.mono ?_
        rintro en3 w3 ⟨rfl, q, rfl⟩
        have hdl : (d.tms ++ List.replicate ((evTs d.evs).length - d.tms.length) 0).toArray.size = (srtT (evTs d.evs)).toArray.size := by
          have := tms_len (evTs d.evs)
          unfold Doc.tms
          simp only [List.size_toArray, List.length_append, List.length_replicate, len_srtT]
          omega
        have HX3 := HE q (d.tms ++ List.replicate ((evTs d.evs).length - d.tms.length) 0).toArray
        have HT3 := Lib.hid (ints_of_holds (HH3 q _ hdl).out)
        have HB3 := HBg q (d.tms ++ List.replicate ((evTs d.evs).length - d.tms.length) 0).toArray
        clear HE HH3 HBg hcomp hdl hl2 HO HH HXB
        generalize putRow (Value.int .i64) (Sort.ahead w2 q) g 0 (d.tms ++ List.replicate ((evTs d.evs).length - d.tms.length) 0).toArray = w3 at *
        generalize (some ⟨g, 0, none⟩ : Option Addr) = TA at *
        have HM0 : Hid (Hid (d.tms.length ≤ 2000000)) := VL
        generalize hm : d.tms.length = m at *
        have HMl : Hid (d.tms.length = m) := hm
        have hml : m ≤ 2000000 := VL.out
        have hsw : w.heap.size < w3.heap.size := HB3.out.lt
        clear hm VL HM0
        clear hbg hgl hncap hcm hlen hs0 hLv HXw hs1 HX1
        go_wp2_with fail
        go_loopw [8, 9] (fun v i wr => ShwRel w3 d.scr d.tms v i wr) (fun _ i _ => d.tms.length + 1 - (intOf i).toNat)
        case atStart => exact ⟨0, 1, [], rfl, Nat.zero_le _, rfl, Ext.refl _, ShOwn.nil _ _, by rw [sh_one]; rfl⟩
        case round =>
          obtain ⟨k, k1, ps, hk1, hk, rfl, hx, hown, hmap⟩ := hrel
          have HX := Lib.hid hx
          have HO := Lib.hid hown
          have HM := Lib.hid hmap
          have hpl : ps.length ≤ 2000000 := by
            have h1 : ps.length = (shL d.scr (d.tms.take (k + 1))).length := by rw [← hmap, List.length_map]
            have h2 := shL_len d.scr (d.tms.take (k + 1))
            have h3 := List.length_take_le' (k + 1) d.tms
            have h4 := HMl.out
            omega
          rw [HMl.out] at hk
          clear hx hown hmap
          by_cases hlt : k1 < m
          · have hkm : k < m := by omega
            have hkb : k ≤ 2000000 := by omega
            have HK1 := Lib.hid hk1
            have hTk := HT3.out.ext HX.out
            obtain ⟨tb, toff, hTA, hcell⟩ := hTk.2 (by omega)
            subst hTA
            have hl1 : k < d.tms.length := by rw [HMl.out]; omega
            have hl2 : k1 < d.tms.length := by rw [HMl.out]; omega
            obtain ⟨fa, ha⟩ : ∃ a, d.tms[k]? = some a := ⟨_, List.getElem?_eq_getElem hl1⟩
            obtain ⟨fb, hb⟩ : ∃ b, d.tms[k1]? = some b := ⟨_, List.getElem?_eq_getElem hl2⟩
            have hca : wr.cell? ⟨tb, toff + k, none⟩ = some (.int .i64 fa) := by simpa using hcell k fa ha 0 _ rfl
            have hcb : wr.cell? ⟨tb, toff + k1, none⟩ = some (.int .i64 fb) := by simpa using hcell k1 fb hb 0 _ rfl
            have HStp : Hid (shL d.scr (d.tms.take (k + 1 + 1)) = shStep (shL d.scr (d.tms.take (k + 1))) fa fb (d.scr fa)) := sh_step d.scr d.tms k fa fb ha (by rw [← hk1]; exact hb)
            have HBr := Lib.hid (HB3.out.ext HX.out)
            have HScr := Lib.hid (fun f w' (hx : Ext wr w') => HSc2.out f w' (HX3.out.trans (HX.out.trans hx)))
            clear hcell hTk ha hb hl1 hl2 hk1
            go_upto_region 16 with fail
            refine wp_region_allocs [some 44, some 45, some 46, some 47, some 48, some 49, some 50, some 51, some 52, some 53, some 54, some 55, some 56, some 57, some 58, some 59, some 60, some 61, some 10, none] [[], [], [1], [0, 2], [3], [], [], [5, 6], [7], [4, 8], [], [], [], [12], [11, 13], [14], [10, 15], [9, 16], [], [18, 17, 16, 0, 1, 2, 3, 4, 5, 6, 7, 8, 9, 10, 11, 12, 13, 14, 15, 16, 17, 18]] [16, 17, 19] [18] [.slice (some ⟨tb, toff, none⟩) m cap, .int .i64 (k1 : Int), .int .i64 (k : Int), .pointer (some ⟨tb, toff + k, none⟩), .int .i64 fa, .slice (some ⟨tb, toff, none⟩) m cap, .int .i64 (k1 : Int), .pointer (some ⟨tb, toff + k1, none⟩), .int .i64 fb, .agg #[.int .i64 fa, .int .i64 fb], .agg #[.string d.title, .string d.lang, .int .u8 d.rate, .bool d.drop, .int .i64 d.last, .slice ra nr rc, .slice ea en ec, .slice ca nc cc], .slice (some ⟨tb, toff, none⟩) m cap, .int .i64 (k1 : Int), .int .i64 (k : Int), .pointer (some ⟨tb, toff + k, none⟩), .int .i64 fa, undef, undef, undef, undef] (fun _ => .cells #[.int .i64 0, .int .i64 0, .slice none 0 0] 64) (ShwJ wr fa fb (d.scr fa)) (by kernel_rfl) (by kernel_rfl) (by kernel_rfl) (by kernel_rfl) (by kernel_rfl) (by kernel_rfl) (by kernel_rfl) (by decide) (by kernel_rfl) ?_ ?_ ?_ ?_ ?_ ?_
            · exact ShwJ.start wr
            · intro i o ho ha a w' K' hk
              match i, ho with
              | 0, ho => simp at ha
              | 1, ho => simp at ha
              | 2, ho => simp at ha
              | 3, ho => simp at ha
              | 4, ho => simp at ha
              | 5, ho => simp at ha
              | 6, ho => simp at ha
              | 7, ho => simp at ha
              | 8, ho => simp at ha
              | 9, ho => simp at ha
              | 10, ho => simp at ha
              | 11, ho => simp at ha
              | 12, ho => simp at ha
              | 13, ho => simp at ha
              | 14, ho => simp at ha
              | 15, ho => simp at ha
              | 16, ho => simp at ha
              | 17, ho => simp at ha
              | 18, ho =>
                simp only [List.getElem?_toArray, List.getElem?_cons_zero, List.getElem?_cons_succ, Option.some.injEq] at ho
                subst ho
                exact wp_alloc_show rfl hk
              | 19, ho => simp at ha
              | i + 20, ho => simp at ho
            · intro i ha us gs w' hJ hn hlim
              match i, ha with
              | 0, ha => simp at ha
              | 1, ha => simp at ha
              | 2, ha => simp at ha
              | 3, ha => simp at ha
              | 4, ha => simp at ha
              | 5, ha => simp at ha
              | 6, ha => simp at ha
              | 7, ha => simp at ha
              | 8, ha => simp at ha
              | 9, ha => simp at ha
              | 10, ha => simp at ha
              | 11, ha => simp at ha
              | 12, ha => simp at ha
              | 13, ha => simp at ha
              | 14, ha => simp at ha
              | 15, ha => simp at ha
              | 16, ha => simp at ha
              | 17, ha => simp at ha
              | 18, ha => exact hJ.alloc (by have := hlim 2 19 rfl rfl; omega)
              | 19, ha => simp at ha
              | i + 20, ha => simp at ha
            · intro i o ho hc ha a w' us gs K' hJ hF hlim hk
              match i, ho with
              | 0, ho =>
                simp only [List.getElem?_toArray, List.getElem?_cons_zero, List.getElem?_cons_succ, Option.some.injEq] at ho
                subst ho
                have e5 := hF.old 5 (.slice (some ⟨tb, toff, none⟩) m cap) rfl rfl
                simp only [Act.eval] at e5
                clear hF hlim hJ
                go_simp
                exact hk
              | 1, ho =>
                simp only [List.getElem?_toArray, List.getElem?_cons_zero, List.getElem?_cons_succ, Option.some.injEq] at ho
                subst ho
                have e9 := hF.old 9 (.int .i64 (k1 : Int)) rfl rfl
                simp only [Act.eval] at e9
                clear hF hlim hJ
                go_simp
                exact hk
              | 2, ho =>
                simp only [List.getElem?_toArray, List.getElem?_cons_zero, List.getElem?_cons_succ, Option.some.injEq] at ho
                subst ho
                have e45 := hF.pure 1 45 (.int .i64 (k1 : Int)) rfl rfl rfl rfl rfl
                simp only [Act.eval] at e45
                have hw : (k1 : Int) - 1 = k := by have := HK1.out; omega
                have hwk : IntKind.i64.wrap (k : Int) = k := wrap_i64 (by omega) (by omega)
                clear hF hlim hJ
                go_simp
                first | exact hk | (rw [hw]; exact hk) | (rw [hwk]; exact hk) | (rw [hw, hwk]; exact hk)
              | 3, ho =>
                simp only [List.getElem?_toArray, List.getElem?_cons_zero, List.getElem?_cons_succ, Option.some.injEq] at ho
                subst ho
                have e44 := hF.pure 0 44 (.slice (some ⟨tb, toff, none⟩) m cap) rfl rfl rfl rfl rfl
                have e46 := hF.pure 2 46 (.int .i64 (k : Int)) rfl rfl rfl rfl rfl
                exact wp_ix_i64 rfl e44 e46 (hkm) hk
              | 4, ho =>
                simp only [List.getElem?_toArray, List.getElem?_cons_zero, List.getElem?_cons_succ, Option.some.injEq] at ho
                subst ho
                have e47 := hF.pure 3 47 (.pointer (some ⟨tb, toff + k, none⟩)) rfl rfl rfl rfl rfl
                have hcl := hJ.ext.cell hca
                simp only [Act.eval] at e47
                clear hF hlim hJ
                go_simp
                exact hk
              | 5, ho =>
                simp only [List.getElem?_toArray, List.getElem?_cons_zero, List.getElem?_cons_succ, Option.some.injEq] at ho
                subst ho
                have e5 := hF.old 5 (.slice (some ⟨tb, toff, none⟩) m cap) rfl rfl
                simp only [Act.eval] at e5
                clear hF hlim hJ
                go_simp
                exact hk
              | 6, ho =>
                simp only [List.getElem?_toArray, List.getElem?_cons_zero, List.getElem?_cons_succ, Option.some.injEq] at ho
                subst ho
                have e9 := hF.old 9 (.int .i64 (k1 : Int)) rfl rfl
                simp only [Act.eval] at e9
                clear hF hlim hJ
                go_simp
                exact hk
              | 7, ho =>
                simp only [List.getElem?_toArray, List.getElem?_cons_zero, List.getElem?_cons_succ, Option.some.injEq] at ho
                subst ho
                have e49 := hF.pure 5 49 (.slice (some ⟨tb, toff, none⟩) m cap) rfl rfl rfl rfl rfl
                have e50 := hF.pure 6 50 (.int .i64 (k1 : Int)) rfl rfl rfl rfl rfl
                exact wp_ix_i64 rfl e49 e50 (hlt) hk
              | 8, ho =>
                simp only [List.getElem?_toArray, List.getElem?_cons_zero, List.getElem?_cons_succ, Option.some.injEq] at ho
                subst ho
                have e51 := hF.pure 7 51 (.pointer (some ⟨tb, toff + k1, none⟩)) rfl rfl rfl rfl rfl
                have hcl := hJ.ext.cell hcb
                simp only [Act.eval] at e51
                clear hF hlim hJ
                go_simp
                exact hk
              | 9, ho =>
                simp only [List.getElem?_toArray, List.getElem?_cons_zero, List.getElem?_cons_succ, Option.some.injEq] at ho
                subst ho
                have e48 := hF.pure 4 48 (.int .i64 fa) rfl rfl rfl rfl rfl
                have e52 := hF.pure 8 52 (.int .i64 fb) rfl rfl rfl rfl rfl
                exact wp_build2 44 (.tmp 48) (.tmp 52) rfl e48 e52 _ (by kernel_rfl) hk
              | 10, ho =>
                simp only [List.getElem?_toArray, List.getElem?_cons_zero, List.getElem?_cons_succ, Option.some.injEq] at ho
                subst ho
                have e1 := hF.old 1 (.pointer (some ⟨w.heap.size, 0, none⟩)) rfl rfl
                exact wp_loadBk 27 (.tmp 1) rfl w.heap.size 27 _ _ e1 (HBr.out.ext hJ.ext) Tryz.underlying27 rfl (by exact size_doc) hk
              | 11, ho =>
                simp only [List.getElem?_toArray, List.getElem?_cons_zero, List.getElem?_cons_succ, Option.some.injEq] at ho
                subst ho
                have e5 := hF.old 5 (.slice (some ⟨tb, toff, none⟩) m cap) rfl rfl
                simp only [Act.eval] at e5
                clear hF hlim hJ
                go_simp
                exact hk
              | 12, ho =>
                simp only [List.getElem?_toArray, List.getElem?_cons_zero, List.getElem?_cons_succ, Option.some.injEq] at ho
                subst ho
                have e9 := hF.old 9 (.int .i64 (k1 : Int)) rfl rfl
                simp only [Act.eval] at e9
                clear hF hlim hJ
                go_simp
                exact hk
              | 13, ho =>
                simp only [List.getElem?_toArray, List.getElem?_cons_zero, List.getElem?_cons_succ, Option.some.injEq] at ho
                subst ho
                have e56 := hF.pure 12 56 (.int .i64 (k1 : Int)) rfl rfl rfl rfl rfl
                simp only [Act.eval] at e56
                have hw : (k1 : Int) - 1 = k := by have := HK1.out; omega
                have hwk : IntKind.i64.wrap (k : Int) = k := wrap_i64 (by omega) (by omega)
                clear hF hlim hJ
                go_simp
                first | exact hk | (rw [hw]; exact hk) | (rw [hwk]; exact hk) | (rw [hw, hwk]; exact hk)
              | 14, ho =>
                simp only [List.getElem?_toArray, List.getElem?_cons_zero, List.getElem?_cons_succ, Option.some.injEq] at ho
                subst ho
                have e55 := hF.pure 11 55 (.slice (some ⟨tb, toff, none⟩) m cap) rfl rfl rfl rfl rfl
                have e57 := hF.pure 13 57 (.int .i64 (k : Int)) rfl rfl rfl rfl rfl
                exact wp_ix_i64 rfl e55 e57 (hkm) hk
              | 15, ho =>
                simp only [List.getElem?_toArray, List.getElem?_cons_zero, List.getElem?_cons_succ, Option.some.injEq] at ho
                subst ho
                have e58 := hF.pure 14 58 (.pointer (some ⟨tb, toff + k, none⟩)) rfl rfl rfl rfl rfl
                have hcl := hJ.ext.cell hca
                simp only [Act.eval] at e58
                clear hF hlim hJ
                go_simp
                exact hk
              | 16, ho => simp at hc
              | 17, ho => simp at hc
              | 18, ho => simp at ha
              | 19, ho => simp at hc
              | i + 20, ho => simp at ho
            · intro p c' o hp ho a w' us gs K' hl hJ hF hk
              match p, hp with
              | 0, hp =>
                obtain rfl : 16 = c' := by simpa using hp
                simp only [List.getElem?_toArray, List.getElem?_cons_zero, List.getElem?_cons_succ, Option.some.injEq] at ho
                subst ho
                obtain rfl : us = [] := List.eq_nil_of_length_eq_zero hl
                have e54 := hF.pure 10 54 (.agg #[.string d.title, .string d.lang, .int .u8 d.rate, .bool d.drop, .int .i64 d.last, .slice ra nr rc, .slice ea en ec, .slice ca nc cc]) rfl rfl rfl rfl rfl
                have e59 := hF.pure 15 59 (.int .i64 fa) rfl rfl rfl rfl rfl
                exact wp_call2g rfl e54 e59 Tryz.call34 (HScr.out fa w' hJ.ext) (fun en w5 hp => by obtain ⟨qa, qc, rfl, h1, h2, h3, h4⟩ := hp; exact ⟨_, rfl, hk _ w5 (hJ.call h3 h1 h2 h4)⟩)
              | 1, hp =>
                obtain rfl : 17 = c' := by simpa using hp
                simp only [List.getElem?_toArray, List.getElem?_cons_zero, List.getElem?_cons_succ, Option.some.injEq] at ho
                subst ho
                obtain ⟨u0, rfl⟩ := list_1 hl
                have e53 := hF.pure 9 53 (.agg #[.int .i64 fa, .int .i64 fb]) rfl rfl rfl rfl rfl
                have e60 := hF.link 0 16 60 _ rfl rfl rfl rfl
                have hb := hJ.build
                obtain ⟨qa, qc, hq, _⟩ := hJ.val u0 rfl
                subst hq
                exact wp_build2 64 (.tmp 53) (.tmp 60) rfl e53 e60 _ (by kernel_rfl) (hk _ _ hb)
              | 2, hp =>
                obtain rfl : 19 = c' := by simpa using hp
                simp only [List.getElem?_toArray, List.getElem?_cons_zero, List.getElem?_cons_succ, Option.some.injEq] at ho
                subst ho
                obtain ⟨u0, u1, rfl⟩ := list_2 hl
                obtain ⟨g10, hg10, e10⟩ := hF.ptr 18 10 rfl rfl rfl rfl
                have e61 := hF.link 1 17 61 _ rfl rfl rfl rfl
                have hsn := hJ.snd u0 u1 rfl rfl
                obtain ⟨h1, cs, h2, h3, h4⟩ := hJ.va g10 hg10
                subst hsn
                exact wp_storeB 64 (.tmp 10) (.tmp 61) rfl g10 64 _ _ e10 e61 (by exact size_show) (by obtain ⟨qa, qc, hq, _⟩ := hJ.val u0 rfl; subst hq; simp [Value.oneCell']) h3 h2 (hk undef _ (hJ.store hg10))
              | p + 3, hp => simp at hp
            intro us gs w4 hl hgs hJ
            obtain ⟨u0, u1, u2, rfl⟩ := list_3 hl
            obtain ⟨g18, hg18⟩ := Option.isSome_iff_exists.1 (hgs 18 rfl)
            first | (rename_i hK; refine hK _ _ ?_; clear hK) | (rename_i hK hK_1; refine hK _ _ ?_; clear hK) | (rename_i hK hK_1 hK_2; refine hK _ _ ?_; clear hK) | (rename_i hK hK_1 hK_2 hK_3; refine hK _ _ ?_; clear hK)
            generalize hL : frameA _ _ _ _ _ _ = L
            obtain rfl : L = [(44, .slice (some ⟨tb, toff, none⟩) m cap), (45, .int .i64 (k1 : Int)), (46, .int .i64 (k : Int)), (47, .pointer (some ⟨tb, toff + k, none⟩)), (48, .int .i64 fa), (49, .slice (some ⟨tb, toff, none⟩) m cap), (50, .int .i64 (k1 : Int)), (51, .pointer (some ⟨tb, toff + k1, none⟩)), (52, .int .i64 fb), (53, .agg #[.int .i64 fa, .int .i64 fb]), (54, .agg #[.string d.title, .string d.lang, .int .u8 d.rate, .bool d.drop, .int .i64 d.last, .slice ra nr rc, .slice ea en ec, .slice ca nc cc]), (55, .slice (some ⟨tb, toff, none⟩) m cap), (56, .int .i64 (k1 : Int)), (57, .int .i64 (k : Int)), (58, .pointer (some ⟨tb, toff + k, none⟩)), (59, .int .i64 fa), (60, u0), (61, u1), (10, .pointer ((gs 18).map fun g => ⟨g, 0, none⟩))] := hL.symm.trans (by kernel_rfl)
            rw [hg18]
            clear hL hl
            simp only [Act.put, Option.map_some, List.foldl_cons, List.foldl_nil, List.setIfInBounds_toArray, List.set_cons_zero, List.set_cons_succ]
            obtain ⟨SA, sc, rfl, hx4, hg4, hB4, hS4, hsc, hT4⟩ := hJ.end_ hg18
            have HX4 := Lib.hid (HX.out.trans hx4)
            have HO4 := Lib.hid (HO.out.ext hx4)
            have HG4 := Lib.hid hB4
            have HS4 : Hid (ScrIn w4 (⟨fa, fb, d.scr fa⟩, SA, sc)) := ⟨hS4, hsc, fun ad e => (hT4 ad e).2⟩
            have hz4 := HX.out.size
            clear hJ hx4 hB4 hS4 hT4 HX HO HBr HScr hca hcb
            have hp1 : w4.cell? ⟨g18, 0, none⟩ = some (.int .i64 fa) := HG4.out.cell 0
            have hp2 : w4.cell? ⟨g18, 1, none⟩ = some (.int .i64 fb) := HG4.out.cell 1
            have hp3 : w4.cell? ⟨g18, 2, none⟩ = some (.slice SA (d.scr fa).length sc) := HG4.out.cell 2
            have hsl : (d.scr fa).length ≤ 480 := scr_480 d fa
            by_cases hne : d.scr fa = []
            · have hl0 : (d.scr fa).length = 0 := by rw [hne]; rfl
              rw [hl0] at hp3
              obtain ⟨VA, vc, rfl, -⟩ := own_sl (f := shVals) (size := 3) shVals_len rfl HO4.out.1
              have HNe := Lib.hid hne
              clear hne hl0 hsl
              go_wp2_with fail
              refine ⟨⟨k + 1, k1 + 1, ps, by rw [HK1.out], by rw [HMl.out]; omega, by go_num, HX4.out, HO4.out, ?_⟩, by have := HK1.out; have := HMl.out; simp [intOf]; omega⟩
              rw [HStp.out, HM.out]
              unfold shStep
              rw [if_pos HNe.out]
            · have HNe := Lib.hid hne
              have hl0 : 0 < (d.scr fa).length := List.length_pos_iff.2 hne
              have hbl : (((d.scr fa).length : Int) == 0) = false := by simp; omega
              clear hne
              by_cases hps : ps = []
              · subst hps
                obtain ⟨VA, vc, rfl, -⟩ := own_sl (f := shVals) (size := 3) shVals_len rfl HO4.out.1
                have HGo : Hid (goesB (shL d.scr (d.tms.take (k + 1))) fa (d.scr fa) = false) := by show _ = _; rw [← HM.out]; rfl
                go_wp2_with fail
                refine wp_region_ew w4 (Ext.refl _) (by kernel_rfl) (by kernel_rfl) ?_
                repeat (go_big_quiet_step (fail))
                refine wpQuiet_nil ?_
                rintro w5 ⟨⟨_, hx5⟩, rfl⟩
                try dsimp only
                simp only [List.length_nil] at *
                have HX5 := Lib.hid (HX4.out.trans hx5)
                have HO5 := Lib.hid (HO4.out.ext hx5)
                have HG5 := Lib.hid (HG4.out.ext hx5)
                have HS5 := Lib.hid (HS4.out.ext hx5)
                have hz5 := hx5.size
                have hz6 := HX4.out.size
                clear hx5 hp1 hp2 hp3 HX4 HO4 HG4 HS4
                go_wp2_with (first | (refine wpList_loadB rfl 64 (.tmp 10) rfl g18 64 _ _ (by exact rfl) (by exact HG5.out) Tryz.underlying64 rfl (by exact size_show) ?_) | (at_builtin; refine wpList_append1 rfl (.tmp 65) (.tmp 67) 36 rfl info_show Tryz.underlying36 rfl (by decide) (own_ext HO5.out.1 ((Ext.refl _).alloc _)) (by exact rfl) w5.heap.size _ (by exact rfl) (by exact Blk.new' rfl) (by exact rfl) (by simp [Value.oneCell']) (by first | omega | (simp; done) | (simp; omega)) (by first | (simp [maxLen]; done) | (simp [maxLen]; omega)) (by first | (simp; done) | (simp; omega)) ?_; intro v' w6 hown6 hgr))
                refine ⟨⟨k + 1, k1 + 1, ([] : List ShP) ++ [(⟨fa, fb, d.scr fa⟩, SA, sc)], by rw [HK1.out], by rw [HMl.out]; omega, by go_num, (HX5.out.alloc _).grown hgr (fun q hq => own_lt HO5.out.1 q hq), (HO5.out.ext ((Ext.refl _).alloc _)).snoc (p := (⟨fa, fb, d.scr fa⟩, SA, sc)) (HS5.out.ext ((Ext.refl _).alloc _)) hown6 hgr, ?_⟩, by have := HK1.out; have := HMl.out; simp [intOf]; omega⟩
                rw [HStp.out, List.map_append, HM.out]
                unfold shStep
                rw [if_neg HNe.out, if_neg (by rw [HGo.out]; simp)]
                rfl
              · obtain ⟨j, hj⟩ : ∃ j, ps.length = j + 1 := ⟨ps.length - 1, by have := List.length_pos_iff.2 hps; omega⟩
                obtain ⟨p, hp⟩ : ∃ p, ps[j]? = some p := ⟨_, List.getElem?_eq_getElem (by omega)⟩
                obtain ⟨g, vc, rfl, hbg, hTy, hcells⟩ := HO4.out.form hps
                obtain ⟨-, ho1, ho2⟩ := hcells j p hp
                have HG9 := Lib.hid (goes_last hj.symm hp fa (d.scr fa))
                rw [HM.out] at HG9
                have HSm := Lib.hid (fun w' (hx : Ext w4 w') => GSame_any p.2.1 p.1.scr.length p.2.2 SA (d.scr fa).length sc p.1.scr (d.scr fa) w' ((HO4.out.2 p (List.mem_of_getElem? hp)).gls.ext hx) (HS4.out.gls.ext hx) (by have := shL_480 (scr_480 d) (d.tms.take (k + 1)) p.1 (by rw [← HM.out]; exact List.mem_map.2 ⟨p, List.mem_of_getElem? hp, rfl⟩); omega))
                have HFm := Lib.hid hTy
                have HPm := Lib.hid hp
                have HJ := Lib.hid hj
                have HO4 : Hid (ShOwn w4 w3.heap.size (.slice (some ⟨g, 0, none⟩) (j + 1) vc) ps) := by have h9 := HO4.out; rw [hj] at h9; exact h9
                clear hps hp hTy hcells
                rw [hj]
                have hr3 := fun (x : EW w4) (o : Nat) => (HG4.out.ext x.ext).cell o
                by_cases ho : p.1.out = fa
                · rw [ho] at ho1
                  have hr1 := fun (x : EW w4) => x.ext.cell ho1
                  have hr2 := fun (x : EW w4) => x.ext.cell ho2
                  by_cases hs : p.1.scr = d.scr fa
                  · have HGo : Hid (goesB (shL d.scr (d.tms.take (k + 1))) fa (d.scr fa) = true) := by show _ = _; rw [HG9.out, ho, hs]; simp
                    have hq := fun w' hx => HSm.out w' hx
                    simp only [decide_eq_true hs] at hq
                    have HSm := Lib.hid hq
                    clear hq hs ho
                    go_wp2_with fail
                    refine wp_region_ew w4 (Ext.refl _) (by kernel_rfl) (by kernel_rfl) ?_
                    repeat (go_big_quiet_step ((go_at_call 26; with_reducible exact EW.calls _ (HSm.out _ (EW.ext _)))))
                    refine wpQuiet_nil ?_
                    rintro w5 ⟨⟨_, hx5⟩, rfl⟩
                    try dsimp only
                    clear hr1 hr2 hr3
                    have HX5 := Lib.hid (HX4.out.trans hx5)
                    have HO5 := Lib.hid (HO4.out.ext hx5)
                    have HG5 := Lib.hid (HG4.out.ext hx5)
                    have hq2 : w5.cell? ⟨g18, 1, none⟩ = some (.int .i64 fb) := HG5.out.cell 1
                    have hq3 : w5.cell? ⟨g, j * 3 + 1, none⟩ = some (.int .i64 fa) := hx5.cell ho1
                    have hq4 : w5.frozen? ⟨g, j * 3 + 1, none⟩ = false := (HFm.out.kb (KB.ext hx5)).frozen _
                    clear hx5 hp1 hp2 hp3 HX4 HO4 HG4 HS4 ho1 ho2
                    go_wp2_with fail
                    have hfin := ShOwn.store (w := w5) (base := w3.heap.size) (g := g) (cap := vc) (b := fb) (by rw [HJ.out]; exact HO5.out) HJ.out.symm HPm.out
                    rw [HJ.out] at hfin
                    refine ⟨⟨k + 1, k1 + 1, _, by rw [HK1.out], by rw [HMl.out]; omega, by go_num, HX5.out.setCell hbg _, hfin.1, ?_⟩, by have := HK1.out; have := HMl.out; simp [intOf]; omega⟩
                    rw [HStp.out, hfin.2, HM.out]
                    unfold shStep
                    rw [if_neg HNe.out, if_pos HGo.out]
                  · have HGo : Hid (goesB (shL d.scr (d.tms.take (k + 1))) fa (d.scr fa) = false) := by show _ = _; rw [HG9.out, decide_eq_false hs, Bool.and_false]
                    have hq := fun w' hx => HSm.out w' hx
                    simp only [decide_eq_false hs] at hq
                    have HSm := Lib.hid hq
                    clear hq hs ho
                    go_wp2_with fail
                    refine wp_region_ew w4 (Ext.refl _) (by kernel_rfl) (by kernel_rfl) ?_
                    repeat (go_big_quiet_step ((go_at_call 26; with_reducible exact EW.calls _ (HSm.out _ (EW.ext _)))))
                    refine wpQuiet_nil ?_
                    rintro w5 ⟨⟨_, hx5⟩, rfl⟩
                    try dsimp only
                    clear hr1 hr2 hr3
                    have HX5 := Lib.hid (HX4.out.trans hx5)
                    have HO5 := Lib.hid (HO4.out.ext hx5)
                    have HG5 := Lib.hid (HG4.out.ext hx5)
                    have HS5 := Lib.hid (HS4.out.ext hx5)
                    have hz5 := hx5.size
                    have hz6 := HX4.out.size
                    clear hx5 hp1 hp2 hp3 HX4 HO4 HG4 HS4 ho1 ho2
                    have hpl2 : j + 1 ≤ 2000000 := by have := HJ.out; omega
                    go_wp2_with (first | (refine wpList_loadB rfl 64 (.tmp 10) rfl g18 64 _ _ (by exact rfl) (by exact HG5.out) Tryz.underlying64 rfl (by exact size_show) ?_) | (at_builtin; refine wpList_append1 rfl (.tmp 65) (.tmp 67) 36 rfl info_show Tryz.underlying36 rfl (by decide) (own_ext HO5.out.1 ((Ext.refl _).alloc _)) (by exact rfl) w5.heap.size _ (by exact rfl) (by exact Blk.new' rfl) (by exact rfl) (by simp [Value.oneCell']) (by first | omega | (simp; done) | (simp; omega)) (by first | (simp [maxLen]; done) | (simp [maxLen]; omega)) (by first | (simp; done) | (simp; omega)) ?_; intro v' w6 hown6 hgr))
                    refine ⟨⟨k + 1, k1 + 1, ps ++ [(⟨fa, fb, d.scr fa⟩, SA, sc)], by rw [HK1.out], by rw [HMl.out]; omega, by go_num, (HX5.out.alloc _).grown hgr (fun q hq => own_lt HO5.out.1 q hq), (HO5.out.ext ((Ext.refl _).alloc _)).snoc (p := (⟨fa, fb, d.scr fa⟩, SA, sc)) (HS5.out.ext ((Ext.refl _).alloc _)) hown6 hgr, ?_⟩, by have := HK1.out; have := HMl.out; simp [intOf]; omega⟩
                    rw [HStp.out, List.map_append, HM.out]
                    unfold shStep
                    rw [if_neg HNe.out, if_neg (by rw [HGo.out]; simp)]
                    rfl
                · have HGo : Hid (goesB (shL d.scr (d.tms.take (k + 1))) fa (d.scr fa) = false) := by show _ = _; rw [HG9.out, decide_eq_false ho, Bool.false_and]
                  have hbo : (p.1.out == fa) = false := by simpa using ho
                  have hr1 := fun (x : EW w4) => x.ext.cell ho1
                  clear ho
                  go_wp2_with fail
                  refine wp_region_ew w4 (Ext.refl _) (by kernel_rfl) (by kernel_rfl) ?_
                  repeat (go_big_quiet_step ((go_at_call 26; with_reducible exact EW.calls _ (HSm.out _ (EW.ext _)))))
                  refine wpQuiet_nil ?_
                  rintro w5 ⟨⟨_, hx5⟩, rfl⟩
                  try dsimp only
                  clear hr1 hr3
                  have HX5 := Lib.hid (HX4.out.trans hx5)
                  have HO5 := Lib.hid (HO4.out.ext hx5)
                  have HG5 := Lib.hid (HG4.out.ext hx5)
                  have HS5 := Lib.hid (HS4.out.ext hx5)
                  have hz5 := hx5.size
                  have hz6 := HX4.out.size
                  clear hx5 hp1 hp2 hp3 HX4 HO4 HG4 HS4 ho1 ho2
                  have hpl2 : j + 1 ≤ 2000000 := by have := HJ.out; omega
                  go_wp2_with (first | (refine wpList_loadB rfl 64 (.tmp 10) rfl g18 64 _ _ (by exact rfl) (by exact HG5.out) Tryz.underlying64 rfl (by exact size_show) ?_) | (at_builtin; refine wpList_append1 rfl (.tmp 65) (.tmp 67) 36 rfl info_show Tryz.underlying36 rfl (by decide) (own_ext HO5.out.1 ((Ext.refl _).alloc _)) (by exact rfl) w5.heap.size _ (by exact rfl) (by exact Blk.new' rfl) (by exact rfl) (by simp [Value.oneCell']) (by first | omega | (simp; done) | (simp; omega)) (by first | (simp [maxLen]; done) | (simp [maxLen]; omega)) (by first | (simp; done) | (simp; omega)) ?_; intro v' w6 hown6 hgr))
                  refine ⟨⟨k + 1, k1 + 1, ps ++ [(⟨fa, fb, d.scr fa⟩, SA, sc)], by rw [HK1.out], by rw [HMl.out]; omega, by go_num, (HX5.out.alloc _).grown hgr (fun q hq => own_lt HO5.out.1 q hq), (HO5.out.ext ((Ext.refl _).alloc _)).snoc (p := (⟨fa, fb, d.scr fa⟩, SA, sc)) (HS5.out.ext ((Ext.refl _).alloc _)) hown6 hgr, ?_⟩, by have := HK1.out; have := HMl.out; simp [intOf]; omega⟩
                  rw [HStp.out, List.map_append, HM.out]
                  unfold shStep
                  rw [if_neg HNe.out, if_neg (by rw [HGo.out]; simp)]
                  rfl
          · have hmm : d.tms.take (k + 1) = d.tms := List.take_of_length_le (by rw [HMl.out]; omega)
            have HMf := HM.out
            rw [hmm] at HMf
            have HMF := Lib.hid HMf
            have HXf := Lib.hid (HX3.out.trans HX.out)
            clear HMf hmm HM HX HX3
            go_wp2_with fail
            go_ret2
            rw [HV2.out, HOk.out]
            exact HO.out.post HMF.out HXf.out
end Go.Proofs.YtajbhfmdmajpmaaGreatDoor
