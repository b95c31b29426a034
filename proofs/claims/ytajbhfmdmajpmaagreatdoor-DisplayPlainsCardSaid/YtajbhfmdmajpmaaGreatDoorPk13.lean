/- Laid together: The walks of document.At and of the reference's, with the place of what is returned. What an accepted document is, plainly. What is seen of a document at a frame, its shows and its overlaps, plainly. The walk of the reference's neat. The walk of the reference's check of a row. The walk of the reference's check of an event. -/
import Derived.Test.YtajbhfmdmajpmaaGreatDoorPk12
import Derived.Test.YtajbhfmdmajpmaaGreatDoorPk07
import Derived.Test.YtajbhfmdmajpmaaGreatDoorPk08
import Derived.Test.YtajbhfmdmajpmaaGreatDoorPk10
import Derived.Test.YtajbhfmdmajpmaaGreatDoorPk02
import Derived.Test.YtajbhfmdmajpmaaGreatDoorPk09
import Derived.Test.YtajbhfmdmajpmaaGreatDoorPk11
import Derived.Test.YtajbhfmdmajpmaaGreatDoorPk04

/-! AtL -/
namespace Go.Proofs.YtajbhfmdmajpmaaGreatDoor
set_option linter.unusedVariables false
set_option linter.unusedSimpArgs false
open Go.RowKit
def AtLPost (l : List Ev) (fr : Int) (w : World) (en : Ending) (w' : World) : Prop :=
  ∃ A c, en = .returned (.slice A (atL l fr).length c) ∧ IntsAt w' A (atL l fr).length (atL l fr) ∧ (atL l fr).length ≤ c ∧ Ext w w' ∧ ∀ ad, A = some ad → w.heap.size ≤ ad.block
set_option maxRecDepth 100000 in
set_option maxHeartbeats 1000000 in
theorem DAtL_any (d : Doc) (h : DocH) (fr : Int) (w : World) (hat : EvsAt w h.ea h.en d.evs) (hn : h.en ≤ 1000000) :
    Calls Tryz.prog 22 #[.agg (d.cells h), .int .i64 fr] w (AtLPost d.evs fr w) := by
  have HX := Lib.hid ((Ext.refl w).alloc (.cells (d.cells h) 27))
  have HE := Lib.hid hat
  have HLn := Lib.hid hat.len
  have hb := fun o => (Blk.new w 27 (d.cells h)).cell o
  clear hat
  obtain ⟨ra, rn, rc, ea, n, ec, ca, cn, cc⟩ := h
  unfold Doc.cells at *
  dsimp only at *
  go_enter Tryz.func22, Tryz.ntmps22
  go_wp2_with fail
  clear hb
  go_loopw [5, 11] (fun v i wr => AtRel w n d.evs fr v i wr) (fun _ i _ => n - (intOf i).toNat)
  case atStart => exact ⟨0, Nat.zero_le _, rfl, HX.out, ⟨rfl, .inl ⟨rfl, rfl⟩⟩⟩
  case round =>
    obtain ⟨k, hk, rfl, hx, hown⟩ := hrel
    have hlk := at_len d.evs fr k
    have HO := Lib.hid hown
    clear hown
    by_cases hlt : k < n
    · obtain ⟨b, off, x, A', n', c', rfl, hxx, -, c0, c1, c2, c3, c4, c5, c6⟩ := (HE.out.ext hx).at_ev hlt
      have HXx := Lib.hid hxx
      clear hxx
      by_cases h1 : x.inn ≤ fr
      · by_cases h2 : fr < x.out
        · have HV := Lib.hid (at_in HXx.out (fr := fr) (by unfold seenB; simp [h1, h2]))
          go_upto_region 6 with fail
          clear c0 c1 c2 c3 c4 c5 c6
          have HX1 := Lib.hid (hx.alloc (.cells #[.int .i64 x.id, .int .i64 x.inn, .int .i64 x.out, .string x.region, .int .u8 x.kind, .string x.speaker, .slice A' n' c'] 53))
          have HO1 := Lib.hid (HO.out.alloc (.cells #[.int .i64 x.id, .int .i64 x.inn, .int .i64 x.out, .string x.region, .int .u8 x.kind, .string x.speaker, .slice A' n' c'] 53))
          have hszr := hx.size
          generalize wr.alloc (.cells #[.int .i64 x.id, .int .i64 x.inn, .int .i64 x.out, .string x.region, .int .u8 x.kind, .string x.speaker, .slice A' n' c'] 53) = W1 at *
          have hszW := HX1.out.size
          go_wp2_with (at_builtin; refine wpList_append1 rfl (.tmp 28) (.tmp 30) 47 rfl info_int Tryz.underlying47 rfl (by decide) (HO1.out.alloc _) (by exact rfl) W1.heap.size _ (by exact rfl) (by exact Blk.new' rfl) (by exact rfl) (by simp [Value.oneCell']) (by omega) (by simp [maxLen]; omega) (by simp; omega) ?_; intro v' w3 hown3 hgr)
          refine ⟨⟨k + 1, by omega, by go_num, (HX1.out.alloc _).grown hgr (fun q hq => own_lt HO1.out q hq), ?_⟩, by simp [intOf]; omega⟩
          rw [HV.out, List.length_append, List.flatMap_append]
          exact hown3
        · have HV := Lib.hid (at_out HXx.out (fr := fr) (by unfold seenB; simp [h1, h2]))
          go_wp2_with fail
          exact ⟨⟨k + 1, by omega, by go_num, hx.alloc _, by rw [HV.out]; exact HO.out.alloc _⟩, by simp [intOf]; omega⟩
      · have HV := Lib.hid (at_out HXx.out (fr := fr) (by unfold seenB; simp [h1]))
        go_wp2_with fail
        exact ⟨⟨k + 1, by omega, by go_num, hx.alloc _, by rw [HV.out]; exact HO.out.alloc _⟩, by simp [intOf]; omega⟩
    · have hkn : k = d.evs.length := by rw [HLn.out]; omega
      have hn' : n = d.evs.length := HLn.out.symm
      subst hkn
      change Hid (wr.ownsRow w.heap.size 3 1 _ (atL d.evs fr).length ((atL d.evs fr).flatMap fun x => [Value.int .i64 x])) at HO
      obtain ⟨A, c, rfl, hc, -, hsl, hfr⟩ := own_sl (f := fun x : Int => [Value.int .i64 x]) (size := 1) (fun _ => rfl) rfl HO.out
      have HS := Lib.hid hsl
      have HFr := Lib.hid hfr
      have HX2 := Lib.hid hx
      clear HO hsl hx
      go_wp2_with fail
      go_ret
      exact ⟨A, c, rfl, HS.out, hc, HX2.out, HFr.out⟩
set_option maxRecDepth 100000 in
set_option maxHeartbeats 1000000 in
theorem R12AtL_any (d : Doc) (h : DocH) (fr : Int) (w : World) (hat : EvsAt w h.ea h.en d.evs) (hn : h.en ≤ 1000000) :
    Calls Tryz.prog 67 #[.agg (d.cells h), .int .i64 fr] w (AtLPost d.evs fr w) := by
  have HX := Lib.hid ((Ext.refl w).alloc (.cells (d.cells h) 27))
  have HE := Lib.hid hat
  have HLn := Lib.hid hat.len
  have hb := fun o => (Blk.new w 27 (d.cells h)).cell o
  clear hat
  obtain ⟨ra, rn, rc, ea, n, ec, ca, cn, cc⟩ := h
  unfold Doc.cells at *
  dsimp only at *
  go_enter Tryz.func67, Tryz.ntmps67
  go_wp2_with fail
  clear hb
  go_loopw [5, 11] (fun v i wr => AtRel w n d.evs fr v i wr) (fun _ i _ => n - (intOf i).toNat)
  case atStart => exact ⟨0, Nat.zero_le _, rfl, HX.out, ⟨rfl, .inl ⟨rfl, rfl⟩⟩⟩
  case round =>
    obtain ⟨k, hk, rfl, hx, hown⟩ := hrel
    have hlk := at_len d.evs fr k
    have HO := Lib.hid hown
    clear hown
    by_cases hlt : k < n
    · obtain ⟨b, off, x, A', n', c', rfl, hxx, -, c0, c1, c2, c3, c4, c5, c6⟩ := (HE.out.ext hx).at_ev hlt
      have HXx := Lib.hid hxx
      clear hxx
      by_cases h1 : x.inn ≤ fr
      · by_cases h2 : fr < x.out
        · have HV := Lib.hid (at_in HXx.out (fr := fr) (by unfold seenB; simp [h1, h2]))
          go_upto_region 6 with fail
          clear c0 c1 c2 c3 c4 c5 c6
          have HX1 := Lib.hid (hx.alloc (.cells #[.int .i64 x.id, .int .i64 x.inn, .int .i64 x.out, .string x.region, .int .u8 x.kind, .string x.speaker, .slice A' n' c'] 53))
          have HO1 := Lib.hid (HO.out.alloc (.cells #[.int .i64 x.id, .int .i64 x.inn, .int .i64 x.out, .string x.region, .int .u8 x.kind, .string x.speaker, .slice A' n' c'] 53))
          have hszr := hx.size
          generalize wr.alloc (.cells #[.int .i64 x.id, .int .i64 x.inn, .int .i64 x.out, .string x.region, .int .u8 x.kind, .string x.speaker, .slice A' n' c'] 53) = W1 at *
          have hszW := HX1.out.size
          go_wp2_with (at_builtin; refine wpList_append1 rfl (.tmp 28) (.tmp 30) 47 rfl info_int Tryz.underlying47 rfl (by decide) (HO1.out.alloc _) (by exact rfl) W1.heap.size _ (by exact rfl) (by exact Blk.new' rfl) (by exact rfl) (by simp [Value.oneCell']) (by omega) (by simp [maxLen]; omega) (by simp; omega) ?_; intro v' w3 hown3 hgr)
          refine ⟨⟨k + 1, by omega, by go_num, (HX1.out.alloc _).grown hgr (fun q hq => own_lt HO1.out q hq), ?_⟩, by simp [intOf]; omega⟩
          rw [HV.out, List.length_append, List.flatMap_append]
          exact hown3
        · have HV := Lib.hid (at_out HXx.out (fr := fr) (by unfold seenB; simp [h1, h2]))
          go_wp2_with fail
          exact ⟨⟨k + 1, by omega, by go_num, hx.alloc _, by rw [HV.out]; exact HO.out.alloc _⟩, by simp [intOf]; omega⟩
      · have HV := Lib.hid (at_out HXx.out (fr := fr) (by unfold seenB; simp [h1]))
        go_wp2_with fail
        exact ⟨⟨k + 1, by omega, by go_num, hx.alloc _, by rw [HV.out]; exact HO.out.alloc _⟩, by simp [intOf]; omega⟩
    · have hkn : k = d.evs.length := by rw [HLn.out]; omega
      have hn' : n = d.evs.length := HLn.out.symm
      subst hkn
      change Hid (wr.ownsRow w.heap.size 3 1 _ (atL d.evs fr).length ((atL d.evs fr).flatMap fun x => [Value.int .i64 x])) at HO
      obtain ⟨A, c, rfl, hc, -, hsl, hfr⟩ := own_sl (f := fun x : Int => [Value.int .i64 x]) (size := 1) (fun _ => rfl) rfl HO.out
      have HS := Lib.hid hsl
      have HFr := Lib.hid hfr
      have HX2 := Lib.hid hx
      clear HO hsl hx
      go_wp2_with fail
      go_ret
      exact ⟨A, c, rfl, HS.out, hc, HX2.out, HFr.out⟩
end Go.Proofs.YtajbhfmdmajpmaaGreatDoor

/-! DocV -/
namespace Go.Proofs.YtajbhfmdmajpmaaGreatDoor
set_option linter.unusedVariables false
set_option linter.unusedSimpArgs false
open Go.RowKit
theorem doc_ok {d : Doc} (h : d.err = 0) : d.headErr = 0 ∧ regsErr d.regs = 0 ∧ d.evs.length ≤ 400 ∧ evsLoop d.regs d.last [] d.evs = 0 ∧ d.coms.length ≤ 64 ∧ comsLoop d.last d.evs none d.coms = 0 := by
  unfold Doc.err at h
  split at h
  · rename_i h1; exact absurd h h1
  · rename_i h1
    split at h
    · rename_i h2; exact absurd h h2
    · rename_i h2
      split at h
      · simp at h
      · rename_i h3
        split at h
        · rename_i h4; exact absurd h h4
        · rename_i h4
          split at h
          · simp at h
          · rename_i h5
            exact ⟨by simpa using h1, by simpa using h2, by omega, by simpa using h4, by omega, h⟩
/-- each event behind those ahead of it -/
theorem evs_ok {regs : List Reg} {last : Int} : ∀ {l pre : List Ev}, evsLoop regs last pre l = 0 → ∀ (k : Nat) (x : Ev), l[k]? = some x →
    x.err regs = 0 ∧ x.id ≤ last ∧ ¬ (((pre ++ l.take k).getLast?.map fun p => lessB p x) = some false) ∧ findE (pre ++ l.take k) x.id = none
  | [], pre, _, k, x, hx => by simp at hx
  | y :: l, pre, h, 0, x, hx => by
    simp at hx; subst hx
    rw [evs_cons] at h
    split at h
    · rename_i h1; exact absurd h h1
    · rename_i h1
      have h1' : evErr regs last pre y = 0 := by simpa using h1
      unfold evErr at h1'
      split at h1'
      · rename_i h2; exact absurd h1' h2
      · rename_i h2
        split at h1'
        · simp at h1'
        · rename_i h3
          split at h1'
          · simp at h1'
          · rename_i h4
            split at h1'
            · simp at h1'
            · rename_i h5
              refine ⟨by simpa using h2, by omega, by simpa using h4, ?_⟩
              simp only [List.take_zero, List.append_nil]
              cases hf : findE pre y.id with
              | none => rfl
              | some j => rw [hf] at h5; simp at h5
  | y :: l, pre, h, k + 1, x, hx => by
    rw [evs_cons] at h
    split at h
    · rename_i h1; exact absurd h h1
    · have := evs_ok h k x (by simpa using hx)
      simpa using this
end Go.Proofs.YtajbhfmdmajpmaaGreatDoor

/-! SeenP -/
namespace Go.Proofs.YtajbhfmdmajpmaaGreatDoor
set_option linter.unusedVariables false
set_option linter.unusedSimpArgs false
open Go.RowKit
/-- the characters of the events at some places -/
def visL (l : List Ev) (regs : List Reg) (is : List Int) : List Gl := is.flatMap fun i => ((l[i.toNat]?).map fun e => e.gls regs).getD []
/-- the screen of a document at a frame -/
def Doc.scr (d : Doc) (f : Int) : List Gl := screenG (visL d.evs d.regs (atL d.evs f))
/-- the frames at which an event begins or ends, in the order of the events -/
def evTs (l : List Ev) : List Int := l.flatMap fun e => [e.inn, e.out]
def Doc.tms (d : Doc) : List Int := tmsOf (evTs d.evs)
def Doc.shows (d : Doc) : List Sh := shL d.scr d.tms
def Doc.ovE (d : Doc) (i : Nat) : Int × Int × List Gl := ((d.evs[i]?).map fun e => (e.inn, e.out, e.gls d.regs)).getD (0, 0, [])
def Doc.ovs (d : Doc) : List Ov := ovR d.ovE d.evs.length d.evs.length
theorem at_mem {l : List Ev} {f : Int} {i : Int} (h : i ∈ atL l f) : ∃ (k : Nat) (e : Ev), i = k ∧ l[k]? = some e ∧ seenB e f = true := by
  unfold atL atTo at h
  obtain ⟨k, hk, rfl⟩ := List.mem_map.1 h
  obtain ⟨h1, h2⟩ := List.mem_filter.1 hk
  cases hx : l[k]? with
  | none => rw [hx] at h2; simp at h2
  | some e => rw [hx] at h2; exact ⟨k, e, rfl, hx, by simpa using h2⟩
theorem at_same {l : List Ev} {f g : Int} (h : ∀ e ∈ l, seenB e f = seenB e g) : atL l f = atL l g := by
  unfold atL atTo
  congr 1
  apply List.filter_congr
  intro i hi
  cases hx : l[i]? with
  | none => rfl
  | some e => simp only [Option.map_some]; rw [h e (List.mem_of_getElem? hx)]
theorem at_none {l : List Ev} {f : Int} (h : ∀ e ∈ l, seenB e f = false) : atL l f = [] := by
  rw [List.eq_nil_iff_forall_not_mem]
  intro i hi
  obtain ⟨k, e, -, he, hs⟩ := at_mem hi
  rw [h e (List.mem_of_getElem? he)] at hs
  simp at hs
theorem screen_nil : screenG [] = [] := scr_zero
theorem scr_none {d : Doc} {f : Int} (h : ∀ e ∈ d.evs, seenB e f = false) : d.scr f = [] := by
  unfold Doc.scr
  rw [at_none h]
  exact screen_nil
theorem evTs_mem {l : List Ev} {e : Ev} (h : e ∈ l) : e.inn ∈ evTs l ∧ e.out ∈ evTs l := by
  unfold evTs
  exact ⟨List.mem_flatMap.2 ⟨e, h, by simp⟩, List.mem_flatMap.2 ⟨e, h, by simp⟩⟩
theorem asc_gap : ∀ {t : List Int} {i : Nat} {a b : Int}, t.Pairwise (· < ·) → t[i]? = some a → t[i + 1]? = some b → ∀ x ∈ t, x ≤ a ∨ b ≤ x := by
  intro t i a b h ha hb x hx
  obtain ⟨j, hj, rfl⟩ := List.mem_iff_getElem.1 hx
  obtain ⟨hi, rfl⟩ := List.getElem?_eq_some_iff.1 ha
  obtain ⟨hi2, rfl⟩ := List.getElem?_eq_some_iff.1 hb
  have hp := List.pairwise_iff_getElem.1 h
  rcases Nat.lt_trichotomy j i with h1 | h1 | h1
  · exact .inl (by have := hp j i hj hi h1; omega)
  · subst h1; exact .inl (Int.le_refl _)
  · rcases Nat.lt_or_ge (i + 1) j with h2 | h2
    · exact .inr (by have := hp (i + 1) j hi2 hj h2; omega)
    · have : j = i + 1 := by omega
      subst this; exact .inr (Int.le_refl _)
theorem doc_steady (d : Doc) : Steady d.scr d.tms := by
  intro i a b ha hb f h1 h2
  unfold Doc.scr
  rw [at_same (f := f) (g := a)]
  intro e he
  obtain ⟨m1, m2⟩ := evTs_mem he
  have g1 := asc_gap (tms_asc _) ha hb e.inn ((tms_mem _ _).2 m1)
  have g2 := asc_gap (tms_asc _) ha hb e.out ((tms_mem _ _).2 m2)
  unfold seenB
  rw [show decide (e.inn ≤ f) = decide (e.inn ≤ a) by rw [decide_eq_decide]; omega, show decide (f < e.out) = decide (a < e.out) by rw [decide_eq_decide]; omega]
theorem doc_shows (d : Doc) : ShNe d.shows ∧ (∀ x ∈ d.shows, x.inn < x.out) ∧ d.shows.Pairwise (fun x y => x.out ≤ y.inn) ∧ (∀ i x y, d.shows[i]? = some x → d.shows[i + 1]? = some y → ¬ (x.out = y.inn ∧ x.scr = y.scr)) ∧ (∀ f, atS d.shows f = d.scr f) ∧ (∀ x ∈ d.shows, ∃ f, x.scr = d.scr f) := by
  refine shows_ok (tms_asc _) (doc_steady d) (fun f hf => scr_none fun e he => ?_) (fun f hf => scr_none fun e he => ?_)
  · have := hf e.inn ((tms_mem _ _).2 (evTs_mem he).1)
    unfold seenB
    rw [decide_eq_false (by omega)]
    rfl
  · have := hf e.out ((tms_mem _ _).2 (evTs_mem he).2)
    unfold seenB
    rw [decide_eq_false (show ¬ f < e.out by omega), Bool.and_false]
theorem doc_ev {d : Doc} (h : d.err = 0) {e : Ev} (he : e ∈ d.evs) : e.err d.regs = 0 := by
  obtain ⟨k, hk⟩ := List.mem_iff_getElem?.1 he
  exact (evs_ok (doc_ok h).2.2.2.1 k e hk).1
theorem vis_ok {d : Doc} (h : d.err = 0) (is : List Int) : ∀ g ∈ visL d.evs d.regs is, GlGood g := by
  intro g hg
  unfold visL at hg
  obtain ⟨i, _, hg⟩ := List.mem_flatMap.1 hg
  cases hx : d.evs[i.toNat]? with
  | none => rw [hx] at hg; simp at hg
  | some e => rw [hx] at hg; exact (gls_good (doc_ev h (List.mem_of_getElem? hx))).1 g hg
theorem scr_good {d : Doc} (h : d.err = 0) (f : Int) : (∀ g ∈ d.scr f, GlGood g) ∧ Asc (d.scr f) := by
  have hok : ∀ g ∈ visL d.evs d.regs (atL d.evs f), g.ok := fun g hg => (vis_ok h _ g hg).1
  exact ⟨fun g hg => vis_ok h _ g (screen_sub hok g hg), screen_asc hok⟩
theorem scr_screen {d : Doc} (h : d.err = 0) (f : Int) : glsErr (d.scr f) = 0 := glsErr_ok (scr_good h f).1 (scr_good h f).2
theorem scr_put {d : Doc} (h : d.err = 0) (f : Int) : d.scr f = (visL d.evs d.regs (atL d.evs f)).foldl putG [] := screen_put fun g hg => (vis_ok h _ g hg).1
theorem scr_len {d : Doc} (h : d.err = 0) (f : Int) : (d.scr f).length ≤ (visL d.evs d.regs (atL d.evs f)).length := screen_len fun g hg => (vis_ok h _ g hg).1
theorem scr_480 (d : Doc) (f : Int) : (d.scr f).length ≤ 480 := screen_480 _
theorem at_asc (l : List Ev) (f : Int) : (atL l f).Pairwise (· < ·) := by
  unfold atL atTo
  rw [List.pairwise_map]
  refine ((List.pairwise_lt_range).filter _).imp fun {a b} hab => ?_
  omega
/-- without overlaps each event has its cells for itself -/
theorem vis_apart {d : Doc} (h : d.err = 0) (ho : d.ovs = []) (f : Int) : (visL d.evs d.regs (atL d.evs f)).Pairwise fun x y => x.cell ≠ y.cell := by
  unfold visL
  refine pairwise_flatMap' (fun i hi => ?_) ?_
  · cases hx : d.evs[i.toNat]? with
    | none => simp
    | some e =>
      have := (gls_good (doc_ev h (List.mem_of_getElem? hx))).2
      unfold Asc at this
      exact this.imp fun {a b} hab => by omega
  · refine (at_asc d.evs f).imp_of_mem fun {i j} hi hj hij a ha b hb => ?_
    obtain ⟨p, x, rfl, hx, hsx⟩ := at_mem hi
    obtain ⟨q, y, rfl, hy, hsy⟩ := at_mem hj
    rw [Int.toNat_natCast, hx] at ha
    rw [Int.toNat_natCast, hy] at hb
    simp only [Option.map_some, Option.getD_some] at ha hb
    have hq := (List.getElem?_eq_some_iff.1 hy).1
    have hE1 : d.ovE p = (x.inn, x.out, x.gls d.regs) := by unfold Doc.ovE; rw [hx]; rfl
    have hE2 : d.ovE q = (y.inn, y.out, y.gls d.regs) := by unfold Doc.ovE; rw [hy]; rfl
    have hm := ov_none (i := p) (j := q) ho (by omega) hq (by
      rw [hE1, hE2]
      unfold seenB at hsx hsy
      simp at hsx hsy
      simp only
      omega)
    rw [hE1, hE2] at hm
    simp only at hm
    intro e
    have hsame := (Gl.ok_same (gls_ok (doc_ev h (List.mem_of_getElem? hx)) a ha) (gls_ok (doc_ev h (List.mem_of_getElem? hy)) b hb)).1 e
    have : meetB (x.gls d.regs) (y.gls d.regs) = true := by
      unfold meetB
      exact List.any_eq_true.2 ⟨a, ha, List.any_eq_true.2 ⟨b, hb, by simpa using hsame⟩⟩
    rw [hm] at this
    simp at this
theorem scr_alone {d : Doc} (h : d.err = 0) (ho : d.ovs = []) (f : Int) : (d.scr f).length = (visL d.evs d.regs (atL d.evs f)).length ∧ ∀ x ∈ visL d.evs d.regs (atL d.evs f), x ∈ d.scr f :=
  screen_all (fun g hg => (vis_ok h _ g hg).1) (vis_apart h ho f)
theorem ov_meet {d : Doc} (h : d.err = 0) {i j : Nat} {x y : Ev} (hx : d.evs[i]? = some x) (hy : d.evs[j]? = some y) : meetS (setOf (x.gls d.regs)) (setOf (y.gls d.regs)) = meetB (x.gls d.regs) (y.gls d.regs) :=
  meet_same (gls_ok (doc_ev h (List.mem_of_getElem? hx))) (gls_ok (doc_ev h (List.mem_of_getElem? hy)))
end Go.Proofs.YtajbhfmdmajpmaaGreatDoor

/-! NeatR -/
namespace Go.Proofs.YtajbhfmdmajpmaaGreatDoor
set_option linter.unusedVariables false
set_option linter.unusedSimpArgs false
open Go.RowKit
theorem idx_two : ∀ (l : List UInt8) (k : Nat), l[k]? = some 32 → l[k + 1]? = some 32 → 0 ≤ Lib.index l [32, 32]
  | [], k, h, _ => by simp at h
  | b :: l, 0, h, h2 => by
    unfold Lib.index
    cases l with
    | nil => simp at h2
    | cons c l =>
      simp at h h2
      subst h h2
      rw [if_pos (by rfl)]
      exact Int.le_refl _
  | b :: l, k + 1, h, h2 => by
    have ih := idx_two l k (by simpa using h) (by simpa using h2)
    unfold Lib.index
    split
    · exact Int.le_refl _
    · rw [if_neg (by simp; omega)]; omega
theorem idx_no : ∀ (l : List UInt8), (∀ k : Nat, l[k]? = some 32 → l[k + 1]? = some 32 → False) → Lib.index l [32, 32] = -1
  | [], _ => rfl
  | b :: l, h => by
    have ih := idx_no l fun k h1 h2 => h (k + 1) (by simpa using h1) (by simpa using h2)
    unfold Lib.index
    rw [if_neg, ih]
    · rfl
    · intro hp
      cases l with
      | nil => simp [List.isPrefixOf] at hp
      | cons c l =>
        simp only [List.isPrefixOf, Bool.and_true, Bool.and_eq_true, beq_iff_eq] at hp
        exact h 0 (by simp [hp.1]) (by simp [hp.2])
theorem at32 (s : ByteArray) (k : Nat) (h : k < s.size) : (s.data.toList[k]? = some 32) ↔ ((s[k].toNat : Int) == 32) = true := by
  have hl : s.data.toList[k]? = some s[k] := by
    rw [List.getElem?_eq_getElem (by simpa using h)]
    rfl
  rw [hl]
  constructor
  · intro h1
    have h2 : s[k] = 32 := Option.some.inj h1
    rw [h2]; rfl
  · intro h1
    have h2 : (s[k].toNat : Int) = 32 := by simpa using h1
    congr 1
    apply UInt8.toNat_inj.1
    have : s[k].toNat = 32 := by omega
    rw [this]; rfl
def NeatRel (s : ByteArray) (w : World) (i : Value) (wr : World) : Prop := ∃ k : Nat, 1 ≤ k ∧ k ≤ s.size ∧ i = .int .i64 k ∧ wr = w ∧ ∀ j, j + 1 < k → s.data.toList[j]? = some 32 → s.data.toList[j + 1]? = some 32 → False
set_option maxRecDepth 100000 in
set_option maxHeartbeats 1000000 in
theorem R11neat_any (s : ByteArray) (w : World) (hs : s.size ≤ 9223372036854775807) : Calls Tryz.prog 95 #[.string s] w fun e w' => e = .returned (.bool (!badS s)) ∧ Ext w w' := by
  by_cases e0 : s.toList.isEmpty = true
  · have HFb : Hid (badS s = true) := by show _ = _; unfold badS; rw [e0]; rfl
    go_enter Tryz.func95, Tryz.ntmps95
    go_wp2_with fail
    go_ret
    exact ⟨by rw [HFb.out]; rfl, Ext.refl _⟩
  have e0' : s.toList.isEmpty = false := by simpa using e0
  have hpos : 0 < s.size := by
    rcases Nat.eq_zero_or_pos s.size with h | h
    · exfalso
      apply e0
      have : s.toList = [] := by
        rw [ByteArray.toList_eq]
        exact List.eq_nil_of_length_eq_zero (by simpa using h)
      rw [this]; rfl
    · exact h
  clear e0
  by_cases e1 : ((s[0].toNat : Int) == 32) = true
  · have HFb : Hid (badS s = true) := by show _ = _; unfold badS; rw [decide_eq_true ((head_eq s hpos).2 e1)]; simp
    go_enter Tryz.func95, Tryz.ntmps95
    go_wp2_with fail
    go_ret
    exact ⟨by rw [HFb.out]; rfl, Ext.refl _⟩
  have e1' : ((s[0].toNat : Int) == 32) = false := by simpa using e1
  have hd1 := Lib.hid (decide_eq_false (p := s.data.toList.head? = some 32) (fun h => e1 ((head_eq s hpos).1 h)))
  clear e1
  have hz0 : (0 : Int) ≤ (s.size : Int) - 1 := by omega
  have hz1 : (s.size : Int) - 1 < (s.size : Int) := by omega
  by_cases e2 : ((s[s.size - 1].toNat : Int) == 32) = true
  · have HFb : Hid (badS s = true) := by show _ = _; unfold badS; rw [decide_eq_true ((last_eq s hpos).2 e2)]; simp
    go_enter Tryz.func95, Tryz.ntmps95
    go_wp2_with fail
    go_ret
    exact ⟨by rw [HFb.out]; rfl, Ext.refl _⟩
  have e2' : ((s[s.size - 1].toNat : Int) == 32) = false := by simpa using e2
  have hd2 := Lib.hid (decide_eq_false (p := s.data.toList.getLast? = some 32) (fun h => e2 ((last_eq s hpos).1 h)))
  clear e2
  have HFb : Hid (badS s = Lib.contains s.data.toList [32, 32]) := by show _ = _; unfold badS; rw [e0', hd1.out, hd2.out]; simp
  go_enter Tryz.func95, Tryz.ntmps95
  go_wp2_with fail
  go_loopw [3] (fun i wr => NeatRel s w i wr) (fun i _ => s.size - (intOf i).toNat)
  case atStart => exact ⟨1, Nat.le_refl _, hpos, rfl, rfl, fun j h => by omega⟩
  case round =>
    obtain ⟨k, hk1, hk, rfl, rfl, hno⟩ := hrel
    have HNo := Lib.hid hno
    clear hno e1' e2'
    by_cases hlt : k < s.size
    · have hk0 : (0 : Int) ≤ (k : Int) - 1 := by omega
      have hk2 : (k : Int) - 1 < (s.size : Int) := by omega
      have hk3 : ((k : Int) - 1).toNat = k - 1 := by omega
      have hk4 : k - 1 < s.size := by omega
      cases b1 : ((s[k].toNat : Int) == 32)
      · have HN : Hid (∀ j, j + 1 < k + 1 → s.data.toList[j]? = some 32 → s.data.toList[j + 1]? = some 32 → False) := fun j h h1 h2 => by
          by_cases hj : j + 1 = k
          · rw [hj, at32 s k hlt, b1] at h2; cases h2
          · exact HNo.out j (by omega) h1 h2
        go_wp2_with fail
        exact ⟨⟨k + 1, by omega, by omega, by go_num, rfl, HN.out⟩, by simp [intOf]; omega⟩
      · cases b2 : ((s[k - 1].toNat : Int) == 32)
        · have HN : Hid (∀ j, j + 1 < k + 1 → s.data.toList[j]? = some 32 → s.data.toList[j + 1]? = some 32 → False) := fun j h h1 h2 => by
            by_cases hj : j + 1 = k
            · obtain rfl : j = k - 1 := by omega
              rw [at32 s (k - 1) hk4, b2] at h1; cases h1
            · exact HNo.out j (by omega) h1 h2
          go_wp2_with fail
          exact ⟨⟨k + 1, by omega, by omega, by go_num, rfl, HN.out⟩, by simp [intOf]; omega⟩
        · have HC : Hid (Lib.contains s.data.toList [32, 32] = true) := by
            refine decide_eq_true (idx_two _ (k - 1) ((at32 s (k - 1) hk4).2 b2) ?_)
            rw [show k - 1 + 1 = k by omega]
            exact (at32 s k hlt).2 b1
          go_wp2_with fail
          go_ret
          exact ⟨by rw [HFb.out, HC.out]; rfl, Ext.refl _⟩
    · have HC : Hid (Lib.contains s.data.toList [32, 32] = false) := by
        refine decide_eq_false ?_
        rw [idx_no _ fun j h1 h2 => HNo.out j (by have := (List.getElem?_eq_some_iff.1 h2).1; simp at this; omega) h1 h2]
        decide
      go_wp2_with fail
      go_ret
      exact ⟨by rw [HFb.out, HC.out]; rfl, Ext.refl _⟩
end Go.Proofs.YtajbhfmdmajpmaaGreatDoor

/-! RowRC -/
namespace Go.Proofs.YtajbhfmdmajpmaaGreatDoor
set_option linter.unusedVariables false
set_option linter.unusedSimpArgs false
open Go.RowKit
set_option maxRecDepth 100000 in
set_option maxHeartbeats 2000000 in
theorem R9Check_any (A : Option Addr) (n c : Nat) (l : Row) (w : World) (hE : Env w) (hl : RunsAt w A n l) (hb : ∀ r ∈ l, r.text.size ≤ 4611686018427387904 ∧ r.ruby.size ≤ 4611686018427387904) (hn : n ≤ 4611686018427387904) :
    Calls Tryz.prog 94 #[.agg #[.slice A n c]] w fun e w' => e = .returned (.int .i64 (rowErr l)) ∧ Ext w w' := by
  have HL := Lib.hid hl
  have HLn := Lib.hid hl.len
  have HEn := Lib.hid hE
  have HBd := Lib.hid hb
  clear hl hE hb
  by_cases h16 : 16 < n
  · have HF : Hid (rowErr l = 9) := by show rowErr l = 9; unfold rowErr; rw [if_pos (by rw [HLn.out]; exact h16)]
    have h16' : (16 : Int) < (n : Int) := by omega
    go_enter Tryz.func94, Tryz.ntmps94
    go_wp2_with fail
    go_ret
    exact ⟨ret_int HF.out.symm, (Ext.refl w).alloc _⟩
  · have HF : Hid (rowErr l = runsErr none l) := by show rowErr l = _; unfold rowErr; rw [if_neg (by rw [HLn.out]; exact h16)]
    have h16' : (n : Int) ≤ 16 := by omega
    clear h16
    go_enter Tryz.func94, Tryz.ntmps94
    go_wp2_with fail
    go_loopw [12] (fun i wr => CheckRel w #[.slice A n c] n l i wr) (fun i _ => n - (intOf i).toNat)
    case atStart => exact ⟨0, Nat.zero_le _, rfl, Ext.refl _, rfl⟩
    case round =>
      obtain ⟨k, hk, rfl, hx, hp⟩ := hrel
      have HP := Lib.hid hp
      clear hp
      have hxw : Ext w wr := ((Ext.refl w).alloc _).trans hx
      by_cases hlt : k < n
      · have HB0 := Lib.hid (Blk.ext (Blk.new w _ _) hx)
        obtain ⟨b, off, r, rfl, hr, hC⟩ := (HL.out.ext hxw).at_ hlt
        obtain ⟨c0, c1, c2, c3, c4⟩ := hC
        have HD := Lib.hid (drop_at l k r hr)
        have HA := Lib.hid (ahead_succ l k r hr)
        have hbd := HBd.out r (List.mem_of_getElem? hr)
        obtain ⟨hb1, hb2⟩ := hbd
        have HR := Lib.hid hr
        clear hr
        have HPs : Hid (runsErr none l = if runErr (ahead l k) r = 0 then runsErr (ahead l (k + 1)) (l.drop (k + 1)) else runErr (ahead l k) r) := by
          show _ = _
          rw [HP.out, HD.out, HA.out]
          rfl
        clear HP HD HA
        have hblt : w.heap.size < wr.heap.size := HB0.out.lt
        have hbne : w.heap.size ≠ wr.heap.size := by omega
        go_wp2_with fail
        refine (RValid_any r.text _ (by omega)).mono ?_
        rintro e w2 ⟨rfl, hx2⟩
        have HB2 := Lib.hid (Blk.ext (Blk.new wr _ _) hx2)
        have hxw2 : Ext w w2 := (hxw.alloc _).trans hx2
        cases hv : vld r.text
        · have HV := Lib.hid hv
          clear hv
          go_wp2_with fail
          go_ret
          refine ⟨ret_int ?_, hxw2⟩
          rw [HF.out, HPs.out, runErr_text HV.out]
          rfl
        · have HV := Lib.hid hv
          clear hv
          have hc2 := fun o => HB2.out.cell o
          cases he : r.text.toList.isEmpty
          · by_cases hcol : r.color ≤ 6
            · go_wp2_with fail
              refine (R9Valid_any _ _ _ _).mono ?_
              rintro e w3 ⟨rfl, hx3⟩
              have HB3 := Lib.hid (HB2.out.ext hx3)
              clear hc2
              have hc3 := fun o => HB3.out.cell o
              go_wp2_with fail
              refine (RValid_any r.ruby _ (by omega)).mono ?_
              rintro e w4 ⟨rfl, hx4⟩
              have HB4 := Lib.hid (HB3.out.ext hx4)
              have hxw4 : Ext w w4 := (hxw2.trans hx3).trans hx4
              clear hc3
              cases hvr : vld r.ruby
              · have HVr := Lib.hid hvr
                clear hvr
                go_wp2_with fail
                go_ret
                refine ⟨ret_int ?_, hxw4⟩
                rw [HF.out, HPs.out, runErr_ruby HV.out he hcol HVr.out]
                rfl
              · have HVr := Lib.hid hvr
                clear hvr
                have HE2 := Lib.hid (runErr_last (p := ahead l k) HV.out he hcol HVr.out)
                by_cases hk0 : k = 0
                · subst hk0
                  have HAl : Hid (runErr (ahead l 0) r = 0) := by show _ = _; rw [HE2.out]; rfl
                  have HPt : Hid (runsErr none l = runsErr (ahead l (0 + 1)) (l.drop (0 + 1))) := by show _ = _; rw [HPs.out, if_pos HAl.out]
                  go_wp2_with fail
                  go_quiet (fail)
                  go_wp2_with fail
                  exact ⟨⟨0 + 1, by omega, by go_num, ((hx.alloc _).trans ((hx2.trans hx3).trans hx4)).drewN _, HPt.out⟩, by simp [intOf]; omega⟩
                · obtain ⟨m, rfl⟩ : ∃ m, k = m + 1 := ⟨k - 1, by omega⟩
                  obtain ⟨q, hq⟩ : ∃ q, l[m]? = some q := by
                    have : m < l.length := by rw [HLn.out]; omega
                    exact ⟨_, List.getElem?_eq_getElem this⟩
                  have HAh : Hid (ahead l (m + 1) = some q) := by show _ = _; unfold ahead; rw [if_neg hk0]; exact hq
                  obtain ⟨b', off', q', hA', hq', hC'⟩ := (HL.out.ext hxw4).at_ (i := m) (by omega)
                  cases hA'
                  rw [hq] at hq'
                  cases hq'
                  obtain ⟨d0, d1, d2, d3, d4⟩ := hC'
                  have HQ := Lib.hid hq
                  clear hq hk0
                  have hm0 : (0 : Int) ≤ (m : Int) := by omega
                  have hm1 : (m : Int) < (n : Int) := by omega
                  have hm2 : (0 : Int) < (m : Int) + 1 := by omega
                  have hm3 : m < n := by omega
                  have e1 : IntKind.i64.wrap (m : Int) = (m : Int) := IntWalk.i64_in _ (by omega)
                  have hc4 := fun o => HB4.out.cell o
                  have HB04 := Lib.hid (HB0.out.ext (((Ext.refl wr).alloc _).trans ((hx2.trans hx3).trans hx4)))
                  have hc0 := fun o => HB04.out.cell o
                  have z0 : w4.cell? ⟨w.heap.size, 0, none⟩ = some (.slice (some ⟨b, off, none⟩) n c) := hc0 0
                  have z1 : w4.cell? ⟨wr.heap.size, 0, none⟩ = some (.string r.text) := hc4 0
                  have z2 : w4.cell? ⟨wr.heap.size, 1, none⟩ = some (.int .u8 r.color) := hc4 1
                  have z3 : w4.cell? ⟨wr.heap.size, 2, none⟩ = some (.bool r.italic) := hc4 2
                  have z4 : w4.cell? ⟨wr.heap.size, 3, none⟩ = some (.bool r.under) := hc4 3
                  have z5 : w4.cell? ⟨wr.heap.size, 4, none⟩ = some (.string r.ruby) := hc4 4
                  clear hc0 hc4 c0 c1 c2 c3 c4
                  have hxa : Ext (w.alloc (.cells #[.slice (some ⟨b, off, none⟩) n c] 107)) w4 := (hx.alloc _).trans ((hx2.trans hx3).trans hx4)
                  have hxw5 : Ext w w4 := ((Ext.refl w).alloc _).trans hxa
                  have hq9 := fun w => eql_style q.color r.color q.italic r.italic q.under r.under w
                  by_cases hs : q.color = r.color ∧ q.italic = r.italic ∧ q.under = r.under
                  · rw [decide_eq_true hs] at hq9
                    have HSs := Lib.hid hs
                    clear hs
                    cases hqr : q.ruby.toList.isEmpty
                    · have HAk : Hid (alikeB q r = false) := by show _ = _; unfold alikeB; rw [decide_eq_false (p := q.ruby.toList = []) (fun h => by rw [h] at hqr; exact absurd hqr (by decide))]; simp
                      have HAl : Hid (runErr (ahead l (m + 1)) r = 0) := by show _ = _; rw [HE2.out, HAh.out, Option.any_some, HAk.out]; rfl
                      have HPt : Hid (runsErr none l = runsErr (ahead l (m + 1 + 1)) (l.drop (m + 1 + 1))) := by show _ = _; rw [HPs.out, if_pos HAl.out]
                      go_wp2_with fail
                      go_quiet (fail)
                      go_wp2_with fail
                      exact ⟨⟨m + 1 + 1, by omega, by go_num, hxa.drewN _, HPt.out⟩, by simp [intOf]; omega⟩
                    · cases hrr : r.ruby.toList.isEmpty
                      · have HAk : Hid (alikeB q r = false) := by show _ = _; unfold alikeB; rw [decide_eq_false (p := r.ruby.toList = []) (fun h => by rw [h] at hrr; exact absurd hrr (by decide))]; simp
                        have HAl : Hid (runErr (ahead l (m + 1)) r = 0) := by show _ = _; rw [HE2.out, HAh.out, Option.any_some, HAk.out]; rfl
                        have HPt : Hid (runsErr none l = runsErr (ahead l (m + 1 + 1)) (l.drop (m + 1 + 1))) := by show _ = _; rw [HPs.out, if_pos HAl.out]
                        go_wp2_with fail
                        go_quiet (fail)
                        go_wp2_with fail
                        exact ⟨⟨m + 1 + 1, by omega, by go_num, hxa.drewN _, HPt.out⟩, by simp [intOf]; omega⟩
                      · have HAk : Hid (alikeB q r = true) := by show _ = _; unfold alikeB Run.plainStyle; rw [decide_eq_true (p := r.ruby.toList = []) ((isEmpty_iff _).1 hrr), decide_eq_true (p := q.ruby.toList = []) ((isEmpty_iff _).1 hqr), decide_eq_true HSs.out]; rfl
                        have HAl : Hid (runErr (ahead l (m + 1)) r = 8) := by show _ = _; rw [HE2.out, HAh.out, Option.any_some, HAk.out]; rfl
                        go_wp2_with fail
                        go_quiet (fail)
                        go_wp2_with fail
                        go_ret
                        exact ⟨ret_int (by rw [HF.out, HPs.out, HAl.out]; rfl), hxw5.drewN _⟩
                  · rw [decide_eq_false hs] at hq9
                    have HAk : Hid (alikeB q r = false) := by show _ = _; unfold alikeB Run.plainStyle; rw [decide_eq_false hs]; simp
                    clear hs
                    have HAl : Hid (runErr (ahead l (m + 1)) r = 0) := by show _ = _; rw [HE2.out, HAh.out, Option.any_some, HAk.out]; rfl
                    have HPt : Hid (runsErr none l = runsErr (ahead l (m + 1 + 1)) (l.drop (m + 1 + 1))) := by show _ = _; rw [HPs.out, if_pos HAl.out]
                    go_wp2_with fail
                    go_quiet (fail)
                    go_wp2_with fail
                    exact ⟨⟨m + 1 + 1, by omega, by go_num, hxa.drewN _, HPt.out⟩, by simp [intOf]; omega⟩
            · have HC := Lib.hid hcol
              have hd : decide (r.color ≤ 6) = false := decide_eq_false hcol
              clear hcol
              go_wp2_with fail
              refine (R9Valid_any _ _ _ _).mono ?_
              rintro e w3 ⟨rfl, hx3⟩
              go_wp2_with fail
              go_ret
              refine ⟨ret_int ?_, hxw2.trans hx3⟩
              rw [HF.out, HPs.out, runErr_color HV.out he (by have := HC.out; omega)]
              rfl
          · go_wp2_with fail
            go_ret
            refine ⟨ret_int ?_, hxw2⟩
            rw [HF.out, HPs.out, runErr_empty HV.out he]
            rfl
      · have HD : Hid (l.drop k = []) := List.drop_eq_nil_of_le (by rw [HLn.out]; omega)
        go_wp2_with fail
        go_ret
        exact ⟨ret_int (by rw [HF.out, HP.out, HD.out]; rfl), hxw⟩
end Go.Proofs.YtajbhfmdmajpmaaGreatDoor

/-! ECheckR -/
namespace Go.Proofs.YtajbhfmdmajpmaaGreatDoor
set_option linter.unusedVariables false
set_option linter.unusedSimpArgs false
open Go.RowKit
theorem le_sumN : ∀ {l : List Nat} {x : Nat}, x ∈ l → x ≤ l.sum
  | [], _, h => by cases h
  | y :: l, x, h => by
    simp only [List.sum_cons]
    cases List.mem_cons.1 h with
    | inl e => subst e; omega
    | inr e => have := le_sumN e; omega
def ChkRR (w : World) (n : Nat) (rows : List Row) (i v : Value) (wr : World) : Prop :=
  ∃ k : Nat, k ≤ n ∧ i = .int .i64 k ∧ Ext w wr ∧ rowsErr rows = rowsErr (rows.drop k) ∧ wr.ownsRow w.heap.size 3 1 v k (((rows.take k).map rowLen).flatMap fun x => [.int .i64 x])
set_option maxRecDepth 100000 in
set_option maxHeartbeats 8000000 in
theorem R11Check_any (e : Ev) (A : Option Addr) (n c : Nat) (A2 : Option Addr) (n2 c2 : Nat) (regs : List Reg) (w : World) (hE : Env w) (he : EvAt w e A n c) (hb : EvSmall e) (hby : e.bytes ≤ 1099511627776) (hr : RegsAt w A2 n2 regs) (hr2 : n2 ≤ 9223372036854775807) (hrs : RegsSmall regs) :
    Calls Tryz.prog 58 #[.agg (e.cells A n c), .slice A2 n2 c2] w fun en w' => en = .returned (.int .i64 (e.err regs)) ∧ Ext w w' := by
  have hn24 : n * 24 ≤ 140737488355328 := by have := he.2; omega
  have HR := Lib.hid hr
  have HEn := Lib.hid hE
  have HLn := Lib.hid he.len
  have HSm := Lib.hid hb.2.2
  have hspk := hb.2.1
  have hsm := findR_small (nm := e.region) hrs
  have HA := Lib.hid he
  have HBy : Hid (∀ r ∈ e.rows, rowBytes r ≤ 1099511627776) := fun r hr => by
    have := le_sumN (l := e.rows.map rowBytes) (List.mem_map_of_mem hr)
    unfold Ev.bytes at hby
    omega
  have HX := Lib.hid ((Ext.refl w).alloc (.cells (e.cells A n c) 53))
  have HB := Lib.hid (Blk.new w 53 (e.cells A n c))
  have HPl := Lib.hid (fun A n c lens w hl hn => R10Place_any ((findR regs e.region).getD Reg.zero) A n c lens w hsm hl hn)
  clear he hE hr hb hby
  unfold Ev.cells at *
  go_enter Tryz.func58, Tryz.ntmps58
  by_cases h1 : e.id < 1
  · have hne := HB.out.lt
    have hc_1 := fun o => HB.out.cell o
    go_wp2_with fail
    clear hc_1
    go_ret
    exact ⟨ret_int (by unfold Ev.err; rw [if_pos (by omega)]), HX.out⟩
  by_cases h2 : 1099511627776 < e.id
  · have hne := HB.out.lt
    have hc_2 := fun o => HB.out.cell o
    go_wp2_with fail
    clear hc_2
    go_ret
    exact ⟨ret_int (by unfold Ev.err; rw [if_pos (by omega)]), HX.out⟩
  have hc_3 := fun o => HB.out.cell o
  go_wp2_with fail
  clear hc_3
  refine (R11spanned_any _ _ _).mono ?_
  rintro en w_4 ⟨rfl, hx_5⟩
  have HX_6 := Lib.hid (HX.out.trans hx_5)
  have HB_7 := Lib.hid (HB.out.ext hx_5)
  clear hx_5 HX HB
  cases hs : spansB e.inn e.out
  · have HSp := Lib.hid hs
    clear hs
    have hc_8 := fun o => HB_7.out.cell o
    go_wp2_with fail
    clear hc_8
    go_ret
    exact ⟨ret_int (by unfold Ev.err; rw [if_pos (by exact .inr (.inr HSp.out))]), HX_6.out⟩
  have HE1 : Hid (¬ (e.id < 1 ∨ 1099511627776 < e.id ∨ spansB e.inn e.out = false)) := by show ¬ _; rw [hs]; simp; omega
  clear hs h1 h2
  have hc_9 := fun o => HB_7.out.cell o
  go_wp2_with fail
  clear hc_9
  refine (R10Find_any A2 n2 c2 regs e.region _ (HR.out.ext HX_6.out) hr2).mono ?_
  rintro en w_10 ⟨rfl, hx_11⟩
  have HX_12 := Lib.hid (HX_6.out.trans hx_11)
  have HB_13 := Lib.hid (HB_7.out.ext hx_11)
  clear hx_11 HX_6 HB_7
  cases hf : findR regs e.region with
  | none =>
    have HF : Hid (e.err regs = 6) := by show _ = _; unfold Ev.err; rw [if_neg HE1.out, hf]
    clear hf
    simp only [Option.isSome_none, Option.getD_none]
    unfold Reg.val
    have hc_14 := fun o => HB_13.out.cell o
    go_wp2_with fail
    clear hc_14
    go_ret
    exact ⟨ret_int HF.out.symm, HX_12.out.alloc _⟩
  | some r =>
    have HF : Hid (e.err regs = if noKind e.kind = true then 3 else if e.speaker.toList.isEmpty = false ∧ nameB e.speaker = false then 5 else if e.rows.length = 0 ∨ 4 < e.rows.length then 9 else if rowsErr e.rows ≠ 0 then rowsErr e.rows else r.place (e.rows.map rowLen)) := by
      show _ = _; unfold Ev.err; rw [if_neg HE1.out, hf]
    rw [hf] at HPl
    simp only [Option.getD_some] at HPl
    clear hf HE1 hsm
    simp only [Option.isSome_some, Option.getD_some]
    unfold Reg.val at HPl ⊢
    have HB_15 := Lib.hid (Blk.new w_10 125 #[.string r.name, .int .i64 r.top, .int .i64 r.height, .int .i64 r.left, .int .i64 r.width, .int .u8 r.align, .bool r.bottom])
    have ha_16 := (Ext.refl w_10).alloc (.cells #[.string r.name, .int .i64 r.top, .int .i64 r.height, .int .i64 r.left, .int .i64 r.width, .int .u8 r.align, .bool r.bottom] 125)
    have HX_17 := Lib.hid (HX_12.out.trans ha_16)
    have HB_18 := Lib.hid (HB_13.out.ext ha_16)
    clear ha_16 HX_12 HB_13
    by_cases k1 : e.kind < 1
    · have HNk : Hid (noKind e.kind = true) := decide_eq_true (by omega)
      have hc_19 := fun o => HB_18.out.cell o
      go_wp2_with fail
      clear hc_19
      go_ret
      exact ⟨ret_int (by rw [HF.out, if_pos HNk.out]), HX_17.out⟩
    by_cases k2 : 4 < e.kind
    · have HNk : Hid (noKind e.kind = true) := decide_eq_true (by omega)
      have hc_20 := fun o => HB_18.out.cell o
      go_wp2_with fail
      clear hc_20
      go_ret
      exact ⟨ret_int (by rw [HF.out, if_pos HNk.out]), HX_17.out⟩
    have HNk : Hid (noKind e.kind = false) := decide_eq_false (by omega)
    cases hse : e.speaker.toList.isEmpty
    · have hc_21 := fun o => HB_18.out.cell o
      go_wp2_with fail
      clear hc_21
      refine (RName_any _ _ hspk).mono ?_
      rintro en w_22 ⟨rfl, hx_23⟩
      have HX_24 := Lib.hid (HX_17.out.trans hx_23)
      have HB_25 := Lib.hid (HB_18.out.ext hx_23)
      have HB_26 := Lib.hid (HB_15.out.ext hx_23)
      clear hx_23 HX_17 HB_18 HB_15
      cases hnm : nameB e.speaker
      · have HNm := Lib.hid hnm
        clear hnm
        have hc_27 := fun o => HB_25.out.cell o
        go_wp2_with fail
        clear hc_27
        go_ret
        exact ⟨ret_int (by rw [HF.out, if_neg (by rw [HNk.out]; simp), if_pos ⟨hse, HNm.out⟩]), HX_24.out⟩
      have HF2 : Hid (e.err regs = if e.rows.length = 0 ∨ 4 < e.rows.length then 9 else if rowsErr e.rows ≠ 0 then rowsErr e.rows else r.place (e.rows.map rowLen)) := by show _ = _; rw [HF.out, if_neg (by rw [HNk.out]; simp), if_neg (by rw [hnm]; simp)]
      clear hnm
      by_cases h5 : n = 0
      · subst h5
        have hc_28 := fun o => HB_25.out.cell o
        go_wp2_with fail
        clear hc_28
        go_ret
        exact ⟨ret_int (by rw [HF2.out, if_pos (.inl HLn.out)]), HX_24.out⟩
      have h5' : ((n : Int) == 0) = false := by simp; omega
      by_cases h6 : 4 < n
      · have h6' : (4 : Int) < (n : Int) := by omega
        clear h5
        have hc_29 := fun o => HB_25.out.cell o
        go_wp2_with fail
        clear hc_29
        go_ret
        exact ⟨ret_int (by rw [HF2.out, if_pos (.inr (by rw [HLn.out]; exact h6))]), HX_24.out⟩
      have h6' : (n : Int) ≤ 4 := by omega
      have hn4 : n ≤ 4 := by omega
      have HF3 : Hid (e.err regs = if rowsErr e.rows ≠ 0 then rowsErr e.rows else r.place (e.rows.map rowLen)) := by show _ = _; rw [HF2.out, if_neg (by rw [HLn.out]; omega)]
      clear HF2 h5 h6
      have hc_30 := fun o => HB_25.out.cell o
      go_wp2_with fail
      clear hc_30

      go_loopw [7, 70] (fun v i wr => ChkRR w_22 n e.rows i v wr) (fun _ i _ => n - (intOf i).toNat)
      case atStart => exact ⟨0, Nat.zero_le _, rfl, Ext.refl _, rfl, by simp, .inl ⟨rfl, rfl⟩⟩
      case round =>
        obtain ⟨k, hk, rfl, hx, hp, hown⟩ := hrel
        have HP := Lib.hid hp
        have HO := Lib.hid hown
        clear hp hown
        have HXr := Lib.hid hx
        have hxw : Ext w wr := HX_24.out.trans hx
        have HXw := Lib.hid hxw
        by_cases hlt : k < n
        · obtain ⟨b, off, rw_, rfl, hrw, A', n', c', hcell, hnc, hc40, hruns⟩ := (HA.out.ext hxw).1.at_ hlt
          simp only [Nat.mul_one] at hcell
          have HRu := Lib.hid hruns
          have HD := Lib.hid (drop_at e.rows k rw_ hrw)
          have HTk := Lib.hid (take_snoc' e.rows k rw_ hrw)
          have HTl : Hid ((e.rows.take k).length = k) := by show _ = _; rw [List.length_take, HLn.out]; omega
          have hsmr := HSm.out rw_ (List.mem_of_getElem? hrw)
          have hby := HBy.out rw_ (List.mem_of_getElem? hrw)
          have HSr := Lib.hid hsmr
          have hE' := HEn.out.ext hxw
          have hlm : rw_.length ≤ 16 ∨ True := .inr trivial
          clear hrw hruns hsmr hlm
          have HCk := Lib.hid (fun w' (hx : Ext wr w') => R9Check_any A' n' c' rw_ w' (hE'.ext hx) (HRu.out.ext hx) HSr.out.2 (by omega))
          have HPn := Lib.hid (fun w' (hx : Ext wr w') => R9Plain_any A' n' c' rw_ w' (HRu.out.ext hx) (by omega) (by omega))
          have HLe := Lib.hid (fun w' (hx : Ext wr w') => R9Len_any A' n' c' rw_ w' (hE'.ext hx) (HRu.out.ext hx) (by omega) (by omega))
          have HTs : Hid ((textOf rw_).size = rowBytes rw_) := by show _ = _; rw [← rowText_len]; rfl
          have HNt := Lib.hid (fun w' => R11neat_any (textOf rw_) w' (by have := HTs.out; omega))
          clear hE' hx hxw
          have HX0 := Lib.hid (Ext.refl wr)
          have HB_31 := Lib.hid (Blk.new wr 107 #[.slice A' n' c'])
          have ha_32 := (Ext.refl wr).alloc (.cells #[.slice A' n' c'] 107)
          have HX_33 := Lib.hid (HX0.out.trans ha_32)
          clear ha_32 HX0
          have hsz0 := HXw.out.size
          have hc_34 := fun o => HB_31.out.cell o
          go_wp2_with fail
          clear hc_34
          refine (HCk.out _ HX_33.out).mono ?_
          rintro en w_35 ⟨rfl, hx_36⟩
          have HX_37 := Lib.hid (HX_33.out.trans hx_36)
          have HB_38 := Lib.hid (HB_31.out.ext hx_36)
          clear hx_36 HX_33 HB_31
          by_cases hre : rowErr rw_ = 0
          case neg =>
            have hre' : (rowErr rw_ != 0) = true := by simp [hre]
            have HNe : Hid (rowErrE rw_ = rowErr rw_) := by show _ = _; unfold rowErrE; rw [if_pos hre]
            have HN1 : Hid (rowsErr e.rows = rowErr rw_) := by show _ = _; rw [HP.out, HD.out, rowsErr, if_neg (by rw [HNe.out]; exact hre), HNe.out]
            have HN0 := Lib.hid hre
            clear hre
            have hc_39 := fun o => HB_38.out.cell o
            go_wp2_with fail
            clear hc_39
            go_ret
            exact ⟨ret_int (by rw [HF3.out, HN1.out, if_pos HN0.out]), HXw.out.trans HX_37.out⟩
          have hre' : (rowErr rw_ != 0) = false := by simp [hre]
          have HE0 : Hid (rowErrE rw_ = if badS (textOf rw_) = true then 4 else if 32 < rowLen rw_ then 11 else 0) := by show _ = _; unfold rowErrE; rw [if_neg (by simp [hre])]
          rw [hre]
          clear hre
          have hc_40 := fun o => HB_38.out.cell o
          go_wp2_with fail
          clear hc_40
          refine (HPn.out _ HX_37.out).mono ?_
          rintro en w_41 ⟨rfl, hx_42⟩
          have HX_43 := Lib.hid (HX_37.out.trans hx_42)
          have HB_44 := Lib.hid (HB_38.out.ext hx_42)
          clear hx_42 HX_37 HB_38
          rw [show (⟨(rowText rw_).toArray⟩ : ByteArray) = textOf rw_ from rfl]
          go_wp2_with fail
          refine (HNt.out _).mono ?_
          rintro en w_45 ⟨rfl, hx_46⟩
          have HX_47 := Lib.hid (HX_43.out.trans hx_46)
          have HB_48 := Lib.hid (HB_44.out.ext hx_46)
          clear hx_46 HX_43 HB_44
          cases hb : badS (textOf rw_)
          case true =>
            have HE1 : Hid (rowErrE rw_ = 4) := by show _ = _; rw [HE0.out, if_pos hb]
            clear hb
            have hc_49 := fun o => HB_48.out.cell o
            go_wp2_with fail
            clear hc_49
            go_ret
            exact ⟨ret_int (by rw [HF3.out, HP.out, HD.out, rowsErr, HE1.out]; rfl), HXw.out.trans HX_47.out⟩
          have HE1 : Hid (rowErrE rw_ = if 32 < rowLen rw_ then 11 else 0) := by show _ = _; rw [HE0.out, if_neg (by rw [hb]; decide)]
          clear hb HE0
          have hc_50 := fun o => HB_48.out.cell o
          go_wp2_with fail
          clear hc_50
          refine (HLe.out _ HX_47.out).mono ?_
          rintro en w_51 ⟨rfl, hx_52⟩
          have HX_53 := Lib.hid (HX_47.out.trans hx_52)
          have HB_54 := Lib.hid (HB_48.out.ext hx_52)
          clear hx_52 HX_47 HB_48
          by_cases hl : 32 < rowLen rw_
          case pos =>
            have HE2 : Hid (rowErrE rw_ = 11) := by show _ = _; rw [HE1.out, if_pos hl]
            have hc_55 := fun o => HB_54.out.cell o
            go_wp2_with fail
            clear hc_55
            go_ret
            exact ⟨ret_int (by rw [HF3.out, HP.out, HD.out, rowsErr, HE2.out]; rfl), HXw.out.trans HX_53.out⟩
          have HP2 : Hid (rowsErr e.rows = rowsErr (e.rows.drop (k + 1))) := by show _ = _; rw [HP.out, HD.out, rowsErr, if_pos (by rw [HE1.out, if_neg hl])]
          have hc_56 := fun o => HB_54.out.cell o
          go_wp2_with fail
          clear hc_56
          refine (HLe.out _ HX_53.out).mono ?_
          rintro en w_57 ⟨rfl, hx_58⟩
          have HX_59 := Lib.hid (HX_53.out.trans hx_58)
          have HB_60 := Lib.hid (HB_54.out.ext hx_58)
          clear hx_58 HX_53 HB_54
          have hbase := HXr.out.size
          have hown := own_ext HO.out HX_59.out
          obtain ⟨i0, hi0, hz0, hz1, hz2⟩ := info_parts info_int
          go_wp2_with (at_builtin; refine wpList_append1 rfl (.tmp 86) (.tmp 89) 47 rfl info_int Tryz.underlying47 rfl (by decide) (hown.alloc _) (by exact rfl) w_57.heap.size _ (by exact rfl) (by exact Blk.new' (by simp)) (by exact rfl) (by simp [Value.oneCell']) (by omega) (by simp [maxLen]; omega) (by have := HX_59.out.size; simp; omega) ?_; intro v' w' hown' hgr)
          refine ⟨⟨k + 1, by omega, by go_num, (HXr.out.trans (HX_59.out.alloc _)).grown hgr (fun q hq => own_lt hown q hq), HP2.out, ?_⟩, by simp [intOf]; omega⟩
          rw [HTk.out, List.map_append, List.flatMap_append]
          exact hown'
        have hkn : k = n := by omega
        subst hkn
        have HTk : Hid (e.rows.take k = e.rows) := List.take_of_length_le (by rw [HLn.out]; omega)
        have HF4 : Hid (e.err regs = r.place (e.rows.map rowLen)) := by show _ = _; rw [HF3.out, HP.out, List.drop_eq_nil_of_le (by rw [HLn.out]; omega), if_neg (by simp [rowsErr])]
        rw [HTk.out] at HO
        obtain ⟨A3, c3, rfl, hc3, hm3, hints, -⟩ := own_sl (f := fun x : Int => [.int .i64 x]) (size := 1) (fun _ => rfl) (by rw [List.length_map]; exact HLn.out) HO.out
        have HI := Lib.hid hints
        have HBr := Lib.hid (HB_26.out.ext hx)
        have hcr := fun o => HBr.out.cell o
        clear hints HO hx hxw
        go_wp2_with fail
        refine (HPl.out A3 k c3 _ _ HI.out (by simp [maxLen] at hm3; omega)).mono ?_
        rintro en w9 ⟨A4, n4, c4, rfl, -, -, hx9⟩
        clear hcr
        go_wp2_with fail
        go_ret
        exact ⟨ret_int HF4.out.symm, HXw.out.trans hx9⟩
    · have HF2 : Hid (e.err regs = if e.rows.length = 0 ∨ 4 < e.rows.length then 9 else if rowsErr e.rows ≠ 0 then rowsErr e.rows else r.place (e.rows.map rowLen)) := by show _ = _; rw [HF.out, if_neg (by rw [HNk.out]; simp), if_neg (by rw [hse]; simp)]
      by_cases h5 : n = 0
      · subst h5
        have hc_61 := fun o => HB_18.out.cell o
        go_wp2_with fail
        clear hc_61
        go_ret
        exact ⟨ret_int (by rw [HF2.out, if_pos (.inl HLn.out)]), HX_17.out⟩
      have h5' : ((n : Int) == 0) = false := by simp; omega
      by_cases h6 : 4 < n
      · have h6' : (4 : Int) < (n : Int) := by omega
        clear h5
        have hc_62 := fun o => HB_18.out.cell o
        go_wp2_with fail
        clear hc_62
        go_ret
        exact ⟨ret_int (by rw [HF2.out, if_pos (.inr (by rw [HLn.out]; exact h6))]), HX_17.out⟩
      have h6' : (n : Int) ≤ 4 := by omega
      have hn4 : n ≤ 4 := by omega
      have HF3 : Hid (e.err regs = if rowsErr e.rows ≠ 0 then rowsErr e.rows else r.place (e.rows.map rowLen)) := by show _ = _; rw [HF2.out, if_neg (by rw [HLn.out]; omega)]
      clear HF2 h5 h6
      have hc_63 := fun o => HB_18.out.cell o
      go_wp2_with fail
      clear hc_63
      generalize hW : (w_10.alloc (.cells #[.string r.name, .int .i64 r.top, .int .i64 r.height, .int .i64 r.left, .int .i64 r.width, .int .u8 r.align, .bool r.bottom] 125)) = W at *
      clear hW
      go_loopw [7, 70] (fun v i wr => ChkRR W n e.rows i v wr) (fun _ i _ => n - (intOf i).toNat)
      case atStart => exact ⟨0, Nat.zero_le _, rfl, Ext.refl _, rfl, by simp, .inl ⟨rfl, rfl⟩⟩
      case round =>
        obtain ⟨k, hk, rfl, hx, hp, hown⟩ := hrel
        have HP := Lib.hid hp
        have HO := Lib.hid hown
        clear hp hown
        have HXr := Lib.hid hx
        have hxw : Ext w wr := HX_17.out.trans hx
        have HXw := Lib.hid hxw
        by_cases hlt : k < n
        · obtain ⟨b, off, rw_, rfl, hrw, A', n', c', hcell, hnc, hc40, hruns⟩ := (HA.out.ext hxw).1.at_ hlt
          simp only [Nat.mul_one] at hcell
          have HRu := Lib.hid hruns
          have HD := Lib.hid (drop_at e.rows k rw_ hrw)
          have HTk := Lib.hid (take_snoc' e.rows k rw_ hrw)
          have HTl : Hid ((e.rows.take k).length = k) := by show _ = _; rw [List.length_take, HLn.out]; omega
          have hsmr := HSm.out rw_ (List.mem_of_getElem? hrw)
          have hby := HBy.out rw_ (List.mem_of_getElem? hrw)
          have HSr := Lib.hid hsmr
          have hE' := HEn.out.ext hxw
          have hlm : rw_.length ≤ 16 ∨ True := .inr trivial
          clear hrw hruns hsmr hlm
          have HCk := Lib.hid (fun w' (hx : Ext wr w') => R9Check_any A' n' c' rw_ w' (hE'.ext hx) (HRu.out.ext hx) HSr.out.2 (by omega))
          have HPn := Lib.hid (fun w' (hx : Ext wr w') => R9Plain_any A' n' c' rw_ w' (HRu.out.ext hx) (by omega) (by omega))
          have HLe := Lib.hid (fun w' (hx : Ext wr w') => R9Len_any A' n' c' rw_ w' (hE'.ext hx) (HRu.out.ext hx) (by omega) (by omega))
          have HTs : Hid ((textOf rw_).size = rowBytes rw_) := by show _ = _; rw [← rowText_len]; rfl
          have HNt := Lib.hid (fun w' => R11neat_any (textOf rw_) w' (by have := HTs.out; omega))
          clear hE' hx hxw
          have HX0 := Lib.hid (Ext.refl wr)
          have HB_64 := Lib.hid (Blk.new wr 107 #[.slice A' n' c'])
          have ha_65 := (Ext.refl wr).alloc (.cells #[.slice A' n' c'] 107)
          have HX_66 := Lib.hid (HX0.out.trans ha_65)
          clear ha_65 HX0
          have hsz0 := HXw.out.size
          have hc_67 := fun o => HB_64.out.cell o
          go_wp2_with fail
          clear hc_67
          refine (HCk.out _ HX_66.out).mono ?_
          rintro en w_68 ⟨rfl, hx_69⟩
          have HX_70 := Lib.hid (HX_66.out.trans hx_69)
          have HB_71 := Lib.hid (HB_64.out.ext hx_69)
          clear hx_69 HX_66 HB_64
          by_cases hre : rowErr rw_ = 0
          case neg =>
            have hre' : (rowErr rw_ != 0) = true := by simp [hre]
            have HNe : Hid (rowErrE rw_ = rowErr rw_) := by show _ = _; unfold rowErrE; rw [if_pos hre]
            have HN1 : Hid (rowsErr e.rows = rowErr rw_) := by show _ = _; rw [HP.out, HD.out, rowsErr, if_neg (by rw [HNe.out]; exact hre), HNe.out]
            have HN0 := Lib.hid hre
            clear hre
            have hc_72 := fun o => HB_71.out.cell o
            go_wp2_with fail
            clear hc_72
            go_ret
            exact ⟨ret_int (by rw [HF3.out, HN1.out, if_pos HN0.out]), HXw.out.trans HX_70.out⟩
          have hre' : (rowErr rw_ != 0) = false := by simp [hre]
          have HE0 : Hid (rowErrE rw_ = if badS (textOf rw_) = true then 4 else if 32 < rowLen rw_ then 11 else 0) := by show _ = _; unfold rowErrE; rw [if_neg (by simp [hre])]
          rw [hre]
          clear hre
          have hc_73 := fun o => HB_71.out.cell o
          go_wp2_with fail
          clear hc_73
          refine (HPn.out _ HX_70.out).mono ?_
          rintro en w_74 ⟨rfl, hx_75⟩
          have HX_76 := Lib.hid (HX_70.out.trans hx_75)
          have HB_77 := Lib.hid (HB_71.out.ext hx_75)
          clear hx_75 HX_70 HB_71
          rw [show (⟨(rowText rw_).toArray⟩ : ByteArray) = textOf rw_ from rfl]
          go_wp2_with fail
          refine (HNt.out _).mono ?_
          rintro en w_78 ⟨rfl, hx_79⟩
          have HX_80 := Lib.hid (HX_76.out.trans hx_79)
          have HB_81 := Lib.hid (HB_77.out.ext hx_79)
          clear hx_79 HX_76 HB_77
          cases hb : badS (textOf rw_)
          case true =>
            have HE1 : Hid (rowErrE rw_ = 4) := by show _ = _; rw [HE0.out, if_pos hb]
            clear hb
            have hc_82 := fun o => HB_81.out.cell o
            go_wp2_with fail
            clear hc_82
            go_ret
            exact ⟨ret_int (by rw [HF3.out, HP.out, HD.out, rowsErr, HE1.out]; rfl), HXw.out.trans HX_80.out⟩
          have HE1 : Hid (rowErrE rw_ = if 32 < rowLen rw_ then 11 else 0) := by show _ = _; rw [HE0.out, if_neg (by rw [hb]; decide)]
          clear hb HE0
          have hc_83 := fun o => HB_81.out.cell o
          go_wp2_with fail
          clear hc_83
          refine (HLe.out _ HX_80.out).mono ?_
          rintro en w_84 ⟨rfl, hx_85⟩
          have HX_86 := Lib.hid (HX_80.out.trans hx_85)
          have HB_87 := Lib.hid (HB_81.out.ext hx_85)
          clear hx_85 HX_80 HB_81
          by_cases hl : 32 < rowLen rw_
          case pos =>
            have HE2 : Hid (rowErrE rw_ = 11) := by show _ = _; rw [HE1.out, if_pos hl]
            have hc_88 := fun o => HB_87.out.cell o
            go_wp2_with fail
            clear hc_88
            go_ret
            exact ⟨ret_int (by rw [HF3.out, HP.out, HD.out, rowsErr, HE2.out]; rfl), HXw.out.trans HX_86.out⟩
          have HP2 : Hid (rowsErr e.rows = rowsErr (e.rows.drop (k + 1))) := by show _ = _; rw [HP.out, HD.out, rowsErr, if_pos (by rw [HE1.out, if_neg hl])]
          have hc_89 := fun o => HB_87.out.cell o
          go_wp2_with fail
          clear hc_89
          refine (HLe.out _ HX_86.out).mono ?_
          rintro en w_90 ⟨rfl, hx_91⟩
          have HX_92 := Lib.hid (HX_86.out.trans hx_91)
          have HB_93 := Lib.hid (HB_87.out.ext hx_91)
          clear hx_91 HX_86 HB_87
          have hbase := HXr.out.size
          have hown := own_ext HO.out HX_92.out
          obtain ⟨i0, hi0, hz0, hz1, hz2⟩ := info_parts info_int
          go_wp2_with (at_builtin; refine wpList_append1 rfl (.tmp 86) (.tmp 89) 47 rfl info_int Tryz.underlying47 rfl (by decide) (hown.alloc _) (by exact rfl) w_90.heap.size _ (by exact rfl) (by exact Blk.new' (by simp)) (by exact rfl) (by simp [Value.oneCell']) (by omega) (by simp [maxLen]; omega) (by have := HX_92.out.size; simp; omega) ?_; intro v' w' hown' hgr)
          refine ⟨⟨k + 1, by omega, by go_num, (HXr.out.trans (HX_92.out.alloc _)).grown hgr (fun q hq => own_lt hown q hq), HP2.out, ?_⟩, by simp [intOf]; omega⟩
          rw [HTk.out, List.map_append, List.flatMap_append]
          exact hown'
        have hkn : k = n := by omega
        subst hkn
        have HTk : Hid (e.rows.take k = e.rows) := List.take_of_length_le (by rw [HLn.out]; omega)
        have HF4 : Hid (e.err regs = r.place (e.rows.map rowLen)) := by show _ = _; rw [HF3.out, HP.out, List.drop_eq_nil_of_le (by rw [HLn.out]; omega), if_neg (by simp [rowsErr])]
        rw [HTk.out] at HO
        obtain ⟨A3, c3, rfl, hc3, hm3, hints, -⟩ := own_sl (f := fun x : Int => [.int .i64 x]) (size := 1) (fun _ => rfl) (by rw [List.length_map]; exact HLn.out) HO.out
        have HI := Lib.hid hints
        have HBr := Lib.hid (HB_15.out.ext hx)
        have hcr := fun o => HBr.out.cell o
        clear hints HO hx hxw
        go_wp2_with fail
        refine (HPl.out A3 k c3 _ _ HI.out (by simp [maxLen] at hm3; omega)).mono ?_
        rintro en w9 ⟨A4, n4, c4, rfl, -, -, hx9⟩
        clear hcr
        go_wp2_with fail
        go_ret
        exact ⟨ret_int HF4.out.symm, HXw.out.trans hx9⟩
end Go.Proofs.YtajbhfmdmajpmaaGreatDoor
