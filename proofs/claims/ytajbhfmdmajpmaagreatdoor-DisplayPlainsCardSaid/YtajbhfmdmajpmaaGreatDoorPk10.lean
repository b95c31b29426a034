/- Laid together: The characters of an event on the grid, plainly; the first error of a screen. The walks of style.At and of the reference's At, at an index within the row. Arrays in variables: their zero, an element stored, an element of an array by value; blocks that are rows of elements. The walk of the reference's Name. The walks of the reference's regions: Default, Check. -/
import Derived.Test.YtajbhfmdmajpmaaGreatDoorPk09
import Derived.Test.YtajbhfmdmajpmaaGreatDoorPk04
import Derived.RegionTactic
import Derived.BigRegion
import Derived.Test.YtajbhfmdmajpmaaGreatDoorPk05
import Derived.Test.YtajbhfmdmajpmaaGreatDoorPk02
import Derived.Test.YtajbhfmdmajpmaaGreatDoorPk07

/-! GlP -/
namespace Go.Proofs.YtajbhfmdmajpmaaGreatDoor
set_option linter.unusedVariables false
set_option linter.unusedSimpArgs false
open Go.RowKit
def Gl.vals (g : Gl) : List Value := [.int .i64 g.row, .int .i64 g.col, .int .i32 g.ch, .int .u8 g.color, .bool g.italic, .bool g.under]
/-- a character with its style -/
structure Ch where
  r : Int
  color : Int
  italic : Bool
  under : Bool
  deriving DecidableEq
def Ch.zero : Ch := ⟨0, 0, false, false⟩
def runCh (x : Run) : List Ch := (runes x.text 0).map fun r => ⟨r, x.color, x.italic, x.under⟩
def rowCh (l : Row) : List Ch := l.flatMap runCh
/-- a character in its cell -/
def chGl (row col : Int) (c : Ch) : Gl := ⟨row, col, c.r, c.color, c.italic, c.under⟩
/-- the characters of a row from the k-th on -/
def lineGl (row col : Int) : Nat → List Ch → List Gl
  | _, [] => []
  | k, c :: l => if c.r = 32 then lineGl row col (k + 1) l else chGl row (col + k) c :: lineGl row col (k + 1) l
def spotsGl : List Spot → List Row → List Gl
  | s :: ss, r :: rs => lineGl s.row s.col 0 (rowCh r) ++ spotsGl ss rs
  | _, _ => []
/-- the characters of an event on the grid -/
def Ev.gls (e : Ev) (regs : List Reg) : List Gl := spotsGl (e.spots regs) e.rows
theorem clen_len {s : ByteArray} (h : 0 ≤ clen s) : vld s = true ∧ clen s = (runes s 0).length := by
  unfold clen at *
  cases hv : vld s
  · rw [hv] at h; simp at h
  · rw [if_pos rfl, runes_count]; exact ⟨rfl, rfl⟩
theorem rowLen_ch : ∀ {l : Row}, 0 ≤ rowLen l → (∀ x ∈ l, vld x.text = true) ∧ rowLen l = (rowCh l).length
  | [], _ => ⟨by simp, rfl⟩
  | x :: l, h => by
    unfold rowLen at h
    split at h
    · omega
    · rename_i h1
      split at h
      · omega
      · rename_i h2
        obtain ⟨hv, hc⟩ := clen_len (s := x.text) (by omega)
        obtain ⟨h3, h4⟩ := rowLen_ch (l := l) (by omega)
        refine ⟨fun y hy => ?_, ?_⟩
        · rcases List.mem_cons.1 hy with rfl | hy
          · exact hv
          · exact h3 y hy
        · unfold rowLen
          rw [if_neg h1, if_neg h2, hc, h4]
          show _ = ((runCh x ++ rowCh l).length : Int)
          rw [List.length_append]
          unfold runCh
          rw [List.length_map]
          omega
theorem ch_idx {l : Row} (h : 0 ≤ rowLen l) {c : Ch} (hc : c ∈ rowCh l) : 0 ≤ idx c.r := by
  unfold rowCh at hc
  obtain ⟨x, hx, hc⟩ := List.mem_flatMap.1 hc
  unfold runCh at hc
  obtain ⟨r, hr, rfl⟩ := List.mem_map.1 hc
  have := (rowLen_ch h).1 x hx
  unfold vld at this
  rw [Bool.and_eq_true, List.all_eq_true] at this
  simpa using this.2 r hr
theorem ch_color {l : Row} {c : Ch} (hl : ∀ x ∈ l, x.color ≤ 6) (hc : c ∈ rowCh l) : c.color ≤ 6 := by
  unfold rowCh at hc
  obtain ⟨x, hx, hc⟩ := List.mem_flatMap.1 hc
  unfold runCh at hc
  obtain ⟨r, hr, rfl⟩ := List.mem_map.1 hc
  exact hl x hx
theorem idx_zero : idx 0 < 0 := by decide +kernel
theorem line_at {row col : Int} : ∀ (l : List Ch) (k n : Nat) (c : Ch), l[n]? = some c → lineGl row col k (l.take (n + 1)) = lineGl row col k (l.take n) ++ if c.r = 32 then [] else [chGl row (col + (k + n : Nat)) c]
  | [], k, n, c, h => by simp at h
  | a :: l, k, 0, c, h => by
    simp at h; subst h
    simp only [List.take_succ_cons, List.take_zero, lineGl]
    split <;> simp
  | a :: l, k, n + 1, c, h => by
    have := line_at (row := row) (col := col) l (k + 1) n c (by simpa using h)
    simp only [List.take_succ_cons, lineGl]
    rw [show k + 1 + n = k + (n + 1) by omega] at this
    split
    · exact this
    · rw [this]; rfl
theorem spots_at : ∀ (ss : List Spot) (rs : List Row) (n : Nat) (s : Spot) (r : Row), ss[n]? = some s → rs[n]? = some r → spotsGl (ss.take (n + 1)) rs = spotsGl (ss.take n) rs ++ lineGl s.row s.col 0 (rowCh r)
  | [], rs, n, s, r, h, _ => by simp at h
  | a :: ss, [], n, s, r, _, h => by simp at h
  | a :: ss, b :: rs, 0, s, r, h, h' => by
    simp at h h'; subst h; subst h'
    simp [spotsGl]
  | a :: ss, b :: rs, n + 1, s, r, h, h' => by
    have := spots_at ss rs n s r (by simpa using h) (by simpa using h')
    simp only [List.take_succ_cons, spotsGl]
    rw [this, List.append_assoc]
theorem ev_spots {e : Ev} {regs : List Reg} (h : e.err regs = 0) : ∃ r, findR regs e.region = some r ∧ r.usable = true ∧ (e.rows.length : Int) ≤ r.height ∧ e.rows.length ≤ 4 ∧ r.lensErr (e.rows.map rowLen) = 0 ∧ rowsErr e.rows = 0 ∧ e.spotsErr regs = 0 ∧ e.spots regs = r.spots (r.top' e.rows.length) 0 (e.rows.map rowLen) := by
  unfold Ev.err at h
  split at h
  · simp at h
  · split at h
    · simp at h
    · rename_i r hr
      split at h
      · simp at h
      · split at h
        · simp at h
        · split at h
          · simp at h
          · rename_i h9
            split at h
            · rename_i h8; exact absurd h h8
            · rename_i h8
              have h0 : rowsErr e.rows = 0 := by simpa using h8
              have hp := h
              unfold Reg.place at h
              split at h
              · simp at h
              · rename_i hu
                split at h
                · simp at h
                · rename_i hh
                  have hneg : (e.rows.map rowLen).any (fun n => decide (n < 0)) ≠ true := by
                    intro ha
                    obtain ⟨n, hn, hlt⟩ := List.any_eq_true.1 ha
                    have : ∀ (l : List Int), r.lensErr l = 0 → ∀ x ∈ l, 0 ≤ x := by
                      intro l
                      induction l with
                      | nil => intro _ x hx; simp at hx
                      | cons a l ih =>
                        intro hl x hx
                        unfold Reg.lensErr at hl
                        split at hl
                        · simp at hl
                        · split at hl
                          · simp at hl
                          · rcases List.mem_cons.1 hx with rfl | hx
                            · omega
                            · exact ih hl x hx
                    have := this _ h n hn
                    simp at hlt
                    omega
                  have hs : e.spotsErr regs = 0 := by
                    unfold Ev.spotsErr
                    rw [hr]
                    simp only
                    rw [if_neg hneg]
                    exact hp
                  rw [List.length_map] at hh
                  refine ⟨r, hr, by simpa using hu, by omega, by omega, h, h0, hs, ?_⟩
                  unfold Ev.spots
                  rw [if_pos hs, hr]
                  rfl
theorem rowErrE_ok {l : Row} (h : rowErrE l = 0) : (∀ x ∈ l, vld x.text = true ∧ x.color ≤ 6) ∧ rowLen l ≤ 32 := by
  unfold rowErrE at h
  split at h
  · rename_i h1; exact absurd h h1
  · rename_i h1
    have h1' : rowErr l = 0 := by simpa using h1
    split at h
    · simp at h
    · split at h
      · simp at h
      · refine ⟨?_, by omega⟩
        unfold rowErr at h1'
        split at h1'
        · simp at h1'
        · have : ∀ (l : Row) (p : Option Run), runsErr p l = 0 → ∀ x ∈ l, vld x.text = true ∧ x.color ≤ 6 := by
            intro l
            induction l with
            | nil => intro p _ x hx; simp at hx
            | cons a l ih =>
              intro p hp x hx
              unfold runsErr at hp
              split at hp
              · rename_i ha
                rcases List.mem_cons.1 hx with rfl | hx
                · unfold runErr at ha
                  split at ha
                  · simp at ha
                  · rename_i hv
                    split at ha
                    · simp at ha
                    · split at ha
                      · simp at ha
                      · rename_i hc
                        exact ⟨by simpa using hv, by simpa using hc⟩
                · exact ih _ hp x hx
              · rename_i ha; exact absurd hp ha
          exact this l none h1'
theorem rowsErr_ok : ∀ {l : List Row}, rowsErr l = 0 → ∀ r ∈ l, rowErrE r = 0
  | [], _, r, hr => by simp at hr
  | a :: l, h, r, hr => by
    unfold rowsErr at h
    split at h
    · rename_i h1
      rcases List.mem_cons.1 hr with rfl | hr
      · exact h1
      · exact rowsErr_ok h r hr
    · rename_i h1; exact absurd h h1
/-- what stands on a line -/
def GlGood (g : Gl) : Prop := g.ok ∧ g.ch ≠ 32 ∧ 0 ≤ idx g.ch ∧ g.color ≤ 6
theorem line_good {row col : Int} (hr0 : 0 ≤ row) (hr1 : row < 15) (hc0 : 0 ≤ col) : ∀ (l : List Ch) (k : Nat), col + (k + l.length : Nat) ≤ 32 → (∀ c ∈ l, 0 ≤ idx c.r ∧ c.color ≤ 6) →
    (∀ g ∈ lineGl row col k l, GlGood g ∧ row * 32 + col + k ≤ g.cell ∧ g.cell < row * 32 + col + k + l.length) ∧ Asc (lineGl row col k l)
  | [], k, _, _ => ⟨by simp [lineGl], by simp [lineGl, Asc]⟩
  | c :: l, k, h, hl => by
    simp only [List.length_cons] at h
    obtain ⟨h1, h2⟩ := line_good hr0 hr1 hc0 l (k + 1) (by omega) (fun x hx => hl x (by simp [hx]))
    unfold lineGl
    split
    · refine ⟨fun g hg => ?_, h2⟩
      obtain ⟨a1, a2, a3⟩ := h1 g hg
      simp only [List.length_cons]
      exact ⟨a1, by omega, by omega⟩
    · rename_i h32
      have hch := hl c (by simp)
      have h0 : c.r ≠ 0 := by intro e; have := hch.1; rw [e] at this; have := idx_zero; omega
      have hgood : GlGood (chGl row (col + k) c) := ⟨⟨hr0, hr1, by simp [chGl]; omega, by simp [chGl]; omega, h0⟩, h32, hch.1, hch.2⟩
      refine ⟨fun g hg => ?_, ?_⟩
      · simp only [List.length_cons]
        rcases List.mem_cons.1 hg with rfl | hg
        · exact ⟨hgood, by simp [chGl, Gl.cell]; omega, by simp [chGl, Gl.cell]; omega⟩
        · obtain ⟨a1, a2, a3⟩ := h1 g hg
          exact ⟨a1, by omega, by omega⟩
      · unfold Asc at *
        rw [List.pairwise_cons]
        refine ⟨fun g hg => ?_, h2⟩
        have := (h1 g hg).2.1
        simp [chGl, Gl.cell] at *
        omega
theorem lens_ok {r : Reg} : ∀ {l : List Int}, r.lensErr l = 0 → ∀ n ∈ l, 0 ≤ n ∧ n ≤ r.width
  | [], _, n, hn => by simp at hn
  | a :: l, h, n, hn => by
    unfold Reg.lensErr at h
    split at h
    · simp at h
    · split at h
      · simp at h
      · rcases List.mem_cons.1 hn with rfl | hn
        · omega
        · exact lens_ok h n hn
theorem usable_fit {r : Reg} (h : r.usable = true) : r.top + r.height ≤ 15 ∧ r.left + r.width ≤ 32 := by
  unfold Reg.usable at h
  rcases of_decide_eq_true h with h | h
  · subst h; decide
  · unfold Reg.check at h
    split at h
    · simp at h
    · split at h
      · simp at h
      · rename_i h2
        have h2' : r.inGrid := by simpa using h2
        unfold Reg.inGrid at h2'
        omega
theorem spots_good {r : Reg} (hu : r.usable = true) {top : Int} (ht : 0 ≤ top) : ∀ (rows : List Row) (i : Nat), top + (i + rows.length : Nat) ≤ 15 → r.lensErr (rows.map rowLen) = 0 → (∀ x ∈ rows, rowErrE x = 0) →
    (∀ g ∈ spotsGl (r.spots top i (rows.map rowLen)) rows, GlGood g ∧ (top + i) * 32 ≤ g.cell) ∧ Asc (spotsGl (r.spots top i (rows.map rowLen)) rows)
  | [], i, _, _, _ => ⟨by simp [spotsGl, Reg.spots], by simp [spotsGl, Reg.spots, Asc]⟩
  | x :: rows, i, hi, hl, hr => by
    simp only [List.length_cons] at hi
    have hl0 := lens_ok hl (rowLen x) (by simp)
    have hl2 : r.lensErr (rows.map rowLen) = 0 := by
      rw [List.map_cons] at hl
      unfold Reg.lensErr at hl
      split at hl
      · simp at hl
      · split at hl
        · simp at hl
        · exact hl
    obtain ⟨h1, h2⟩ := spots_good hu ht rows (i + 1) (by omega) hl2 (fun y hy => hr y (by simp [hy]))
    have hb := usable_bounds hu
    have hf := usable_fit hu
    have hch := rowLen_ch hl0.1
    obtain ⟨hx1, hx2⟩ := rowErrE_ok (hr x (by simp))
    have hcol : r.left ≤ (r.spot top i (rowLen x)).col ∧ (r.spot top i (rowLen x)).col + rowLen x ≤ r.left + r.width := by
      unfold Reg.spot
      dsimp only
      split
      · omega
      · split
        · omega
        · omega
    obtain ⟨k1, k2⟩ := line_good (row := top + i) (col := (r.spot top i (rowLen x)).col) (by omega) (by omega) (by omega) (rowCh x) 0 (by have := hch.2; omega) (fun c hc => ⟨ch_idx hl0.1 hc, ch_color (fun y hy => (hx1 y hy).2) hc⟩)
    have hlen := hch.2
    rw [List.map_cons]
    unfold Reg.spots spotsGl
    have hrow : (r.spot top i (rowLen x)).row = top + i := rfl
    rw [hrow]
    refine ⟨fun g hg => ?_, ?_⟩
    · rcases List.mem_append.1 hg with hg | hg
      · obtain ⟨a1, a2, a3⟩ := k1 g hg
        exact ⟨a1, by omega⟩
      · obtain ⟨a1, a2⟩ := h1 g hg
        exact ⟨a1, by omega⟩
    · unfold Asc at *
      rw [List.pairwise_append]
      refine ⟨k2, h2, fun a ha b hb' => ?_⟩
      have := (k1 a ha).2.2
      have := (h1 b hb').2
      omega
theorem gls_good {e : Ev} {regs : List Reg} (h : e.err regs = 0) : (∀ g ∈ e.gls regs, GlGood g) ∧ Asc (e.gls regs) := by
  obtain ⟨r, hr, hu, hh, h4, hl, hrows, hs, hsp⟩ := ev_spots h
  have hb := usable_bounds hu
  have hf := usable_fit hu
  have ht : 0 ≤ r.top' e.rows.length ∧ r.top' e.rows.length + e.rows.length ≤ 15 := by
    unfold Reg.top'
    split <;> omega
  obtain ⟨h1, h2⟩ := spots_good hu ht.1 e.rows 0 (by omega) hl (rowsErr_ok hrows)
  unfold Ev.gls
  rw [hsp]
  exact ⟨fun g hg => (h1 g hg).1, h2⟩
theorem gls_ok {e : Ev} {regs : List Reg} (h : e.err regs = 0) : ∀ g ∈ e.gls regs, g.ok := fun g hg => ((gls_good h).1 g hg).1
def glsLoop : Option Gl → List Gl → Int
  | _, [] => 0
  | p, g :: l => if g.row < 0 ∨ 15 ≤ g.row ∨ g.col < 0 ∨ 32 ≤ g.col then 2 else if g.ch = 32 ∨ idx g.ch < 0 then 10 else if 6 < g.color then 12 else if (p.map fun q => decide (g.cell ≤ q.cell)) = some true then 8 else glsLoop (some g) l
def glsErr (l : List Gl) : Int := if 480 < l.length then 9 else glsLoop none l
theorem glsLoop_ok : ∀ {l : List Gl} {p : Option Gl}, (∀ g ∈ l, GlGood g) → Asc l → (∀ q, p = some q → ∀ g ∈ l, q.cell < g.cell) → glsLoop p l = 0
  | [], p, _, _, _ => rfl
  | g :: l, p, h1, h2, h3 => by
    obtain ⟨⟨a1, a2, a3, a4, a5⟩, b1, b2, b3⟩ := h1 g (by simp)
    unfold glsLoop
    rw [if_neg (by omega), if_neg (by omega), if_neg (by omega)]
    rw [if_neg (by
      cases p with
      | none => simp
      | some q => have := h3 q rfl g (by simp); simp; omega)]
    unfold Asc at h2
    rw [List.pairwise_cons] at h2
    exact glsLoop_ok (fun x hx => h1 x (by simp [hx])) h2.2 (fun q hq x hx => by cases hq; exact h2.1 x hx)
theorem asc_len : ∀ {l : List Gl} {c : Int}, Asc l → (∀ g ∈ l, g.ok) → (∀ g ∈ l, c ≤ g.cell) → 0 ≤ c → c ≤ 480 → (l.length : Int) ≤ 480 - c
  | [], c, _, _, _, h0, h1 => by simp; omega
  | g :: l, c, h1, h2, h3, h0, _ => by
    unfold Asc at h1
    rw [List.pairwise_cons] at h1
    have hg := Gl.ok_cell (h2 g (by simp))
    have hc := h3 g (by simp)
    have := asc_len (c := g.cell + 1) h1.2 (fun x hx => h2 x (by simp [hx])) (fun x hx => by have := h1.1 x hx; omega) (by omega) (by omega)
    simp only [List.length_cons]
    omega
theorem glsErr_ok {l : List Gl} (h1 : ∀ g ∈ l, GlGood g) (h2 : Asc l) : glsErr l = 0 := by
  have := asc_len (c := 0) h2 (fun g hg => (h1 g hg).1) (fun g hg => (Gl.ok_cell (h1 g hg).1).1) (by omega) (by omega)
  unfold glsErr
  rw [if_neg (by omega)]
  exact glsLoop_ok h1 h2 (fun q hq => by cases hq)
/-- the characters of an accepted event are a screen -/
theorem gls_screen {e : Ev} {regs : List Reg} (h : e.err regs = 0) : glsErr (e.gls regs) = 0 := glsErr_ok (gls_good h).1 (gls_good h).2
theorem gls_len {e : Ev} {regs : List Reg} (h : e.err regs = 0) : (e.gls regs).length ≤ 480 := by
  have := asc_len (c := 0) (gls_good h).2 (gls_ok h) (fun g hg => (Gl.ok_cell (gls_ok h g hg)).1) (by omega) (by omega)
  omega
end Go.Proofs.YtajbhfmdmajpmaaGreatDoor

/-! SAt -/
namespace Go.Proofs.YtajbhfmdmajpmaaGreatDoor
set_option linter.unusedVariables false
set_option linter.unusedSimpArgs false
open Go.RowKit
section
variable {P : Program}
/-- results: a slot, a struct that lies in its block, a slot -/
theorem results_tBt {fn : Func} {u p v : Tmp} {ty : TypeId} (h : fn.results = #[.tmp u, .cell p ty, .tmp v]) {tmps : Array Value} {w : World} {g : Nat} {t : TypeId} {cs : Array Value} {d : TypeDesc} (hp : tmps.getD p undef = .pointer (some ⟨g, 0, none⟩))
    (hB : Blk w g t cs) (hu : P.underlying ty = some d) (hd : d.isRow = true) (hi : (P.info? ty).map (·.size) = some cs.size) : (results fn tmps).run P w = .ok (.tuple #[tmps.getD u undef, .agg cs, tmps.getD v undef]) w := by
  have h1 := run_loadVarB (P := P) g t ty cs d hB hu hd hi
  simp only [results, h]
  have e : tmps[p]?.getD undef = .pointer (some ⟨g, 0, none⟩) := by simpa using hp
  simp [Sem.run_bind, e, run_asAddr, h1]
end
theorem size_style : (Tryz.prog.info? 56).map (·.size) = some 3 := by kernel_rfl
def Ch.style (c : Ch) : Value := .agg #[.int .u8 c.color, .bool c.italic, .bool c.under]
def SAtRel (w : World) (l : Row) (n i : Nat) (iv kv : Value) (wr : World) : Prop := ∃ k j : Nat, k ≤ n ∧ kv = .int .i64 k ∧ iv = .int .i64 j ∧ j ≤ i ∧ Ext w wr ∧ (rowCh l)[i]? = (rowCh (l.drop k))[j]?
theorem rowCh_drop {l : Row} {k : Nat} {r : Run} (h : l[k]? = some r) : rowCh (l.drop k) = runCh r ++ rowCh (l.drop (k + 1)) := by
  rw [drop_at l k r h]; rfl
theorem runCh_len (r : Run) : (runCh r).length = (runes r.text 0).length := by unfold runCh; rw [List.length_map]
theorem satRet {w w' : World} {ch : Ch} {q : Int} {x : Run} (h : (⟨q, x.color, x.italic, x.under⟩ : Ch) = ch) (hx : Ext w w') :
    (Ending.returned (.tuple #[.int .i32 q, .agg #[.int .u8 x.color, .bool x.italic, .bool x.under], .bool true]) : Ending) = .returned (.tuple #[.int .i32 ch.r, ch.style, .bool true]) ∧ Ext w w' := by
  subst h; exact ⟨rfl, hx⟩
set_option maxRecDepth 100000 in
set_option maxHeartbeats 4000000 in
theorem SAt_any (A : Option Addr) (n c : Nat) (l : Row) (i : Nat) (ch : Ch) (w : World) (hE : Env w) (hl : RunsAt w A n l) (hb : rowBytes l ≤ 35184372088831) (hn : n ≤ 4611686018427387904) (hlen : 0 ≤ rowLen l) (hib : i ≤ 1000000) (hi : (rowCh l)[i]? = some ch) :
    Calls Tryz.prog 72 #[.agg #[.slice A n c], .int .i64 i] w fun en w' => en = .returned (.tuple #[.int .i32 ch.r, ch.style, .bool true]) ∧ Ext w w' := by
  obtain ⟨m, hm⟩ : ∃ m : Nat, rowLen l = m := ⟨(rowLen l).toNat, by omega⟩
  have him : i < m := by
    have h1 := (List.getElem?_eq_some_iff.1 hi).1
    have h2 := (rowLen_ch hlen).2
    omega
  have hmi : decide (m ≤ i) = false := decide_eq_false (by omega)
  have HVl := Lib.hid (rowLen_ch hlen).1
  have HLn := Lib.hid hl.len
  have HL := Lib.hid hl
  have HE := Lib.hid hE
  have HI := Lib.hid hi
  have HLen := Lib.hid (fun w' (hx : Ext w w') => SLen_any A n c l w' (hE.ext hx) (hl.ext hx) (by omega) hn)
  have HBy : Hid (∀ r ∈ l, r.text.size ≤ 35184372088831) := fun r hr => by
    have h1 : r.text.size ≤ rowBytes l := by
      obtain ⟨s, t, rfl⟩ := List.append_of_mem hr
      unfold rowBytes
      simp; omega
    omega
  rw [hm] at HLen
  clear hm hlen hi hl hE hb
  have HX0 := Lib.hid (((Ext.refl w).alloc (.cells #[.slice A n c] 107)).alloc (.cells #[.int .u8 0, .bool false, .bool false] 56))
  have HB0 := Lib.hid ((Blk.new w 107 #[.slice A n c]).alloc (.cells #[.int .u8 0, .bool false, .bool false] 56))
  have HZ0 := Lib.hid (Blk.new' (w := w.alloc (.cells #[.slice A n c] 107)) (g := w.heap.size + 1) (t := 56) (cs := #[.int .u8 0, .bool false, .bool false]) (by simp))
  go_enter Tryz.func72, Tryz.ntmps72
  go_wp2_with fail
  refine (HLen.out _ HX0.out).mono ?_
  rintro en w1 ⟨rfl, hx1⟩
  have HX1 := Lib.hid (HX0.out.trans hx1)
  have HB1 := Lib.hid (HB0.out.ext hx1)
  have HZ1 := Lib.hid (HZ0.out.ext hx1)
  have hc1 := fun o => HB1.out.cell o
  clear hx1 HX0 HB0 HZ0 HLen
  go_wp2_with fail
  clear hc1
  go_loopw [1, 22] (fun iv kv wr => SAtRel w1 l n i iv kv wr) (fun _ kv _ => n - (intOf kv).toNat)
  case atStart => exact ⟨0, i, Nat.zero_le _, rfl, rfl, Nat.le_refl _, Ext.refl _, rfl⟩
  case round =>
    obtain ⟨k, j, hk, rfl, rfl, hji, hx, hp⟩ := hrel
    have HP := Lib.hid (hp.symm.trans HI.out)
    have HXr := Lib.hid hx
    clear hp hx
    by_cases hlt : k < n
    · obtain ⟨b, off, r, rfl, hr, c0, c1, c2, c3, c4⟩ := (HL.out.ext (HX1.out.trans HXr.out)).at_ hlt
      have HD := Lib.hid (rowCh_drop hr)
      have hvr := HVl.out r (List.mem_of_getElem? hr)
      have hsr := HBy.out r (List.mem_of_getElem? hr)
      have HCh := Lib.hid (fun w' (hx : Ext w w') => Chars_any r.text w' (HE.out.ext hx) hsr hvr)
      have HRl := Lib.hid (runCh_len r)
      clear hr hvr hsr
      have HBr := Lib.hid (Blk.new wr 104 #[.string r.text, .int .u8 r.color, .bool r.italic, .bool r.under, .string r.ruby])
      have HXw := Lib.hid ((HX1.out.trans HXr.out).alloc (.cells #[.string r.text, .int .u8 r.color, .bool r.italic, .bool r.under, .string r.ruby] 104))
      have HZr := Lib.hid ((HZ1.out.ext HXr.out).alloc (.cells #[.string r.text, .int .u8 r.color, .bool r.italic, .bool r.under, .string r.ruby] 104))
      go_wp2_with fail
      clear c0 c1 c2 c3 c4
      refine (HCh.out _ HXw.out).mono ?_
      rintro en w2 ⟨RA, rn, rc, rfl, hRS, hrc, hx2⟩
      have HBr2 := Lib.hid (HBr.out.ext hx2)
      have HZr2 := Lib.hid (HZr.out.ext hx2)
      have HX2 := Lib.hid (HXw.out.trans hx2)
      have HXr2 := Lib.hid (HXr.out.trans (((Ext.refl wr).alloc (.cells #[.string r.text, .int .u8 r.color, .bool r.italic, .bool r.under, .string r.ruby] 104)).trans hx2))
      have hrl := hRS.len
      have HRS := Lib.hid hRS
      have hgr := HBr2.out.lt
      have hgz := HZr2.out.lt
      clear hRS hx2 HBr HZr HXw HCh HXr
      by_cases hj : j < rn
      · obtain ⟨rb, roff, q, rfl, hq, hqc⟩ := HRS.out.at_ hj
        have hqc := hqc 0 _ rfl
        simp only [Nat.mul_one, Nat.add_zero] at hqc
        have HQ : Hid ((⟨q, r.color, r.italic, r.under⟩ : Ch) = ch) := by
          have h1 := HP.out
          rw [HD.out, List.getElem?_append_left (by rw [HRl.out]; omega)] at h1
          unfold runCh at h1
          rw [List.getElem?_map, hq] at h1
          exact Option.some.inj h1
        clear hq
        have hne : w.heap.size + 1 ≠ wr.heap.size := Typed.ne HZr2.out.typed HBr2.out.typed (by decide)
        have d1 := HBr2.out.cell 1
        have d2 := HBr2.out.cell 2
        have d3 := HBr2.out.cell 3
        have z0 := HZr2.out.cell 0
        have z1 := HZr2.out.cell 1
        have z2 := HZr2.out.cell 2
        have f0 := HZr2.out.frozen 0
        have f1 := HZr2.out.frozen 1
        have f2 := HZr2.out.frozen 2
        simp at d1 d2 d3 z0 z1 z2
        go_wp2_with fail
        go_region
        have hW : ((w2.setCell ⟨w.heap.size + 1, 0, none⟩ (.int .u8 r.color)).setCell ⟨w.heap.size + 1, 1, none⟩ (.bool r.italic)).setCell ⟨w.heap.size + 1, 2, none⟩ (.bool r.under) = putB w2 (w.heap.size + 1) 56 #[.int .u8 r.color, .bool r.italic, .bool r.under] := by
          rw [setCell_put HZr2.out, setCell_put (HZr2.out.put _), putB_putB, setCell_put (HZr2.out.put _), putB_putB]
          rfl
        rw [hW]
        have HB3 : Hid (Blk (putB w2 (w.heap.size + 1) 56 #[.int .u8 r.color, .bool r.italic, .bool r.under]).drew (w.heap.size + 1) 56 #[.int .u8 r.color, .bool r.italic, .bool r.under]) := HZr2.out.put _
        have HX3 : Hid (Ext w (putB w2 (w.heap.size + 1) 56 #[.int .u8 r.color, .bool r.italic, .bool r.under]).drew) := (HX2.out.put (by omega) _ _).drew
        clear hW d1 d2 d3 z0 z1 z2 f0 f1 f2 hqc
        generalize (putB w2 (w.heap.size + 1) 56 #[.int .u8 r.color, .bool r.italic, .bool r.under]).drew = W3 at *
        go_wp2_with fail
        refine bodyPost_ret (v := .tuple #[.int .i32 q, .agg #[.int .u8 r.color, .bool r.italic, .bool r.under], .bool true]) ?_ rfl (satRet HQ.out HX3.out)
        exact results_tBt (P := Tryz.prog) Tryz.results72 (g := w.heap.size + 1) rfl (by exact HB3.out) Tryz.underlying56 rfl size_style
      · have HP2 : Hid ((rowCh (l.drop (k + 1)))[j - rn]? = some ch) := by
          have h1 := HP.out
          rw [HD.out, List.getElem?_append_right (by rw [HRl.out]; omega), HRl.out, hrl] at h1
          exact h1
        have HX3 := Lib.hid HXr2.out
        clear HRS
        go_wp2_with fail
        exact ⟨⟨k + 1, j - rn, by omega, by go_num, (by congr 1; omega), by omega, HX3.out, HI.out.trans HP2.out.symm⟩, by simp [intOf]; omega⟩
    · exfalso
      have h1 := HP.out
      rw [List.drop_eq_nil_of_le (by have := HLn.out; omega)] at h1
      simp [rowCh] at h1
set_option maxRecDepth 100000 in
set_option maxHeartbeats 4000000 in
theorem R9At_any (A : Option Addr) (n c : Nat) (l : Row) (i : Nat) (ch : Ch) (w : World) (hE : Env w) (hl : RunsAt w A n l) (hb : rowBytes l ≤ 35184372088831) (hn : n ≤ 4611686018427387904) (hlen : 0 ≤ rowLen l) (hib : i ≤ 1000000) (hi : (rowCh l)[i]? = some ch) :
    Calls Tryz.prog 75 #[.agg #[.slice A n c], .int .i64 i] w fun en w' => en = .returned (.tuple #[.int .i32 ch.r, ch.style, .bool true]) ∧ Ext w w' := by
  obtain ⟨m, hm⟩ : ∃ m : Nat, rowLen l = m := ⟨(rowLen l).toNat, by omega⟩
  have him : i < m := by
    have h1 := (List.getElem?_eq_some_iff.1 hi).1
    have h2 := (rowLen_ch hlen).2
    omega
  have hmi : decide (m ≤ i) = false := decide_eq_false (by omega)
  have HVl := Lib.hid (rowLen_ch hlen).1
  have HLn := Lib.hid hl.len
  have HL := Lib.hid hl
  have HE := Lib.hid hE
  have HI := Lib.hid hi
  have HLen := Lib.hid (fun w' (hx : Ext w w') => R9Len_any A n c l w' (hE.ext hx) (hl.ext hx) (by omega) hn)
  have HBy : Hid (∀ r ∈ l, r.text.size ≤ 35184372088831) := fun r hr => by
    have h1 : r.text.size ≤ rowBytes l := by
      obtain ⟨s, t, rfl⟩ := List.append_of_mem hr
      unfold rowBytes
      simp; omega
    omega
  rw [hm] at HLen
  clear hm hlen hi hl hE hb
  have HX0 := Lib.hid (((Ext.refl w).alloc (.cells #[.slice A n c] 107)).alloc (.cells #[.int .u8 0, .bool false, .bool false] 56))
  have HB0 := Lib.hid ((Blk.new w 107 #[.slice A n c]).alloc (.cells #[.int .u8 0, .bool false, .bool false] 56))
  have HZ0 := Lib.hid (Blk.new' (w := w.alloc (.cells #[.slice A n c] 107)) (g := w.heap.size + 1) (t := 56) (cs := #[.int .u8 0, .bool false, .bool false]) (by simp))
  go_enter Tryz.func75, Tryz.ntmps75
  go_wp2_with fail
  refine (HLen.out _ HX0.out).mono ?_
  rintro en w1 ⟨rfl, hx1⟩
  have HX1 := Lib.hid (HX0.out.trans hx1)
  have HB1 := Lib.hid (HB0.out.ext hx1)
  have HZ1 := Lib.hid (HZ0.out.ext hx1)
  have hc1 := fun o => HB1.out.cell o
  clear hx1 HX0 HB0 HZ0 HLen
  go_wp2_with fail
  clear hc1
  go_loopw [1, 22] (fun iv kv wr => SAtRel w1 l n i iv kv wr) (fun _ kv _ => n - (intOf kv).toNat)
  case atStart => exact ⟨0, i, Nat.zero_le _, rfl, rfl, Nat.le_refl _, Ext.refl _, rfl⟩
  case round =>
    obtain ⟨k, j, hk, rfl, rfl, hji, hx, hp⟩ := hrel
    have HP := Lib.hid (hp.symm.trans HI.out)
    have HXr := Lib.hid hx
    clear hp hx
    by_cases hlt : k < n
    · obtain ⟨b, off, r, rfl, hr, c0, c1, c2, c3, c4⟩ := (HL.out.ext (HX1.out.trans HXr.out)).at_ hlt
      have HD := Lib.hid (rowCh_drop hr)
      have hvr := HVl.out r (List.mem_of_getElem? hr)
      have hsr := HBy.out r (List.mem_of_getElem? hr)
      have HCh := Lib.hid (fun w' (hx : Ext w w') => R8Chars_any r.text w' (HE.out.ext hx) hsr hvr)
      have HRl := Lib.hid (runCh_len r)
      clear hr hvr hsr
      have HBr := Lib.hid (Blk.new wr 104 #[.string r.text, .int .u8 r.color, .bool r.italic, .bool r.under, .string r.ruby])
      have HXw := Lib.hid ((HX1.out.trans HXr.out).alloc (.cells #[.string r.text, .int .u8 r.color, .bool r.italic, .bool r.under, .string r.ruby] 104))
      have HZr := Lib.hid ((HZ1.out.ext HXr.out).alloc (.cells #[.string r.text, .int .u8 r.color, .bool r.italic, .bool r.under, .string r.ruby] 104))
      go_wp2_with fail
      clear c0 c1 c2 c3 c4
      refine (HCh.out _ HXw.out).mono ?_
      rintro en w2 ⟨RA, rn, rc, rfl, hRS, hrc, hx2⟩
      have HBr2 := Lib.hid (HBr.out.ext hx2)
      have HZr2 := Lib.hid (HZr.out.ext hx2)
      have HX2 := Lib.hid (HXw.out.trans hx2)
      have HXr2 := Lib.hid (HXr.out.trans (((Ext.refl wr).alloc (.cells #[.string r.text, .int .u8 r.color, .bool r.italic, .bool r.under, .string r.ruby] 104)).trans hx2))
      have hrl := hRS.len
      have HRS := Lib.hid hRS
      have hgr := HBr2.out.lt
      have hgz := HZr2.out.lt
      clear hRS hx2 HBr HZr HXw HCh HXr
      by_cases hj : j < rn
      · obtain ⟨rb, roff, q, rfl, hq, hqc⟩ := HRS.out.at_ hj
        have hqc := hqc 0 _ rfl
        simp only [Nat.mul_one, Nat.add_zero] at hqc
        have HQ : Hid ((⟨q, r.color, r.italic, r.under⟩ : Ch) = ch) := by
          have h1 := HP.out
          rw [HD.out, List.getElem?_append_left (by rw [HRl.out]; omega)] at h1
          unfold runCh at h1
          rw [List.getElem?_map, hq] at h1
          exact Option.some.inj h1
        clear hq
        have hne : w.heap.size + 1 ≠ wr.heap.size := Typed.ne HZr2.out.typed HBr2.out.typed (by decide)
        have d1 := HBr2.out.cell 1
        have d2 := HBr2.out.cell 2
        have d3 := HBr2.out.cell 3
        have z0 := HZr2.out.cell 0
        have z1 := HZr2.out.cell 1
        have z2 := HZr2.out.cell 2
        have f0 := HZr2.out.frozen 0
        have f1 := HZr2.out.frozen 1
        have f2 := HZr2.out.frozen 2
        simp at d1 d2 d3 z0 z1 z2
        go_wp2_with fail
        go_region
        have hW : ((w2.setCell ⟨w.heap.size + 1, 0, none⟩ (.int .u8 r.color)).setCell ⟨w.heap.size + 1, 1, none⟩ (.bool r.italic)).setCell ⟨w.heap.size + 1, 2, none⟩ (.bool r.under) = putB w2 (w.heap.size + 1) 56 #[.int .u8 r.color, .bool r.italic, .bool r.under] := by
          rw [setCell_put HZr2.out, setCell_put (HZr2.out.put _), putB_putB, setCell_put (HZr2.out.put _), putB_putB]
          rfl
        rw [hW]
        have HB3 : Hid (Blk (putB w2 (w.heap.size + 1) 56 #[.int .u8 r.color, .bool r.italic, .bool r.under]).drew (w.heap.size + 1) 56 #[.int .u8 r.color, .bool r.italic, .bool r.under]) := HZr2.out.put _
        have HX3 : Hid (Ext w (putB w2 (w.heap.size + 1) 56 #[.int .u8 r.color, .bool r.italic, .bool r.under]).drew) := (HX2.out.put (by omega) _ _).drew
        clear hW d1 d2 d3 z0 z1 z2 f0 f1 f2 hqc
        generalize (putB w2 (w.heap.size + 1) 56 #[.int .u8 r.color, .bool r.italic, .bool r.under]).drew = W3 at *
        go_wp2_with fail
        refine bodyPost_ret (v := .tuple #[.int .i32 q, .agg #[.int .u8 r.color, .bool r.italic, .bool r.under], .bool true]) ?_ rfl (satRet HQ.out HX3.out)
        exact results_tBt (P := Tryz.prog) Tryz.results75 (g := w.heap.size + 1) rfl (by exact HB3.out) Tryz.underlying56 rfl size_style
      · have HP2 : Hid ((rowCh (l.drop (k + 1)))[j - rn]? = some ch) := by
          have h1 := HP.out
          rw [HD.out, List.getElem?_append_right (by rw [HRl.out]; omega), HRl.out, hrl] at h1
          exact h1
        have HX3 := Lib.hid HXr2.out
        clear HRS
        go_wp2_with fail
        exact ⟨⟨k + 1, j - rn, by omega, by go_num, (by congr 1; omega), by omega, HX3.out, HI.out.trans HP2.out.symm⟩, by simp [intOf]; omega⟩
    · exfalso
      have h1 := HP.out
      rw [List.drop_eq_nil_of_le (by have := HLn.out; omega)] at h1
      simp [rowCh] at h1
end Go.Proofs.YtajbhfmdmajpmaaGreatDoor

/-! Arr -/
namespace Go.Proofs.YtajbhfmdmajpmaaGreatDoor
set_option linter.unusedVariables false
set_option linter.unusedSimpArgs false
open Go.RowKit
section
variable {P : Program}
theorem run_index_row {w : World} {t e : TypeId} {n sz : Nat} {cs : Array Value} {d : TypeDesc} (ht : P.underlying t = some (.array n e)) (hd : P.underlying e = some d) (hrow : d.isRow = true) (hi : (P.info? e).map (·.size) = some sz) (k : Nat) (hk : k < n) :
    (Instr.index t (.agg cs) (.int .i64 k)).run P w = .ok (.agg (cs.extract (k * sz) (k * sz + sz))) w := by
  obtain ⟨i, hi', rfl⟩ := Option.map_eq_some_iff.1 hi
  have h1 : (isAgg e).run P w = .ok true w := by
    cases d <;> simp [TypeDesc.isRow] at hrow <;> simp [isAgg, run_underlying hd]
  have h2 : (sizeOf e).run P w = .ok i.size w := by simp [sizeOf, typeInfo, hi']
  simp [Instr.index, run_underlying ht, asIntOf, part, h1, h2, hk]
end
theorem setCells_mid {g : Nat} {t : TypeId} : ∀ (vs pre old post : List Value) (w : World), Blk w g t (pre ++ old ++ post).toArray → old.length = vs.length →
    w.setCells g pre.length vs = putB w g t (pre ++ vs ++ post).toArray
  | [], pre, old, post, w, h, hl => by
    obtain rfl : old = [] := List.eq_nil_of_length_eq_zero hl
    simp only [World.setCells]
    exact (putB_same h).symm
  | v :: vs, pre, [], post, w, h, hl => by simp at hl
  | v :: vs, pre, x :: old, post, w, h, hl => by
    simp only [World.setCells]
    have e : ((pre ++ x :: old ++ post).toArray).setIfInBounds pre.length v = (pre ++ [v] ++ old ++ post).toArray := by
      apply Array.ext'
      simp [List.set_append]
    rw [setCell_put h, e]
    have h2 := setCells_mid vs (pre ++ [v]) old post _ (by rw [← e]; exact h.put _) (by simpa using hl)
    rw [List.length_append] at h2
    simp only [List.length_cons, List.length_nil, Nat.zero_add] at h2
    rw [← e, h2, putB_putB]
    simp
section
variable {α : Type} {f : α → List Value} {size : Nat}
theorem flatL_take (hf : ∀ x, (f x).length = size) (l : List α) (k : Nat) (hk : k ≤ l.length) : (l.take k).flatMap f = (l.flatMap f).take (k * size) ∧ (l.drop k).flatMap f = (l.flatMap f).drop (k * size) := by
  have e : l.flatMap f = (l.take k).flatMap f ++ (l.drop k).flatMap f := by rw [← List.flatMap_append, List.take_append_drop]
  have hl : ((l.take k).flatMap f).length = k * size := by rw [flatMap_len f size hf, List.length_take, Nat.min_eq_left hk]
  rw [e, ← hl, List.take_left, List.drop_left]
  exact ⟨rfl, rfl⟩
theorem flatL_set (hf : ∀ x, (f x).length = size) (l : List α) (k : Nat) (x : α) (h : k < l.length) : (l.set k x).flatMap f = (l.flatMap f).take (k * size) ++ f x ++ (l.flatMap f).drop (k * size + size) := by
  rw [List.set_eq_take_append_cons_drop, if_pos h, List.flatMap_append, List.flatMap_cons, (flatL_take hf l k (by omega)).1, (flatL_take hf l (k + 1) (by omega)).2, Nat.succ_mul, List.append_assoc]
theorem flatL_extract (hf : ∀ x, (f x).length = size) {l : List α} {k : Nat} {x : α} (h : l[k]? = some x) : ((l.flatMap f).toArray).extract (k * size) (k * size + size) = (f x).toArray := by
  apply Array.ext'
  rw [Array.toList_extract]
  simp only [List.extract_eq_take_drop]
  have e : k * size + size - k * size = size := by omega
  rw [e]
  apply List.ext_getElem?
  intro j
  by_cases hj : j < size
  · rw [List.getElem?_take_of_lt hj, List.getElem?_drop, flatMap_at f size hf l k x j h hj]
  · rw [List.getElem?_take_eq_none (by omega), List.getElem?_eq_none (by rw [hf]; omega)]
/-- a row of elements that lies in a block of its own -/
def BlkL (f : α → List Value) (w : World) (g : Nat) (t : TypeId) (l : List α) : Prop := Blk w g t (l.flatMap f).toArray
theorem BlkL.cells (hf : ∀ x, (f x).length = size) {w : World} {g : Nat} {t : TypeId} {l : List α} (h : BlkL f w g t l) {k : Nat} {x : α} (hx : l[k]? = some x) {j : Nat} {u : Value} (hu : (f x)[j]? = some u) : w.cell? ⟨g, k * size + j, none⟩ = some u := by
  have hj : j < size := by rw [← hf x]; exact (List.getElem?_eq_some_iff.1 hu).1
  rw [Blk.cell h]
  have := flatMap_at f size hf l k x j hx hj
  simpa [hu] using this
/-- an element is stored -/
theorem BlkL.set (hf : ∀ x, (f x).length = size) {w : World} {g : Nat} {t : TypeId} {l : List α} (h : BlkL f w g t l) {k : Nat} (hk : k < l.length) (x : α) :
    w.setCells g (k * size) (f x) = putB w g t ((l.set k x).flatMap f).toArray ∧ BlkL f (putB w g t ((l.set k x).flatMap f).toArray) g t (l.set k x) := by
  refine ⟨?_, Blk.put h _⟩
  have hlen := flatMap_len f size hf l
  have h1 : k * size + size ≤ l.length * size := by
    have := Nat.mul_le_mul_right size (show k + 1 ≤ l.length from hk)
    rw [Nat.succ_mul] at this
    exact this
  have hw := setCells_mid (f x) ((l.flatMap f).take (k * size)) (((l.flatMap f).drop (k * size)).take size) ((l.flatMap f).drop (k * size + size)) w (g := g) (t := t) (by
    have e : (l.flatMap f).take (k * size) ++ ((l.flatMap f).drop (k * size)).take size ++ (l.flatMap f).drop (k * size + size) = l.flatMap f := by
      rw [List.append_assoc, ← List.drop_drop, List.take_append_drop, List.take_append_drop]
    rw [e]
    exact h) (by rw [List.length_take, List.length_drop, hf]; omega)
  rw [List.length_take, Nat.min_eq_left (by omega)] at hw
  rw [hw, flatL_set hf l k x hk]
end
/-- an element of a row of one's own is stored, in a region that draws its order -/
theorem wp_storeL {P : Program} {α : Type} {f : α → List Value} {size : Nat} (hf : ∀ x, (f x).length = size) {op : Oper} {a : Act} {w : World} {K : Act → World → Prop} {Q : Exit → Act → World → Prop} (ty : TypeId) (x y : Operand) (ho : op.op = .store ty x y) (g : Nat) (t : TypeId) (l : List α) (k : Nat) (v : α)
    (hx : a.eval x = .pointer (some ⟨g, k * size, none⟩)) (hy : a.eval y = .agg (f v).toArray) (hB : BlkL f w g t l) (hk : k < l.length) (hi : (P.info? ty).map (·.size) = some size) (h1 : (f v).toArray.all (·.oneCell') = true)
    (h : K (a.put op.dst undef) (putB w g t ((l.set k v).flatMap f).toArray)) : op.wp P a w K Q := by
  refine wp_store_mid ty x y ho g (k * size) (f v).toArray hx hy (fun j hj => ?_) (by simpa [hf] using hi) h1 ?_
  · have hj' : j < size := by simpa [hf] using hj
    have hj2 : j < (f (l[k]'hk)).length := by rw [hf]; exact hj'
    obtain ⟨u, hu⟩ : ∃ u, (f (l[k]'hk))[j]? = some u := ⟨_, List.getElem?_eq_getElem hj2⟩
    exact ⟨by rw [hB.cells hf (List.getElem?_eq_getElem hk) hu]; rfl, Blk.frozen hB _⟩
  · simp only [(hB.set hf hk v).1]
    exact h
/-- more memory, and of the old one only block g has changed -/
structure ExtB (g : Nat) (w w' : World) : Prop where
  os : w'.os = w.os
  tape : w'.tape = w.tape
  output : w'.output = w.output
  size : w.heap.size ≤ w'.heap.size
  block : ∀ k, k < w.heap.size → k ≠ g → w'.heap[k]? = w.heap[k]?
section
variable {g : Nat} {w w1 w2 : World}
theorem ExtB.refl (w : World) : ExtB g w w := ⟨rfl, rfl, rfl, Nat.le_refl _, fun _ _ _ => rfl⟩
theorem ExtB.trans (h : ExtB g w w1) (k : ExtB g w1 w2) : ExtB g w w2 :=
  ⟨k.os.trans h.os, k.tape.trans h.tape, k.output.trans h.output, Nat.le_trans h.size k.size, fun i hi hn => (k.block i (Nat.lt_of_lt_of_le hi h.size) hn).trans (h.block i hi hn)⟩
theorem ExtB.ext (h : ExtB g w w1) (k : Ext w1 w2) : ExtB g w w2 := h.trans ⟨k.os, k.tape, k.output, Ext.size k, fun i hi _ => k.block i hi⟩
theorem ExtB.of (k : Ext w w1) : ExtB g w w1 := ⟨k.os, k.tape, k.output, Ext.size k, fun i hi _ => k.block i hi⟩
theorem ExtB.put (h : ExtB g w w1) (t : TypeId) (cs : Array Value) : ExtB g w (putB w1 g t cs) :=
  ⟨h.os, h.tape, h.output, by rw [putB_size]; exact h.size, fun i hi hn => by
    unfold putB
    simp only
    rw [Array.getElem?_setIfInBounds_ne (Ne.symm hn)]
    exact h.block i hi hn⟩
theorem ExtB.heap (h : ExtB g w w1) {b : Nat} {o : Obj} (hb : w.heap[b]? = some o) (hn : b ≠ g) : w1.heap[b]? = some o := (h.block b (Array.getElem?_eq_some_iff.1 hb).1 hn).trans hb
theorem ExtB.blk (h : ExtB g w w1) {b : Nat} {t : TypeId} {cs : Array Value} (hb : Blk w b t cs) (hn : b ≠ g) : Blk w1 b t cs := h.heap hb hn
theorem ExtB.cell (h : ExtB g w w1) {p : Addr} {u : Value} (hc : w.cell? p = some u) (hn : p.block ≠ g) : w1.cell? p = some u := by
  have hl := World.block_lt_of_cell? w p hc
  unfold World.cell? at hc ⊢
  rw [h.block _ hl hn]
  exact hc
/-- a slice that lies elsewhere -/
theorem ExtB.cells (h : ExtB g w w1) {α : Type} {f : α → List Value} {size n : Nat} {A : Option Addr} {l : List α} (hS : Sl w size (Cells f) A n l) (hn : ∀ ad, A = some ad → ad.block ≠ g) : Sl w1 size (Cells f) A n l :=
  ⟨hS.1, fun h0 => (hS.2 h0).elim fun b hb => hb.elim fun off ho => ⟨b, off, ho.1, fun i x hx j u hu => h.cell (ho.2 i x hx j u hu) (show b ≠ g from hn ⟨b, off, none⟩ ho.1)⟩⟩
/-- the block is none of an older world's -/
theorem ExtB.toExt (h : ExtB g w w1) {w0 : World} (h0 : Ext w0 w) (hg : w0.heap.size ≤ g) : Ext w0 w1 :=
  ⟨h.os.trans h0.os, h.tape.trans h0.tape, h.output.trans h0.output, Nat.le_trans h0.size h.size, fun k hk => (h.block k (by have := h0.size; omega) (by omega)).trans (h0.block k hk)⟩
end
end Go.Proofs.YtajbhfmdmajpmaaGreatDoor

/-! NameR -/
namespace Go.Proofs.YtajbhfmdmajpmaaGreatDoor
set_option linter.unusedVariables false
set_option linter.unusedSimpArgs false
open Go.RowKit
theorem digit_any (c : Int) (w : World) : Calls Tryz.prog 141 #[.int .u8 c] w fun e w' => e = .returned (.bool (decide (48 ≤ c ∧ c ≤ 57))) ∧ w = w' := by
  by_cases h1 : 48 ≤ c
  · by_cases h2 : c ≤ 57
    · go_enter Tryz.func141, Tryz.ntmps141
      go_wp2
      go_ret
      exact ⟨ret_bool (by rw [decide_eq_true ⟨h1, h2⟩]), rfl⟩
    · go_enter Tryz.func141, Tryz.ntmps141
      go_wp2
      go_ret
      exact ⟨ret_bool (by rw [decide_eq_false (by omega)]), rfl⟩
  · go_enter Tryz.func141, Tryz.ntmps141
    go_wp2
    go_ret
    exact ⟨ret_bool (by simp; omega), rfl⟩
def NameRelR (s : ByteArray) (i : Value) (w wr : World) : Prop := ∃ k : Nat, k ≤ s.size ∧ i = .int .i64 k ∧ (s.data.toList.take k).all (fun c => nbI c.toNat) = true ∧ (0 < k → ∀ h : 0 < s.size, (65 : Int) ≤ (s[0].toNat : Int) ∧ (s[0].toNat : Int) ≤ 90) ∧ w = wr
theorem nb_step {s : ByteArray} {k : Nat} (hlt : k < s.size) (h : (s.data.toList.take k).all (fun c => nbI c.toNat) = true) (hb : nbI (s[k].toNat : Int) = true) : (s.data.toList.take (k + 1)).all (fun c => nbI c.toNat) = true := by
  rw [take_snoc s k hlt, List.all_append, h]
  simp [hb]
theorem nb_let {c : Int} (h1 : 65 ≤ c) (h2 : c ≤ 90) : nbI c = true := decide_eq_true (.inl ⟨h1, h2⟩)
theorem nb_dig {c : Int} (h1 : 48 ≤ c) (h2 : c ≤ 57) : nbI c = true := decide_eq_true (.inr (.inl ⟨h1, h2⟩))
set_option maxRecDepth 100000 in
set_option maxHeartbeats 4000000 in
theorem RName_any (s : ByteArray) (w : World) (hs : s.size ≤ 9223372036854775807) :
    Calls Tryz.prog 93 #[.string s] w fun e w' => e = .returned (.bool (nameB s)) ∧ Ext w w' := by
  by_cases h : 1 ≤ s.size
  · by_cases h' : s.size ≤ 16
    · have h1 : (1 : Int) ≤ (s.size : Int) := by omega
      have h2 : (s.size : Int) ≤ 16 := by omega
      have h0 : 0 < s.size := by omega
      have HS := Lib.hid (And.intro h h')
      go_enter Tryz.func93, Tryz.ntmps93
      go_wp2
      go_loopw [3] (fun i wr => NameRelR s i w wr) (fun i _ => s.size - (intOf i).toNat)
      case atStart => exact ⟨0, Nat.zero_le _, rfl, rfl, fun h => absurd h (by omega), rfl⟩
      case round =>
        obtain ⟨k, hk, rfl, hall, hhd, rfl⟩ := hrel
        have HA := Lib.hid hall
        have HH := Lib.hid hhd
        clear hall hhd
        by_cases hlt : k < s.size
        · have hki : (k : Int) < (s.size : Int) := by omega
          by_cases hl1 : (65 : Int) ≤ (s[k].toNat : Int)
          · by_cases hl2 : (s[k].toNat : Int) ≤ 90
            · have HB := Lib.hid (nb_step hlt HA.out (nb_let hl1 hl2))
              have HH2 : Hid (∀ h : 0 < s.size, (65 : Int) ≤ (s[0].toNat : Int) ∧ (s[0].toNat : Int) ≤ 90) := fun h => by
                rcases Nat.eq_zero_or_pos k with h0 | h0
                · subst h0; exact ⟨hl1, hl2⟩
                · exact HH.out h0 h
              go_wp2
              exact ⟨⟨k + 1, by omega, by go_num, HB.out, fun _ => HH2.out, rfl⟩, by simp [intOf]; omega⟩
            · by_cases hk0 : k = 0
              · subst hk0
                have HF := Lib.hid (nameB_head h0 (by omega))
                go_wp2_with fail
                go_ret
                exact ⟨by rw [HF.out]; rfl, Ext.refl _⟩
              · have hk0' : ((k : Int) == 0) = false := by simp; omega
                have hd : ¬ ((48 : Int) ≤ (s[k].toNat : Int) ∧ (s[k].toNat : Int) ≤ 57) := by omega
                go_wp2_with fail
                refine (digit_any _ _).mono ?_
                rintro e w1 ⟨rfl, rfl⟩
                rw [decide_eq_false hd]
                by_cases h95 : (s[k].toNat : Int) = 95
                · have HB := Lib.hid (nb_step hlt HA.out (by unfold nbI; rw [h95]; decide))
                  go_wp2_with fail
                  exact ⟨⟨k + 1, by omega, by go_num, HB.out, fun _ => HH.out (by omega), rfl⟩, by simp [intOf]; omega⟩
                · by_cases h45 : (s[k].toNat : Int) = 45
                  · exfalso; omega
                  · have e95 : ((s[k].toNat : Int) != 95) = true := by simpa using h95
                    have e45 : ((s[k].toNat : Int) != 45) = true := by simpa using h45
                    have HF := Lib.hid (nameB_at k hlt (by unfold nbI; rw [decide_eq_false (by omega)]))
                    go_wp2_with fail
                    go_ret
                    exact ⟨by rw [HF.out]; rfl, Ext.refl _⟩
          · by_cases hk0 : k = 0
            · subst hk0
              have HF := Lib.hid (nameB_head h0 (by omega))
              go_wp2_with fail
              go_ret
              exact ⟨by rw [HF.out]; rfl, Ext.refl _⟩
            · have hk0' : ((k : Int) == 0) = false := by simp; omega
              go_wp2_with fail
              refine (digit_any _ _).mono ?_
              rintro e w1 ⟨rfl, rfl⟩
              by_cases hd : (48 : Int) ≤ (s[k].toNat : Int) ∧ (s[k].toNat : Int) ≤ 57
              · rw [decide_eq_true hd]
                have HB := Lib.hid (nb_step hlt HA.out (nb_dig hd.1 hd.2))
                go_wp2_with fail
                exact ⟨⟨k + 1, by omega, by go_num, HB.out, fun _ => HH.out (by omega), rfl⟩, by simp [intOf]; omega⟩
              · rw [decide_eq_false hd]
                by_cases h45 : (s[k].toNat : Int) = 45
                · have HB := Lib.hid (nb_step hlt HA.out (by unfold nbI; rw [h45]; decide))
                  have e95 : ((s[k].toNat : Int) != 95) = true := by rw [h45]; rfl
                  have e45 : ((s[k].toNat : Int) != 45) = false := by rw [h45]; rfl
                  clear h45
                  go_wp2_with fail
                  exact ⟨⟨k + 1, by omega, by go_num, HB.out, fun _ => HH.out (by omega), rfl⟩, by simp [intOf]; omega⟩
                · have e95 : ((s[k].toNat : Int) != 95) = true := by simp; omega
                  have e45 : ((s[k].toNat : Int) != 45) = true := by simpa using h45
                  have HF := Lib.hid (nameB_at k hlt (by unfold nbI; rw [decide_eq_false (by omega)]))
                  go_wp2_with fail
                  go_ret
                  exact ⟨by rw [HF.out]; rfl, Ext.refl _⟩
        · have ek : k = s.size := by omega
          subst ek
          go_wp2
          go_ret
          exact ⟨by rw [nameB_yes HS.out h0 (HH.out h0 h0) HA.out]; rfl, Ext.refl _⟩
    · have HF := Lib.hid (nameB_small (s := s) (by omega))
      have h1 : (16 : Int) < (s.size : Int) := by omega
      go_enter Tryz.func93, Tryz.ntmps93
      go_wp2
      go_ret
      exact ⟨by rw [HF.out]; rfl, Ext.refl _⟩
  · have HF := Lib.hid (nameB_small (s := s) (by omega))
    have h1 : (s.size : Int) < 1 := by omega
    go_enter Tryz.func93, Tryz.ntmps93
    go_wp2
    go_ret
    exact ⟨by rw [HF.out]; rfl, Ext.refl _⟩
end Go.Proofs.YtajbhfmdmajpmaaGreatDoor

/-! RegR -/
namespace Go.Proofs.YtajbhfmdmajpmaaGreatDoor
set_option linter.unusedVariables false
set_option linter.unusedSimpArgs false
open Go.RowKit
set_option maxHeartbeats 400000 in
theorem R10Default_any (w : World) : Calls Tryz.prog 140 #[] w fun e w' => e = .returned Reg.default.val ∧ Ext w w' := by
  go_enter Tryz.func140, Tryz.ntmps140
  go_wp2
  exact bodyPost_ret (v := Reg.default.val) (by simp [results, Tryz.results140, go_sem, Reg.val, Reg.default]; rfl) rfl ⟨rfl, (Ext.refl w).alloc _⟩
set_option maxHeartbeats 4000000 in
theorem R10Check_any (r : Reg) (w : World) (hs : r.name.size ≤ 9223372036854775807) : Calls Tryz.prog 104 #[r.val] w fun e w' => e = .returned (.int .i64 r.check) ∧ Ext w w' := by
  obtain ⟨nm, top, hgt, lft, wid, al, bot⟩ := r
  unfold Reg.val
  dsimp only
  cases hn : nameB nm
  · have HN := Lib.hid hn
    have HF : Hid (Reg.check ⟨nm, top, hgt, lft, wid, al, bot⟩ = 5) := by show Reg.check _ = 5; unfold Reg.check; rw [if_pos hn]
    clear hn
    go_enter Tryz.func104, Tryz.ntmps104
    go_wp2_with fail
    refine (RName_any nm _ hs).mono ?_
    rintro e w1 ⟨rfl, hx1⟩
    rw [HN.out]
    go_wp2_with fail
    go_ret
    exact ⟨ret_int HF.out.symm, ((Ext.refl w).alloc _).trans hx1⟩
  have HN := Lib.hid hn
  have HC : Hid (Reg.check ⟨nm, top, hgt, lft, wid, al, bot⟩ = if ¬ Reg.inGrid ⟨nm, top, hgt, lft, wid, al, bot⟩ then 2 else if al < 1 ∨ 3 < al then 3 else 0) := by
    show Reg.check _ = _
    unfold Reg.check
    rw [if_neg (by rw [hn]; simp)]
  have HI : Hid (Reg.inGrid ⟨nm, top, hgt, lft, wid, al, bot⟩ ↔ ((0 ≤ top ∧ top ≤ 14) ∧ (1 ≤ hgt ∧ hgt ≤ 15 - top) ∧ (0 ≤ lft ∧ lft ≤ 31) ∧ (1 ≤ wid ∧ wid ≤ 32 - lft))) := Iff.rfl
  clear hn
  by_cases h0 : top < 0
  · go_enter Tryz.func104, Tryz.ntmps104
    go_wp2_with fail
    refine (RName_any nm _ hs).mono ?_
    rintro e w1 ⟨rfl, hx1⟩
    rw [HN.out]
    have hc := fun o u => hx1.cell (p := ⟨w.heap.size, o, none⟩) (u := u)
    simp at hc
    have hx1' := Lib.hid hx1
    clear hx1
    go_wp2_with fail
    go_ret
    exact ⟨ret_int (by rw [HC.out, if_pos (by rw [HI.out]; omega)]), ((Ext.refl w).alloc _).trans hx1'.out⟩
  by_cases h1 : 14 < top
  · go_enter Tryz.func104, Tryz.ntmps104
    go_wp2_with fail
    refine (RName_any nm _ hs).mono ?_
    rintro e w1 ⟨rfl, hx1⟩
    rw [HN.out]
    have hc := fun o u => hx1.cell (p := ⟨w.heap.size, o, none⟩) (u := u)
    simp at hc
    have hx1' := Lib.hid hx1
    clear hx1
    go_wp2_with fail
    go_ret
    exact ⟨ret_int (by rw [HC.out, if_pos (by rw [HI.out]; omega)]), ((Ext.refl w).alloc _).trans hx1'.out⟩
  by_cases h2 : hgt < 1
  · go_enter Tryz.func104, Tryz.ntmps104
    go_wp2_with fail
    refine (RName_any nm _ hs).mono ?_
    rintro e w1 ⟨rfl, hx1⟩
    rw [HN.out]
    have hc := fun o u => hx1.cell (p := ⟨w.heap.size, o, none⟩) (u := u)
    simp at hc
    have hx1' := Lib.hid hx1
    clear hx1
    go_wp2_with fail
    go_ret
    exact ⟨ret_int (by rw [HC.out, if_pos (by rw [HI.out]; omega)]), ((Ext.refl w).alloc _).trans hx1'.out⟩
  by_cases h3 : 15 - top < hgt
  · go_enter Tryz.func104, Tryz.ntmps104
    go_wp2_with fail
    refine (RName_any nm _ hs).mono ?_
    rintro e w1 ⟨rfl, hx1⟩
    rw [HN.out]
    have hc := fun o u => hx1.cell (p := ⟨w.heap.size, o, none⟩) (u := u)
    simp at hc
    have hx1' := Lib.hid hx1
    clear hx1
    go_wp2_with fail
    go_ret
    exact ⟨ret_int (by rw [HC.out, if_pos (by rw [HI.out]; omega)]), ((Ext.refl w).alloc _).trans hx1'.out⟩
  by_cases h4 : lft < 0
  · go_enter Tryz.func104, Tryz.ntmps104
    go_wp2_with fail
    refine (RName_any nm _ hs).mono ?_
    rintro e w1 ⟨rfl, hx1⟩
    rw [HN.out]
    have hc := fun o u => hx1.cell (p := ⟨w.heap.size, o, none⟩) (u := u)
    simp at hc
    have hx1' := Lib.hid hx1
    clear hx1
    go_wp2_with fail
    go_ret
    exact ⟨ret_int (by rw [HC.out, if_pos (by rw [HI.out]; omega)]), ((Ext.refl w).alloc _).trans hx1'.out⟩
  by_cases h5 : 31 < lft
  · go_enter Tryz.func104, Tryz.ntmps104
    go_wp2_with fail
    refine (RName_any nm _ hs).mono ?_
    rintro e w1 ⟨rfl, hx1⟩
    rw [HN.out]
    have hc := fun o u => hx1.cell (p := ⟨w.heap.size, o, none⟩) (u := u)
    simp at hc
    have hx1' := Lib.hid hx1
    clear hx1
    go_wp2_with fail
    go_ret
    exact ⟨ret_int (by rw [HC.out, if_pos (by rw [HI.out]; omega)]), ((Ext.refl w).alloc _).trans hx1'.out⟩
  by_cases h6 : wid < 1
  · go_enter Tryz.func104, Tryz.ntmps104
    go_wp2_with fail
    refine (RName_any nm _ hs).mono ?_
    rintro e w1 ⟨rfl, hx1⟩
    rw [HN.out]
    have hc := fun o u => hx1.cell (p := ⟨w.heap.size, o, none⟩) (u := u)
    simp at hc
    have hx1' := Lib.hid hx1
    clear hx1
    go_wp2_with fail
    go_ret
    exact ⟨ret_int (by rw [HC.out, if_pos (by rw [HI.out]; omega)]), ((Ext.refl w).alloc _).trans hx1'.out⟩
  by_cases h7 : 32 - lft < wid
  · go_enter Tryz.func104, Tryz.ntmps104
    go_wp2_with fail
    refine (RName_any nm _ hs).mono ?_
    rintro e w1 ⟨rfl, hx1⟩
    rw [HN.out]
    have hc := fun o u => hx1.cell (p := ⟨w.heap.size, o, none⟩) (u := u)
    simp at hc
    have hx1' := Lib.hid hx1
    clear hx1
    go_wp2_with fail
    go_ret
    exact ⟨ret_int (by rw [HC.out, if_pos (by rw [HI.out]; omega)]), ((Ext.refl w).alloc _).trans hx1'.out⟩
  by_cases e1 : al = 1
  · subst e1
    go_enter Tryz.func104, Tryz.ntmps104
    go_wp2_with fail
    refine (RName_any nm _ hs).mono ?_
    rintro e w1 ⟨rfl, hx1⟩
    rw [HN.out]
    have hc := fun o u => hx1.cell (p := ⟨w.heap.size, o, none⟩) (u := u)
    simp at hc
    have hx1' := Lib.hid hx1
    clear hx1
    go_wp2_with fail
    go_ret
    exact ⟨ret_int (by rw [HC.out, if_neg (by rw [HI.out]; omega), if_neg (by omega)]), ((Ext.refl w).alloc _).trans hx1'.out⟩
  have f1 : (al != 1) = true := by simpa using e1
  by_cases e2 : al = 2
  · subst e2
    go_enter Tryz.func104, Tryz.ntmps104
    go_wp2_with fail
    refine (RName_any nm _ hs).mono ?_
    rintro e w1 ⟨rfl, hx1⟩
    rw [HN.out]
    have hc := fun o u => hx1.cell (p := ⟨w.heap.size, o, none⟩) (u := u)
    simp at hc
    have hx1' := Lib.hid hx1
    clear hx1
    go_wp2_with fail
    go_ret
    exact ⟨ret_int (by rw [HC.out, if_neg (by rw [HI.out]; omega), if_neg (by omega)]), ((Ext.refl w).alloc _).trans hx1'.out⟩
  have f2 : (al != 2) = true := by simpa using e2
  by_cases e3 : al = 3
  · subst e3
    go_enter Tryz.func104, Tryz.ntmps104
    go_wp2_with fail
    refine (RName_any nm _ hs).mono ?_
    rintro e w1 ⟨rfl, hx1⟩
    rw [HN.out]
    have hc := fun o u => hx1.cell (p := ⟨w.heap.size, o, none⟩) (u := u)
    simp at hc
    have hx1' := Lib.hid hx1
    clear hx1
    go_wp2_with fail
    go_ret
    exact ⟨ret_int (by rw [HC.out, if_neg (by rw [HI.out]; omega), if_neg (by omega)]), ((Ext.refl w).alloc _).trans hx1'.out⟩
  have f3 : (al != 3) = true := by simpa using e3
  go_enter Tryz.func104, Tryz.ntmps104
  go_wp2_with fail
  refine (RName_any nm _ hs).mono ?_
  rintro e w1 ⟨rfl, hx1⟩
  rw [HN.out]
  have hc := fun o u => hx1.cell (p := ⟨w.heap.size, o, none⟩) (u := u)
  simp at hc
  have hx1' := Lib.hid hx1
  clear hx1
  go_wp2_with fail
  go_ret
  exact ⟨ret_int (by rw [HC.out, if_neg (by rw [HI.out]; omega), if_pos (by omega)]), ((Ext.refl w).alloc _).trans hx1'.out⟩
end Go.Proofs.YtajbhfmdmajpmaaGreatDoor
