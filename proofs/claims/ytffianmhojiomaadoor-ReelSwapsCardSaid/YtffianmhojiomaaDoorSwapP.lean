/- Swapped and unchanged lists, plainly. -/
import Derived.Test.YtffianmhojiomaaDoorJoinP
namespace Go.Proofs.YtffianmhojiomaaDoor
set_option linter.unusedVariables false
set_option linter.unusedSimpArgs false
open Go.RowKit

/-- a list and an error, handed back -/
def EdlPost (e : Edl) (err : Int) (w : World) (en : Ending) (w' : World) : Prop := ∃ A' n' c', en = .returned (.tuple #[.agg (e.cells A' n' c'), .int .i64 err]) ∧ CutsAt w' A' n' e.cuts ∧ n' ≤ c' ∧ Ext w w'
def zeroE : Edl := ⟨⟨#[]⟩, 0, false, []⟩

/-- the list that plays a reel unchanged -/
def idE (r : Int) (drop : Bool) (nm : ByteArray) (f : Int) : Edl := ⟨⟨#[]⟩, r, drop, [⟨1, nm, 0, 0, f, 1, 1⟩]⟩
def identE (r : Int) (drop : Bool) (nm : ByteArray) (f : Int) : Edl := if edlErr (idE r drop nm f) = 0 then idE r drop nm f else zeroE
theorem ident_ok {r : Int} {drop : Bool} {nm : ByteArray} {f : Int} (h : edlErr (idE r drop nm f) = 0) : identE r drop nm f = idE r drop nm f := if_pos h
theorem ident_err {r : Int} {drop : Bool} {nm : ByteArray} {f : Int} (h : edlErr (idE r drop nm f) ≠ 0) : identE r drop nm f = zeroE := if_neg h
theorem ident_at {r : Int} {drop : Bool} {nm : ByteArray} {f : Int} (h : edlErr (idE r drop nm f) = 0) (t : Int) : atE (idE r drop nm f) t = if 0 ≤ t ∧ t < f then (nm, t, true) else (⟨#[]⟩, 0, false) := by
  by_cases ht : 0 ≤ t ∧ t < f
  · rw [if_pos ht]
    rw [atE_some (c := ⟨1, nm, 0, 0, f, 1, 1⟩) h (by simp [findC, idE, ht])]
    rw [srcAt_one rfl rfl]
    simp
  · rw [if_neg ht]
    exact atE_none h (by simp [findC, idE]; omega)
theorem idE_edlok {r : Int} {drop : Bool} {nm : ByteArray} {f : Int} (h0 : 0 ≤ r) (h1 : r ≤ 255) (hn : nm.size ≤ 140737488351232) (hf : I64 f) : EdlOk (idE r drop nm f) := by
  refine ⟨h0, h1, Nat.zero_le _, fun c hc => ?_⟩
  simp only [idE, List.mem_cons, List.not_mem_nil, or_false] at hc
  subst hc
  refine ⟨?_, ?_, ?_, hf, ?_, ?_, hn⟩ <;> (unfold I64; dsimp only; decide)
theorem zeroE_edlok : EdlOk zeroE := ⟨by decide, by decide, by decide, by simp [zeroE]⟩

/-- a cut with the reel, the source and the speed of another one -/
def Cut.take3 (c d : Cut) : Cut := { c with reel := d.reel, src := d.src, n := d.n, d := d.d }
def swapC (l : List Cut) (i j : Nat) : List Cut := (l.set i ((cutI l i).take3 (cutI l j))).set j ((cutI l j).take3 (cutI l i))
/-- the list with its cuts swapped, whether or not it is accepted -/
def swapL (e : Edl) (a b : ByteArray) : Edl := { e with cuts := swapC e.cuts (lastI e.cuts a e.cuts.length) (lastI e.cuts b e.cuts.length) }
def swapErr (e : Edl) (a b : ByteArray) : Int := if swapPre e a b ≠ 0 then swapPre e a b else edlErr (swapL e a b)
def swapE (e : Edl) (a b : ByteArray) : Edl := if swapErr e a b = 0 then swapL e a b else zeroE
theorem swapErr_pre {e : Edl} {a b : ByteArray} (h : swapPre e a b ≠ 0) : swapErr e a b = swapPre e a b := if_pos h
theorem swapErr_chk {e : Edl} {a b : ByteArray} (h : swapPre e a b = 0) : swapErr e a b = edlErr (swapL e a b) := if_neg (by simpa using h)
theorem swapE_bad {e : Edl} {a b : ByteArray} (h : swapErr e a b ≠ 0) : swapE e a b = zeroE := if_neg h
theorem swapE_ok {e : Edl} {a b : ByteArray} (h : swapErr e a b = 0) : swapE e a b = swapL e a b := if_pos h
theorem swapErr_zero {e : Edl} {a b : ByteArray} (h : swapErr e a b = 0) : swapPre e a b = 0 ∧ edlErr (swapL e a b) = 0 := by
  unfold swapErr at h
  split at h
  · omega
  · exact ⟨by omega, h⟩
theorem joinE_len (e : Edl) : (joinE e).cuts.length ≤ e.cuts.length := by
  by_cases h : edlErr e = 0
  · rw [joinE_ok h]
    have := joinC_len e.cuts e.cuts.length (Nat.le_refl _)
    rwa [List.take_length] at this
  · rw [joinE_err h]; exact Nat.zero_le _
theorem swapC_len (l : List Cut) (i j : Nat) : (swapC l i j).length = l.length := by simp [swapC]
theorem cutI_get {l : List Cut} {i : Nat} (h : i < l.length) : l[i]? = some (cutI l i) := by simp [cutI, h]
theorem take3_fits {c d : Cut} (hc : c.Fits) (hd : d.Fits) : (c.take3 d).Fits := ⟨hc.1, hd.2.1, hc.2.2.1, hc.2.2.2.1, hd.2.2.2.2.1, hd.2.2.2.2.2.1, hd.2.2.2.2.2.2⟩
theorem swapC_fits {l : List Cut} (hl : ∀ c ∈ l, c.Fits) {i j : Nat} (hi : i < l.length) (hj : j < l.length) : ∀ c ∈ swapC l i j, c.Fits := by
  have hI := hl _ (List.mem_of_getElem? (cutI_get hi))
  have hJ := hl _ (List.mem_of_getElem? (cutI_get hj))
  intro c hc
  rcases List.mem_or_eq_of_mem_set hc with hc | rfl
  · rcases List.mem_or_eq_of_mem_set hc with hc | rfl
    · exact hl c hc
    · exact take3_fits hI hJ
  · exact take3_fits hJ hI

/-- the places of a reel: one, where it is counted once -/
theorem cntI_pos {l : List Cut} {s : ByteArray} : ∀ {k i : Nat}, i < k → isR l s i → 1 ≤ cntI l s k
  | 0, i, h, _ => by omega
  | k + 1, i, h, hi => by
    unfold cntI
    split
    · omega
    · rename_i hn
      have : i ≠ k := fun e => hn (e ▸ hi)
      exact cntI_pos (k := k) (by omega) hi
theorem lastI_of {l : List Cut} {s : ByteArray} : ∀ {k i : Nat}, i < k → isR l s i → (∀ m, m < k → isR l s m → m = i) → lastI l s k = i ∧ cntI l s k = 1
  | 0, i, h, _, _ => by omega
  | k + 1, i, h, hi, hu => by
    unfold lastI cntI
    by_cases hk : isR l s k
    · rw [if_pos hk, if_pos hk]
      have e := hu k (by omega) hk
      subst e
      refine ⟨rfl, ?_⟩
      rcases Nat.eq_zero_or_pos (cntI l s k) with h0 | h0
      · rw [h0]
      · obtain ⟨h1, h2⟩ := lastI_is l s k h0
        have := hu _ (by omega) h2
        omega
    · rw [if_neg hk, if_neg hk]
      have : i ≠ k := fun e => hk (e ▸ hi)
      exact lastI_of (k := k) (by omega) hi (fun m hm hr => hu m (by omega) hr)
theorem one_place {l : List Cut} {s : ByteArray} : ∀ {k m : Nat}, cntI l s k = 1 → m < k → isR l s m → m = lastI l s k
  | 0, m, _, h, _ => by omega
  | k + 1, m, hc, hm, hr => by
    unfold lastI
    unfold cntI at hc
    by_cases hk : isR l s k
    · rw [if_pos hk] at hc ⊢
      by_cases he : m = k
      · exact he
      · have := cntI_pos (l := l) (s := s) (k := k) (i := m) (by omega) hr
        omega
    · rw [if_neg hk] at hc ⊢
      have : m ≠ k := fun e => hk (e ▸ hr)
      exact one_place hc (by omega) hr
theorem swapC_get {l : List Cut} {i j m : Nat} (hi : i < l.length) (hj : j < l.length) (hij : i ≠ j) : (swapC l i j)[m]? = if m = j then some ((cutI l j).take3 (cutI l i)) else if m = i then some ((cutI l i).take3 (cutI l j)) else l[m]? := by
  unfold swapC
  by_cases h1 : m = j
  · subst h1
    rw [if_pos rfl, List.getElem?_set_self (by simpa using hj)]
  · rw [if_neg h1, List.getElem?_set_ne (Ne.symm h1)]
    by_cases h2 : m = i
    · subst h2
      rw [if_pos rfl, List.getElem?_set_self hi]
    · rw [if_neg h2, List.getElem?_set_ne (Ne.symm h2)]
theorem swapC_twice {l : List Cut} {i j : Nat} (hi : i < l.length) (hj : j < l.length) (hij : i ≠ j) : swapC (swapC l i j) j i = l := by
  have hi' : i < (swapC l i j).length := by rw [swapC_len]; exact hi
  have hj' : j < (swapC l i j).length := by rw [swapC_len]; exact hj
  have ei : cutI (swapC l i j) i = (cutI l i).take3 (cutI l j) := by
    have := swapC_get (m := i) hi hj hij
    rw [if_neg hij, if_pos rfl] at this
    unfold cutI at this ⊢
    rw [this]; rfl
  have ej : cutI (swapC l i j) j = (cutI l j).take3 (cutI l i) := by
    have := swapC_get (m := j) hi hj hij
    rw [if_pos rfl] at this
    unfold cutI at this ⊢
    rw [this]; rfl
  apply List.ext_getElem?
  intro m
  rw [swapC_get hj' hi' (Ne.symm hij), ei, ej]
  by_cases h1 : m = i
  · subst h1
    rw [if_pos rfl, cutI_get hi]
    rfl
  · rw [if_neg h1]
    by_cases h2 : m = j
    · subst h2
      rw [if_pos rfl, cutI_get hj]
      rfl
    · rw [if_neg h2, swapC_get hi hj hij, if_neg h2, if_neg h1]
/-- what the places are, where the pre-check passes -/
theorem swap_places {e : Edl} {a b : ByteArray} (h : swapPre e a b = 0) : let i := lastI e.cuts a e.cuts.length; let j := lastI e.cuts b e.cuts.length
    i < e.cuts.length ∧ j < e.cuts.length ∧ i ≠ j ∧ (cutI e.cuts i).reel = a ∧ (cutI e.cuts j).reel = b ∧ a ≠ b ∧ (cutI e.cuts i).out - (cutI e.cuts i).inn = (cutI e.cuts j).out - (cutI e.cuts j).inn := by
  obtain ⟨h1, h2, h3, h4⟩ := pre_good h
  obtain ⟨i1, i2⟩ := lastI_is e.cuts a e.cuts.length (by omega)
  obtain ⟨j1, j2⟩ := lastI_is e.cuts b e.cuts.length (by omega)
  have ra : (cutI e.cuts (lastI e.cuts a e.cuts.length)).reel = a := by
    have := i2
    unfold isR at this
    rw [cutI_get i1] at this
    simpa using this
  have rb : (cutI e.cuts (lastI e.cuts b e.cuts.length)).reel = b := by
    have := j2
    unfold isR at this
    rw [cutI_get j1] at this
    simpa using this
  refine ⟨i1, j1, fun he => h2 (by rw [← ra, ← rb, he]), ra, rb, h2, ?_⟩
  unfold swapPre at h
  repeat' split at h
  all_goals first | omega | skip
theorem swapE_edlok {e : Edl} {a b : ByteArray} (hok : EdlOk e) : EdlOk (swapE e a b) := by
  by_cases h : swapErr e a b = 0
  · rw [swapE_ok h]
    obtain ⟨p1, p2⟩ := swapErr_zero h
    obtain ⟨i1, j1, _⟩ := swap_places p1
    exact ⟨hok.r0, hok.r1, hok.title, swapC_fits hok.fits i1 j1⟩
  · rw [swapE_bad h]; exact zeroE_edlok
/-- swapping twice gives the list back -/
theorem swap_twice {e : Edl} {a b : ByteArray} (h : swapErr e a b = 0) : swapErr (swapE e a b) a b = 0 ∧ swapE (swapE e a b) a b = e := by
  obtain ⟨p1, p2⟩ := swapErr_zero h
  obtain ⟨g1, g2, g3, g4⟩ := pre_good p1
  obtain ⟨i1, j1, hij, ra, rb, hab, hlen⟩ := swap_places p1
  rw [swapE_ok h]
  generalize hi : lastI e.cuts a e.cuts.length = i at *
  generalize hj : lastI e.cuts b e.cuts.length = j at *
  have hcuts : (swapL e a b).cuts = swapC e.cuts i j := by unfold swapL; rw [hi, hj]
  have hl : (swapC e.cuts i j).length = e.cuts.length := swapC_len ..
  have key : ∀ m, (swapC e.cuts i j)[m]? = if m = j then some ((cutI e.cuts j).take3 (cutI e.cuts i)) else if m = i then some ((cutI e.cuts i).take3 (cutI e.cuts j)) else e.cuts[m]? := fun m => swapC_get i1 j1 hij
  have hA : lastI (swapC e.cuts i j) a e.cuts.length = j ∧ cntI (swapC e.cuts i j) a e.cuts.length = 1 := by
    refine lastI_of j1 ?_ (fun m hm hr => ?_)
    · unfold isR; rw [key, if_pos rfl]; simp [Cut.take3, ra]
    · unfold isR at hr
      rw [key] at hr
      by_cases h1 : m = j
      · exact h1
      · rw [if_neg h1] at hr
        by_cases h2 : m = i
        · rw [if_pos h2] at hr
          simp [Cut.take3, rb] at hr
          exact absurd hr.symm hab
        · rw [if_neg h2] at hr
          have := one_place g3 hm hr
          rw [hi] at this
          exact absurd this h2
  have hB : lastI (swapC e.cuts i j) b e.cuts.length = i ∧ cntI (swapC e.cuts i j) b e.cuts.length = 1 := by
    refine lastI_of i1 ?_ (fun m hm hr => ?_)
    · unfold isR; rw [key, if_neg hij, if_pos rfl]; simp [Cut.take3, rb]
    · unfold isR at hr
      rw [key] at hr
      by_cases h1 : m = j
      · rw [if_pos h1] at hr
        simp [Cut.take3, ra] at hr
        exact absurd hr hab
      · rw [if_neg h1] at hr
        by_cases h2 : m = i
        · exact h2
        · rw [if_neg h2] at hr
          have := one_place g4 hm hr
          rw [hj] at this
          exact absurd this h1
  have cj : cutI (swapC e.cuts i j) j = (cutI e.cuts j).take3 (cutI e.cuts i) := by
    have := key j
    rw [if_pos rfl] at this
    unfold cutI at this ⊢
    rw [this]; rfl
  have ci : cutI (swapC e.cuts i j) i = (cutI e.cuts i).take3 (cutI e.cuts j) := by
    have := key i
    rw [if_neg hij, if_pos rfl] at this
    unfold cutI at this ⊢
    rw [this]; rfl
  have q1 : swapPre (swapL e a b) a b = 0 := by
    refine pre_ok (n := e.cuts.length) (by rw [hcuts, hl]) p2 hab ?_ ?_ ?_
    · rw [hcuts]; omega
    · rw [hcuts]; omega
    · rw [hcuts, hA.1, hB.1, cj, ci]
      show (cutI e.cuts j).out - (cutI e.cuts j).inn = (cutI e.cuts i).out - (cutI e.cuts i).inn
      exact hlen.symm
  have q2 : swapL (swapL e a b) a b = e := by
    unfold swapL at hcuts ⊢
    rw [hi, hj]
    show ({ e with cuts := swapC (swapC e.cuts i j) (lastI (swapC e.cuts i j) a (swapC e.cuts i j).length) (lastI (swapC e.cuts i j) b (swapC e.cuts i j).length) } : Edl) = e
    rw [hl, hA.1, hB.1, swapC_twice i1 j1 hij]
  have q3 : swapErr (swapL e a b) a b = 0 := by rw [swapErr_chk q1, q2]; exact g1
  exact ⟨q3, by rw [swapE_ok q3, q2]⟩
end Go.Proofs.YtffianmhojiomaaDoor
