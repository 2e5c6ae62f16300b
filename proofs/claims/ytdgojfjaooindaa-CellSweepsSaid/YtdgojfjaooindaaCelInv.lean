/-
  What the versions of a cell keep under the acts of a script: every writer is live or committed, all but the last one committed, no two alike; hence the place of a version is known by its writer. No program in sight.
-/
import Derived.Test.YtdgojfjaooindaaCelK
namespace Go.Proofs.Ytdgojfjaooindaa
open Go.Proofs.Lig

/-- Was committed. -/
def com (c : Clk) (s : Int) : Prop := ∃ x, c.tx? s = some x ∧ x.live = false ∧ 0 < x.as
/-- Is live, or was committed. -/
def okBy (c : Clk) (s : Int) : Prop := ∃ x, c.tx? s = some x ∧ (x.live = true ∨ 0 < x.as)
structure Inv (c : Clk) (l : List (Ver Int)) : Prop where
  ok : ∀ y ∈ l, okBy c y.who
  pair : l.Pairwise fun y z => com c y.who ∧ y.who ≠ z.who

theorem inv_nil (c : Clk) : Inv c [] := ⟨fun _ h => by simp at h, .nil⟩
theorem Inv.sub {c : Clk} {l l' : List (Ver Int)} (h : Inv c l) (hs : l'.Sublist l) : Inv c l' := ⟨fun y hy => h.ok y (hs.subset hy), h.pair.sublist hs⟩

theorem tx_began {c : Clk} {t : Int} {x : Tx} (h : c.tx? t = some x) : c.began.tx? t = some x := by
  have h1 := Clk.tx?_le h
  have h2 := Clk.tx?_eq h
  refine Clk.tx?_of h1.1 ?_
  show (c.l ++ _)[t.toNat - 1]? = _
  rw [List.getElem?_append_left (by omega), h2]
theorem tx_put {c : Clk} {s t : Int} {x y : Tx} {n : Nat} (h : c.tx? s = some x) (ht : 1 ≤ t) (hne : s ≠ t) : (c.put t y n).tx? s = some x := by
  have h1 := Clk.tx?_le h
  have h2 := Clk.tx?_eq h
  refine Clk.tx?_of h1.1 ?_
  show (c.l.set _ _)[s.toNat - 1]? = _
  rw [List.getElem?_set_ne (by omega), h2]
theorem tx_put_self {c : Clk} {t : Int} {x y : Tx} {n : Nat} (h : c.tx? t = some x) : (c.put t y n).tx? t = some y := by
  have h1 := Clk.tx?_le h
  refine Clk.tx?_of h1.1 ?_
  show (c.l.set _ _)[t.toNat - 1]? = _
  rw [List.getElem?_set_self (by omega)]

theorem live_tx {c : Clk} {t : Int} (h : c.live t = true) : ∃ x, c.tx? t = some x ∧ x.live = true := by
  unfold Clk.live at h
  cases hx : c.tx? t with
  | none => rw [hx] at h; simp at h
  | some x => rw [hx] at h; exact ⟨x, rfl, h⟩
theorem com_not_live {c : Clk} {s t : Int} (h : com c s) (ht : c.live t = true) : s ≠ t := by
  rintro rfl
  obtain ⟨x, hx, hl, _⟩ := h
  obtain ⟨x', hx', hl'⟩ := live_tx ht
  rw [hx] at hx'; cases hx'
  simp [hl] at hl'

theorem Inv.began {c : Clk} {l : List (Ver Int)} (h : Inv c l) : Inv c.began l :=
  ⟨fun y hy => by obtain ⟨x, hx, h1⟩ := h.ok y hy; exact ⟨x, tx_began hx, h1⟩,
   h.pair.imp fun ⟨⟨x, hx, h1⟩, h2⟩ => ⟨⟨x, tx_began hx, h1⟩, h2⟩⟩
theorem Inv.committed {c : Clk} {l : List (Ver Int)} (h : Inv c l) {t : Int} (ht : c.live t = true) : Inv (c.committed t) l := by
  obtain ⟨x0, hx0, hl0⟩ := live_tx ht
  have h1 := (Clk.tx?_le hx0).1
  have e : c.committed t = c.put t ⟨x0.mark, c.n + 1, false⟩ (c.n + 1) := by unfold Clk.committed; rw [hx0]
  rw [e]
  refine ⟨fun y hy => ?_, h.pair.imp ?_⟩
  · obtain ⟨x, hx, hk⟩ := h.ok y hy
    by_cases he : y.who = t
    · rw [he]; exact ⟨_, tx_put_self hx0, .inr (Nat.succ_pos _)⟩
    · exact ⟨x, tx_put hx h1 he, hk⟩
  · rintro y z ⟨hc, hne⟩
    have he := com_not_live hc ht
    obtain ⟨x, hx, hk⟩ := hc
    exact ⟨⟨x, tx_put hx h1 he, hk⟩, hne⟩
theorem Inv.dropped {c : Clk} {l : List (Ver Int)} (h : Inv c l) {t : Int} (ht : c.live t = true) : Inv (c.dropped t) (Cel.undone l t) := by
  obtain ⟨x0, hx0, hl0⟩ := live_tx ht
  have h1 := (Clk.tx?_le hx0).1
  have e : c.dropped t = c.put t ⟨x0.mark, x0.as, false⟩ c.n := by unfold Clk.dropped; rw [hx0]
  have h' : Inv c (Cel.undone l t) := h.sub List.filter_sublist
  have hw : ∀ y ∈ Cel.undone l t, y.who ≠ t := fun y hy => by
    have := (List.mem_filter.1 hy).2
    simpa using this
  rw [e]
  refine ⟨fun y hy => ?_, h'.pair.imp ?_⟩
  · obtain ⟨x, hx, hk⟩ := h'.ok y hy
    exact ⟨x, tx_put hx h1 (hw y hy), hk⟩
  · rintro y z ⟨hc, hne⟩
    have he := com_not_live hc ht
    obtain ⟨x, hx, hk⟩ := hc
    exact ⟨⟨x, tx_put hx h1 he, hk⟩, hne⟩
theorem Inv.written {c : Clk} {l : List (Ver Int)} (h : Inv c l) {t v : Int} {gone : Bool} (ht : c.live t = true) (hb : Cel.blocked c l t = false) : Inv c (Cel.written l t v gone) := by
  obtain ⟨x0, hx0, hl0⟩ := live_tx ht
  have hnew : okBy c t := ⟨x0, hx0, .inl hl0⟩
  rcases List.eq_nil_or_concat l with rfl | ⟨l', y, rfl⟩
  · refine ⟨fun z hz => ?_, ?_⟩
    · have : z.who = t := by simp [Cel.written, Cel.mine] at hz; rw [hz]
      rw [this]; exact hnew
    · simp [Cel.written, Cel.mine]
  · rw [List.concat_eq_append] at h hb ⊢
    have hp := List.pairwise_append.1 h.pair
    unfold Cel.written
    cases hm : Cel.mine (l' ++ [y]) t
    · simp only [Bool.false_eq_true, if_false]
      have hne : y.who ≠ t := by
        have : (y.who == t) = false := by simpa [Cel.mine] using hm
        simpa using this
      have hcy : com c y.who := by
        obtain ⟨xy, hxy, hk⟩ := h.ok y (by simp)
        have hcl : c.clashes t y.who = false := by simpa [Cel.blocked] using hb
        unfold Clk.clashes at hcl
        rw [hx0, hxy] at hcl
        have hcl' : Clk.clashTx x0 xy = false := by simpa [Ne.symm hne] using hcl
        unfold Clk.clashTx at hcl'
        have hlv : xy.live = false := by
          cases hq : xy.live
          · rfl
          · rw [hq] at hcl'; simp at hcl'
        rcases hk with hk | hk
        · rw [hlv] at hk; cases hk
        · exact ⟨xy, hxy, hlv, hk⟩
      refine ⟨fun z hz => ?_, ?_⟩
      · rcases List.mem_append.1 hz with hz | hz
        · exact h.ok z hz
        · have : z.who = t := by simp at hz; rw [hz]
          rw [this]; exact hnew
      · rw [List.pairwise_append]
        refine ⟨h.pair, by simp, fun a ha b hb' => ?_⟩
        have : b.who = t := by simp at hb'; rw [hb']
        rw [this]
        rcases List.mem_append.1 ha with ha | ha
        · have hca := (hp.2.2 a ha y (by simp)).1
          exact ⟨hca, com_not_live hca ht⟩
        · have : a = y := by simpa using ha
          subst this
          exact ⟨hcy, hne⟩
    · simp only [if_true, List.dropLast_concat]
      have he : y.who = t := by
        have : (y.who == t) = true := by simpa [Cel.mine] using hm
        simpa using this
      refine ⟨fun z hz => ?_, ?_⟩
      · rcases List.mem_append.1 hz with hz | hz
        · exact h.ok z (List.mem_append_left _ hz)
        · have : z.who = t := by simp at hz; rw [hz]
          rw [this]; exact hnew
      · rw [List.pairwise_append]
        refine ⟨hp.1, by simp, fun a ha b hb' => ?_⟩
        have : b.who = t := by simp at hb'; rw [hb']
        rw [this, ← he]
        exact hp.2.2 a ha y (by simp)

/-- No two versions are of one writer. -/
theorem Inv.place_who {c : Clk} {l : List (Ver Int)} (h : Inv c l) {i j : Nat} {y z : Ver Int} (hy : l[i]? = some y) (hz : l[j]? = some z) (he : y.who = z.who) : i = j := by
  obtain ⟨hi, rfl⟩ := List.getElem?_eq_some_iff.1 hy
  obtain ⟨hj, rfl⟩ := List.getElem?_eq_some_iff.1 hz
  have hp := List.pairwise_iff_getElem.1 h.pair
  rcases Nat.lt_trichotomy i j with hlt | heq | hgt
  · exact absurd he (hp i j hi hj hlt).2
  · exact heq
  · exact absurd he.symm (hp j i hj hi hgt).2

/-- Is the i-th spare? As the reference tells it. -/
def rspare (c : Clk) (l : List (Ver Int)) (i : Nat) (y : Ver Int) : Bool := (i == 0 && (y.gone && c.settled y.who)) || (l.drop (i + 1)).any fun z => c.settled z.who
theorem Inv.spare_eq {c : Clk} {l : List (Ver Int)} (h : Inv c l) {i : Nat} {y : Ver Int} (hy : l[i]? = some y) : Cel.isSpare c l y = rspare c l i y := by
  have hi := (List.getElem?_eq_some_iff.1 hy).1
  have hf : l.findIdx (fun z => z.who == y.who) = i := by
    have hlt : l.findIdx (fun z => z.who == y.who) < l.length := List.findIdx_lt_length.2 ⟨y, List.mem_of_getElem? hy, by simp⟩
    have hp : ((l[l.findIdx fun z : Ver Int => z.who == y.who]'hlt).who == y.who) = true := List.findIdx_getElem (p := fun z : Ver Int => z.who == y.who) (w := hlt)
    exact h.place_who (List.getElem?_eq_getElem hlt) hy (by simpa using hp)
  unfold Cel.isSpare rspare
  simp only [hf]
  rw [Bool.or_comm]
theorem Inv.undo_eq {c : Clk} {l : List (Ver Int)} (h : Inv c l) {i : Nat} {y : Ver Int} {t : Int} (hy : l[i]? = some y) (ht : y.who = t) : l.eraseIdx i = Cel.undone l t := by
  have hi := (List.getElem?_eq_some_iff.1 hy).1
  have he := (List.getElem?_eq_some_iff.1 hy).2
  have hl : l = l.take i ++ y :: l.drop (i + 1) := by rw [← he, ← List.drop_eq_getElem_cons hi, List.take_append_drop]
  have h1 : ∀ z ∈ l.take i, (!(z.who == t)) = true := fun z hz => by
    obtain ⟨j, hj⟩ := List.getElem?_of_mem hz
    have hji : j < i := by have := (List.getElem?_eq_some_iff.1 hj).1; simp at this; omega
    rw [List.getElem?_take_of_lt hji] at hj
    have : z.who ≠ t := fun e => by have := h.place_who hj hy (by rw [e, ht]); omega
    simpa using this
  have h2 : ∀ z ∈ l.drop (i + 1), (!(z.who == t)) = true := fun z hz => by
    obtain ⟨j, hj⟩ := List.getElem?_of_mem hz
    rw [List.getElem?_drop] at hj
    have : z.who ≠ t := fun e => by have := h.place_who hj hy (by rw [e, ht]); omega
    simpa using this
  have hq : Cel.undone (l.take i ++ y :: l.drop (i + 1)) t = l.take i ++ l.drop (i + 1) := by
    unfold Cel.undone
    rw [List.filter_append, List.filter_cons, List.filter_eq_self.2 h1, List.filter_eq_self.2 h2]
    simp [ht]
  rw [← hl] at hq
  rw [hq, List.eraseIdx_eq_take_drop_succ]
theorem undone_self {l : List (Ver Int)} {t : Int} (h : ∀ (j : Nat) (z : Ver Int), l[j]? = some z → (z.who == t) = false) : Cel.undone l t = l := by
  unfold Cel.undone
  rw [List.filter_eq_self]
  intro z hz
  obtain ⟨j, hj⟩ := List.getElem?_of_mem hz
  simp [h j z hj]

/-- What a sweep leaves. -/
theorem swept_sub (c : Clk) (l : List (Ver Int)) : (Cel.swept c l).Sublist l := by
  unfold Cel.swept
  split
  · exact List.eraseIdx_sublist _ _
  · exact List.Sublist.refl _
theorem swept_erase {c : Clk} {l : List (Ver Int)} {i : Nat} (h : place (Cel.isSpare c l) l = (i : Int)) : i < l.length ∧ Cel.swept c l = l.eraseIdx i := by
  obtain ⟨h1, h2⟩ := swept_of h
  exact ⟨h1, by rw [h2, List.eraseIdx_eq_take_drop_succ]⟩
theorem swept_none {c : Clk} {l : List (Ver Int)} (h : place (Cel.isSpare c l) l = -1) : Cel.swept c l = l := by
  unfold place at h
  unfold Cel.swept Cel.spareAt
  split at h
  · omega
  · rename_i he; rw [he]

/-! ### What an act makes of both -/
abbrev St := Clk × List (Ver Int)
def act7 (s : St) (k t v : Int) (g : Bool) : St :=
  if k = 1 then (if 4 ≤ s.1.count then s.1 else s.1.began, s.2)
  else if k = 2 then (if s.1.live t then s.1.committed t else s.1, s.2)
  else if k = 3 then (if s.1.live t then (s.1.dropped t, Cel.undone s.2 t) else s)
  else if k = 4 then (s.1, if s.1.live t then (if Cel.blocked s.1 s.2 t then s.2 else Cel.written s.2 t v g) else s.2)
  else (s.1, Cel.swept s.1 s.2)
structure Fine (s : St) : Prop where
  good : s.1.Good
  inv : Inv s.1 s.2
theorem written_len (l : List (Ver Int)) (t v : Int) (g : Bool) : (Cel.written l t v g).length ≤ l.length + 1 := by
  unfold Cel.written
  split <;> simp
theorem Fine.act {s : St} (h : Fine s) (k t v : Int) (g : Bool) : Fine (act7 s k t v g) := by
  unfold act7
  split
  · refine ⟨?_, ?_⟩
    · show Clk.Good (if _ then _ else _)
      split; exact h.good; exact h.good.began
    · show Inv (if _ then _ else _) _
      split; exact h.inv; exact h.inv.began
  · split
    · refine ⟨?_, ?_⟩
      · show Clk.Good (if _ then _ else _)
        split; exact h.good.committed t; exact h.good
      · show Inv (if _ then _ else _) _
        split
        · rename_i hl; exact h.inv.committed hl
        · exact h.inv
    · split
      · split
        · rename_i hl; exact ⟨h.good.dropped t, h.inv.dropped hl⟩
        · exact h
      · split
        · refine ⟨h.good, ?_⟩
          show Inv _ (if _ then _ else _)
          split
          · rename_i hl
            split
            · exact h.inv
            · rename_i hb; exact h.inv.written hl (by simpa using hb)
          · exact h.inv
        · exact ⟨h.good, h.inv.sub (swept_sub _ _)⟩
theorem act7_len (s : St) (k t v : Int) (g : Bool) : (act7 s k t v g).1.l.length ≤ s.1.l.length + 1 ∧ (act7 s k t v g).1.n ≤ s.1.n + 1 ∧ (act7 s k t v g).2.length ≤ s.2.length + 1 := by
  unfold act7
  split
  · refine ⟨?_, ?_, by simp⟩
    · show (if _ then _ else _ : Clk).l.length ≤ _
      split; omega; rw [Clk.length_began]; omega
    · show (if _ then _ else _ : Clk).n ≤ _
      split; omega; simp [Clk.began]
  · split
    · refine ⟨?_, ?_, by simp⟩
      · show (if _ then _ else _ : Clk).l.length ≤ _
        split; rw [Clk.length_committed]; omega; omega
      · show (if _ then _ else _ : Clk).n ≤ _
        split; exact Clk.n_committed _ _; omega
    · split
      · split
        · refine ⟨?_, ?_, ?_⟩
          · show (Clk.dropped _ _).l.length ≤ _
            rw [Clk.length_dropped]; omega
          · show (Clk.dropped _ _).n ≤ _
            rw [Clk.n_dropped]; omega
          · exact Nat.le_trans (List.length_filter_le _ _) (Nat.le_succ _)
        · exact ⟨by omega, by omega, by omega⟩
      · split
        · refine ⟨by simp, by simp, ?_⟩
          show (if _ then _ else _ : List (Ver Int)).length ≤ _
          split
          · split
            · omega
            · exact written_len _ _ _ _
          · omega
        · exact ⟨by simp, by simp, Nat.le_trans (swept_sub _ _).length_le (Nat.le_succ _)⟩

/-! ### A sweep and whoever is live -/
theorem settled_tx {c : Clk} {b : Int} (h : c.settled b = true) : ∃ y, c.tx? b = some y ∧ 0 < y.as ∧ ∀ x ∈ c.l, x.live = true → y.as ≤ x.mark := by
  unfold Clk.settled at h
  cases hx : c.tx? b with
  | none => rw [hx] at h; simp at h
  | some y =>
    rw [hx] at h
    simp only [Bool.and_eq_true, decide_eq_true_eq, Bool.not_eq_true', List.any_eq_false] at h
    refine ⟨y, rfl, h.1, fun x hx hl => ?_⟩
    have := h.2 x hx
    unfold Clk.blocks at this
    rw [hl] at this
    simp at this
    omega
theorem settled_sees {c : Clk} {b t : Int} (h : c.settled b = true) (ht : c.live t = true) : c.sees t b = true := by
  obtain ⟨y, hy, h0, hall⟩ := settled_tx h
  obtain ⟨x, hx, hl⟩ := live_tx ht
  have := hall x (Clk.tx?_mem hx) hl
  unfold Clk.sees
  rw [hx, hy]
  simp [Clk.seesTx, h0, this]
theorem settled_free {c : Clk} (hg : c.Good) {b t : Int} (h : c.settled b = true) (ht : c.live t = true) : c.clashes t b = false := by
  obtain ⟨y, hy, h0, hall⟩ := settled_tx h
  obtain ⟨x, hx, hl⟩ := live_tx ht
  have h1 := hall x (Clk.tx?_mem hx) hl
  have h2 : y.live = false := by
    cases hq : y.live
    · rfl
    · have := hg.bare y (Clk.tx?_mem hy) hq; omega
  unfold Clk.clashes
  rw [hx, hy]
  have : ¬ x.mark < y.as := by omega
  simp [Clk.clashTx, h2, this]

theorem lastBy_behind {p : Int → Bool} {a b : List (Ver Int)} (h : (b.any fun z => p z.who) = true) : Cel.lastBy p (a ++ b) = Cel.lastBy p b := by
  have : (b.reverse.find? fun y => p y.who).isSome = true := by
    rw [List.find?_isSome]
    obtain ⟨z, hz, hp⟩ := List.any_eq_true.1 h
    exact ⟨z, by simpa using hz, hp⟩
  obtain ⟨z, hz⟩ := Option.isSome_iff_exists.1 this
  unfold Cel.lastBy
  rw [List.reverse_append, List.find?_append, hz]
  rfl
theorem lastBy_gone {p : Int → Bool} {y : Ver Int} {b : List (Ver Int)} (hy : y.gone = true) : Cel.lastBy p (y :: b) = Cel.lastBy p b := by
  unfold Cel.lastBy
  rw [List.reverse_cons, List.find?_append]
  cases hb : b.reverse.find? fun y => p y.who with
  | some z => rfl
  | none =>
    cases hp : p y.who <;> simp [hp, hy]

/-- A sweep takes a version away that no live one reads, and on which no live one's write hangs. -/
theorem Inv.sweep_keeps {c : Clk} {l : List (Ver Int)} (h : Inv c l) (hg : c.Good) {i : Nat} (hi : place (Cel.isSpare c l) l = (i : Int)) {t : Int} (ht : c.live t = true) :
    Cel.lastBy (c.sees t) (Cel.swept c l) = Cel.lastBy (c.sees t) l ∧ Cel.blocked c (Cel.swept c l) t = Cel.blocked c l t := by
  obtain ⟨hlt, hsw⟩ := swept_of hi
  obtain ⟨y, hy⟩ : ∃ y, l[i]? = some y := ⟨_, List.getElem?_eq_getElem hlt⟩
  have hspare : Cel.isSpare c l y = true := by
    unfold place at hi
    split at hi
    · rename_i j hj
      obtain ⟨hj1, hp, _⟩ := List.findIdx?_eq_some_iff_getElem.1 hj
      have : j = i := by omega
      subst this
      rw [List.getElem?_eq_getElem hj1] at hy
      cases hy
      exact hp
    · omega
  rw [h.spare_eq hy] at hspare
  have he := (List.getElem?_eq_some_iff.1 hy).2
  have hl : l = l.take i ++ (y :: l.drop (i + 1)) := by rw [← he, ← List.drop_eq_getElem_cons hlt, List.take_append_drop]
  rw [hsw]
  unfold rspare at hspare
  generalize hb : l.drop (i + 1) = b at *
  generalize ha : l.take i = a at *
  cases hany : b.any fun z => c.settled z.who
  · rw [hany] at hspare
    simp only [Bool.or_false, Bool.and_eq_true, beq_iff_eq] at hspare
    obtain ⟨rfl, hgn, hst⟩ := hspare
    obtain rfl : a = [] := by rw [← ha]; rfl
    simp only [List.nil_append] at hl ⊢
    subst hl
    refine ⟨(lastBy_gone hgn).symm, ?_⟩
    cases b with
    | nil => simp [Cel.blocked, settled_free hg hst ht]
    | cons z b => simp [Cel.blocked, List.getLast?_cons_cons]
  · obtain ⟨z, hz, hs⟩ := List.any_eq_true.1 hany
    have hp : (b.any fun z => c.sees t z.who) = true := List.any_eq_true.2 ⟨z, hz, settled_sees hs ht⟩
    refine ⟨?_, ?_⟩
    · rw [lastBy_behind hp]
      conv => rhs; rw [hl, show a ++ y :: b = (a ++ [y]) ++ b by simp, lastBy_behind hp]
    · conv => rhs; rw [hl]
      have hbn : b ≠ [] := by rintro rfl; simp at hz
      unfold Cel.blocked
      rw [List.getLast?_append, show a ++ y :: b = (a ++ [y]) ++ b by simp, List.getLast?_append]
      obtain ⟨b', u, rfl⟩ : ∃ b' u, b = b' ++ [u] := by
        rcases List.eq_nil_or_concat b with rfl | ⟨b', u, rfl⟩
        · exact absurd rfl hbn
        · exact ⟨b', u, by simp⟩
      simp

/-- With nobody live, what has no spare version has at most one. -/
theorem Inv.left_one {c : Clk} {l : List (Ver Int)} (h : Inv c l) (hc : c.count = 0) (hs : place (Cel.isSpare c l) l = -1) : l.length ≤ 1 := by
  match l, h, hs with
  | [], _, _ => simp
  | [_], _, _ => simp
  | y :: z :: r, h, hs =>
    exfalso
    have hno : ∀ x ∈ c.l, x.live = false := by
      unfold Clk.count at hc
      intro x hx
      have := List.filter_eq_nil_iff.1 (List.eq_nil_of_length_eq_zero hc) x hx
      simpa using this
    have hz : c.settled z.who = true := by
      obtain ⟨x, hx, hk⟩ := h.ok z (by simp)
      have hl := hno x (Clk.tx?_mem hx)
      rcases hk with hk | hk
      · rw [hl] at hk; cases hk
      · unfold Clk.settled
        rw [hx]
        have : (c.l.any (Clk.blocks x)) = false := by
          rw [List.any_eq_false]
          intro u hu
          simp [Clk.blocks, hno u hu]
        simp [hk, this]
    have hsp : Cel.isSpare c (y :: z :: r) y = true := by
      rw [h.spare_eq (i := 0) rfl]
      simp [rspare, hz]
    have := place_hit (p := Cel.isSpare c (y :: z :: r)) (l := y :: z :: r) (k := 0) rfl hsp (fun j _ hj => by omega)
    rw [this] at hs
    omega
end Go.Proofs.Ytdgojfjaooindaa
