/-
  slices.Delete over versions; Sweep.
-/
import Derived.Laws.IdiomCopy
import Derived.Deep.RegionLaw
import Derived.Test.YtdgojfjaooindaaCelH
namespace Go.Proofs.Ytdgojfjaooindaa
open Go.RowKit Go.Proofs.Lig

theorem heap_setCell_same (w : World) (g o : Nat) (v : Value) (cur : Array Value) (t : TypeId) (fr : Nat × Nat) (h : w.heap[g]? = some (.cells cur t fr)) :
    (w.setCell ⟨g, o, none⟩ v).heap[g]? = some (.cells (cur.setIfInBounds o v) t fr) := by
  simp [World.setCell, Array.getElem?_modify, h]
theorem heap_setCells (g : Nat) (t : TypeId) (fr : Nat × Nat) : ∀ (vs : List Value) (o : Nat) (w : World) (cur : Array Value), w.heap[g]? = some (.cells cur t fr) →
    ∃ cur' : Array Value, (w.setCells g o vs).heap[g]? = some (.cells cur' t fr) ∧ cur'.size = cur.size ∧ (∀ k, (k < o ∨ o + vs.length ≤ k) → cur'[k]? = cur[k]?) ∧ (∀ k, k < vs.length → o + k < cur.size → cur'[o + k]? = vs[k]?)
  | [], o, w, cur, h => ⟨cur, h, rfl, fun _ _ => rfl, fun k hk => by simp at hk⟩
  | v :: r, o, w, cur, h => by
    obtain ⟨c', h1, h2, h3, h4⟩ := heap_setCells g t fr r (o + 1) (w.setCell ⟨g, o, none⟩ v) _ (heap_setCell_same w g o v cur t fr h)
    refine ⟨c', h1, by simpa using h2, fun k hk => ?_, fun k hk hs => ?_⟩
    · rw [h3 k (by simp at hk; omega), Array.getElem?_setIfInBounds, if_neg (by simp at hk; omega)]
    · cases k with
      | zero => rw [h3 (o + 0) (by omega), Array.getElem?_setIfInBounds]; simp; omega
      | succ k =>
        rw [show o + (k + 1) = o + 1 + k by omega, h4 k (by simpa using hk) (by simp; omega)]
        simp
theorem Fr.setCells {S : List Nat} {w0 : World} {g : Nat} (hg : g ∈ S ∨ w0.heap.size ≤ g) : ∀ (vs : List Value) (o : Nat) {w : World}, Fr S w0 w → Fr S w0 (w.setCells g o vs)
  | [], _, _, h => h
  | v :: r, o, _, h => Fr.setCells hg r (o + 1) (h.setCell (p := ⟨g, o, none⟩) hg v)

/-- 'clear(s)', s a slice of n > 0 elements: whatever the elements' cells. -/
theorem run_clear_many {P : Program} (w : World) (t e ty : TypeId) (z : Value) (ht : P.underlying t = some (.slice e)) (hv : ∀ w, (zeroValue e).run P w = .ok z w) (b o n c : Nat) (hn : 0 < n) (zs : List Value) (hz : (Builtin.zeroCells z.cells n).toList = zs) (h1 : ∀ u ∈ zs, u.oneCell' = true)
    (hc : ∀ j, j < zs.length → (w.cell? ⟨b, o + j, none⟩).isSome = true) (hf : ∀ j, j < zs.length → w.frozen? ⟨b, o + j, none⟩ = false) :
    (Builtin.clear_ #[t] ty #[.slice (some ⟨b, o, none⟩) n c]).run P w = .ok (.tuple #[]) (w.setCells b o zs) := by
  have hst := run_storeCells_cells (P := P) b o zs 0 w (by simpa using hc) (by simpa using hf) h1
  simp only [Nat.add_zero] at hst
  obtain ⟨m, rfl⟩ : ∃ m, n = m + 1 := ⟨n - 1, by omega⟩
  simp [Builtin.clear_, run_underlying ht, hv, hz, hst]

theorem zs_ver (n : Nat) : ((Builtin.zeroCells (Value.agg #[.int .i64 0, .int .i64 0, .bool false]).cells n).toList.length = n * 3) ∧ ∀ u ∈ (Builtin.zeroCells (Value.agg #[.int .i64 0, .int .i64 0, .bool false]).cells n).toList, u.oneCell' = true := by
  have hz : (Value.agg #[.int .i64 0, .int .i64 0, .bool false]).cells = #[.int .i64 0, .int .i64 0, .bool false] := by rfl
  rw [hz]
  refine ⟨by simp [Builtin.zeroCells], fun u hu => ?_⟩
  simp [Builtin.zeroCells] at hu
  obtain ⟨a, ha, rfl⟩ := hu
  have : a % 3 = 0 ∨ a % 3 = 1 ∨ a % 3 = 2 := by omega
  rcases this with h | h | h <;> rw [h] <;> rfl
theorem encVers_one (l : List (Ver Int)) : ∀ u ∈ encVers l, u.oneCell' = true := by
  intro u hu
  simp only [encVers, List.mem_flatMap] at hu
  obtain ⟨y, _, hy⟩ := hu
  simp [encVer] at hy
  rcases hy with rfl | rfl | rfl <;> rfl
theorem encVers_drop (l : List (Ver Int)) (j : Nat) : encVers (l.drop j) = (encVers l).drop (j * 3) := by
  induction l generalizing j with
  | nil => simp [encVers]
  | cons x l ih =>
    cases j with
    | zero => simp
    | succ j =>
      rw [List.drop_succ_cons, ih, encVers_cons, show (j + 1) * 3 = (encVer x).length + j * 3 by simp [encVer]; omega, List.drop_length_add_append]
theorem encVers_take (l : List (Ver Int)) (j : Nat) : encVers (l.take j) = (encVers l).take (j * 3) := by
  induction l generalizing j with
  | nil => simp [encVers]
  | cons x l ih =>
    cases j with
    | zero => simp [encVers]
    | succ j =>
      rw [List.take_succ_cons, encVers_cons, ih, encVers_cons, show (j + 1) * 3 = (encVer x).length + j * 3 by simp [encVer]; omega, List.take_length_add_append]
set_option maxRecDepth 100000 in
set_option maxHeartbeats 2000000 in
theorem delete_S (w : World) (g n i j cap : Nat) (l : List (Ver Int)) (cur : Array Value) (hg : w.heap[g]? = some (.cells cur 95 (0, 0))) (hn : n = l.length) (hcap : n ≤ cap) (hsz : cur.size = cap * 3) (htk : cur.toList.take (n * 3) = encVers l) (hij : i < j) (hj : j ≤ n) :
    Calls Try.prog 69 #[.slice (some ⟨g, 0, none⟩) n cap, .int .i64 (i : Int), .int .i64 (j : Int)] w fun e w' => e = .returned (.slice (some ⟨g, 0, none⟩) (i + (n - j)) cap) ∧
      (∃ cur' : Array Value, w'.heap[g]? = some (.cells cur' 95 (0, 0)) ∧ cur'.size = cur.size ∧ cur'.toList.take ((i + (n - j)) * 3) = encVers (l.take i ++ l.drop j)) ∧ Fr [g] w w' := by
  obtain ⟨i0, hi0, hz0, hz1, hz2⟩ := info_parts info_ver
  have hcell : ∀ k, w.cell? ⟨g, k, none⟩ = cur[k]? := fun k => by simp [World.cell?, hg]
  have hfroz : ∀ k, w.frozen? ⟨g, k, none⟩ = false := fun k => by simp [World.frozen?, hg]
  have hcurE : ∀ k, k < n * 3 → cur[k]? = (encVers l)[k]? := fun k hk => by rw [← htk, List.getElem?_take_of_lt hk, Array.getElem?_toList]
  obtain ⟨news, hnews⟩ : ∃ news, news = encVers (l.drop j) := ⟨_, rfl⟩
  have hlen : news.length = (n - j) * 3 := by rw [hnews, encVers_len, List.length_drop, hn]
  obtain ⟨A, hA, hsrc⟩ : ∃ A : Addr, (if cap = j then some (⟨g, 0, none⟩ : Addr) else some ⟨g, j * 3, none⟩) = some A ∧ Hid (∀ t u, news[t]? = some u → w.drew.cell? (A.add t) = some u) := by
    by_cases h : cap = j
    · refine ⟨⟨g, 0, none⟩, by simp [h], fun t u hu => ?_⟩
      have h0 : news.length = 0 := by rw [hlen]; omega
      rw [List.length_eq_zero_iff.1 h0] at hu
      simp at hu
    · refine ⟨⟨g, j * 3, none⟩, by simp [h], fun t u hu => ?_⟩
      have ht : t < (n - j) * 3 := by
        have := (List.getElem?_eq_some_iff.1 hu).1
        rwa [hlen] at this
      rw [hnews, encVers_drop, List.getElem?_drop] at hu
      rw [Addr.add_lit]
      show w.cell? _ = _
      rw [hcell, hcurE _ (by omega), ← hu]
  have s1 : Hid (news.length = (n - j) * 3) := hlen
  have s2 : Hid (∀ u ∈ news, u.oneCell' = true) := by show ∀ u ∈ news, _; rw [hnews]; exact encVers_one _
  have s3 : Hid (∀ t, t < news.length → (w.drew.cell? ⟨g, 0 + i * 3 + t, none⟩).isSome = true ∧ w.drew.frozen? ⟨g, 0 + i * 3 + t, none⟩ = false) := by
    intro t ht
    rw [hlen] at ht
    refine ⟨?_, hfroz _⟩
    show (w.cell? _).isSome = true
    rw [hcell, Array.getElem?_eq_getElem (by omega)]
    rfl
  obtain ⟨W1, hW1⟩ : ∃ W1, W1 = w.drew.setCells g (0 + i * 3) news := ⟨_, rfl⟩
  obtain ⟨c1, hc1, hs1, ho1, hi1⟩ := heap_setCells g _ _ news (0 + i * 3) w.drew cur hg
  rw [← hW1] at hc1
  obtain ⟨zs, hzs⟩ : ∃ zs, (Builtin.zeroCells (Value.agg #[.int .i64 0, .int .i64 0, .bool false]).cells (n - (i + (n - j)))).toList = zs := ⟨_, rfl⟩
  have hz := zs_ver (n - (i + (n - j)))
  rw [hzs] at hz
  have hcl : ∀ ty, (Builtin.clear_ #[91] ty #[.slice (some ⟨g, 0 + (i + (n - j)) * 3, none⟩) (n - (i + (n - j))) (cap - (i + (n - j)))]).run Try.prog W1 = .ok (.tuple #[]) (W1.setCells g (0 + (i + (n - j)) * 3) zs) := fun ty =>
    run_clear_many W1 _ 95 ty _ Try.underlying91 Try.zeroValue95 g _ _ _ (by omega) zs hzs hz.2
      (fun k hk => by rw [hz.1] at hk; simp only [World.cell?, hc1]; rw [Array.getElem?_eq_getElem (by omega)]; rfl) (fun k hk => by simp [World.frozen?, hc1])
  have HEND : Hid ((∃ cur' : Array Value, (W1.setCells g (0 + (i + (n - j)) * 3) zs).heap[g]? = some (.cells cur' 95 (0, 0)) ∧ cur'.size = cur.size ∧ cur'.toList.take ((i + (n - j)) * 3) = encVers (l.take i ++ l.drop j)) ∧ Fr [g] w (W1.setCells g (0 + (i + (n - j)) * 3) zs)) := by
    obtain ⟨c2, hc2, hs2, ho2, _⟩ := heap_setCells g _ _ zs (0 + (i + (n - j)) * 3) W1 c1 hc1
    refine ⟨⟨c2, hc2, by omega, ?_⟩, ?_⟩
    · apply List.ext_getElem?
      intro k
      rw [encVers_append, ← hnews]
      have ht : (encVers (l.take i)).length = i * 3 := by rw [encVers_len, List.length_take]; omega
      by_cases hk : k < (i + (n - j)) * 3
      · rw [List.getElem?_take_of_lt hk, Array.getElem?_toList, ho2 k (by omega)]
        by_cases hki : k < i * 3
        · rw [ho1 k (by omega), hcurE k (by omega), List.getElem?_append_left (by omega), encVers_take, List.getElem?_take_of_lt hki]
        · obtain ⟨m, rfl⟩ : ∃ m, k = 0 + i * 3 + m := ⟨k - i * 3, by omega⟩
          rw [hi1 m (by omega) (by omega), List.getElem?_append_right (by omega)]
          congr 1
          omega
      · rw [List.getElem?_eq_none (by rw [List.length_take]; omega), List.getElem?_eq_none (by rw [List.length_append]; omega)]
    · refine Fr.setCells (.inl (by simp)) _ _ ?_
      rw [hW1]
      exact Fr.setCells (.inl (by simp)) _ _ (Fr.refl _ _).drew
  have hW : Hid (W1 = w.drew.setCells g (0 + i * 3) news) := hW1
  have hic : i ≤ cap := by omega
  have hjc : j ≤ cap := by omega
  simp only [Nat.zero_add] at hcl HEND
  clear hn hW1 hc1 hs1 ho1 hi1 hcell hfroz hcurE hnews hlen htk hg hsz hz hzs
  go_enter Try.func69, Try.ntmps69
  go_wp2_with fail
  go_region_law (first | (refine step_append_room rfl (.tmp 22) (.tmp 25) 91 rfl 95 i0 3 Try.underlying91 hi0 hz1 g 0 i cap (by simp [Act.eval, Act.put]) A (n - j) (cap - j) news (by simp [Act.eval, Act.put]) s1.out hsrc.out s2.out (by omega) s3.out ?_; rw [← hW.out]))
  go_wp2
  go_ret
  exact ⟨rfl, HEND.out⟩

theorem swept_of {c : Clk} {l : List (Ver Int)} {i : Nat} (h : place (Cel.isSpare c l) l = (i : Int)) : i < l.length ∧ Cel.swept c l = l.take i ++ l.drop (i + 1) := by
  unfold place at h
  unfold Cel.swept Cel.spareAt
  cases hf : l.findIdx? (Cel.isSpare c l) with
  | none => rw [hf] at h; simp at h
  | some k =>
    rw [hf] at h
    have : k = i := by dsimp only at h; omega
    subst this
    exact ⟨(List.findIdx?_eq_some_iff_getElem.1 hf).1, by simp [List.eraseIdx_eq_take_drop_succ]⟩

theorem sweep_not_S (w : World) (X : Nat) (A : Option Addr) (cap : Nat) (l : List (Ver Int)) (B : Nat) (S : List Nat) (c : Clk) (h : CelA w X A cap l) (hc : ClkS w B S c) (hg : c.Good) (hv : place (Cel.isSpare c l) l = -1) :
    Calls Try.prog 48 #[.pointer (some ⟨X, 0, none⟩), .pointer (some ⟨B, 0, none⟩)] w fun e w' => e = .returned (.bool false) ∧ Below w.heap.size w w' := by
  have HH := hid (spare_S w X A cap l B S c h hc hg _ hv)
  clear h hc hg hv
  go_enter Try.func48, Try.ntmps48
  go_wp2_with (go_at_call 68; refine HH.out.mono ?_; rintro e w' ⟨rfl, hb1⟩)
  go_ret
  exact ⟨rfl, hb1⟩

set_option maxHeartbeats 1000000 in
theorem sweep_S (w : World) (X : Nat) (S0 : List Nat) (l : List (Ver Int)) (B : Nat) (S : List Nat) (c : Clk) (i : Nat) (h : CelS w X S0 l) (hc : ClkS w B S c) (hg : c.Good) (hv : place (Cel.isSpare c l) l = (i : Int)) :
    Calls Try.prog 48 #[.pointer (some ⟨X, 0, none⟩), .pointer (some ⟨B, 0, none⟩)] w fun e w' => e = .returned (.bool true) ∧ CelS w' X S0 (Cel.swept c l) ∧ Fr S0 w w' := by
  obtain ⟨A, cap, h, rfl⟩ := h
  obtain ⟨hi, hsw⟩ := swept_of hv
  obtain ⟨g, rfl, hgl⟩ := h.form (by omega)
  obtain ⟨hcl, hcm⟩ := h.capl
  have hlen := h.len
  have hX := h.blk.lt
  have hne := own_ne h.own h.blk (by decide)
  have hne' : X ≠ g := fun e => hne (by simp [Value.ownBlock, e])
  have HH := hid (spare_S w X (some ⟨g, 0, none⟩) cap l B S c h hc hg _ hv)
  have HK : Hid (∀ W, Below w.heap.size w W → Calls Try.prog 69 #[.slice (some ⟨g, 0, none⟩) l.length cap, .int .i64 (i : Int), .int .i64 ((i : Int) + 1)] W fun e w' => e = .returned (.slice (some ⟨g, 0, none⟩) (Cel.swept c l).length cap) ∧ Blk w' X 93 [.slice (some ⟨g, 0, none⟩) l.length cap] ∧ w'.ownsRow 0 95 3 (.slice (some ⟨g, 0, none⟩) (Cel.swept c l).length cap) (Cel.swept c l).length (encVers (Cel.swept c l)) ∧ Fr [g] w w') := by
    intro W hb
    have hA := h.below hb
    rcases hA.own.2 with ⟨h0, _⟩ | ⟨g', cap', cur, hvv, _, hh, _, _, h4, h5⟩
    · cases h0
    · cases hvv
      refine (delete_S W g l.length i (i + 1) cap l cur hh rfl hcl h4 h5 (by omega) (by omega)).mono ?_
      rintro e w' ⟨rfl, ⟨cur', k1, k2, k3⟩, hf⟩
      have hlen : i + (l.length - (i + 1)) = (Cel.swept c l).length := by rw [hsw]; simp; omega
      rw [hlen] at k3
      rw [hlen]
      refine ⟨rfl, hA.blk.fr hf (by simpa using hne'), ⟨by rw [encVers_len], .inr ⟨g, cap, cur', rfl, Nat.zero_le _, k1, by rw [← hlen]; omega, hcm, by omega, by rw [k3, hsw]⟩⟩, (Fr.of_below hb (Nat.le_refl _)).trans_same hf⟩
  have hx := h.blk.cell 0
  simp only [List.getElem?_cons_zero] at hx
  have hwr : IntKind.i64.wrap ((i : Int) + 1) = (i : Int) + 1 := by rw [IntKind.wrap_i64]; omega
  clear hc hg hv hsw hne hcm h
  generalize Cel.swept c l = l' at HK ⊢
  go_enter Try.func48, Try.ntmps48
  go_wp2_with fail
  refine HH.out.mono ?_
  rintro e w1 ⟨rfl, hb1⟩
  have hx1 := (hb1.cell (p := ⟨X, 0, none⟩) hX).trans hx
  have hn0 : ¬ ((i : Int) < 0) := by omega
  go_wp2_with fail
  refine (HK.out w1 hb1).mono ?_
  rintro e w2 ⟨rfl, hX2, ho2, hf2⟩
  have e0 := hX2.cell 0
  have e1 := hX2.frozen 0
  simp only [List.getElem?_cons_zero] at e0
  have HX2 := hid hX2
  have HO := hid ho2
  clear hX2 ho2
  go_wp2
  go_ret
  have hs := HX2.out.set_ 0 (.slice (some ⟨g, 0, none⟩) l'.length cap)
  simp only [List.set_cons_zero] at hs
  exact ⟨rfl, ⟨_, cap, ⟨hs, own_far HO.out (by simpa [Value.ownBlock] using hne'.symm) _⟩, rfl⟩, (hf2.mono (S' := [X, g]) (fun k hk => .inl (by simp at hk ⊢; exact .inr hk))).setCell (.inl (by simp)) _⟩
end Go.Proofs.Ytdgojfjaooindaa
