/-
  slices.DeleteFunc over versions; Undo.
-/
import Derived.Test.YtdgojfjaooindaaCelJ
namespace Go.Proofs.Ytdgojfjaooindaa
open Go.RowKit Go.Proofs.Lig

theorem undone_none {l : List (Ver Int)} {t : Int} (h : place (fun y => y.who == t) l = -1) : Cel.undone l t = l := by
  unfold Cel.undone
  rw [List.filter_eq_self]
  intro y hy
  cases hp : (y.who == t)
  · rfl
  · have := (place_mem (p := fun y : Ver Int => y.who == t) hy hp).1
    omega
/-- What is kept of the first k. -/
abbrev kept (l : List (Ver Int)) (t : Int) (k : Nat) : List (Ver Int) := (l.take k).filter fun y => !(y.who == t)
theorem kept_succ {l : List (Ver Int)} {t : Int} {k : Nat} {y : Ver Int} (hy : l[k]? = some y) : kept l t (k + 1) = if y.who == t then kept l t k else kept l t k ++ [y] := by
  unfold kept
  rw [List.take_add_one, hy, List.filter_append]
  cases hp : (y.who == t) <;> simp [hp]
theorem kept_len (l : List (Ver Int)) (t : Int) (k : Nat) : (kept l t k).length ≤ k := Nat.le_trans (List.length_filter_le _ _) (List.length_take_le _ _)
theorem kept_first {l : List (Ver Int)} {t : Int} {i : Nat} (h : place (fun y => y.who == t) l = (i : Int)) : i < l.length ∧ kept l t (i + 1) = l.take i ∧ (l.take i).length = i := by
  unfold place at h
  cases hf : l.findIdx? (fun y => y.who == t) with
  | none => rw [hf] at h; simp at h
  | some k =>
    rw [hf] at h
    have : k = i := by dsimp only at h; omega
    subst this
    obtain ⟨hk, hp, hb⟩ := List.findIdx?_eq_some_iff_getElem.1 hf
    refine ⟨hk, ?_, by simp; omega⟩
    rw [kept_succ (List.getElem?_eq_getElem hk), if_pos hp]
    unfold kept
    rw [List.filter_eq_self]
    intro y hy
    obtain ⟨j, hj, rfl⟩ := List.getElem_of_mem hy
    have hjk : j < k := by simp at hj; omega
    have := hb j hjk
    simp only [List.getElem_take]
    simpa using this

theorem delfunc_none (w : World) (A : Option Addr) (cap : Nat) (l : List (Ver Int)) (T : Nat) (t : Int) (hl : (l.length : Int) ≤ 9223372036854775807) (h : VersO w.heap.size w A l) (hT : w.cell? ⟨T, 0, none⟩ = some (.int .i64 t)) (hTl : T < w.heap.size) (hv : place (fun y => y.who == t) l = -1) :
    Calls Try.prog 70 #[.slice A l.length cap, .func (.func 71) #[] #[.pointer (some ⟨T, 0, none⟩)]] w fun e w' => e = .returned (.slice A l.length cap) ∧ Below w.heap.size w w' := by
  have HI := hid (index_undo w A cap l #[.pointer (some ⟨T, 0, none⟩)] (fun y => y.who == t) hl h (fun W y _ hb => by
    rw [app1]
    exact undo1_S W T t y ((hb.cell (p := ⟨T, 0, none⟩) hTl).trans hT) (by have := hb.size; omega)) _ hv)
  clear h hv hT
  go_enter Try.func70, Try.ntmps70
  go_wp2_with (go_at_call 79; refine HI.out.mono ?_; rintro e w' ⟨rfl, hb1⟩)
  go_ret
  exact ⟨rfl, hb1⟩

set_option maxRecDepth 100000 in
set_option maxHeartbeats 2000000 in
theorem delfunc_S (w : World) (g n i cap : Nat) (l : List (Ver Int)) (cur : Array Value) (T : Nat) (t : Int) (hg : w.heap[g]? = some (.cells cur 95 (0, 0))) (hn : n = l.length) (hcap : n ≤ cap) (hm : (cap : Int) ≤ 9223372036854775807) (hsz : cur.size = cap * 3) (htk : cur.toList.take (n * 3) = encVers l)
    (hT : w.cell? ⟨T, 0, none⟩ = some (.int .i64 t)) (hTl : T < w.heap.size) (hTg : T ≠ g) (hv : place (fun y => y.who == t) l = (i : Int)) :
    Calls Try.prog 70 #[.slice (some ⟨g, 0, none⟩) n cap, .func (.func 71) #[] #[.pointer (some ⟨T, 0, none⟩)]] w fun e w' => e = .returned (.slice (some ⟨g, 0, none⟩) (Cel.undone l t).length cap) ∧
      (∃ cur' : Array Value, w'.heap[g]? = some (.cells cur' 95 (0, 0)) ∧ cur'.size = cur.size ∧ cur'.toList.take ((Cel.undone l t).length * 3) = encVers (Cel.undone l t)) ∧ Fr [g] w w' := by
  have hgl : g < w.heap.size := (Array.getElem?_eq_some_iff.1 hg).1
  have hcell : ∀ k, w.cell? ⟨g, k, none⟩ = cur[k]? := fun k => by simp [World.cell?, hg]
  have hcurE : ∀ k, k < n * 3 → cur[k]? = (encVers l)[k]? := fun k hk => by rw [← htk, List.getElem?_take_of_lt hk, Array.getElem?_toList]
  have hV : VersO w.heap.size w (some ⟨g, 0, none⟩) l := fun j y hy => by
    have hjn := (List.getElem?_eq_some_iff.1 hy).1
    obtain ⟨a, b, c⟩ := encVers_get l j y hy
    exact ⟨g, 0, rfl, hgl, by rw [hcell, hcurE _ (by omega), ← a]; congr 1; omega, by rw [hcell, hcurE _ (by omega), ← b]; congr 1; omega, by rw [hcell, hcurE _ (by omega), ← c]; congr 1; omega⟩
  have HI : Hid (Calls Try.prog 79 #[.slice (some ⟨g, 0, none⟩) n cap, .func (.func 71) #[] #[.pointer (some ⟨T, 0, none⟩)]] w fun e w' => e = .returned (.int .i64 (i : Int)) ∧ Below w.heap.size w w') := by
    subst hn
    exact index_undo w _ cap l #[.pointer (some ⟨T, 0, none⟩)] (fun y => y.who == t) (by omega) hV (fun W y _ hb => by
      rw [app1]
      exact undo1_S W T t y ((hb.cell (p := ⟨T, 0, none⟩) hTl).trans hT) (by have := hb.size; omega)) _ hv
  obtain ⟨hi, hk0, hk1⟩ := kept_first hv
  have hin : i < n := by omega
  have HN := hid hn
  have HK0 := hid hk0
  have HK1 := hid hk1
  have HCE := hid hcurE
  have HTK := hid htk
  clear hV hv hi hk0 hk1 hcurE htk hcell hn
  go_enter Try.func70, Try.ntmps70
  go_wp2_with fail
  refine HI.out.mono ?_
  rintro e w1 ⟨rfl, hb1⟩
  have HB1 := hid hb1
  clear hb1
  go_wp2_with fail
  go_loopw [5, 6] (fun a b wr => ∃ k : Nat, i + 1 ≤ k ∧ k ≤ n ∧ a = .int .i64 ((kept l t k).length : Int) ∧ (kept l t k).length + 1 ≤ k ∧ b = .int .i64 (k : Int) ∧ Fr [g] w wr ∧
    ∃ ck : Array Value, wr.heap[g]? = some (.cells ck 95 (0, 0)) ∧ ck.size = cur.size ∧ (∀ x, x < (kept l t k).length * 3 → ck[x]? = (encVers (kept l t k))[x]?) ∧ (∀ x, k * 3 ≤ x → x < n * 3 → ck[x]? = (encVers l)[x]?)) (fun _ b _ => n - (intOf b).toNat)
  case atStart =>
    refine ⟨i + 1, Nat.le_refl _, by omega, ?_, by rw [HK0.out, HK1.out]; omega, ?_, Fr.of_below HB1.out (Nat.le_refl _), cur, (HB1.out.block g hgl).trans hg, rfl, ?_, fun x _ hx => HCE.out x hx⟩
    · rw [HK0.out, HK1.out]
    · go_num
    · intro x hx
      rw [HK0.out, HK1.out] at hx
      rw [HK0.out, HCE.out x (by omega), encVers_take, List.getElem?_take_of_lt hx]
  case round =>
    obtain ⟨k, hk1, hk2, rfl, hml, rfl, hf, ck, hck, hcks, hlo, hhi⟩ := hrel
    have hKL := kept_len l t k
    by_cases hlt : k < n
    · obtain ⟨y, hy⟩ : ∃ y, l[k]? = some y := ⟨_, List.getElem?_eq_getElem (by have := HN.out; omega)⟩
      obtain ⟨ea, eb, ec⟩ := encVers_get l k y hy
      have hcw : ∀ x, wr.cell? ⟨g, x, none⟩ = ck[x]? := fun x => by simp [World.cell?, hck]
      have c0 : wr.cell? ⟨g, k * 3, none⟩ = some (.int .i64 y.who) := by rw [hcw, hhi _ (by omega) (by omega), ea]
      have c1 : wr.cell? ⟨g, k * 3 + 1, none⟩ = some (.int .i64 y.v) := by rw [hcw, hhi _ (by omega) (by omega), eb]
      have c2 : wr.cell? ⟨g, k * 3 + 2, none⟩ = some (.bool y.gone) := by rw [hcw, hhi _ (by omega) (by omega), ec]
      have HY := hid hy
      have HLO := hid hlo
      have HHI := hid hhi
      have HCW := hid hcw
      have HF := hid hf
      have HCK := hid hck
      clear hy hlo hhi hcw hf hck ea eb ec
      have hsz1 := HF.out.size
      have hT1 : (wr.alloc (.cells #[.int .i64 y.who, .int .i64 y.v, .bool y.gone] 95)).cell? ⟨T, 0, none⟩ = some (.int .i64 t) := (((Below.refl _ wr).alloc (Nat.le_refl _) _).cell (p := ⟨T, 0, none⟩) (by show T < _; omega)).trans ((HF.out.cell (p := ⟨T, 0, none⟩) hTl (by simpa using hTg)).trans hT)
      have bY := Blk.new wr 95 [.int .i64 y.who, .int .i64 y.v, .bool y.gone]
      have HU : Hid (Calls Try.prog 71 #[.agg #[.int .i64 y.who, .int .i64 y.v, .bool y.gone], .pointer (some ⟨T, 0, none⟩)] (wr.alloc (.cells #[.int .i64 y.who, .int .i64 y.v, .bool y.gone] 95)) fun e W' => e = .returned (.bool (y.who == t)) ∧ Below (wr.alloc (.cells #[.int .i64 y.who, .int .i64 y.v, .bool y.gone] 95)).heap.size (wr.alloc (.cells #[.int .i64 y.who, .int .i64 y.v, .bool y.gone] 95)) W') := undo1_S _ T t y hT1 (by simp; omega)
      have HS : Hid (kept l t (k + 1) = if y.who == t then kept l t k else kept l t k ++ [y]) := kept_succ HY.out
      go_wp2_with fail
      refine HU.out.mono ?_
      rintro e w3 ⟨rfl, hb3⟩
      have hgk : w3.heap[g]? = some (.cells ck 95 (0, 0)) := (hb3.block g (by simp; omega)).trans ((Below.heap_alloc _ _ _ (by omega)).trans HCK.out)
      have F3 : Hid (Fr [g] w w3) := (HF.out.alloc _).trans_same (Fr.of_below hb3 (Nat.le_refl _))
      have y0 := (hb3.cell (p := ⟨wr.heap.size, 0, none⟩) (by simp)).trans (bY.cell 0)
      have y1 := (hb3.cell (p := ⟨wr.heap.size, 1, none⟩) (by simp)).trans (bY.cell 1)
      have y2 := (hb3.cell (p := ⟨wr.heap.size, 2, none⟩) (by simp)).trans (bY.cell 2)
      simp only [List.getElem?_cons_zero, List.getElem?_cons_succ] at y0 y1 y2
      have HGK := hid hgk
      clear hb3 bY hT1 HU hgk
      cases hp : (y.who == t)
      · rw [hp] at HS
        simp only [Bool.false_eq_true, if_false] at HS
        clear hp
        obtain ⟨m, hm⟩ : ∃ m, (kept l t k).length = m := ⟨_, rfl⟩
        rw [hm] at hml hKL HLO ⊢
        have HM := hid hm
        clear hm
        have hmn : m < n := by omega
        have hmI : (m : Int) < (n : Int) := by omega
        have e0 : ∃ u, w3.cell? ⟨g, m * 3, none⟩ = some u := ⟨ck[m * 3]'(by omega), by simp only [World.cell?, HGK.out]; exact Array.getElem?_eq_getElem (by omega)⟩
        have e1 : ∃ u, w3.cell? ⟨g, m * 3 + 1, none⟩ = some u := ⟨ck[m * 3 + 1]'(by omega), by simp only [World.cell?, HGK.out]; exact Array.getElem?_eq_getElem (by omega)⟩
        have e2 : ∃ u, w3.cell? ⟨g, m * 3 + 2, none⟩ = some u := ⟨ck[m * 3 + 2]'(by omega), by simp only [World.cell?, HGK.out]; exact Array.getElem?_eq_getElem (by omega)⟩
        obtain ⟨q0, e0⟩ := e0
        obtain ⟨q1, e1⟩ := e1
        obtain ⟨q2, e2⟩ := e2
        have z0 : w3.frozen? ⟨g, m * 3, none⟩ = false := by simp [World.frozen?, HGK.out]
        have z1 : w3.frozen? ⟨g, m * 3 + 1, none⟩ = false := by simp [World.frozen?, HGK.out]
        have z2 : w3.frozen? ⟨g, m * 3 + 2, none⟩ = false := by simp [World.frozen?, HGK.out]
        go_wp2_with fail
        have HS1 : Hid ((kept l t (k + 1)).length = m + 1) := by show _ = _; rw [HS.out, List.length_append, HM.out]; rfl
        have hg1 := heap_setCell_same _ g (m * 3 + 2) (.bool y.gone) _ _ _ (heap_setCell_same _ g (m * 3 + 1) (.int .i64 y.v) _ _ _ (heap_setCell_same w3 g (m * 3) (.int .i64 y.who) _ _ _ HGK.out))
        have hf1 := ((F3.out.setCell (p := ⟨g, m * 3, none⟩) (.inl (by simp)) (.int .i64 y.who)).setCell (p := ⟨g, m * 3 + 1, none⟩) (.inl (by simp)) (.int .i64 y.v)).setCell (p := ⟨g, m * 3 + 2, none⟩) (.inl (by simp)) (.bool y.gone)
        go_roundw
        case rel =>
          refine ⟨_, _, _, _, _, _, _, _, _, _, _, _, _, _, _, _, _, _, _, _, _, _, _, ?_, rfl⟩
          refine ⟨k + 1, by omega, by omega, by rw [HS1.out]; go_num, by rw [HS1.out]; omega, by go_num, hf1, _, hg1, by simpa using hcks, fun x hx => ?_, fun x hx hx2 => ?_⟩
          · rw [HS1.out] at hx
            rw [HS.out, encVers_append]
            have hel : (encVers (kept l t k)).length = m * 3 := by rw [encVers_len, HM.out]
            by_cases h1 : x < m * 3
            · rw [Array.getElem?_setIfInBounds_ne (by omega), Array.getElem?_setIfInBounds_ne (by omega), Array.getElem?_setIfInBounds_ne (by omega), List.getElem?_append_left (by omega)]
              exact HLO.out x h1
            · rw [List.getElem?_append_right (by omega), hel]
              have h3 : x = m * 3 ∨ x = m * 3 + 1 ∨ x = m * 3 + 2 := by omega
              rcases h3 with rfl | rfl | rfl
              · rw [Array.getElem?_setIfInBounds_ne (by omega), Array.getElem?_setIfInBounds_ne (by omega), Array.getElem?_setIfInBounds_self_of_lt (by omega)]
                simp [encVers, encVer]
              · rw [Array.getElem?_setIfInBounds_ne (by omega), Array.getElem?_setIfInBounds_self_of_lt (by simp; omega)]
                simp [encVers, encVer]
              · rw [Array.getElem?_setIfInBounds_self_of_lt (by simp; omega)]
                simp [encVers, encVer]
          · rw [Array.getElem?_setIfInBounds_ne (by omega), Array.getElem?_setIfInBounds_ne (by omega), Array.getElem?_setIfInBounds_ne (by omega)]
            exact HHI.out x (by omega) hx2
        case measure => simp [intOf]; omega
      · rw [hp] at HS
        simp only [if_true] at HS
        clear hp
        go_wp2_with fail
        go_roundw
        case rel =>
          refine ⟨_, _, _, _, _, _, _, _, _, _, _, _, _, _, _, _, _, _, _, _, _, _, _, ?_, rfl⟩
          exact ⟨k + 1, by omega, by omega, by rw [HS.out], by rw [HS.out]; omega, by go_num, F3.out, ck, HGK.out, hcks, fun x hx => by rw [HS.out] at hx ⊢; exact HLO.out x hx, fun x hx => HHI.out x (by omega)⟩
        case measure => simp [intOf]; omega
    · obtain rfl : k = n := by omega
      have HLO := hid hlo
      have hKN : kept l t k = Cel.undone l t := by unfold kept Cel.undone; rw [HN.out, List.take_length]
      rw [hKN] at HLO hml hKL ⊢
      obtain ⟨zs, hzs⟩ : ∃ zs, (Builtin.zeroCells (Value.agg #[.int .i64 0, .int .i64 0, .bool false]).cells (k - (Cel.undone l t).length)).toList = zs := ⟨_, rfl⟩
      have hz := zs_ver (k - (Cel.undone l t).length)
      rw [hzs] at hz
      have hcl : ∀ ty, (Builtin.clear_ #[91] ty #[.slice (some ⟨g, (Cel.undone l t).length * 3, none⟩) (k - (Cel.undone l t).length) (cap - (Cel.undone l t).length)]).run Try.prog wr = .ok (.tuple #[]) (wr.setCells g ((Cel.undone l t).length * 3) zs) := fun ty =>
        run_clear_many wr _ 95 ty _ Try.underlying91 Try.zeroValue95 g _ _ _ (by omega) zs hzs hz.2
          (fun x hx => by rw [hz.1] at hx; simp only [World.cell?, hck]; rw [Array.getElem?_eq_getElem (by omega)]; rfl) (fun x hx => by simp [World.frozen?, hck])
      have HEND : Hid ((∃ cur' : Array Value, (wr.setCells g ((Cel.undone l t).length * 3) zs).heap[g]? = some (.cells cur' 95 (0, 0)) ∧ cur'.size = cur.size ∧ cur'.toList.take ((Cel.undone l t).length * 3) = encVers (Cel.undone l t)) ∧ Fr [g] w (wr.setCells g ((Cel.undone l t).length * 3) zs)) := by
        obtain ⟨c2, hc2, hs2, ho2, _⟩ := heap_setCells g _ _ zs ((Cel.undone l t).length * 3) wr ck hck
        refine ⟨⟨c2, hc2, by omega, ?_⟩, Fr.setCells (.inl (by simp)) _ _ hf⟩
        apply List.ext_getElem?
        intro x
        by_cases hx : x < (Cel.undone l t).length * 3
        · rw [List.getElem?_take_of_lt hx, Array.getElem?_toList, ho2 x (by omega), HLO.out x hx]
        · rw [List.getElem?_eq_none (by rw [List.length_take]; omega), List.getElem?_eq_none (by rw [encVers_len]; omega)]
      have hq0 : ((Cel.undone l t).length : Int) ≤ (k : Int) := by omega
      have hq1 : ((Cel.undone l t).length : Int) ≤ (cap : Int) := by omega
      have hq2 : ¬ cap = (Cel.undone l t).length := by omega
      have HX := hid hlo
      clear hlo hhi hz hzs hck HLO HX hKN hf hk1
      go_wp2_with fail
      go_ret
      exact ⟨rfl, HEND.out⟩

theorem place_cases (p : Ver Int → Bool) (l : List (Ver Int)) : place p l = -1 ∨ ∃ i : Nat, place p l = (i : Int) := by
  unfold place
  cases l.findIdx? p with
  | none => exact .inl rfl
  | some i => exact .inr ⟨i, rfl⟩

/-- What Undo's call of DeleteFunc leaves, in the world behind the box. -/
theorem undo_call (w : World) (X : Nat) (A : Option Addr) (cap : Nat) (l : List (Ver Int)) (t : Int) (h : CelA w X A cap l) :
    Calls Try.prog 70 #[.slice A l.length cap, .func (.func 71) #[] #[.pointer (some ⟨w.heap.size, 0, none⟩)]] (w.alloc (.cells #[.int .i64 t] 3)) fun e w' => e = .returned (.slice A (Cel.undone l t).length cap) ∧
      Blk w' X 93 [.slice A l.length cap] ∧ w'.ownsRow 0 95 3 (.slice A (Cel.undone l t).length cap) (Cel.undone l t).length (encVers (Cel.undone l t)) ∧ Fr (X :: (Value.slice A l.length cap).ownBlock.toList) w w' := by
  have hB : Below w.heap.size w (w.alloc (.cells #[.int .i64 t] 3)) := (Below.refl _ w).alloc (Nat.le_refl _) _
  have hA := h.below hB
  have hT := (Blk.new w 3 [.int .i64 t]).cell 0
  simp only [List.getElem?_cons_zero] at hT
  rcases place_cases (fun y => y.who == t) l with hv | ⟨i, hv⟩
  · refine (delfunc_none _ A cap l w.heap.size t h.len hA.versO hT (by simp) hv).mono ?_
    rintro e w' ⟨rfl, hb⟩
    rw [undone_none hv]
    have := hA.below hb
    exact ⟨rfl, this.blk, this.own, (Fr.of_below hB (Nat.le_refl _)).trans_same (Fr.of_below hb (Nat.le_refl _))⟩
  · obtain ⟨hi, _, _⟩ := kept_first hv
    obtain ⟨g, rfl, hgl⟩ := h.form (by omega)
    obtain ⟨hcl, hcm⟩ := h.capl
    have hne := own_ne hA.own hA.blk (by decide)
    have hne' : X ≠ g := fun e => hne (by simp [Value.ownBlock, e])
    rcases hA.own.2 with ⟨h0, _⟩ | ⟨g', cap', cur, hvv, _, hh, _, _, h4, h5⟩
    · cases h0
    · cases hvv
      refine (delfunc_S _ g l.length i cap l cur w.heap.size t hh rfl hcl (by unfold maxLen at hcm; omega) h4 h5 hT (by simp) (by omega) hv).mono ?_
      rintro e w' ⟨rfl, ⟨cur', k1, k2, k3⟩, hf⟩
      have hul : (Cel.undone l t).length ≤ l.length := List.length_filter_le _ _
      exact ⟨rfl, hA.blk.fr hf (by simpa using hne'), ⟨by rw [encVers_len], .inr ⟨g, cap, cur', rfl, Nat.zero_le _, k1, by omega, hcm, by omega, k3⟩⟩,
        ((Fr.of_below (S := [g]) hB (Nat.le_refl _)).trans_same hf).mono (fun k hk => .inl (by simp [Value.ownBlock] at hk ⊢; exact .inr hk))⟩

set_option maxHeartbeats 1000000 in
theorem undo_C {N : Nat} {w0 w : World} {B : Nat} {c : Clk} {X : Nat} {l : List (Ver Int)} (h : CC N w0 w B c X l) (t : Int) :
    Calls Try.prog 50 #[.pointer (some ⟨X, 0, none⟩), .int .i64 t] w fun e w' => (∃ u, e = .returned u) ∧ CC N w0 w' B c X (Cel.undone l t) := by
  obtain ⟨S, ⟨A, cap, hl, rfl⟩, hs⟩ := h.cel
  have HK := hid (undo_call w X A cap l t hl)
  have HL := hid hl
  have hx := (((Below.refl _ w).alloc (Nat.le_refl _) (.cells #[.int .i64 t] 3)).cell (p := ⟨X, 0, none⟩) hl.blk.lt).trans (hl.blk.cell 0)
  simp only [List.getElem?_cons_zero] at hx
  have HH := hid h
  have HS := hid hs
  clear hl h hs
  go_enter Try.func50, Try.ntmps50
  go_wp2_with fail
  refine HK.out.mono ?_
  rintro e w2 ⟨rfl, hX2, ho2, hf2⟩
  have e0 := hX2.cell 0
  have e1 := hX2.frozen 0
  simp only [List.getElem?_cons_zero] at e0
  have HX2 := hid hX2
  have HO := hid ho2
  have HF := hid hf2
  clear hX2 ho2 hf2 hx HK
  go_wp2
  go_end0
  have hset := HX2.out.set_ 0 (.slice A (Cel.undone l t).length cap)
  simp only [List.set_cons_zero] at hset
  have hne : (Value.slice A (Cel.undone l t).length cap).ownBlock ≠ some X := by
    have := own_ne HO.out HX2.out (by decide)
    exact this
  refine ⟨⟨_, rfl⟩, HH.out.ofCel ⟨A, cap, HL.out, rfl⟩ HS.out ⟨A, cap, ⟨hset, own_far HO.out hne _⟩, rfl⟩ ?_ (HF.out.setCell (.inl (by simp)) _)⟩
  cases A <;> exact Sub.refl _ _
end Go.Proofs.Ytdgojfjaooindaa
