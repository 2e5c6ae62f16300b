/-
  The reference's cell: without (versions without the i-th).
-/
import Derived.Test.YtdgojfjaooindaaRclC
import Derived.Test.YtdgojfjaooindaaApp
namespace Go.Proofs.Ytdgojfjaooindaa.Rcl
open Go.RowKit Go.Proofs.Lig

theorem info_rver : (Try.prog.info? 109).map (fun i => (i.zero, i.size, i.bytes)) = some (some (.agg #[.int .i64 0, .int .i64 0, .bool false]), 3, 24) := by kernel_rfl
theorem encVers_one (l : List (Ver Int)) : ∀ u ∈ encVers l, u.oneCell' = true := by
  intro u hu
  obtain ⟨y, _, hy⟩ := List.mem_flatMap.1 hu
  simp only [encVer, List.mem_cons, List.mem_nil_iff, or_false] at hy
  rcases hy with rfl | rfl | rfl <;> rfl
theorem encVers_drop (l : List (Ver Int)) (j : Nat) : encVers (l.drop j) = (encVers l).drop (j * 3) := by
  induction l generalizing j with
  | nil => simp [encVers]
  | cons x l ih =>
    cases j with
    | zero => simp
    | succ j =>
      rw [List.drop_succ_cons, ih, encVers_cons, List.drop_append, show (j + 1) * 3 = (encVer x).length + j * 3 by simp [encVer]; omega]
      simp
theorem encVers_take (l : List (Ver Int)) (j : Nat) : encVers (l.take j) = (encVers l).take (j * 3) := by
  induction l generalizing j with
  | nil => simp [encVers]
  | cons x l ih =>
    cases j with
    | zero => simp [encVers]
    | succ j =>
      rw [List.take_succ_cons, encVers_cons, ih, encVers_cons, List.take_append, show (j + 1) * 3 = (encVer x).length + j * 3 by simp [encVer]; omega, List.take_of_length_le (l := encVer x) (by omega)]
      simp
/-- An empty row of the call's own. -/
theorem own_empty (w : World) (base : Nat) (hb : base ≤ w.heap.size) (e : TypeId) : (w.alloc (.cells #[] e)).ownsRow base e 3 (.slice (some ⟨w.heap.size, 0, none⟩) 0 0) 0 [] :=
  ⟨rfl, .inr ⟨w.heap.size, 0, #[], rfl, hb, heap_alloc_new w _, Nat.le_refl _, Nat.zero_le _, rfl, rfl⟩⟩

set_option maxRecDepth 100000 in
set_option maxHeartbeats 1000000 in
theorem r_without (w : World) (g cap : Nat) (l : List (Ver Int)) (i : Nat) (h : w.ownsRow 0 109 3 (.slice (some ⟨g, 0, none⟩) l.length cap) l.length (encVers l)) (hi : i < l.length) (hn : l.length ≤ 1000000) :
    Calls Try.prog 76 #[.slice (some ⟨g, 0, none⟩) l.length cap, .int .i64 (i : Int)] w fun e w' => ∃ A' cap', e = .returned (.slice A' (l.length - 1) cap') ∧
      w'.ownsRow w.heap.size 109 3 (.slice A' (l.length - 1) cap') (l.length - 1) (encVers (l.eraseIdx i)) ∧ Below w.heap.size w w' := by
  obtain ⟨i0, hi0, hz0, hz1, hz2⟩ := info_parts info_rver
  have hgw : g < w.heap.size := own_lt h rfl
  have hle : l.length ≤ cap := by
    rcases h.2 with ⟨hv, h0⟩ | ⟨g', cap', cur, hv, _, _, h1, _⟩
    · omega
    · injection hv with _ _ e3; omega
  have hmx : cap ≤ 9223372036854775807 := by
    rcases h.2 with ⟨hv, h0⟩ | ⟨g', cap', cur, hv, _, _, h1, h2, _⟩
    · injection hv with _ _ e3; omega
    · injection hv with _ _ e3; unfold maxLen at h2; omega
  have hE : encVers (l.eraseIdx i) = encVers (l.take i) ++ encVers (l.drop (i + 1)) := by rw [List.eraseIdx_eq_take_drop_succ, encVers_append]
  have hcell := fun k (hk : k < l.length * 3) => h.cellAt k hk
  have hl1 : (encVers (l.take i)).length = i * 3 := by rw [encVers_len, List.length_take]; omega
  have hl2 : (encVers (l.drop (i + 1))).length = (l.length - (i + 1)) * 3 := by rw [encVers_len, List.length_drop]
  have hs1 : ∀ t u, (encVers (l.take i))[t]? = some u → w.cell? ⟨g, t, none⟩ = some u := fun t u hu => by
    have ht := (List.getElem?_eq_some_iff.1 hu).1
    rw [encVers_take, List.getElem?_take_of_lt (by omega)] at hu
    rw [hcell t (by omega), hu]
  have hs2 : ∀ t u, (encVers (l.drop (i + 1)))[t]? = some u → w.cell? ⟨g, (i + 1) * 3 + t, none⟩ = some u := fun t u hu => by
    have ht := (List.getElem?_eq_some_iff.1 hu).1
    rw [encVers_drop, List.getElem?_drop] at hu
    rw [hcell _ (by omega), hu]
  have S1 := hid hs1
  have S2 := hid hs2
  have E0 := hid hE
  have L1 := hid hl1
  have L2 := hid hl2
  have HN := hid hn
  have HI := hid hi
  clear hs1 hs2 hE hl1 hl2 hcell h hn hi
  obtain ⟨n, hn⟩ : ∃ n, l.length = n := ⟨_, rfl⟩
  rw [hn] at HN HI L2 hle ⊢
  clear hn
  have hic : i ≤ cap := by have := HI.out; omega
  have hw : IntKind.i64.wrap ((i : Int) + 1) = ((i + 1 : Nat) : Int) := by have := HI.out; have := HN.out; rw [IntKind.wrap_i64]; omega
  have hi1 : (0 : Int) ≤ (i : Int) + 1 := by omega
  have hi2 : (i : Int) + 1 ≤ (n : Int) := by have := HI.out; omega
  obtain ⟨A2, hA2, hsrc⟩ : ∃ A2 : Addr, (if cap = i + 1 then some (⟨g, 0, none⟩ : Addr) else some ⟨g, (i + 1) * 3, none⟩) = some A2 ∧ Hid (∀ t u, (encVers (l.drop (i + 1)))[t]? = some u → ∃ k, A2.add t = ⟨g, k, none⟩ ∧ w.cell? ⟨g, k, none⟩ = some u) := by
    by_cases hc : cap = i + 1
    · refine ⟨⟨g, 0, none⟩, by simp [hc], fun t u hu => ?_⟩
      have ht := (List.getElem?_eq_some_iff.1 hu).1
      rw [L2.out] at ht
      have h1 := HI.out
      omega
    · refine ⟨⟨g, (i + 1) * 3, none⟩, by simp [hc], fun t u hu => ⟨(i + 1) * 3 + t, by rw [Addr.add_lit], S2.out t u hu⟩⟩
  have F0 : Hid (Fr [] w (w.alloc (.cells #[] 109)).drew) := ((Fr.refl [] w).alloc _).drew
  have O0 : Hid ((w.alloc (.cells #[] 109)).drew.ownsRow w.heap.size 109 3 (.slice (some ⟨w.heap.size, 0, none⟩) 0 0) 0 []) := (own_empty w w.heap.size (Nat.le_refl _) _).drew
  have N1 : Hid (∀ ad, (some (⟨g, 0, none⟩ : Addr)) = some ad → ∀ j u, (encVers (l.take i))[j]? = some u → (w.alloc (.cells #[] 109)).drew.cell? (ad.add j) = some u) := fun ad had j u hu => by
    cases had
    rw [Addr.add_lit, Nat.zero_add]
    exact (F0.out.cell (p := ⟨g, j, none⟩) hgw (by simp)).trans (S1.out j u hu)
  have N2 : Hid (∀ w1, Fr [] w w1 → ∀ ad, (some A2) = some ad → ∀ j u, (encVers (l.drop (i + 1)))[j]? = some u → w1.cell? (ad.add j) = some u) := fun w1 hf ad had j u hu => by
    cases had
    obtain ⟨k, hk, hc⟩ := hsrc.out j u hu
    rw [hk]
    exact (hf.cell (p := ⟨g, k, none⟩) hgw (by simp)).trans hc
  have E1 : Hid (0 + i + (n - (i + 1)) = n - 1) := by show 0 + i + (n - (i + 1)) = n - 1; omega
  clear hsrc S1 S2 hgw
  go_enter Try.func76, Try.ntmps76
  go_wp2_with fail
  go_region_law (first
    | (refine step_append_all (by rfl) _ _ _ (by rfl) w.heap.size 109 i0 _ 3 24 Try.underlying97 hi0 hz0 hz1 hz2 rfl (by omega) (some ⟨w.heap.size, 0, none⟩) 0 0 [] (by simp [Act.eval]) O0.out (some ⟨g, 0, none⟩) i cap (encVers (l.take i)) (by simp [Act.eval]) L1.out (by simp) N1.out (encVers_one _) (by have := HN.out; unfold maxLen; omega) (by have := HN.out; omega) (by simp) ?_
       intro A1 cap1 w1 hown1 hgrow1 hat1
       have F1 : Hid (Fr [] w w1) := F0.out.grown hgrow1 (fun k hk => by simp [Value.ownBlock] at hk; subst hk; exact .inr (Nat.le_refl _)))
    | (refine step_append_all (by rfl) _ _ _ (by rfl) w.heap.size 109 i0 _ 3 24 Try.underlying97 hi0 hz0 hz1 hz2 rfl (by omega) A1 cap1 (0 + i) ([] ++ encVers (l.take i)) (by simp [Act.eval]) hown1 (some A2) (n - (i + 1)) (cap - (i + 1)) (encVers (l.drop (i + 1))) (by simp [Act.eval]) L2.out (by simp) (N2.out _ F1.out) (encVers_one _) (by have := HN.out; unfold maxLen; omega) (by have := HN.out; omega) F1.out.size ?_
       intro A3 cap3 w3 hown3 hgrow3 hat3
       have F3 : Hid (Fr [] w w3) := F1.out.grown hgrow3 (fun k hk => by
         rw [hk] at hat1
         rcases hat1 with h1 | h1
         · simp [Value.ownBlock] at h1; exact .inr (by omega)
         · simp at h1; exact .inr (by omega))))
  all_goals
    go_wp2_with fail
    go_ret
    rw [E1.out] at hown3
    refine ⟨A3, cap3, ?_, by rw [E0.out]; simpa using hown3, F3.out.below (Nat.le_refl _) (by simp)⟩
    rw [← E1.out, Nat.zero_add]
    rfl
end Go.Proofs.Ytdgojfjaooindaa.Rcl
