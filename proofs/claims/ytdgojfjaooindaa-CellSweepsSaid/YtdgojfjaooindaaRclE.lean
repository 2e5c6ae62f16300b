/-
  The reference's cell: Write. (The text's last walk is printed thrice.)
-/
import Derived.Test.YtdgojfjaooindaaRclD
namespace Go.Proofs.Ytdgojfjaooindaa.Rcl
open Go.RowKit Go.Proofs.Lig

theorem r_check {w w0 : World} {N X B : Nat} {A : Option Addr} {cap : Nat} {l : List (Ver Int)} {c : Clk} (h : CelA w X A cap l) (hc : RefN N w0 w B c) (t : Int) (v : Int) (hv : (if Cel.blocked c l t then 6 else 0) = v) :
    Calls Try.prog 64 #[.pointer (some ⟨X, 0, none⟩), .pointer (some ⟨B, 0, none⟩), .int .i64 t] w fun e w' => e = .returned (.int .i64 v) ∧ RefN N w0 w' B c ∧ TFr refT w w' := by
  rw [← hv]
  cases hl : l.getLast? with
  | none =>
    obtain rfl : l = [] := by simpa using hl
    refine (r_check_none w X A cap _ t h).mono ?_
    rintro e w' ⟨rfl, rfl⟩
    exact ⟨by simp [Cel.blocked], hc, TFr.refl _ _⟩
  | some y =>
    refine (r_check_some w w0 N X A cap l B c t y h hc hl _ rfl).mono ?_
    rintro e w' ⟨rfl, h1, h2⟩
    exact ⟨by simp [Cel.blocked, hl], h1, h2⟩

theorem rcel_pushed {w : World} {X : Nat} {gg : Option Addr} {cap2 m base : Nat} {sv : Value} {l : List (Ver Int)} {t v : Int} {gone : Bool} (hm : l.length = m) (hB : Blk w X 99 [sv])
    (ho : w.ownsRow base 109 3 (.slice gg (m + 1) cap2) (m + 1) (encVers l ++ [.int .i64 t, .int .i64 v, .bool gone])) :
    CelA (w.setCell ⟨X, 0, none⟩ (.slice gg (m + 1) cap2)) X gg cap2 (l ++ [⟨t, v, gone⟩]) := by
  subst hm
  have h1 := hB.set_ 0 (.slice gg (l.length + 1) cap2)
  have e1 : (l ++ [(⟨t, v, gone⟩ : Ver Int)]).length = l.length + 1 := by simp
  have ho0 : w.ownsRow 0 109 3 (.slice gg (l.length + 1) cap2) (l.length + 1) (encVers l ++ [.int .i64 t, .int .i64 v, .bool gone]) := by
    refine ⟨ho.1, ?_⟩
    rcases ho.2 with h2 | ⟨g, cap, cur, hv, _, r⟩
    · exact .inl h2
    · exact .inr ⟨g, cap, cur, hv, Nat.zero_le _, r⟩
  have hne := own_ne ho0 hB (by decide)
  refine ⟨by rw [e1]; exact h1, ?_⟩
  rw [e1, encVers_append]
  exact own_far ho0 hne _

set_option maxHeartbeats 400000 in
theorem r_write_clash (w w0 : World) (N X B : Nat) (A : Option Addr) (cap : Nat) (l : List (Ver Int)) (c : Clk) (t v : Int) (gone : Bool) (h : CelA w X A cap l) (hc : RefN N w0 w B c) (hb : Cel.blocked c l t = true) :
    Calls Try.prog 65 #[.pointer (some ⟨X, 0, none⟩), .pointer (some ⟨B, 0, none⟩), .int .i64 t, .int .i64 v, .bool gone] w fun e w' => e = .returned (.int .i64 6) ∧ RefN N w0 w' B c ∧ TFr refT w w' := by
  have HC := hid (r_check h hc t 6 (by rw [hb]; rfl))
  clear h hc hb
  go_enter Try.func65, Try.ntmps65
  go_wp2_with fail
  refine HC.out.mono ?_
  rintro e w1 ⟨rfl, h1, h2⟩
  have H1 := hid h1
  have H2 := hid h2
  clear h1 h2
  go_wp2_with fail
  go_ret
  exact ⟨rfl, H1.out, H2.out⟩

set_option maxHeartbeats 2000000 in
set_option maxRecDepth 100000 in
theorem r_write_go (w : World) (X : Nat) (C : Option Addr) (A : Option Addr) (cap : Nat) (l0 : List (Ver Int)) (t v : Int) (gone : Bool) (P : World → Prop) (h : CelA w X A cap l0) (hn : l0.length ≤ 1000000)
    (hck : Calls Try.prog 64 #[.pointer (some ⟨X, 0, none⟩), .pointer C, .int .i64 t] w fun e w' => e = .returned (.int .i64 0) ∧ TFr refT w w' ∧ P w') :
    Calls Try.prog 65 #[.pointer (some ⟨X, 0, none⟩), .pointer C, .int .i64 t, .int .i64 v, .bool gone] w fun e w' => e = .returned (.int .i64 0) ∧
      ∃ w1 A' cap', TFr refT w w1 ∧ P w1 ∧ CelA w' X A' cap' (Cel.written l0 t v gone) ∧ Sub (X :: (Value.slice A' (Cel.written l0 t v gone).length cap').ownBlock.toList) [X] w1.heap.size ∧ Fr [X] w1 w' := by
  have HC := hid hck
  have HH := hid h
  have HN0 := hid hn
  clear hck h hn
  rcases List.eq_nil_or_concat l0 with rfl | ⟨l', y, rfl⟩
  · have WR : Hid (Cel.written ([] : List (Ver Int)) t v gone = [] ++ [⟨t, v, gone⟩]) := rfl
    go_enter Try.func65, Try.ntmps65
    go_wp2_with fail
    refine HC.out.mono ?_
    rintro e w1 ⟨rfl, h1, h2⟩
    have T1 := hid h1
    have P1w := hid h2
    have H1 := hid (HH.out.tfr h1 (by decide))
    clear h1 h2 HC
    have FA : Hid (Fr [X] w1 w1) := Fr.refl _ _
    have KB : Hid (Blk w1 X 99 [.slice A 0 cap]) := H1.out.blk
    have NO : Hid (A = none → 0 = 0) := fun _ => rfl
    have SRC : Hid (∀ w', Fr [X] w1 w' → ∀ ad, A = some ad → ∀ j u, (encVers [])[j]? = some u → w'.cell? (ad.add j) = some u) := by intro _ _ _ _ j u hu; simp [encVers] at hu
    have ML : Hid (([] : List (Ver Int)).length = 0) := rfl
    have LK : Hid ((encVers []).length = 0 * 3) := rfl
    have HN : Hid (0 ≤ 1000000) := by show 0 ≤ 1000000; omega
    have hsz : w1.heap.size = w1.heap.size := by simp
    have hx := KB.out.cell 0
    have f0 := KB.out.frozen 0
    have hX := KB.out.lt
    simp only [List.getElem?_cons_zero] at hx
    obtain ⟨HS, hHS⟩ : ∃ HS, w1.heap.size = HS := ⟨_, rfl⟩
    have F0 : Hid (Fr [X] w1 (w1.alloc (.cells #[] 109))) := FA.out.alloc _
    have G0 : Hid (Fr [X] w1 (w1.alloc (.cells #[] 109))) := (Fr.refl _ _).alloc _
    have O0 : Hid ((w1.alloc (.cells #[] 109)).ownsRow w1.heap.size 109 3 (.slice (some ⟨w1.heap.size, 0, none⟩) 0 0) 0 []) := own_empty w1 w1.heap.size (Nat.le_refl _) _
    obtain ⟨i0, hi0, hz0, hz1, hz2⟩ := info_parts info_rver
    have xx := (KB.out.alloc (.cells #[] 109)).cell 0
    simp only [List.getElem?_cons_zero] at xx
    clear f0
    go_wp2_with (first
      | (at_builtin
         refine wpList_append_all (by rfl) _ _ _ (by rfl) w1.heap.size 109 i0 _ 3 24 Try.underlying97 hi0 hz0 hz1 hz2 rfl (by omega) (some ⟨w1.heap.size, 0, none⟩) 0 0 [] (by first | rfl | simp [Act.eval]) O0.out A 0 cap (encVers []) (by first | rfl | simp [Act.eval]) LK.out (by first | exact NO.out | simp) (SRC.out _ G0.out) (encVers_one _) (by have := HN.out; unfold maxLen; omega) (by have := HN.out; omega) (by simp) ?_
         intro A1 cap1 w2 hown1 hgrow1 hat1
         have F1 : Hid (Fr [X] w1 w2) := F0.out.grown hgrow1 (fun k hk => by simp [Value.ownBlock] at hk; subst hk; have := FA.out.size; exact .inr (by omega))
         have G1 : Hid (Fr [X] w1 w2) := G0.out.grown hgrow1 (fun k hk => by simp [Value.ownBlock] at hk; subst hk; exact .inr (by omega))
         have B1 : Hid (Blk w2 X 99 [.slice A 0 cap]) := (KB.out.alloc _).grown hgrow1 (by simp [Value.ownBlock]; omega)
         have P1 : Hid (∀ k, (Value.slice A1 (0 + 0) cap1).ownBlock = some k → w1.heap.size ≤ k) := fun k hk => by
           rw [hk] at hat1
           rcases hat1 with h1 | h1
           · simp [Value.ownBlock] at h1; omega
           · simp at h1; omega)
      | (at_builtin
         refine wpList_append_all (by rfl) _ _ _ (by rfl) w1.heap.size 109 i0 _ 3 24 Try.underlying97 hi0 hz0 hz1 hz2 rfl (by omega) A1 cap1 (0 + 0) ([] ++ encVers []) (by first | rfl | simp [Act.eval]) (hown1.alloc _) (some ⟨w2.heap.size, 0, none⟩) 1 1 [.int .i64 t, .int .i64 v, .bool gone] (by rfl) (by rfl) (by simp) (fun ad had => by cases had; exact World.news_of_block (cs := #[.int .i64 t, .int .i64 v, .bool gone]) (t := 109) (fr := (0, 0)) (heap_alloc_new w2 _)) (by simp [Value.oneCell']) (by have := HN.out; unfold maxLen; omega) (by have := HN.out; omega) (Nat.le_trans G1.out.size (by simp)) ?_
         intro A3 cap3 w3 hown3 hgrow3 hat3
         have F3 : Hid (Fr [X] w1 w3) := (F1.out.alloc _).grown hgrow3 (fun k hk => .inr (Nat.le_trans FA.out.size (P1.out k hk)))
         have B3 : Hid (Blk w3 X 99 [.slice A 0 cap]) := (B1.out.alloc _).grown hgrow3 (fun hk => by have := P1.out X hk; omega)
         have d0 := B3.out.cell 0
         have e0 := B3.out.frozen 0
         simp only [List.getElem?_cons_zero] at d0
         have P3 : Hid (∀ k, (Value.slice A3 (0 + 0 + 1) cap3).ownBlock = some k → w1.heap.size ≤ k) := fun k hk => by
           rw [hk] at hat3
           rcases hat3 with h1 | h1
           · exact P1.out k h1.symm
           · have := G1.out.size; simp at h1; omega))
    go_ret
    rw [Nat.zero_add] at hown3 P3
    refine ⟨by rfl, w1, A3, cap3, T1.out, P1w.out, ?_, ?_, F3.out.setCell (.inl (by simp)) _⟩
    · have := rcel_pushed (t := t) (v := v) (gone := gone) ML.out B3.out (by simpa using hown3)
      simpa [WR.out] using this
    · intro k hk
      rcases List.mem_cons.1 hk with rfl | hk
      · exact .inl (by simp)
      · refine .inr (Nat.le_trans FA.out.size (P3.out k ?_))
        have e : (Cel.written [] t v gone).length = 0 + 1 := by rw [WR.out, List.length_append, ML.out]; rfl
        rw [e] at hk
        simpa using hk
  · rw [List.concat_eq_append] at HN0 HH ⊢
    obtain ⟨g, rfl, _⟩ := HH.out.form (by simp)
    have hgX : g ≠ X := fun e => own_ne HH.out.own HH.out.blk (by decide) (by simp [Value.ownBlock, e])
    have HGX := hid hgX
    clear hgX
    obtain ⟨n, hn⟩ : ∃ n, l'.length = n := ⟨_, rfl⟩
    have hln : n + 1 ≤ 1000000 := by have := HN0.out; rw [List.length_append, hn] at this; exact this
    have HLN := hid hln
    have hlast : (l' ++ [y])[n]? = some y := by simp [← hn]
    have HLAST := hid hlast
    have HNL := hid hn
    clear hn hlast hln
    cases hm : (y.who == t)
    · have WR : Hid (Cel.written (l' ++ [y]) t v gone = (l' ++ [y]) ++ [⟨t, v, gone⟩]) := by show _ = _; simp [Cel.written, Cel.mine, hm]
      go_enter Try.func65, Try.ntmps65
      go_wp2_with fail
      refine HC.out.mono ?_
      rintro e w1 ⟨rfl, h1, h2⟩
      have T1 := hid h1
      have P1w := hid h2
      have H1 := hid (HH.out.tfr h1 (by decide))
      clear h1 h2 HC
      have hgw : g < w1.heap.size := own_lt H1.out.own rfl
      have hx := H1.out.blk.cell 0
      simp only [List.getElem?_cons_zero, List.length_append, List.length_singleton] at hx
      rw [HNL.out] at hx
      obtain ⟨c0, _, _⟩ := row_ver H1.out.own HLAST.out
      have hln := HLN.out
      have FA : Hid (Fr [X] w1 w1) := Fr.refl _ _
      have KB : Hid (Blk w1 X 99 [.slice (some ⟨g, 0, none⟩) (n + 1) cap]) := by have := H1.out.blk; rw [List.length_append, HNL.out] at this; exact this
      have NO : Hid ((some ⟨g, 0, none⟩ : Option Addr) = none → n + 1 = 0) := fun e => by cases e
      have ML : Hid ((l' ++ [y]).length = n + 1) := by show _ = _; rw [List.length_append, HNL.out]; rfl
      have LK : Hid ((encVers (l' ++ [y])).length = (n + 1) * 3) := by show _ = _; rw [encVers_len, ML.out]
      have SRC : Hid (∀ w', Fr [X] w1 w' → ∀ ad, (some ⟨g, 0, none⟩ : Option Addr) = some ad → ∀ j u, (encVers (l' ++ [y]))[j]? = some u → w'.cell? (ad.add j) = some u) := by
        intro w' hf ad had j u hu
        cases had
        have hj := (List.getElem?_eq_some_iff.1 hu).1
        rw [encVers_len] at hj
        rw [Addr.add_lit, Nat.zero_add]
        exact (hf.cell (p := ⟨g, j, none⟩) hgw (by simpa using HGX.out)).trans ((H1.out.own.cellAt j hj).trans hu)
      have HN : Hid (n + 1 ≤ 1000000) := hln
      have hsz : w1.heap.size = w1.heap.size := by simp
      have hx := KB.out.cell 0
      have f0 := KB.out.frozen 0
      have hX := KB.out.lt
      simp only [List.getElem?_cons_zero] at hx
      obtain ⟨HS, hHS⟩ : ∃ HS, w1.heap.size = HS := ⟨_, rfl⟩
      have F0 : Hid (Fr [X] w1 (w1.alloc (.cells #[] 109))) := FA.out.alloc _
      have G0 : Hid (Fr [X] w1 (w1.alloc (.cells #[] 109))) := (Fr.refl _ _).alloc _
      have O0 : Hid ((w1.alloc (.cells #[] 109)).ownsRow w1.heap.size 109 3 (.slice (some ⟨w1.heap.size, 0, none⟩) 0 0) 0 []) := own_empty w1 w1.heap.size (Nat.le_refl _) _
      obtain ⟨i0, hi0, hz0, hz1, hz2⟩ := info_parts info_rver
      have xx := (KB.out.alloc (.cells #[] 109)).cell 0
      simp only [List.getElem?_cons_zero] at xx
      clear f0
      go_wp2_with (first
        | (at_builtin
           refine wpList_append_all (by rfl) _ _ _ (by rfl) w1.heap.size 109 i0 _ 3 24 Try.underlying97 hi0 hz0 hz1 hz2 rfl (by omega) (some ⟨w1.heap.size, 0, none⟩) 0 0 [] (by first | rfl | simp [Act.eval]) O0.out (some ⟨g, 0, none⟩) (n + 1) cap (encVers (l' ++ [y])) (by first | rfl | simp [Act.eval]) LK.out (by first | exact NO.out | simp) (SRC.out _ G0.out) (encVers_one _) (by have := HN.out; unfold maxLen; omega) (by have := HN.out; omega) (by simp) ?_
           intro A1 cap1 w2 hown1 hgrow1 hat1
           have F1 : Hid (Fr [X] w1 w2) := F0.out.grown hgrow1 (fun k hk => by simp [Value.ownBlock] at hk; subst hk; have := FA.out.size; exact .inr (by omega))
           have G1 : Hid (Fr [X] w1 w2) := G0.out.grown hgrow1 (fun k hk => by simp [Value.ownBlock] at hk; subst hk; exact .inr (by omega))
           have B1 : Hid (Blk w2 X 99 [.slice (some ⟨g, 0, none⟩) (n + 1) cap]) := (KB.out.alloc _).grown hgrow1 (by simp [Value.ownBlock]; omega)
           have P1 : Hid (∀ k, (Value.slice A1 (0 + (n + 1)) cap1).ownBlock = some k → w1.heap.size ≤ k) := fun k hk => by
             rw [hk] at hat1
             rcases hat1 with h1 | h1
             · simp [Value.ownBlock] at h1; omega
             · simp at h1; omega)
        | (at_builtin
           refine wpList_append_all (by rfl) _ _ _ (by rfl) w1.heap.size 109 i0 _ 3 24 Try.underlying97 hi0 hz0 hz1 hz2 rfl (by omega) A1 cap1 (0 + (n + 1)) ([] ++ encVers (l' ++ [y])) (by first | rfl | simp [Act.eval]) (hown1.alloc _) (some ⟨w2.heap.size, 0, none⟩) 1 1 [.int .i64 t, .int .i64 v, .bool gone] (by rfl) (by rfl) (by simp) (fun ad had => by cases had; exact World.news_of_block (cs := #[.int .i64 t, .int .i64 v, .bool gone]) (t := 109) (fr := (0, 0)) (heap_alloc_new w2 _)) (by simp [Value.oneCell']) (by have := HN.out; unfold maxLen; omega) (by have := HN.out; omega) (Nat.le_trans G1.out.size (by simp)) ?_
           intro A3 cap3 w3 hown3 hgrow3 hat3
           have F3 : Hid (Fr [X] w1 w3) := (F1.out.alloc _).grown hgrow3 (fun k hk => .inr (Nat.le_trans FA.out.size (P1.out k hk)))
           have B3 : Hid (Blk w3 X 99 [.slice (some ⟨g, 0, none⟩) (n + 1) cap]) := (B1.out.alloc _).grown hgrow3 (fun hk => by have := P1.out X hk; omega)
           have d0 := B3.out.cell 0
           have e0 := B3.out.frozen 0
           simp only [List.getElem?_cons_zero] at d0
           have P3 : Hid (∀ k, (Value.slice A3 (0 + (n + 1) + 1) cap3).ownBlock = some k → w1.heap.size ≤ k) := fun k hk => by
             rw [hk] at hat3
             rcases hat3 with h1 | h1
             · exact P1.out k h1.symm
             · have := G1.out.size; simp at h1; omega))
      go_ret
      rw [Nat.zero_add] at hown3 P3
      refine ⟨by rfl, w1, A3, cap3, T1.out, P1w.out, ?_, ?_, F3.out.setCell (.inl (by simp)) _⟩
      · have := rcel_pushed (t := t) (v := v) (gone := gone) ML.out B3.out (by simpa using hown3)
        simpa [WR.out] using this
      · intro k hk
        rcases List.mem_cons.1 hk with rfl | hk
        · exact .inl (by simp)
        · refine .inr (Nat.le_trans FA.out.size (P3.out k ?_))
          have e : (Cel.written (l' ++ [y]) t v gone).length = (n + 1) + 1 := by rw [WR.out, List.length_append, ML.out]; rfl
          rw [e] at hk
          simpa using hk
    · have WR : Hid (Cel.written (l' ++ [y]) t v gone = l' ++ [⟨t, v, gone⟩]) := by show _ = _; simp [Cel.written, Cel.mine, hm]
      go_enter Try.func65, Try.ntmps65
      go_wp2_with fail
      refine HC.out.mono ?_
      rintro e w1 ⟨rfl, h1, h2⟩
      have T1 := hid h1
      have P1w := hid h2
      have H1 := hid (HH.out.tfr h1 (by decide))
      clear h1 h2 HC
      have hgw : g < w1.heap.size := own_lt H1.out.own rfl
      have hx := H1.out.blk.cell 0
      simp only [List.getElem?_cons_zero, List.length_append, List.length_singleton] at hx
      rw [HNL.out] at hx
      obtain ⟨c0, _, _⟩ := row_ver H1.out.own HLAST.out
      have hln := HLN.out
      have hcap := H1.out.capl
      rw [List.length_append, HNL.out, List.length_singleton] at hcap
      unfold maxLen at hcap
      have fX := H1.out.blk.frozen 0
      have hX := H1.out.blk.lt
      have FA : Hid (Fr [X] w1 (w1.setCell ⟨X, 0, none⟩ (.slice (some ⟨g, 0, none⟩) n cap))) := (Fr.refl _ _).setCell (.inl (by simp)) _
      have KB : Hid (Blk (w1.setCell ⟨X, 0, none⟩ (.slice (some ⟨g, 0, none⟩) n cap)) X 99 [.slice (some ⟨g, 0, none⟩) n cap]) := H1.out.blk.set_ 0 _
      have NO : Hid ((some ⟨g, 0, none⟩ : Option Addr) = none → n = 0) := fun e => by cases e
      have ML : Hid (l'.length = n) := HNL.out
      have LK : Hid ((encVers l').length = n * 3) := by show _ = _; rw [encVers_len, ML.out]
      have SRC : Hid (∀ w', Fr [X] (w1.setCell ⟨X, 0, none⟩ (.slice (some ⟨g, 0, none⟩) n cap)) w' → ∀ ad, (some ⟨g, 0, none⟩ : Option Addr) = some ad → ∀ j u, (encVers l')[j]? = some u → w'.cell? (ad.add j) = some u) := by
        intro w' hf ad had j u hu
        cases had
        have hj := (List.getElem?_eq_some_iff.1 hu).1
        rw [Addr.add_lit, Nat.zero_add]
        refine ((FA.out.trans_same hf).cell (p := ⟨g, j, none⟩) hgw (by simpa using HGX.out)).trans ((H1.out.own.cellAt j (by rw [LK.out] at hj; rw [List.length_append, HNL.out]; omega)).trans ?_)
        rw [encVers_append, List.getElem?_append_left hj, hu]
      have HN : Hid (n ≤ 1000000) := by show n ≤ 1000000; omega
      have hsz : (w1.setCell ⟨X, 0, none⟩ (.slice (some ⟨g, 0, none⟩) n cap)).heap.size = w1.heap.size := by simp
      have hx := KB.out.cell 0
      have f0 := KB.out.frozen 0
      have hX := KB.out.lt
      simp only [List.getElem?_cons_zero] at hx
      obtain ⟨HS, hHS⟩ : ∃ HS, (w1.setCell ⟨X, 0, none⟩ (.slice (some ⟨g, 0, none⟩) n cap)).heap.size = HS := ⟨_, rfl⟩
      have F0 : Hid (Fr [X] w1 ((w1.setCell ⟨X, 0, none⟩ (.slice (some ⟨g, 0, none⟩) n cap)).alloc (.cells #[] 109))) := FA.out.alloc _
      have G0 : Hid (Fr [X] (w1.setCell ⟨X, 0, none⟩ (.slice (some ⟨g, 0, none⟩) n cap)) ((w1.setCell ⟨X, 0, none⟩ (.slice (some ⟨g, 0, none⟩) n cap)).alloc (.cells #[] 109))) := (Fr.refl _ _).alloc _
      have O0 : Hid (((w1.setCell ⟨X, 0, none⟩ (.slice (some ⟨g, 0, none⟩) n cap)).alloc (.cells #[] 109)).ownsRow (w1.setCell ⟨X, 0, none⟩ (.slice (some ⟨g, 0, none⟩) n cap)).heap.size 109 3 (.slice (some ⟨(w1.setCell ⟨X, 0, none⟩ (.slice (some ⟨g, 0, none⟩) n cap)).heap.size, 0, none⟩) 0 0) 0 []) := own_empty (w1.setCell ⟨X, 0, none⟩ (.slice (some ⟨g, 0, none⟩) n cap)) (w1.setCell ⟨X, 0, none⟩ (.slice (some ⟨g, 0, none⟩) n cap)).heap.size (Nat.le_refl _) _
      obtain ⟨i0, hi0, hz0, hz1, hz2⟩ := info_parts info_rver
      have xx := (KB.out.alloc (.cells #[] 109)).cell 0
      simp only [List.getElem?_cons_zero] at xx
      clear f0
      go_wp2_with (first
        | (at_builtin
           refine wpList_append_all (by rfl) _ _ _ (by rfl) (w1.setCell ⟨X, 0, none⟩ (.slice (some ⟨g, 0, none⟩) n cap)).heap.size 109 i0 _ 3 24 Try.underlying97 hi0 hz0 hz1 hz2 rfl (by omega) (some ⟨(w1.setCell ⟨X, 0, none⟩ (.slice (some ⟨g, 0, none⟩) n cap)).heap.size, 0, none⟩) 0 0 [] (by first | rfl | simp [Act.eval]) O0.out (some ⟨g, 0, none⟩) n cap (encVers l') (by first | rfl | simp [Act.eval]) LK.out (by first | exact NO.out | simp) (SRC.out _ G0.out) (encVers_one _) (by have := HN.out; unfold maxLen; omega) (by have := HN.out; omega) (by simp) ?_
           intro A1 cap1 w2 hown1 hgrow1 hat1
           have F1 : Hid (Fr [X] w1 w2) := F0.out.grown hgrow1 (fun k hk => by simp [Value.ownBlock] at hk; subst hk; have := FA.out.size; exact .inr (by omega))
           have G1 : Hid (Fr [X] (w1.setCell ⟨X, 0, none⟩ (.slice (some ⟨g, 0, none⟩) n cap)) w2) := G0.out.grown hgrow1 (fun k hk => by simp [Value.ownBlock] at hk; subst hk; exact .inr (by omega))
           have B1 : Hid (Blk w2 X 99 [.slice (some ⟨g, 0, none⟩) n cap]) := (KB.out.alloc _).grown hgrow1 (by simp [Value.ownBlock]; omega)
           have P1 : Hid (∀ k, (Value.slice A1 (0 + n) cap1).ownBlock = some k → (w1.setCell ⟨X, 0, none⟩ (.slice (some ⟨g, 0, none⟩) n cap)).heap.size ≤ k) := fun k hk => by
             rw [hk] at hat1
             rcases hat1 with h1 | h1
             · simp [Value.ownBlock] at h1; omega
             · simp at h1; omega)
        | (at_builtin
           refine wpList_append_all (by rfl) _ _ _ (by rfl) (w1.setCell ⟨X, 0, none⟩ (.slice (some ⟨g, 0, none⟩) n cap)).heap.size 109 i0 _ 3 24 Try.underlying97 hi0 hz0 hz1 hz2 rfl (by omega) A1 cap1 (0 + n) ([] ++ encVers l') (by first | rfl | simp [Act.eval]) (hown1.alloc _) (some ⟨w2.heap.size, 0, none⟩) 1 1 [.int .i64 t, .int .i64 v, .bool gone] (by rfl) (by rfl) (by simp) (fun ad had => by cases had; exact World.news_of_block (cs := #[.int .i64 t, .int .i64 v, .bool gone]) (t := 109) (fr := (0, 0)) (heap_alloc_new w2 _)) (by simp [Value.oneCell']) (by have := HN.out; unfold maxLen; omega) (by have := HN.out; omega) (Nat.le_trans G1.out.size (by simp)) ?_
           intro A3 cap3 w3 hown3 hgrow3 hat3
           have F3 : Hid (Fr [X] w1 w3) := (F1.out.alloc _).grown hgrow3 (fun k hk => .inr (Nat.le_trans FA.out.size (P1.out k hk)))
           have B3 : Hid (Blk w3 X 99 [.slice (some ⟨g, 0, none⟩) n cap]) := (B1.out.alloc _).grown hgrow3 (fun hk => by have := P1.out X hk; omega)
           have d0 := B3.out.cell 0
           have e0 := B3.out.frozen 0
           simp only [List.getElem?_cons_zero] at d0
           have P3 : Hid (∀ k, (Value.slice A3 (0 + n + 1) cap3).ownBlock = some k → (w1.setCell ⟨X, 0, none⟩ (.slice (some ⟨g, 0, none⟩) n cap)).heap.size ≤ k) := fun k hk => by
             rw [hk] at hat3
             rcases hat3 with h1 | h1
             · exact P1.out k h1.symm
             · have := G1.out.size; simp at h1; omega))
      go_ret
      rw [Nat.zero_add] at hown3 P3
      refine ⟨by rfl, w1, A3, cap3, T1.out, P1w.out, ?_, ?_, F3.out.setCell (.inl (by simp)) _⟩
      · have := rcel_pushed (t := t) (v := v) (gone := gone) ML.out B3.out (by simpa using hown3)
        simpa [WR.out] using this
      · intro k hk
        rcases List.mem_cons.1 hk with rfl | hk
        · exact .inl (by simp)
        · refine .inr (Nat.le_trans FA.out.size (P3.out k ?_))
          have e : (Cel.written (l' ++ [y]) t v gone).length = n + 1 := by rw [WR.out, List.length_append, ML.out]; rfl
          rw [e] at hk
          simpa using hk
end Go.Proofs.Ytdgojfjaooindaa.Rcl
