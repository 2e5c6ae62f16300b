/-
  A drum in memory: its sectors as bytes. Len, lives, Read.
-/
import Derived.Deep.MidRow
import Derived.Laws.CopyOwn
import Derived.Laws.MakeOwn
import Derived.Test.YtdfkdgnhpdgphaaGreatDoorSkw3
namespace Go.Proofs.YtdfkdgnhpdgphaaGreatDoor
open Go.RowKit Go.Proofs.Lig

/-- n sectors' bytes, whole, in block G. -/
structure SecsIn (w : World) (G n : Nat) (bs : List Int) : Prop where
  blk : Blk w G 241 (u8s bs)
  len : bs.length = n * 64
  bytes : IsBytes bs
/-- A drum of n sectors lies in block D; G, M are its sectors' blocks; none of it lies below N. -/
structure Drm (w : World) (N D G M n : Nat) (good now : List Int) (wait : Value) (k : Nat) (ws : List Value) : Prop where
  blk : Blk w D 122 [.slice (some ⟨G, 0, none⟩) n n, .slice (some ⟨M, 0, none⟩) n n, wait, .bool false, .int .i64 (-1)]
  good : SecsIn w G n good
  now : SecsIn w M n now
  wait : w.ownsRow N 424 65 wait k ws
  dN : N ≤ D
  gN : N ≤ G
  mN : N ≤ M
  gm : G ≠ M
abbrev drmT : List TypeId := [122, 241, 424]
section
variable {w w' : World} {N D G M n : Nat} {good now : List Int} {wait : Value} {k : Nat} {ws : List Value}
set_option maxRecDepth 100000 in
theorem SecsIn.tfr {ts : List TypeId} {bs : List Int} (h : SecsIn w G n bs) (hf : TFr ts w w') (hd : 241 ∉ ts) : SecsIn w' G n bs := ⟨h.blk.tfr hf hd, h.len, h.bytes⟩
theorem Drm.tfr {ts : List TypeId} (h : Drm w N D G M n good now wait k ws) (hf : TFr ts w w') (hd : ∀ t ∈ drmT, t ∉ ts) : Drm w' N D G M n good now wait k ws :=
  ⟨h.blk.tfr hf (hd _ (by simp)), h.good.tfr hf (hd _ (by simp)), h.now.tfr hf (hd _ (by simp)), own_tfr h.wait hf (hd _ (by simp)), h.dN, h.gN, h.mN, h.gm⟩
set_option maxRecDepth 100000 in
theorem Drm.below (h : Drm w N D G M n good now wait k ws) (hb : Below w.heap.size w w') : Drm w' N D G M n good now wait k ws := h.tfr (ts := []) (.of_below hb) (by simp)

theorem Drm.onD (h : Drm w N D G M n good now wait k ws) {wait' : Value} {k' : Nat} {ws' : List Value} (hb : Blk w' D 122 [.slice (some ⟨G, 0, none⟩) n n, .slice (some ⟨M, 0, none⟩) n n, wait', .bool false, .int .i64 (-1)]) (hf : Fr [D] w w') (hw : w'.ownsRow N 424 65 wait' k' ws') : Drm w' N D G M n good now wait' k' ws' := by
  have hG : G ≠ D := fun e => by subst e; have := (h.blk.inj h.good.blk).1; cases this
  have hM : M ≠ D := fun e => by subst e; have := (h.blk.inj h.now.blk).1; cases this
  exact ⟨hb, ⟨h.good.blk.fr hf (by simpa using hG), h.good.len, h.good.bytes⟩, ⟨h.now.blk.fr hf (by simpa using hM), h.now.len, h.now.bytes⟩, hw, h.dN, h.gN, h.mN, h.gm⟩
set_option maxRecDepth 100000 in
theorem drum_len (h : Drm w N D G M n good now wait k ws) :
    Calls Tryz.prog 61 #[.pointer (some ⟨D, 0, none⟩)] w fun e w' => e = .returned (.int .i64 (n : Int)) ∧ w = w' := by
  have h1 := h.blk.cell 1
  simp only [List.getElem?_cons_zero, List.getElem?_cons_succ] at h1
  clear h
  go_enter Tryz.func61, Tryz.ntmps61
  go_wp2
  go_ret
  exact ⟨rfl, rfl⟩
set_option maxRecDepth 100000 in
theorem drum_lives (h : Drm w N D G M n good now wait k ws) :
    Calls Tryz.prog 324 #[.pointer (some ⟨D, 0, none⟩)] w fun e w' => e = .returned (.bool true) ∧ Drm w' N D G M n good now wait k ws ∧ Fr [D] w w' := by
  have h3 := h.blk.cell 3
  have h4 := h.blk.cell 4
  have f3 := h.blk.frozen 3
  have f4 := h.blk.frozen 4
  have hl := h.blk.lt
  simp only [List.getElem?_cons_zero, List.getElem?_cons_succ] at h3 h4
  have HH := hid h
  clear h
  go_enter Tryz.func324, Tryz.ntmps324
  go_wp2
  go_ret
  have hf : Fr [D] w ((w.setCell ⟨D, 3, none⟩ (.bool false)).setCell ⟨D, 4, none⟩ (.int .i64 (-1))) := ((Fr.refl _ _).setCell (.inl (by simp)) _).setCell (.inl (by simp)) _
  exact ⟨rfl, HH.out.onD ((HH.out.blk.set_ 3 (.bool false)).set_ 4 (.int .i64 (-1))) hf (own_fr HH.out.wait hf (fun q hq => by
    have := own_ne HH.out.wait HH.out.blk (by decide)
    intro hm
    have hm : q = D := by simpa using hm
    subst hm
    exact this hq)), hf⟩
/-- The bytes of the i-th sector. -/
def sec (bs : List Int) (i : Nat) : List Int := (bs.drop (i * 64)).take 64
set_option maxRecDepth 100000 in
theorem sec_len {bs : List Int} {n i : Nat} (h : bs.length = n * 64) (hi : i < n) : (sec bs i).length = 64 := by
  unfold sec
  rw [List.length_take, List.length_drop]
  omega
set_option maxRecDepth 100000 in
theorem SecsIn.cells {bs : List Int} (h : SecsIn w G n bs) {i : Nat} (hi : i < n) : ∀ j u, (u8s (sec bs i))[j]? = some u → w.cell? ⟨G, i * 64 + j, none⟩ = some u := fun j u hu => by
  have hj : j < 64 := by
    have := (List.getElem?_eq_some_iff.1 hu).1
    rw [u8s, List.length_map, sec_len h.len hi] at this
    exact this
  rw [h.blk.cell, ← hu]
  unfold u8s sec
  rw [List.getElem?_map, List.getElem?_map, List.getElem?_take_of_lt hj, List.getElem?_drop]
set_option maxRecDepth 100000 in
theorem drum_read (h : Drm w N D G M n good now wait k ws) (i : Nat) (hi : i < n) :
    Calls Tryz.prog 64 #[.pointer (some ⟨D, 0, none⟩), .int .i64 (i : Int)] w fun e w' => ∃ A' cap', e = .returned (.slice A' 64 cap') ∧ BRow w' w.heap.size A' cap' (sec now i) ∧ Below w.heap.size w w' := by
  have h1 := h.blk.cell 1
  simp only [List.getElem?_cons_zero, List.getElem?_cons_succ] at h1
  have HL := hid (drum_len h)
  have hs := sec_len h.now.len hi
  have HC : Hid (Calls Tryz.prog 142 #[.slice (some ⟨M, i * 64, none⟩) 64 64] w fun e w' => ∃ A' cap', e = .returned (.slice A' 64 cap') ∧ BRow w' w.heap.size A' cap' (sec now i) ∧ Below w.heap.size w w') := by
    have := clone_u8 w (some ⟨M, i * 64, none⟩) 64 (sec now i) (fun ad had => by
      cases had
      exact ⟨h.now.blk.lt, fun j u hu => by rw [Addr.add_mid]; exact h.now.cells hi j u hu⟩) (fun hq => by cases hq) (fun x hx => h.now.bytes x (List.mem_of_mem_drop (List.mem_of_mem_take hx))) (by omega)
    rw [hs] at this
    exact this
  have hi1 : (i : Int) < (n : Int) := by omega
  clear h hs
  go_enter Tryz.func64, Tryz.ntmps64
  go_wp2_with fail
  refine HL.out.mono ?_
  rintro e w1 ⟨rfl, rfl⟩
  go_wp2_with fail
  refine HC.out.mono ?_
  rintro e w2 ⟨A', cap', rfl, q2, b2⟩
  have Q2 := hid q2
  have B2 := hid b2
  clear q2 b2 HC HL
  go_wp2_with fail
  go_ret
  exact ⟨A', cap', rfl, Q2.out, B2.out⟩
end
end Go.Proofs.YtdfkdgnhpdgphaaGreatDoor

/-
  A drum: New.
-/
namespace Go.Proofs.YtdfkdgnhpdgphaaGreatDoor
open Go.RowKit Go.Proofs.Lig

set_option maxRecDepth 100000 in
theorem under_arr : Tryz.prog.underlying 241 = some (.array 64 5) := by kernel_rfl
theorem info_sec : (Tryz.prog.info? 241).map (fun i => (i.zero, i.size, i.bytes)) = some (some (.agg (Array.replicate 64 (.int .u8 0))), 64, 64) := by kernel_rfl
def noughts (n : Nat) : List Int := List.replicate (n * 64) 0
set_option maxRecDepth 100000 in
theorem noughts_len (n : Nat) : (noughts n).length = n * 64 := by simp [noughts]
theorem noughts_bytes (n : Nat) : IsBytes (noughts n) := fun x hx => by
  have := List.eq_of_mem_replicate hx
  omega
set_option maxRecDepth 100000 in
theorem made_noughts (n : Nat) : madeCells (Value.agg (Array.replicate 64 (.int .u8 0))).cells (n * 64) = (u8s (noughts n)).toArray := by
  apply Array.ext_getElem?
  intro i
  simp only [madeCells, Value.cells, u8s, noughts, List.map_replicate, List.getElem?_toArray, Array.getElem?_map, Array.size_replicate]
  by_cases hi : i < n * 64
  · have hm : i % 64 < 64 := Nat.mod_lt _ (by omega)
    rw [Array.getElem?_range, if_pos hi, List.getElem?_replicate, if_pos hi]
    simp only [Option.map_some, Option.some.injEq]
    rw [getElem!_pos _ _ (by simpa using hm)]
    simp
  · rw [Array.getElem?_range, if_neg hi, List.getElem?_replicate, if_neg hi]
    rfl
set_option maxRecDepth 100000 in
theorem make_secs (n : Nat) (hn : n ≤ 200) (w : World) : (Instr.makeSlice 119 (.int .i64 (n : Int)) (.int .i64 (n : Int))).run Tryz.prog w = .ok (.slice (some ⟨w.heap.size, 0, none⟩) n n) (w.alloc (.cells (u8s (noughts n)).toArray 241)) := by
  obtain ⟨i0, hi0, hz0, hz1, hz2⟩ := info_parts info_sec
  have := run_make (P := Tryz.prog) w 119 241 i0 _ Tryz.underlying119 hi0 hz0 .i64 .i64 (n : Int) (n : Int) (by omega) (Int.le_refl _) (by rw [hz2]; omega) (by omega)
  rw [this]
  simp only [Int.toNat_natCast, hz1, made_noughts]

set_option maxRecDepth 100000 in
theorem drm_made (w : World) (n G M : Nat) (h : (G = w.heap.size ∧ M = w.heap.size + 1) ∨ (G = w.heap.size + 1 ∧ M = w.heap.size)) :
    Drm (((w.alloc (.cells (u8s (noughts n)).toArray 241)).alloc (.cells (u8s (noughts n)).toArray 241)).alloc (.cells #[.slice (some ⟨G, 0, none⟩) n n, .slice (some ⟨M, 0, none⟩) n n, .slice none 0 0, .bool false, .int .i64 (-1)] 122)).drew w.heap.size (w.heap.size + 1 + 1) G M n (noughts n) (noughts n) (.slice none 0 0) 0 [] ∧
    Below w.heap.size w (((w.alloc (.cells (u8s (noughts n)).toArray 241)).alloc (.cells (u8s (noughts n)).toArray 241)).alloc (.cells #[.slice (some ⟨G, 0, none⟩) n n, .slice (some ⟨M, 0, none⟩) n n, .slice none 0 0, .bool false, .int .i64 (-1)] 122)).drew := by
  have b1 := ((Blk.new w 241 (u8s (noughts n))).alloc (.cells (u8s (noughts n)).toArray 241)).alloc (.cells #[.slice (some ⟨G, 0, none⟩) n n, .slice (some ⟨M, 0, none⟩) n n, .slice none 0 0, .bool false, .int .i64 (-1)] 122)
  have b2 := (Blk.new (w.alloc (.cells (u8s (noughts n)).toArray 241)) 241 (u8s (noughts n))).alloc (.cells #[.slice (some ⟨G, 0, none⟩) n n, .slice (some ⟨M, 0, none⟩) n n, .slice none 0 0, .bool false, .int .i64 (-1)] 122)
  have b3 := Blk.new ((w.alloc (.cells (u8s (noughts n)).toArray 241)).alloc (.cells (u8s (noughts n)).toArray 241)) 122 [.slice (some ⟨G, 0, none⟩) n n, .slice (some ⟨M, 0, none⟩) n n, .slice none 0 0, .bool false, .int .i64 (-1)]
  simp only [World.size_alloc] at b2 b3
  refine ⟨⟨b3.drew, ?_, ?_, World.ownsRow_nil _ _ _ _, by omega, by omega, by omega, by omega⟩, bdrewN ((((Below.refl _ w).alloc (Nat.le_refl _) _).alloc (by simp) _).alloc (by simp; omega) _) 1⟩
  · rcases h with ⟨rfl, _⟩ | ⟨rfl, _⟩
    · exact ⟨b1.drew, noughts_len n, noughts_bytes n⟩
    · exact ⟨b2.drew, noughts_len n, noughts_bytes n⟩
  · rcases h with ⟨_, rfl⟩ | ⟨_, rfl⟩
    · exact ⟨b2.drew, noughts_len n, noughts_bytes n⟩
    · exact ⟨b1.drew, noughts_len n, noughts_bytes n⟩

set_option maxHeartbeats 1000000 in
set_option maxRecDepth 100000 in
theorem drum_new (w : World) (n : Nat) (hn : n ≤ 200) :
    Calls Tryz.prog 17 #[.int .i64 (n : Int)] w fun e w' => ∃ D G M, e = .returned (.pointer (some ⟨D, 0, none⟩)) ∧ Drm w' w.heap.size D G M n (noughts n) (noughts n) (.slice none 0 0) 0 [] ∧ Below w.heap.size w w' := by
  have hmk := make_secs n hn
  have HN := hid hn
  obtain ⟨zs, hzs⟩ : ∃ zs, (u8s (noughts n)).toArray = zs := ⟨_, rfl⟩
  rw [hzs] at hmk
  have hn' : (n : Int) ≤ 200 := by omega
  go_enter Tryz.func17, Tryz.ntmps17
  go_wp2
  go_region
  all_goals
    go_wp2
    go_ret
    subst hzs
    first
      | exact ⟨_, w.heap.size, w.heap.size + 1, rfl, drm_made w n _ _ (.inl ⟨rfl, rfl⟩)⟩
      | exact ⟨_, w.heap.size + 1, w.heap.size, rfl, drm_made w n _ _ (.inr ⟨rfl, rfl⟩)⟩
end Go.Proofs.YtdfkdgnhpdgphaaGreatDoor
