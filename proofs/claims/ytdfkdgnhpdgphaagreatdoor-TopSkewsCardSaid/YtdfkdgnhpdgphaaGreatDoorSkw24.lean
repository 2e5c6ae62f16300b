/-
  A chain: New, at, Has, Walk, Add, over no list and over one list of one link.
-/
import Derived.Deep.AppendLies
import Derived.Test.YtdfkdgnhpdgphaaGreatDoorSkw22
import Derived.Test.YtdfkdgnhpdgphaaGreatDoorSkw1
namespace Go.Proofs.YtdfkdgnhpdgphaaGreatDoor
open Go.RowKit Go.Proofs.Lig

set_option maxRecDepth 100000 in
theorem zero_list (w : World) : (zeroValue 379).run Tryz.prog w = .ok (.pointer none) w := by kernel_rfl
theorem zero_link (w : World) : (zeroValue 381).run Tryz.prog w = .ok (.pointer none) w := by kernel_rfl
theorem chn_new (w : World) : Calls Tryz.prog 71 #[] w fun e w' => e = .returned (pt (w.heap.size + 1)) ∧ ChnS w' (w.heap.size + 1) [w.heap.size + 1, w.heap.size] none ∧ Below w.heap.size w w' := by
  have hmm := @run_makeMap Tryz.prog
  go_enter Tryz.func71, Tryz.ntmps71
  go_wp2
  go_ret
  have hb := Blk.new (w.alloc (.map #[] 0)) 246 [.map (some w.heap.size), .int .i64 0]
  rw [World.size_alloc] at hb
  refine ⟨rfl, ⟨w.heap.size, hb, ?_, rfl⟩, (below_alloc w _).alloc (by simp) _⟩
  exact (MapF.new w).tfr (ts := []) (.of_below (below_alloc _ _)) (by simp)
set_option maxRecDepth 100000 in
theorem chn_at (w : World) (X m : Nat) (n : Int) (f : List (Int × Value)) (hX : Blk w X 246 [.map (some m), .int .i64 n]) (hm : MapF w m f) (which : Int) (v : Value) (hv : (mget f which).getD (.pointer none) = v) :
    Calls Tryz.prog 280 #[pt X, .int .i64 which] w fun e w' => e = .returned v ∧ w = w' := by
  have c0 := hX.cell 0
  simp only [List.getElem?_cons_zero] at c0
  have HM := hid hm
  have HV := hid hv
  clear hX hm hv
  go_enter Tryz.func280, Tryz.ntmps280
  go_wp2_with (first
    | (at_lookup; refine wpList_lookup_f _ rfl _ _ 244 rfl 3 379 Tryz.underlying244 Tryz.underlying3 _ (zero_list _) m f rfl HM.out which rfl v HV.out ?_))
  go_ret
  exact ⟨rfl, rfl⟩
/-- Is an entry there? -/
def chnHas (D : Option (Int × Int)) (which id : Int) : Bool := match D with | none => false | some (a, b) => a == which && b == id
set_option maxRecDepth 100000 in
theorem chn_has (w : World) (X : Nat) (S : List Nat) (D : Option (Int × Int)) (h : ChnS w X S D) (which id : Int) (v : Bool) (hv : chnHas D which id = v) :
    Calls Tryz.prog 263 #[pt X, .int .i64 which, .int .i64 id] w fun e w' => e = .returned (.bool v) ∧ w = w' := by
  match D, h with
  | none, ⟨m, h1, h2, _⟩ =>
    have HA := hid (chn_at w X m 0 [] h1 h2 which _ rfl)
    obtain rfl : v = false := hv.symm
    clear h1 h2
    go_enter Tryz.func263, Tryz.ntmps263
    go_wp2_with fail
    refine HA.out.mono ?_
    rintro e w1 ⟨rfl, rfl⟩
    simp only [mget_nil, Option.getD_none]
    go_wp2_with fail
    go_ret
    exact ⟨rfl, rfl⟩
  | some (a, b), ⟨m, l, m2, x, h1, h2, h3, h4, h5, _⟩ =>
    have HA := hid (chn_at w X m 1 _ h1 h2 which _ rfl)
    have H4 := hid h4
    have c2 : w.cell? ⟨l, 2, none⟩ = some (.map (some m2)) := h3.cell 2
    have HV := hid hv
    clear h1 h2 h3 h4 h5 hv
    by_cases ha : a = which
    · subst ha
      have hg : (mget [(a, pt l)] a).getD (.pointer none) = pt l := by simp [mget_cons]
      have HG2 : Hid ((mget [(b, pt x)] id).getD (.pointer none) = if b == id then pt x else .pointer none) := by
        show _ = _
        rw [mget_cons]
        cases b == id <;> rfl
      rw [hg] at HA
      have hvb : (b == id) = v := by have := HV.out; simpa [chnHas] using this
      rw [hvb] at HG2
      clear hg HV hvb
      cases v
      all_goals
        go_enter Tryz.func263, Tryz.ntmps263
        go_wp2_with fail
        refine HA.out.mono ?_
        rintro e w1 ⟨rfl, rfl⟩
        have hl := run_lookup_f (P := Tryz.prog) Tryz.underlying380 Tryz.underlying3 (zero_link w) H4.out id _ HG2.out
        go_wp2_with fail
        go_ret
        exact ⟨rfl, rfl⟩
    · have hg : (mget [(a, pt l)] which).getD (.pointer none) = .pointer none := by
        have : (a == which) = false := by simpa using ha
        simp [mget_cons, this, mget_nil]
      rw [hg] at HA
      obtain rfl : v = false := by
        have := HV.out
        have h2 : (a == which) = false := by simpa using ha
        simp [chnHas, h2] at this
        exact this
      clear hg HV ha c2
      go_enter Tryz.func263, Tryz.ntmps263
      go_wp2_with fail
      refine HA.out.mono ?_
      rintro e w1 ⟨rfl, rfl⟩
      go_wp2_with fail
      go_ret
      exact ⟨rfl, rfl⟩
end Go.Proofs.YtdfkdgnhpdgphaaGreatDoor

/-
  A chain: Walk, Add.
-/
namespace Go.Proofs.YtdfkdgnhpdgphaaGreatDoor
open Go.RowKit Go.Proofs.Lig

set_option maxRecDepth 100000 in
theorem info_int : (Tryz.prog.info? 3).map (fun i => (i.zero, i.size, i.bytes)) = some (some (.int .i64 0), 1, 8) := by kernel_rfl
theorem chn_walk_none (w : World) (X : Nat) (S : List Nat) (D : Option (Int × Int)) (h : ChnS w X S D) (which : Int) (hw : ∀ a b, D = some (a, b) → a ≠ which) :
    Calls Tryz.prog 220 #[pt X, .int .i64 which] w fun e w' => e = .returned (.slice none 0 0) ∧ w = w' := by
  have HA : Hid (Calls Tryz.prog 280 #[pt X, .int .i64 which] w fun e w' => e = .returned (.pointer none) ∧ w = w') := by
    match D, h with
    | none, ⟨m, h1, h2, _⟩ => exact chn_at w X m 0 [] h1 h2 which _ rfl
    | some (a, b), ⟨m, l, m2, x, h1, h2, h3, h4, h5, _⟩ =>
      have : (a == which) = false := by simpa using hw a b rfl
      exact chn_at w X m 1 _ h1 h2 which _ (by simp [mget_cons, this, mget_nil])
  clear h hw
  go_enter Tryz.func220, Tryz.ntmps220
  go_wp2_with fail
  refine HA.out.mono ?_
  rintro e w1 ⟨rfl, rfl⟩
  go_wp2_with fail
  go_ret
  exact ⟨rfl, rfl⟩
set_option maxRecDepth 100000 in
theorem grown_b0 {w w' : World} {N : Nat} (hg : w.grownBy w' (Value.slice none 0 0).ownBlock) (hN : N ≤ w.heap.size := by simp) : Below N w w' :=
  ⟨hg.os, hg.tape, hg.output, hg.size, fun k hk => hg.block k (by omega) (by simp [Value.ownBlock])⟩
set_option maxHeartbeats 1000000 in
set_option maxRecDepth 100000 in
theorem chn_walk_one (w : World) (X : Nat) (S : List Nat) (a b : Int) (h : ChnS w X S (some (a, b))) :
    Calls Tryz.prog 220 #[pt X, .int .i64 a] w fun e w' => ∃ A cap, e = .returned (.slice A 1 cap) ∧ w'.ownsRow w.heap.size 3 1 (.slice A 1 cap) 1 [.int .i64 b] ∧ Below w.heap.size w w' := by
  obtain ⟨i0, hi0, hz0, hz1, hz2⟩ := info_parts info_int
  obtain ⟨m, l, m2, x, h1, h2, h3, h4, h5, _⟩ := h
  have HA := hid (chn_at w X m 1 _ h1 h2 a (pt l) (by simp [mget_cons]))
  have l0 : w.cell? ⟨l, 0, none⟩ = some (pt x) := h3.cell 0
  have HX := hid h5
  have hxl := h5.lt
  have hpos : 0 < 1 := by omega
  clear h1 h2 h3 h4 h5
  go_enter Tryz.func220, Tryz.ntmps220
  go_wp2_with fail
  refine HA.out.mono ?_
  rintro e w1 ⟨rfl, rfl⟩
  go_wp2_with fail
  clear l0
  go_loopw [6, 7] (fun o v wr => (o = .slice none 0 0 ∧ v = pt x ∧ w = wr) ∨ (∃ A cap, o = .slice A 1 cap ∧ v = .pointer none ∧ Hid (wr.ownsRow w.heap.size 3 1 (.slice A 1 cap) 1 [.int .i64 b]) ∧ Hid (Below w.heap.size w wr))) (fun _ v _ => match v with | .pointer (some _) => 1 | _ => 0)
  case atStart => exact .inl ⟨rfl, rfl, rfl⟩
  case round =>
    rcases hrel with ⟨rfl, rfl, rfl⟩ | ⟨A, cap, rfl, rfl, HR, HW⟩
    · have x0 : w.cell? ⟨x, 0, none⟩ = some (.int .i64 b) := HX.out.cell 0
      have HNEWS := hid (World.news_of_block (cs := #[.int .i64 b]) (t := 3) (heap_alloc_new w (.cells #[.int .i64 b] 3)))
      have HONE : Hid (∀ u ∈ [(.int .i64 b : Value)], u.oneCell' = true) := by
        intro u hu
        obtain rfl : u = .int .i64 b := by simpa using hu
        rfl
      go_wp2_with (first
        | (at_builtin
           refine wpList_append_all (by rfl) _ _ _ (by rfl) w.heap.size 3 i0 _ 1 8 Tryz.underlying31 hi0 hz0 hz1 hz2 rfl hpos none 0 0 [] (by first | rfl | simp [Act.eval]) (World.ownsRow_nil _ _ _ _) (some ⟨w.heap.size, 0, none⟩) 1 1 [.int .i64 b] (by first | rfl | simp [Act.eval]) (by rfl) (fun e => by cases e) (fun ad had => by cases had; exact HNEWS.out) HONE.out (by simp [maxLen]) (by simp) (by simp) ?_
           intro A1 cap1 w1 hown1 hgrow1 hat1
           have B1 := (below_alloc w (.cells #[.int .i64 b] 3)).trans (grown_b0 hgrow1)
           have x2 : w1.cell? ⟨x, 2, none⟩ = some (.pointer none) := (B1.cell (p := ⟨x, 2, none⟩) hxl).trans (HX.out.cell 2)))
      have HO1 := hid hown1
      have HB1 := hid B1
      clear hown1 hgrow1 hat1 B1 x0
      go_roundw
      case rel => exact .inr ⟨A1, cap1, rfl, rfl, HO1.out, HB1.out⟩
      case measure => simp
    · go_wp2_with fail
      go_ret
      exact ⟨A, cap, rfl, HR.out, HW.out⟩
end Go.Proofs.YtdfkdgnhpdgphaaGreatDoor

/-
  A chain: Add.
-/
namespace Go.Proofs.YtdfkdgnhpdgphaaGreatDoor
open Go.RowKit Go.Proofs.Lig

set_option maxRecDepth 100000 in
theorem chn_add_there (w : World) (X : Nat) (S : List Nat) (D : Option (Int × Int)) (h : ChnS w X S D) (which id : Int) (hv : chnHas D which id = true) :
    Calls Tryz.prog 193 #[pt X, .int .i64 which, .int .i64 id] w fun e w' => e = .returned (.bool false) ∧ w = w' := by
  have HH := hid (chn_has w X S D h which id true hv)
  clear h hv
  go_enter Tryz.func193, Tryz.ntmps193
  go_wp2_with fail
  refine HH.out.mono ?_
  rintro e w1 ⟨rfl, rfl⟩
  go_wp2_with fail
  go_ret
  exact ⟨rfl, rfl⟩
set_option maxHeartbeats 2000000 in
set_option maxRecDepth 100000 in
theorem chn_add_none (w : World) (X : Nat) (S : List Nat) (h : ChnS w X S none) (which id : Int) :
    Calls Tryz.prog 193 #[pt X, .int .i64 which, .int .i64 id] w fun e w' => e = .returned (.bool true) ∧ ∃ S', ChnS w' X S' (some (which, id)) ∧ Sub S' S w.heap.size ∧ Fr S w w' := by
  have HH := hid (chn_has w X S none h which id false rfl)
  obtain ⟨m, h1, h2, rfl⟩ := h
  have hmm := @run_makeMap Tryz.prog
  have c0 : w.cell? ⟨X, 0, none⟩ = some (.map (some m)) := h1.cell 0
  have H1 := hid h1
  have H2 := hid h2
  clear h1 h2
  go_enter Tryz.func193, Tryz.ntmps193
  go_wp2_with fail
  refine HH.out.mono ?_
  rintro e w1 ⟨rfl, rfl⟩
  have B1 := (below_alloc w (.map #[] 0)).alloc (o := .cells #[.pointer none, .pointer none, .map (some w.heap.size)] 383) (by simp)
  have hml := H2.out.lt
  have hXl := H1.out.lt
  have H12 := H1.out.below B1 hXl
  have H22 := H2.out.tfr (ts := []) (.of_below B1) (by simp)
  have M2 := (MapF.new w).tfr (ts := []) (.of_below (below_alloc (w.alloc (.map #[] 0)) (.cells #[.pointer none, .pointer none, .map (some w.heap.size)] 383))) (by simp)
  have L2 := Blk.new (w.alloc (.map #[] 0)) 383 [.pointer none, .pointer none, .map (some w.heap.size)]
  rw [World.size_alloc] at L2
  have c02 : ((w.alloc (.map #[] 0)).alloc (.cells #[.pointer none, .pointer none, .map (some w.heap.size)] 383)).cell? ⟨X, 0, none⟩ = some (.map (some m)) := H12.cell 0
  have H12 := hid H12
  have H22 := hid H22
  have M2 := hid M2
  have L2 := hid L2
  have B1 := hid B1
  go_wp2_with (first
    | (at_lookup; refine wpList_lookup_f _ rfl _ _ 244 rfl 3 379 Tryz.underlying244 Tryz.underlying3 _ (zero_list _) m [] rfl H2.out which rfl (.pointer none) rfl ?_)
    | (at_mapUpdate
       refine wpList_mapUpdate_new _ rfl _ _ _ 244 rfl 3 379 Tryz.underlying244 Tryz.underlying3 m [] rfl H22.out which rfl rfl ?_
       intro w3 hm3 hf3
       have L3 := L2.out.fr hf3 (by simp; omega)
       have X3 := H12.out.fr hf3 (by simpa using H22.out.ne H12.out)
       have M3 := M2.out.fr hf3 (by simp; omega)
       have l30 : w3.cell? ⟨w.heap.size + 1, 0, none⟩ = some (.pointer none) := L3.cell 0
       have lf0 := L3.frozen 0
       have lf1 := L3.frozen 1
       have ll3 := L3.lt
       have l31 : w3.cell? ⟨w.heap.size + 1, 1, none⟩ = some (.pointer none) := L3.cell 1
       have l32 : w3.cell? ⟨w.heap.size + 1, 2, none⟩ = some (.map (some w.heap.size)) := L3.cell 2
       have HL3 := hid L3
       have HX3 := hid X3
       have HM3 := hid M3
       have HM3' := hid hm3
       have HF3 := hid hf3
       have F5 : Fr [w.heap.size + 1] w3 (((w3.setCell ⟨w.heap.size + 1, 1, none⟩ (pt w3.heap.size)).setCell ⟨w.heap.size + 1, 0, none⟩ (pt w3.heap.size)).alloc (.cells #[.int .i64 id, .pointer none, .pointer none] 385)) := (((Fr.refl _ _).setCell (.inl (by simp)) _).setCell (.inl (by simp)) _).alloc _
       have HF5 := hid F5
       have M5 := hid (HM3.out.fr F5 (by simp))
       have M5' := hid (HM3'.out.fr F5 (by simp; omega))
       have X5 := hid (HX3.out.fr F5 (by simp; omega))
       have L5 := hid (((HL3.out.set_ 1 (pt w3.heap.size)).set_ 0 (pt w3.heap.size)).alloc (.cells #[.int .i64 id, .pointer none, .pointer none] 385))
       have Q5 : Hid (Blk (((w3.setCell ⟨w.heap.size + 1, 1, none⟩ (pt w3.heap.size)).setCell ⟨w.heap.size + 1, 0, none⟩ (pt w3.heap.size)).alloc (.cells #[.int .i64 id, .pointer none, .pointer none] 385)) w3.heap.size 385 [.int .i64 id, .pointer none, .pointer none]) := by
         have := Blk.new ((w3.setCell ⟨w.heap.size + 1, 1, none⟩ (pt w3.heap.size)).setCell ⟨w.heap.size + 1, 0, none⟩ (pt w3.heap.size)) 385 [.int .i64 id, .pointer none, .pointer none]
         show Blk _ _ _ _
         simpa using this
       clear L3 X3 M3 hm3 hf3 F5)
    | (refine wpList_mapEntry_new _ rfl _ _ 380 rfl 3 381 Tryz.underlying380 Tryz.underlying3 _ (zero_link _) w.heap.size [] rfl M5.out id rfl rfl ?_
       intro clk w6 he6 hf6
       have HE6 := hid he6
       have HF6 := hid hf6
       clear he6 hf6)
    | (refine wpList_entryStore_new _ rfl _ _ _ 380 rfl w.heap.size [] id clk HE6.out rfl rfl ?_
       intro w7 hm7 hf7
       have F7 := HF6.out.trans_same hf7
       have X7 := X5.out.fr F7 (by simp; omega)
       have x71 : w7.cell? ⟨X, 1, none⟩ = some (.int .i64 0) := X7.cell 1
       have xf1 := X7.frozen 1
       have xl7 := X7.lt
       have HM7 := hid hm7
       have HF7 := hid F7
       have HX7 := hid X7
       clear hm7 hf7 F7 X7))
  go_ret
  have hs3 : w.heap.size + 2 ≤ w3.heap.size := by
    have := HF3.out.size
    simp at this
    exact this
  have hXm : X ≠ m := H22.out.ne H12.out
  have m7 : MapF w7 m [(which, pt (w.heap.size + 1))] := M5'.out.fr HF7.out (by simp; omega)
  have q7 : MapF w7 w.heap.size [(id, pt w3.heap.size)] := HM7.out
  have l7 := L5.out.fr HF7.out (by simp)
  have x7 := Q5.out.fr HF7.out (by simp; omega)
  have F8 : Fr [X] w7 (w7.setCell ⟨X, 1, none⟩ (.int .i64 1)) := (Fr.refl _ _).setCell (.inl (by simp)) _
  refine ⟨rfl, _, ⟨m, w.heap.size + 1, w.heap.size, w3.heap.size, HX7.out.set_ 1 _, m7.fr F8 (by simpa using hXm.symm), l7.fr F8 (by simp; omega), q7.fr F8 (by simp; omega), x7.fr F8 (by simp; omega), rfl⟩, ?_, ?_⟩
  · intro k hk
    simp only [List.mem_cons, List.not_mem_nil, or_false] at hk ⊢
    omega
  · have f1 : Fr [X, m] w _ := Fr.of_below B1.out (Nat.le_refl _)
    have f3 := f1.trans HF3.out (fun k hk => .inl (by simp at hk ⊢; exact .inr hk))
    have f5 := f3.trans HF5.out (fun k hk => .inr (by simp at hk; omega))
    have f7 := f5.trans HF7.out (fun k hk => .inr (by simp at hk; omega))
    exact f7.trans F8 (fun k hk => .inl (by simp at hk ⊢; exact .inl hk))
end Go.Proofs.YtdfkdgnhpdgphaaGreatDoor
