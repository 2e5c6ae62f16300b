/-
  record: areWrites.
-/
import Derived.Test.YtdfkdgnhpdgphaaGreatDoorSkw30
import Derived.Test.YtdfkdgnhpdgphaaGreatDoorSkw29
import Derived.Test.YtdfkdgnhpdgphaaGreatDoorSkw3
namespace Go.Proofs.YtdfkdgnhpdgphaaGreatDoor
open Go.RowKit Go.Proofs.Lig
attribute [local go_sem] run_store_float

/-- Writes that may be read. -/
def WSrc (w : World) (A : Option Addr) (xs : List Wr) : Prop := ∀ j x, xs[j]? = some x → ∃ g, A = some ⟨g, 0, none⟩ ∧ g < w.heap.size ∧ ∀ k v, (encWr x)[k]? = some v → w.cell? ⟨g, j * 9 + k, none⟩ = some v
set_option maxRecDepth 100000 in
theorem WSrc.below {w w' : World} {A : Option Addr} {xs : List Wr} (h : WSrc w A xs) (hb : Below w.heap.size w w') : WSrc w' A xs := fun j x hx => by
  obtain ⟨g, h1, h2, h3⟩ := h j x hx
  exact ⟨g, h1, Nat.lt_of_lt_of_le h2 hb.size, fun k v hv => (hb.cell (p := ⟨g, j * 9 + k, none⟩) h2).trans (h3 k v hv)⟩
set_option maxRecDepth 100000 in
theorem encWrs_at (l : List Wr) (i : Nat) (x : Wr) (h : l[i]? = some x) : ∀ k v, (encWr x)[k]? = some v → (encWrs l)[i * 9 + k]? = some v := by
  induction l generalizing i with
  | nil => simp at h
  | cons y l ih =>
    intro k v hv
    cases i with
    | zero =>
      simp at h
      subst h
      show (encWr y ++ encWrs l)[_]? = _
      rw [Nat.zero_mul, Nat.zero_add, List.getElem?_append_left (List.getElem?_eq_some_iff.1 hv).1]
      exact hv
    | succ i =>
      have := ih i (by simpa using h) k v hv
      rw [← this]
      show (encWr y ++ encWrs l)[_]? = _
      rw [List.getElem?_append_right (by simp [encWr]; omega)]
      congr 1
      simp [encWr]
      omega
set_option maxRecDepth 100000 in
theorem WRow.toSrc {w : World} {N : Nat} {A : Option Addr} {cap : Nat} {xs : List Wr} (h : WRow w N A cap xs) : WSrc w A xs := fun j x hx => by
  have hj := (List.getElem?_eq_some_iff.1 hx).1
  obtain ⟨g, c, hv, _, hl⟩ := h.form (by omega)
  injection hv with e1 _ _
  subst e1
  refine ⟨g, rfl, hl, fun k v hk => ?_⟩
  have hk9 : k < 9 := (List.getElem?_eq_some_iff.1 hk).1
  exact (h.cellAt (j * 9 + k) (by omega)).trans (encWrs_at xs j x hx k v hk)
def wkeys (xs : List Wr) : List (Bool × Int) := xs.map fun x => (x.edge, x.id)

set_option maxHeartbeats 4000000 in
set_option maxRecDepth 100000 in
theorem areWrites_ok (w : World) (n m : Int) (A : Option Addr) (cap : Nat) (xs : List Wr) (h : WSrc w A xs) (hg : ∀ x ∈ xs, GoodW n m x) (hd : (wkeys xs).Nodup) (hx : xs.length ≤ 1000) (hn0 : 0 ≤ n) (hn : n ≤ 24) (hm0 : 0 ≤ m) (hm : m ≤ 32) :
    Calls Tryz.prog 115 #[.int .i64 n, .int .i64 m, .slice A xs.length cap] w fun e w' => e = .returned (.bool true) ∧ Below w.heap.size w w' := by
  have hmm := @run_makeMap Tryz.prog
  have HH := hid h
  have HG := hid hg
  have HD := hid hd
  have B1 := hid (below_alloc w (.map #[] 0))
  have M1 : Hid (MapS (w.alloc (.map #[] 0)) w.heap.size []) := ⟨#[], 0, heap_alloc_new w _, rfl⟩
  clear h hg hd
  go_enter Tryz.func115, Tryz.ntmps115
  go_wp2_with fail
  go_loopw [14] (fun v wr => ∃ j : Nat, j ≤ xs.length ∧ v = .int .i64 (j : Int) ∧ Hid (MapS wr w.heap.size (wkeys (xs.take j))) ∧ Hid (Below w.heap.size w wr)) (fun v _ => xs.length - (intOf v).toNat)
  case atStart => exact ⟨0, Nat.zero_le _, rfl, M1, B1⟩
  case round =>
    obtain ⟨j, hj, rfl, HMS, HW⟩ := hrel
    by_cases hlt : j < xs.length
    · obtain ⟨x, hxj⟩ : ∃ x, xs[j]? = some x := ⟨_, List.getElem?_eq_getElem hlt⟩
      obtain ⟨g, hA, hgl, hcs⟩ := (HH.out.below HW.out) j x hxj
      subst hA
      have HGX := hid (HG.out x (List.mem_of_getElem? hxj))
      have hnot : Hid ((x.edge, x.id) ∉ wkeys (xs.take j)) := by
        show _ ∉ _
        have hnd := HD.out
        have e : wkeys xs = wkeys (xs.take j) ++ (x.edge, x.id) :: wkeys (xs.drop (j + 1)) := by
          unfold wkeys
          conv => lhs; rw [← List.take_append_drop j xs, List.drop_eq_getElem_cons hlt]
          have : xs[j] = x := by have := List.getElem?_eq_getElem hlt; rw [hxj] at this; injection this with this; exact this.symm
          simp [this]
        rw [e, List.nodup_append] at hnd
        intro hm
        exact hnd.2.2 _ hm _ (List.mem_cons_self ..) rfl
      have hsn : Hid (wkeys (xs.take (j + 1)) = wkeys (xs.take j) ++ [(x.edge, x.id)]) := by
        show _ = _
        unfold wkeys
        rw [List.take_add_one, hxj]
        simp
      obtain ⟨edge, id, gone, v⟩ := x
      have c0 := hcs 0 _ rfl
      have c1 := hcs 1 _ rfl
      have c2 := hcs 2 _ rfl
      have c3 := hcs 3 _ rfl
      have c4 := hcs 4 _ rfl
      have c5 := hcs 5 _ rfl
      have c6 := hcs 6 _ rfl
      have c7 := hcs 7 _ rfl
      have c8 := hcs 8 _ rfl
      simp only [Nat.add_zero] at c0
      have hjI : (j : Int) < (xs.length : Int) := by omega
      have hj0 : (0 : Int) ≤ (j : Int) := by omega
      have B2 := (below_alloc wr (.cells #[.bool edge, .int .i64 id, .bool gone, .slice none 0 0, .slice none 0 0, .int .i64 v.src, .int .i64 v.dst, .string v.ty, .float .f64 v.w] 113)).alloc (by simp) (.cells #[.bool edge, .int .i64 id] 318)
      have K2 := (Blk.new wr 113 [.bool edge, .int .i64 id, .bool gone, .slice none 0 0, .slice none 0 0, .int .i64 v.src, .int .i64 v.dst, .string v.ty, .float .f64 v.w]).alloc (.cells #[.bool edge, .int .i64 id] 318)
      have HB2 := hid B2
      have HK2 := hid K2
      have MS2 := hid (HMS.out.below B2)
      have HIW := hid (fun W => isWrite_ok W n m ⟨edge, id, gone, v⟩ HGX.out (by omega) (by omega))
      clear hcs hxj B2 K2
      go_wp2_with (first
        | (at_lookup; refine wpList_lookup_s _ rfl _ _ rfl w.heap.size _ rfl MS2.out (edge, id) rfl hnot.out ?_)
        | (go_at_call 195
           refine (HIW.out _).mono ?_
           rintro e w3 ⟨rfl, b3⟩
           have K3 := HK2.out.below b3 HK2.out.lt
           have k30 : w3.cell? ⟨wr.heap.size, 0, none⟩ = some (.bool edge) := K3.cell 0
           have k31 : w3.cell? ⟨wr.heap.size, 1, none⟩ = some (.int .i64 id) := K3.cell 1
           have MS3 := hid (MS2.out.below b3)
           have HB3 := hid (bstep HB2.out (Nat.le_refl _) b3)
           clear b3 K3)
        | (at_mapUpdate
           refine wpList_update_s _ rfl _ _ _ rfl w.heap.size _ rfl MS3.out (edge, id) rfl hnot.out ?_
           intro w4 ms4 f4
           have MS4 := hid ms4
           have F4 := hid f4
           clear ms4 f4))
      have HB4 : Hid (Below w.heap.size w w4) := (HW.out.trans (HB3.out.mono HW.out.size)).trans (F4.out.below (Nat.le_trans HW.out.size HB3.out.size) (fun k hk => by
        obtain rfl : k = w.heap.size := by simpa using hk
        exact Nat.le_refl _))
      have MS5 : Hid (MapS w4 w.heap.size (wkeys (xs.take (j + 1)))) := by rw [hsn.out]; exact MS4
      go_roundw
      case rel => exact ⟨j + 1, by omega, by go_num, MS5, HB4⟩
      case measure => simp [intOf]; omega
    · obtain rfl : j = xs.length := by omega
      go_wp2_with fail
      refine (isIn_yes _ _ _ _ hn0 hn).mono ?_
      rintro e w3 ⟨rfl, rfl⟩
      go_wp2_with fail
      refine (isIn_yes _ _ _ _ hm0 hm).mono ?_
      rintro e w3 ⟨rfl, rfl⟩
      go_wp2_with fail
      go_ret
      exact ⟨rfl, HW.out⟩
end Go.Proofs.YtdfkdgnhpdgphaaGreatDoor

/-
  leb.Real: the key of one number behind bytes; record.laysNode of nothing.
-/
namespace Go.Proofs.YtdfkdgnhpdgphaaGreatDoor
open Go.RowKit Go.Proofs.Lig

set_option maxHeartbeats 2000000 in
set_option maxRecDepth 100000 in
theorem leb_real (w : World) (A : Option Addr) (cap : Nat) (xs : List Int) (L : Nat) (b : Nat) (hb : b = 0 ∨ b = one) (h : BSrc w A cap xs) (hL : L < w.heap.size ∧ w.cell? ⟨L, 0, none⟩ = some (.float .f64 b)) (hn : xs.length ≤ 100000) :
    Calls Tryz.prog 118 #[.slice A xs.length cap, .slice (some ⟨L, 0, none⟩) 1 1] w fun e w' => ∃ A' cap' ys, e = .returned (.slice A' ys.length cap') ∧ BRow w' w.heap.size A' cap' ys ∧ ys.length ≤ xs.length + 8 ∧ Below w.heap.size w w' := by
  obtain ⟨i0, hi0, hz0, hz1, hz2⟩ := info_parts info_u8
  have hpos : 0 < 1 := by omega
  have HC := hid (clone_u8 w A cap xs h.cells h.none_ h.bytes (by omega))
  have HL := hid hL
  have HN := hid hn
  have HBB := hid hb
  clear h hL hn hb
  go_enter Tryz.func118, Tryz.ntmps118
  go_wp2_with fail
  refine HC.out.mono ?_
  rintro e w1 ⟨A1, cap1, rfl, q1, b1⟩
  have Q1 := hid q1
  have B1 := hid b1
  clear q1 b1 HC
  go_wp2_with fail
  go_loopw [0, 13] (fun v i wr => ∃ (j : Nat) (A' : Option Addr) (cap' : Nat) (ys : List Int), j ≤ 1 ∧ i = .int .i64 (j : Int) ∧ v = .slice A' ys.length cap' ∧ ys.length ≤ xs.length + 8 * j ∧ Hid (BRow wr w.heap.size A' cap' ys) ∧ Hid (Below w.heap.size w wr)) (fun _ i _ => 1 - (intOf i).toNat)
  case atStart => exact ⟨0, A1, cap1, xs, by omega, rfl, rfl, by omega, Q1, B1⟩
  case round =>
    obtain ⟨j, A', cap', ys, hj, rfl, rfl, hy, HR, HW⟩ := hrel
    by_cases hlt : j < 1
    · obtain rfl : j = 0 := by omega
      have l0 : wr.cell? ⟨L, 0, none⟩ = some (.float .f64 b) := (HW.out.cell (p := ⟨L, 0, none⟩) HL.out.1).trans HL.out.2
      have HK := hid (key_of wr b HBB.out)
      go_wp2_with fail
      refine HK.out.mono ?_
      rintro e w2 ⟨rfl, rfl⟩
      go_wp2_with fail
      go_loopw [0, 19] (fun v i wq => ∃ (k : Nat) (A' : Option Addr) (cap' : Nat) (zs : List Int), k ≤ 8 ∧ i = .int .i64 (k : Int) ∧ v = .slice A' zs.length cap' ∧ zs.length ≤ xs.length + k ∧ Hid (BRow wq w.heap.size A' cap' zs) ∧ Hid (Below w.heap.size w wq)) (fun _ i _ => 8 - (intOf i).toNat)
      case atStart => exact ⟨0, A', cap', ys, by omega, rfl, rfl, by omega, HR, HW⟩
      case round =>
        clear HR HW l0
        obtain ⟨k, A', cap', zs, hk, rfl, rfl, hzl, HR, HW⟩ := hrel
        by_cases hlt8 : k < 8
        · have HBS : Hid (IsBytes (zs ++ [keyOfBits b / 2 ^ (8 * (7 - k)) % 256])) := HR.out.bytes.append (fun x hx => by
            have : x = keyOfBits b / 2 ^ (8 * (7 - k)) % 256 := by simpa using hx
            rw [this]
            omega)
          have HS : Hid (w.heap.size ≤ wr.heap.size) := HW.out.size
          have hzn : zs.length ≤ 100008 := by have := HN.out; omega
          go_wp2_with (first
            | (at_builtin
               refine wpList_append_all (by rfl) _ _ _ (by rfl) w.heap.size 5 i0 _ 1 1 Tryz.underlying81 hi0 hz0 hz1 hz2 rfl hpos A' cap' zs.length (u8s zs) (by first | rfl | simp [Act.eval]) (HR.out.own.alloc _) (some ⟨wr.heap.size, 0, none⟩) 1 1 (u8s [keyOfBits b / 2 ^ (8 * (7 - k)) % 256]) (by first | rfl | simp [Act.eval]) (by rfl) (fun e => by cases e) (fun ad had => by cases had; exact World.news_of_block (cs := #[.int .u8 (keyOfBits b / 2 ^ (8 * (7 - k)) % 256)]) (heap_alloc_new wr _)) (u8s_one _) (by unfold maxLen; omega) (by omega) (by have := HS.out; simp; omega) ?_
               intro A7 cap7 w7 hown7 hgrow7 hat7
               have B7 := hid (((Below.refl _ wr).alloc (Nat.le_refl _) (.cells #[.int .u8 (keyOfBits b / 2 ^ (8 * (7 - k)) % 256)] 5)).mono HS.out |>.trans (grown_below (HR.out.own.alloc _) (by have := HS.out; simp; omega) hgrow7))
               have R7 : Hid (BRow w7 w.heap.size A7 cap7 (zs ++ [keyOfBits b / 2 ^ (8 * (7 - k)) % 256])) := by
                 refine ⟨?_, HBS.out⟩
                 rw [u8s_append]
                 simpa using hown7
               clear hown7 hgrow7 hat7))
          go_roundw
          case rel => exact ⟨k + 1, A7, cap7, zs ++ [keyOfBits b / 2 ^ (8 * (7 - k)) % 256], by omega, by go_num, by simp, by simp; omega, R7, HW.out.trans B7.out⟩
          case measure => simp [intOf]; omega
        · obtain rfl : k = 8 := by omega
          go_wp2_with fail
          go_roundw
          case rel => exact ⟨1, A', cap', zs, by omega, by go_num, rfl, by omega, HR, HW⟩
          case measure => simp [intOf]
    · obtain rfl : j = 1 := by omega
      go_wp2_with fail
      go_ret
      exact ⟨A', cap', ys, rfl, HR.out, by omega, HW.out⟩
end Go.Proofs.YtdfkdgnhpdgphaaGreatDoor

/-
  record.laysNode of nothing.
-/
namespace Go.Proofs.YtdfkdgnhpdgphaaGreatDoor
open Go.RowKit Go.Proofs.Lig

set_option maxHeartbeats 4000000 in
set_option maxRecDepth 100000 in
theorem laysNode_bare (w : World) (A : Option Addr) (cap : Nat) (xs : List Int) (h : BSrc w A cap xs) (hn : xs.length ≤ 5000) :
    Calls Tryz.prog 120 #[.slice A xs.length cap, nodVal] w fun e w' => ∃ A' cap' ys, e = .returned (.slice A' ys.length cap') ∧ BRow w' w.heap.size A' cap' ys ∧ ys.length ≤ xs.length + 20 ∧ Below w.heap.size w w' := by
  have B0 := below_alloc w (.cells #[.slice none 0 0, .slice none 0 0] 35)
  have K0 := Blk.new w 35 [.slice none 0 0, .slice none 0 0]
  have HS0 : Hid ((w.alloc (.cells #[.slice none 0 0, .slice none 0 0] 35)).cell? ⟨w.heap.size, 0, none⟩ = some (.slice none 0 0) ∧ (w.alloc (.cells #[.slice none 0 0, .slice none 0 0] 35)).cell? ⟨w.heap.size, 1, none⟩ = some (.slice none 0 0)) := ⟨K0.cell 0, K0.cell 1⟩
  have KEEP : Hid (∀ W, Below (World.drew (w.alloc (.cells #[.slice none 0 0, .slice none 0 0] 35))).heap.size (World.drew (w.alloc (.cells #[.slice none 0 0, .slice none 0 0] 35))) W → W.cell? ⟨w.heap.size, 0, none⟩ = some (.slice none 0 0) ∧ W.cell? ⟨w.heap.size, 1, none⟩ = some (.slice none 0 0)) := fun W hW => ⟨(K0.drew.below hW K0.lt).cell 0, (K0.drew.below hW K0.lt).cell 1⟩
  have HA := hid (h.below (bstep0 B0 (below_drew _)))
  have DONE : Hid (∀ W, Below (World.drew (w.alloc (.cells #[.slice none 0 0, .slice none 0 0] 35))).heap.size (World.drew (w.alloc (.cells #[.slice none 0 0, .slice none 0 0] 35))) W → Below w.heap.size w W) := fun W hW => bstep (bstep0 B0 (below_drew _)) (Nat.le_refl _) hW
  clear B0 K0 h
  go_enter Tryz.func120, Tryz.ntmps120
  go_wp2_with fail
  -- REGION laysNode
  refine wp_region_held_drew (S := fun W => W.cell? ⟨w.heap.size, 0, none⟩ = some (.slice none 0 0) ∧ W.cell? ⟨w.heap.size, 1, none⟩ = some (.slice none 0 0)) (by kernel_rfl) (HS0.out) (fun hHeld => ?_)
  generalize World.drew _ = x0 at *
  refine wpAnyH_take (i := 0) (oi := { dst := some 7, op := Op.move (Operand.tmp 0), type := 81, pos := "record.go:137", after := #[], guard := none }) (v := ?_) rfl (by kernel_rfl) (by kernel_rfl) (by kernel_rfl) (fun _ _ _ h => h) (Or.inl ⟨by rfl, ?_⟩) hHeld ?_
  rotate_left
  · (intro W1 hSw; (try dsimp only at hSw); go_simp; first | done | (with_reducible rfl))
  try simp only [Act.put, List.setIfInBounds_toArray, List.set_cons_zero, List.set_cons_succ]
  refine wpAnyH_take (i := 1) (oi := { dst := some 8, op := Op.fieldAddr 35 (Operand.tmp 3) 0, type := 0, pos := "record.go:137", after := #[], guard := none }) (v := ?_) rfl (by kernel_rfl) (by kernel_rfl) (by kernel_rfl) (fun _ _ _ h => h) (Or.inl ⟨by rfl, ?_⟩) hHeld ?_
  rotate_left
  · (intro W1 hSw; (try dsimp only at hSw); go_simp; first | done | (with_reducible rfl))
  try simp only [Act.put, List.setIfInBounds_toArray, List.set_cons_zero, List.set_cons_succ]
  refine wpAnyH_take (i := 2) (oi := { dst := some 9, op := Op.load 32 (Operand.tmp 8), type := 32, pos := "record.go:137", after := #[{ on := 1, ground := Ground.data }], guard := none }) (v := ?_) rfl (by kernel_rfl) (by kernel_rfl) (by kernel_rfl) (fun _ _ _ h => h) (Or.inl ⟨by rfl, ?_⟩) hHeld ?_
  rotate_left
  · (intro W1 hSw; (try dsimp only at hSw); go_simp; first | done | (with_reducible rfl))
  try simp only [Act.put, List.setIfInBounds_toArray, List.set_cons_zero, List.set_cons_succ]
  refine wpAnyH_take (i := 3) (oi := { dst := some 10, op := Op.call { callee := Callee.builtin Builtin.len, args := #[Operand.tmp 9], argTypes := #[32] }, type := 3, pos := "record.go:137", after := #[{ on := 2, ground := Ground.data }], guard := none }) (v := ?_) rfl (by kernel_rfl) (by kernel_rfl) (by kernel_rfl) (fun _ _ _ h => h) (Or.inl ⟨by rfl, ?_⟩) hHeld ?_
  rotate_left
  · (intro W1 hSw; (try dsimp only at hSw); go_simp; first | done | (with_reducible rfl))
  try simp only [Act.put, List.setIfInBounds_toArray, List.set_cons_zero, List.set_cons_succ]
  refine wpAnyH_take (i := 6) (oi := { dst := some 13, op := Op.fieldAddr 35 (Operand.tmp 3) 0, type := 0, pos := "record.go:137", after := #[], guard := none }) (v := ?_) rfl (by kernel_rfl) (by kernel_rfl) (by kernel_rfl) (fun _ _ _ h => h) (Or.inl ⟨by rfl, ?_⟩) hHeld ?_
  rotate_left
  · (intro W1 hSw; (try dsimp only at hSw); go_simp; first | done | (with_reducible rfl))
  try simp only [Act.put, List.setIfInBounds_toArray, List.set_cons_zero, List.set_cons_succ]
  refine wpAnyH_take (i := 7) (oi := { dst := some 14, op := Op.load 32 (Operand.tmp 13), type := 32, pos := "record.go:137", after := #[{ on := 6, ground := Ground.data }], guard := none }) (v := ?_) rfl (by kernel_rfl) (by kernel_rfl) (by kernel_rfl) (fun _ _ _ h => h) (Or.inl ⟨by rfl, ?_⟩) hHeld ?_
  rotate_left
  · (intro W1 hSw; (try dsimp only at hSw); go_simp; first | done | (with_reducible rfl))
  try simp only [Act.put, List.setIfInBounds_toArray, List.set_cons_zero, List.set_cons_succ]
  refine wpAnyH_take (i := 9) (oi := { dst := some 16, op := Op.fieldAddr 35 (Operand.tmp 3) 1, type := 0, pos := "record.go:137", after := #[], guard := none }) (v := ?_) rfl (by kernel_rfl) (by kernel_rfl) (by kernel_rfl) (fun _ _ _ h => h) (Or.inl ⟨by rfl, ?_⟩) hHeld ?_
  rotate_left
  · (intro W1 hSw; (try dsimp only at hSw); go_simp; first | done | (with_reducible rfl))
  try simp only [Act.put, List.setIfInBounds_toArray, List.set_cons_zero, List.set_cons_succ]
  refine wpAnyH_take (i := 10) (oi := { dst := some 17, op := Op.load 33 (Operand.tmp 16), type := 33, pos := "record.go:137", after := #[{ on := 9, ground := Ground.data }], guard := none }) (v := ?_) rfl (by kernel_rfl) (by kernel_rfl) (by kernel_rfl) (fun _ _ _ h => h) (Or.inl ⟨by rfl, ?_⟩) hHeld ?_
  rotate_left
  · (intro W1 hSw; (try dsimp only at hSw); go_simp; first | done | (with_reducible rfl))
  try simp only [Act.put, List.setIfInBounds_toArray, List.set_cons_zero, List.set_cons_succ]
  refine wpAnyH_take (i := 11) (oi := { dst := some 18, op := Op.call { callee := Callee.builtin Builtin.len, args := #[Operand.tmp 17], argTypes := #[33] }, type := 3, pos := "record.go:137", after := #[{ on := 10, ground := Ground.data }], guard := none }) (v := ?_) rfl (by kernel_rfl) (by kernel_rfl) (by kernel_rfl) (fun _ _ _ h => h) (Or.inl ⟨by rfl, ?_⟩) hHeld ?_
  rotate_left
  · (intro W1 hSw; (try dsimp only at hSw); go_simp; first | done | (with_reducible rfl))
  try simp only [Act.put, List.setIfInBounds_toArray, List.set_cons_zero, List.set_cons_succ]
  refine wpAnyH_ready (rs := [4, 12]) (by kernel_rfl) (by simp) ?_
  refine AllReadyH.cons (o := { dst := some 11, op := Op.buildSlice 31 1 #[(0, Operand.tmp 10)], type := 31, pos := "record.go:137", after := #[{ on := 3, ground := Ground.data }], guard := none }) rfl (fun K hK => ?_) (AllReadyH.cons (o := { dst := some 19, op := Op.buildSlice 31 1 #[(0, Operand.tmp 18)], type := 31, pos := "record.go:137", after := #[{ on := 11, ground := Ground.data }], guard := none }) rfl (fun K hK => ?_) AllReadyH.nil)
  · rw [if_pos (by rfl)]
    go_simp
    have b1 := below_alloc x0 (.cells #[.int .i64 0] 3)
    have k4 := Blk.new x0 3 [.int .i64 0]
    refine hK.out _ _ (KEEP.out _ b1) (fun hHeld => ?_)
    generalize World.alloc x0 (.cells #[.int .i64 0] 3) = x1 at *
    clear hK K
    try simp only [Act.put, List.setIfInBounds_toArray, List.set_cons_zero, List.set_cons_succ]
    refine wpAnyH_ready (rs := [5, 12]) (by kernel_rfl) (by simp) ?_
    refine AllReadyH.cons (o := { dst := some 12, op := Op.call { callee := Callee.value (Operand.func 116), args := #[Operand.tmp 7, Operand.tmp 11], argTypes := #[81, 31] }, type := 81, pos := "record.go:137", after := #[{ on := 0, ground := Ground.data }, { on := 4, ground := Ground.data }], guard := none }) rfl (fun K hK => ?_) (AllReadyH.cons (o := { dst := some 19, op := Op.buildSlice 31 1 #[(0, Operand.tmp 18)], type := 31, pos := "record.go:137", after := #[{ on := 11, ground := Ground.data }], guard := none }) rfl (fun K hK => ?_) AllReadyH.nil)
    · rw [if_pos (by rfl)]
      go_simp
      go_at_call 116
      refine (leb_int x1 A cap xs (x0.heap.size) [0] (HA.out.below b1) (ints_one (k4.below (Below.refl _ _) k4.lt)) (by omega) (by simp)).mono ?_
      rintro e x2 ⟨A1, c1, ys, rfl, q1, hy1, b2⟩
      simp only [List.length_singleton] at hy1
      have s1 := q1.toSrc
      refine hK.out _ _ (KEEP.out _ (bstep0 b1 b2)) (fun hHeld => ?_)
      clear hK K
      try simp only [Act.put, List.setIfInBounds_toArray, List.set_cons_zero, List.set_cons_succ]
      refine wpAnyH_ready (rs := [8, 12]) (by kernel_rfl) (by simp) ?_
      refine AllReadyH.cons (o := { dst := some 15, op := Op.call { callee := Callee.value (Operand.func 119), args := #[Operand.tmp 12, Operand.tmp 14], argTypes := #[81, 32] }, type := 81, pos := "record.go:137", after := #[{ on := 5, ground := Ground.data }, { on := 7, ground := Ground.data }, { on := 5, ground := Ground.chain }], guard := none }) rfl (fun K hK => ?_) (AllReadyH.cons (o := { dst := some 19, op := Op.buildSlice 31 1 #[(0, Operand.tmp 18)], type := 31, pos := "record.go:137", after := #[{ on := 11, ground := Ground.data }], guard := none }) rfl (fun K hK => ?_) AllReadyH.nil)
      · rw [if_pos (by rfl)]
        go_simp
        go_at_call 119
        refine (leb_str x2 A1 c1 ys none 0 [] 0 (s1.below (Below.refl _ _)) (fun j s hj => by simp at hj) (by omega) (by simp) (by omega) (fun s hs => by simp at hs)).mono ?_
        rintro e x3 ⟨A2, c2, zs, rfl, q2, hy2, b3⟩
        simp only [List.length_nil, Nat.mul_zero, Nat.add_zero] at hy2
        have s2 := q2.toSrc
        refine hK.out _ _ (KEEP.out _ (bstep0 (bstep0 b1 b2) b3)) (fun hHeld => ?_)
        clear hK K
        try simp only [Act.put, List.setIfInBounds_toArray, List.set_cons_zero, List.set_cons_succ]
        refine wpAnyH_ready (rs := [12]) (by kernel_rfl) (by simp) ?_
        refine AllReadyH.cons (o := { dst := some 19, op := Op.buildSlice 31 1 #[(0, Operand.tmp 18)], type := 31, pos := "record.go:137", after := #[{ on := 11, ground := Ground.data }], guard := none }) rfl (fun K hK => ?_) AllReadyH.nil
        rw [if_pos (by rfl)]
        go_simp
        have b4 := below_alloc x3 (.cells #[.int .i64 0] 3)
        have k12 := Blk.new x3 3 [.int .i64 0]
        refine hK.out _ _ (KEEP.out _ (bstep0 (bstep0 (bstep0 b1 b2) b3) b4)) (fun hHeld => ?_)
        generalize World.alloc x3 (.cells #[.int .i64 0] 3) = x4 at *
        clear hK K
        try simp only [Act.put, List.setIfInBounds_toArray, List.set_cons_zero, List.set_cons_succ]
        refine wpAnyH_ready (rs := [13]) (by kernel_rfl) (by simp) ?_
        refine AllReadyH.cons (o := { dst := some 20, op := Op.call { callee := Callee.value (Operand.func 116), args := #[Operand.tmp 15, Operand.tmp 19], argTypes := #[81, 31] }, type := 81, pos := "record.go:137", after := #[{ on := 8, ground := Ground.data }, { on := 12, ground := Ground.data }, { on := 8, ground := Ground.chain }], guard := none }) rfl (fun K hK => ?_) AllReadyH.nil
        rw [if_pos (by rfl)]
        go_simp
        go_at_call 116
        refine (leb_int x4 A2 c2 zs (x3.heap.size) [0] (s2.below b4) (ints_one (k12.below (Below.refl _ _) k12.lt)) (by omega) (by simp)).mono ?_
        rintro e x5 ⟨A3, c3, us, rfl, q3, hy3, b5⟩
        simp only [List.length_singleton] at hy3
        refine hK.out _ _ (KEEP.out _ (bstep0 (bstep0 (bstep0 (bstep0 b1 b2) b3) b4) b5)) (fun hHeld => ?_)
        clear hK K
        try simp only [Act.put, List.setIfInBounds_toArray, List.set_cons_zero, List.set_cons_succ]
        refine wpAnyH_take (i := 14) (oi := { dst := some 0, op := Op.assign (Operand.tmp 20), type := 81, pos := "record.go:137", after := #[{ on := 13, ground := Ground.data }, { on := 13, ground := Ground.chain }, { on := 0, ground := Ground.phase }, { on := 1, ground := Ground.phase }, { on := 2, ground := Ground.phase }, { on := 3, ground := Ground.phase }, { on := 4, ground := Ground.phase }, { on := 5, ground := Ground.phase }, { on := 6, ground := Ground.phase }, { on := 7, ground := Ground.phase }, { on := 8, ground := Ground.phase }, { on := 9, ground := Ground.phase }, { on := 10, ground := Ground.phase }, { on := 11, ground := Ground.phase }, { on := 12, ground := Ground.phase }, { on := 13, ground := Ground.phase }], guard := none }) (v := ?_) rfl (by kernel_rfl) (by kernel_rfl) (by kernel_rfl) (fun _ _ _ h => h) (Or.inl ⟨by rfl, ?_⟩) hHeld ?_
        rotate_left
        · (intro W1 hSw; (try dsimp only at hSw); go_simp; first | done | (with_reducible rfl))
        try simp only [Act.put, List.setIfInBounds_toArray, List.set_cons_zero]
        refine wpAnyH_done (by kernel_rfl) ?_ _
        have v0 := hHeld.1
        have v1 := hHeld.2
        have BF := hid (DONE.out _ (bstep0 (bstep0 (bstep0 (bstep0 b1 b2) b3) b4) b5))
        have QF := hid (q3.low (DONE.out _ (bstep0 (bstep0 (bstep0 b1 b2) b3) b4)).size)
        have hyF : Hid (us.length ≤ xs.length + 20) := by show _ ≤ _; omega
        clear hHeld KEEP HS0 HA
        go_wp2_with fail
        go_loopw [0, 24] (fun v i wr => v = .slice A3 us.length c3 ∧ i = .int .i64 0 ∧ x5 = wr) (fun _ _ _ => 1)
        case atStart => exact ⟨rfl, rfl, rfl⟩
        case round =>
          obtain ⟨rfl, rfl, rfl⟩ := hrel
          go_wp2_with fail
          go_ret
          exact ⟨A3, c3, us, rfl, QF.out, hyF.out, BF.out⟩
      · rw [if_pos (by rfl)]
        go_simp
        have b3 := below_alloc x2 (.cells #[.int .i64 0] 3)
        have k12 := Blk.new x2 3 [.int .i64 0]
        refine hK.out _ _ (KEEP.out _ (bstep0 (bstep0 b1 b2) b3)) (fun hHeld => ?_)
        generalize World.alloc x2 (.cells #[.int .i64 0] 3) = x3 at *
        clear hK K
        try simp only [Act.put, List.setIfInBounds_toArray, List.set_cons_zero, List.set_cons_succ]
        refine wpAnyH_ready (rs := [8]) (by kernel_rfl) (by simp) ?_
        refine AllReadyH.cons (o := { dst := some 15, op := Op.call { callee := Callee.value (Operand.func 119), args := #[Operand.tmp 12, Operand.tmp 14], argTypes := #[81, 32] }, type := 81, pos := "record.go:137", after := #[{ on := 5, ground := Ground.data }, { on := 7, ground := Ground.data }, { on := 5, ground := Ground.chain }], guard := none }) rfl (fun K hK => ?_) AllReadyH.nil
        rw [if_pos (by rfl)]
        go_simp
        go_at_call 119
        refine (leb_str x3 A1 c1 ys none 0 [] 0 (s1.below b3) (fun j s hj => by simp at hj) (by omega) (by simp) (by omega) (fun s hs => by simp at hs)).mono ?_
        rintro e x4 ⟨A2, c2, zs, rfl, q2, hy2, b4⟩
        simp only [List.length_nil, Nat.mul_zero, Nat.add_zero] at hy2
        have s2 := q2.toSrc
        refine hK.out _ _ (KEEP.out _ (bstep0 (bstep0 (bstep0 b1 b2) b3) b4)) (fun hHeld => ?_)
        clear hK K
        try simp only [Act.put, List.setIfInBounds_toArray, List.set_cons_zero, List.set_cons_succ]
        refine wpAnyH_ready (rs := [13]) (by kernel_rfl) (by simp) ?_
        refine AllReadyH.cons (o := { dst := some 20, op := Op.call { callee := Callee.value (Operand.func 116), args := #[Operand.tmp 15, Operand.tmp 19], argTypes := #[81, 31] }, type := 81, pos := "record.go:137", after := #[{ on := 8, ground := Ground.data }, { on := 12, ground := Ground.data }, { on := 8, ground := Ground.chain }], guard := none }) rfl (fun K hK => ?_) AllReadyH.nil
        rw [if_pos (by rfl)]
        go_simp
        go_at_call 116
        refine (leb_int x4 A2 c2 zs (x2.heap.size) [0] (s2.below (Below.refl _ _)) (ints_one (k12.below b4 k12.lt)) (by omega) (by simp)).mono ?_
        rintro e x5 ⟨A3, c3, us, rfl, q3, hy3, b5⟩
        simp only [List.length_singleton] at hy3
        refine hK.out _ _ (KEEP.out _ (bstep0 (bstep0 (bstep0 (bstep0 b1 b2) b3) b4) b5)) (fun hHeld => ?_)
        clear hK K
        try simp only [Act.put, List.setIfInBounds_toArray, List.set_cons_zero, List.set_cons_succ]
        refine wpAnyH_take (i := 14) (oi := { dst := some 0, op := Op.assign (Operand.tmp 20), type := 81, pos := "record.go:137", after := #[{ on := 13, ground := Ground.data }, { on := 13, ground := Ground.chain }, { on := 0, ground := Ground.phase }, { on := 1, ground := Ground.phase }, { on := 2, ground := Ground.phase }, { on := 3, ground := Ground.phase }, { on := 4, ground := Ground.phase }, { on := 5, ground := Ground.phase }, { on := 6, ground := Ground.phase }, { on := 7, ground := Ground.phase }, { on := 8, ground := Ground.phase }, { on := 9, ground := Ground.phase }, { on := 10, ground := Ground.phase }, { on := 11, ground := Ground.phase }, { on := 12, ground := Ground.phase }, { on := 13, ground := Ground.phase }], guard := none }) (v := ?_) rfl (by kernel_rfl) (by kernel_rfl) (by kernel_rfl) (fun _ _ _ h => h) (Or.inl ⟨by rfl, ?_⟩) hHeld ?_
        rotate_left
        · (intro W1 hSw; (try dsimp only at hSw); go_simp; first | done | (with_reducible rfl))
        try simp only [Act.put, List.setIfInBounds_toArray, List.set_cons_zero]
        refine wpAnyH_done (by kernel_rfl) ?_ _
        have v0 := hHeld.1
        have v1 := hHeld.2
        have BF := hid (DONE.out _ (bstep0 (bstep0 (bstep0 (bstep0 b1 b2) b3) b4) b5))
        have QF := hid (q3.low (DONE.out _ (bstep0 (bstep0 (bstep0 b1 b2) b3) b4)).size)
        have hyF : Hid (us.length ≤ xs.length + 20) := by show _ ≤ _; omega
        clear hHeld KEEP HS0 HA
        go_wp2_with fail
        go_loopw [0, 24] (fun v i wr => v = .slice A3 us.length c3 ∧ i = .int .i64 0 ∧ x5 = wr) (fun _ _ _ => 1)
        case atStart => exact ⟨rfl, rfl, rfl⟩
        case round =>
          obtain ⟨rfl, rfl, rfl⟩ := hrel
          go_wp2_with fail
          go_ret
          exact ⟨A3, c3, us, rfl, QF.out, hyF.out, BF.out⟩
    · rw [if_pos (by rfl)]
      go_simp
      have b2 := below_alloc x1 (.cells #[.int .i64 0] 3)
      have k12 := Blk.new x1 3 [.int .i64 0]
      refine hK.out _ _ (KEEP.out _ (bstep0 b1 b2)) (fun hHeld => ?_)
      generalize World.alloc x1 (.cells #[.int .i64 0] 3) = x2 at *
      clear hK K
      try simp only [Act.put, List.setIfInBounds_toArray, List.set_cons_zero, List.set_cons_succ]
      refine wpAnyH_ready (rs := [5]) (by kernel_rfl) (by simp) ?_
      refine AllReadyH.cons (o := { dst := some 12, op := Op.call { callee := Callee.value (Operand.func 116), args := #[Operand.tmp 7, Operand.tmp 11], argTypes := #[81, 31] }, type := 81, pos := "record.go:137", after := #[{ on := 0, ground := Ground.data }, { on := 4, ground := Ground.data }], guard := none }) rfl (fun K hK => ?_) AllReadyH.nil
      rw [if_pos (by rfl)]
      go_simp
      go_at_call 116
      refine (leb_int x2 A cap xs (x0.heap.size) [0] (HA.out.below (bstep0 b1 b2)) (ints_one (k4.below b2 k4.lt)) (by omega) (by simp)).mono ?_
      rintro e x3 ⟨A1, c1, ys, rfl, q1, hy1, b3⟩
      simp only [List.length_singleton] at hy1
      have s1 := q1.toSrc
      refine hK.out _ _ (KEEP.out _ (bstep0 (bstep0 b1 b2) b3)) (fun hHeld => ?_)
      clear hK K
      try simp only [Act.put, List.setIfInBounds_toArray, List.set_cons_zero, List.set_cons_succ]
      refine wpAnyH_ready (rs := [8]) (by kernel_rfl) (by simp) ?_
      refine AllReadyH.cons (o := { dst := some 15, op := Op.call { callee := Callee.value (Operand.func 119), args := #[Operand.tmp 12, Operand.tmp 14], argTypes := #[81, 32] }, type := 81, pos := "record.go:137", after := #[{ on := 5, ground := Ground.data }, { on := 7, ground := Ground.data }, { on := 5, ground := Ground.chain }], guard := none }) rfl (fun K hK => ?_) AllReadyH.nil
      rw [if_pos (by rfl)]
      go_simp
      go_at_call 119
      refine (leb_str x3 A1 c1 ys none 0 [] 0 (s1.below (Below.refl _ _)) (fun j s hj => by simp at hj) (by omega) (by simp) (by omega) (fun s hs => by simp at hs)).mono ?_
      rintro e x4 ⟨A2, c2, zs, rfl, q2, hy2, b4⟩
      simp only [List.length_nil, Nat.mul_zero, Nat.add_zero] at hy2
      have s2 := q2.toSrc
      refine hK.out _ _ (KEEP.out _ (bstep0 (bstep0 (bstep0 b1 b2) b3) b4)) (fun hHeld => ?_)
      clear hK K
      try simp only [Act.put, List.setIfInBounds_toArray, List.set_cons_zero, List.set_cons_succ]
      refine wpAnyH_ready (rs := [13]) (by kernel_rfl) (by simp) ?_
      refine AllReadyH.cons (o := { dst := some 20, op := Op.call { callee := Callee.value (Operand.func 116), args := #[Operand.tmp 15, Operand.tmp 19], argTypes := #[81, 31] }, type := 81, pos := "record.go:137", after := #[{ on := 8, ground := Ground.data }, { on := 12, ground := Ground.data }, { on := 8, ground := Ground.chain }], guard := none }) rfl (fun K hK => ?_) AllReadyH.nil
      rw [if_pos (by rfl)]
      go_simp
      go_at_call 116
      refine (leb_int x4 A2 c2 zs (x1.heap.size) [0] (s2.below (Below.refl _ _)) (ints_one (k12.below (bstep0 b3 b4) k12.lt)) (by omega) (by simp)).mono ?_
      rintro e x5 ⟨A3, c3, us, rfl, q3, hy3, b5⟩
      simp only [List.length_singleton] at hy3
      refine hK.out _ _ (KEEP.out _ (bstep0 (bstep0 (bstep0 (bstep0 b1 b2) b3) b4) b5)) (fun hHeld => ?_)
      clear hK K
      try simp only [Act.put, List.setIfInBounds_toArray, List.set_cons_zero, List.set_cons_succ]
      refine wpAnyH_take (i := 14) (oi := { dst := some 0, op := Op.assign (Operand.tmp 20), type := 81, pos := "record.go:137", after := #[{ on := 13, ground := Ground.data }, { on := 13, ground := Ground.chain }, { on := 0, ground := Ground.phase }, { on := 1, ground := Ground.phase }, { on := 2, ground := Ground.phase }, { on := 3, ground := Ground.phase }, { on := 4, ground := Ground.phase }, { on := 5, ground := Ground.phase }, { on := 6, ground := Ground.phase }, { on := 7, ground := Ground.phase }, { on := 8, ground := Ground.phase }, { on := 9, ground := Ground.phase }, { on := 10, ground := Ground.phase }, { on := 11, ground := Ground.phase }, { on := 12, ground := Ground.phase }, { on := 13, ground := Ground.phase }], guard := none }) (v := ?_) rfl (by kernel_rfl) (by kernel_rfl) (by kernel_rfl) (fun _ _ _ h => h) (Or.inl ⟨by rfl, ?_⟩) hHeld ?_
      rotate_left
      · (intro W1 hSw; (try dsimp only at hSw); go_simp; first | done | (with_reducible rfl))
      try simp only [Act.put, List.setIfInBounds_toArray, List.set_cons_zero]
      refine wpAnyH_done (by kernel_rfl) ?_ _
      have v0 := hHeld.1
      have v1 := hHeld.2
      have BF := hid (DONE.out _ (bstep0 (bstep0 (bstep0 (bstep0 b1 b2) b3) b4) b5))
      have QF := hid (q3.low (DONE.out _ (bstep0 (bstep0 (bstep0 b1 b2) b3) b4)).size)
      have hyF : Hid (us.length ≤ xs.length + 20) := by show _ ≤ _; omega
      clear hHeld KEEP HS0 HA
      go_wp2_with fail
      go_loopw [0, 24] (fun v i wr => v = .slice A3 us.length c3 ∧ i = .int .i64 0 ∧ x5 = wr) (fun _ _ _ => 1)
      case atStart => exact ⟨rfl, rfl, rfl⟩
      case round =>
        obtain ⟨rfl, rfl, rfl⟩ := hrel
        go_wp2_with fail
        go_ret
        exact ⟨A3, c3, us, rfl, QF.out, hyF.out, BF.out⟩
  · rw [if_pos (by rfl)]
    go_simp
    have b1 := below_alloc x0 (.cells #[.int .i64 0] 3)
    have k12 := Blk.new x0 3 [.int .i64 0]
    refine hK.out _ _ (KEEP.out _ b1) (fun hHeld => ?_)
    generalize World.alloc x0 (.cells #[.int .i64 0] 3) = x1 at *
    clear hK K
    try simp only [Act.put, List.setIfInBounds_toArray, List.set_cons_zero, List.set_cons_succ]
    refine wpAnyH_ready (rs := [4]) (by kernel_rfl) (by simp) ?_
    refine AllReadyH.cons (o := { dst := some 11, op := Op.buildSlice 31 1 #[(0, Operand.tmp 10)], type := 31, pos := "record.go:137", after := #[{ on := 3, ground := Ground.data }], guard := none }) rfl (fun K hK => ?_) AllReadyH.nil
    rw [if_pos (by rfl)]
    go_simp
    have b2 := below_alloc x1 (.cells #[.int .i64 0] 3)
    have k4 := Blk.new x1 3 [.int .i64 0]
    refine hK.out _ _ (KEEP.out _ (bstep0 b1 b2)) (fun hHeld => ?_)
    generalize World.alloc x1 (.cells #[.int .i64 0] 3) = x2 at *
    clear hK K
    try simp only [Act.put, List.setIfInBounds_toArray, List.set_cons_zero, List.set_cons_succ]
    refine wpAnyH_ready (rs := [5]) (by kernel_rfl) (by simp) ?_
    refine AllReadyH.cons (o := { dst := some 12, op := Op.call { callee := Callee.value (Operand.func 116), args := #[Operand.tmp 7, Operand.tmp 11], argTypes := #[81, 31] }, type := 81, pos := "record.go:137", after := #[{ on := 0, ground := Ground.data }, { on := 4, ground := Ground.data }], guard := none }) rfl (fun K hK => ?_) AllReadyH.nil
    rw [if_pos (by rfl)]
    go_simp
    go_at_call 116
    refine (leb_int x2 A cap xs (x1.heap.size) [0] (HA.out.below (bstep0 b1 b2)) (ints_one (k4.below (Below.refl _ _) k4.lt)) (by omega) (by simp)).mono ?_
    rintro e x3 ⟨A1, c1, ys, rfl, q1, hy1, b3⟩
    simp only [List.length_singleton] at hy1
    have s1 := q1.toSrc
    refine hK.out _ _ (KEEP.out _ (bstep0 (bstep0 b1 b2) b3)) (fun hHeld => ?_)
    clear hK K
    try simp only [Act.put, List.setIfInBounds_toArray, List.set_cons_zero, List.set_cons_succ]
    refine wpAnyH_ready (rs := [8]) (by kernel_rfl) (by simp) ?_
    refine AllReadyH.cons (o := { dst := some 15, op := Op.call { callee := Callee.value (Operand.func 119), args := #[Operand.tmp 12, Operand.tmp 14], argTypes := #[81, 32] }, type := 81, pos := "record.go:137", after := #[{ on := 5, ground := Ground.data }, { on := 7, ground := Ground.data }, { on := 5, ground := Ground.chain }], guard := none }) rfl (fun K hK => ?_) AllReadyH.nil
    rw [if_pos (by rfl)]
    go_simp
    go_at_call 119
    refine (leb_str x3 A1 c1 ys none 0 [] 0 (s1.below (Below.refl _ _)) (fun j s hj => by simp at hj) (by omega) (by simp) (by omega) (fun s hs => by simp at hs)).mono ?_
    rintro e x4 ⟨A2, c2, zs, rfl, q2, hy2, b4⟩
    simp only [List.length_nil, Nat.mul_zero, Nat.add_zero] at hy2
    have s2 := q2.toSrc
    refine hK.out _ _ (KEEP.out _ (bstep0 (bstep0 (bstep0 b1 b2) b3) b4)) (fun hHeld => ?_)
    clear hK K
    try simp only [Act.put, List.setIfInBounds_toArray, List.set_cons_zero, List.set_cons_succ]
    refine wpAnyH_ready (rs := [13]) (by kernel_rfl) (by simp) ?_
    refine AllReadyH.cons (o := { dst := some 20, op := Op.call { callee := Callee.value (Operand.func 116), args := #[Operand.tmp 15, Operand.tmp 19], argTypes := #[81, 31] }, type := 81, pos := "record.go:137", after := #[{ on := 8, ground := Ground.data }, { on := 12, ground := Ground.data }, { on := 8, ground := Ground.chain }], guard := none }) rfl (fun K hK => ?_) AllReadyH.nil
    rw [if_pos (by rfl)]
    go_simp
    go_at_call 116
    refine (leb_int x4 A2 c2 zs (x0.heap.size) [0] (s2.below (Below.refl _ _)) (ints_one (k12.below (bstep0 (bstep0 b2 b3) b4) k12.lt)) (by omega) (by simp)).mono ?_
    rintro e x5 ⟨A3, c3, us, rfl, q3, hy3, b5⟩
    simp only [List.length_singleton] at hy3
    refine hK.out _ _ (KEEP.out _ (bstep0 (bstep0 (bstep0 (bstep0 b1 b2) b3) b4) b5)) (fun hHeld => ?_)
    clear hK K
    try simp only [Act.put, List.setIfInBounds_toArray, List.set_cons_zero, List.set_cons_succ]
    refine wpAnyH_take (i := 14) (oi := { dst := some 0, op := Op.assign (Operand.tmp 20), type := 81, pos := "record.go:137", after := #[{ on := 13, ground := Ground.data }, { on := 13, ground := Ground.chain }, { on := 0, ground := Ground.phase }, { on := 1, ground := Ground.phase }, { on := 2, ground := Ground.phase }, { on := 3, ground := Ground.phase }, { on := 4, ground := Ground.phase }, { on := 5, ground := Ground.phase }, { on := 6, ground := Ground.phase }, { on := 7, ground := Ground.phase }, { on := 8, ground := Ground.phase }, { on := 9, ground := Ground.phase }, { on := 10, ground := Ground.phase }, { on := 11, ground := Ground.phase }, { on := 12, ground := Ground.phase }, { on := 13, ground := Ground.phase }], guard := none }) (v := ?_) rfl (by kernel_rfl) (by kernel_rfl) (by kernel_rfl) (fun _ _ _ h => h) (Or.inl ⟨by rfl, ?_⟩) hHeld ?_
    rotate_left
    · (intro W1 hSw; (try dsimp only at hSw); go_simp; first | done | (with_reducible rfl))
    try simp only [Act.put, List.setIfInBounds_toArray, List.set_cons_zero]
    refine wpAnyH_done (by kernel_rfl) ?_ _
    have v0 := hHeld.1
    have v1 := hHeld.2
    have BF := hid (DONE.out _ (bstep0 (bstep0 (bstep0 (bstep0 b1 b2) b3) b4) b5))
    have QF := hid (q3.low (DONE.out _ (bstep0 (bstep0 (bstep0 b1 b2) b3) b4)).size)
    have hyF : Hid (us.length ≤ xs.length + 20) := by show _ ≤ _; omega
    clear hHeld KEEP HS0 HA
    go_wp2_with fail
    go_loopw [0, 24] (fun v i wr => v = .slice A3 us.length c3 ∧ i = .int .i64 0 ∧ x5 = wr) (fun _ _ _ => 1)
    case atStart => exact ⟨rfl, rfl, rfl⟩
    case round =>
      obtain ⟨rfl, rfl, rfl⟩ := hrel
      go_wp2_with fail
      go_ret
      exact ⟨A3, c3, us, rfl, QF.out, hyF.out, BF.out⟩
  -- END REGION laysNode
end Go.Proofs.YtdfkdgnhpdgphaaGreatDoor

/-
  record.Encode of the writes of bare nodes and edges.
-/
namespace Go.Proofs.YtdfkdgnhpdgphaaGreatDoor
open Go.RowKit Go.Proofs.Lig

attribute [local go_sem] run_store_float
set_option maxRecDepth 100000 in
theorem ints_three {w : World} {L : Nat} {n m k : Int} (h : Blk w L 3 [.int .i64 n, .int .i64 m, .int .i64 k]) : IntsIn w L [n, m, k] := ⟨h.lt, fun j q hj => by
  match j, hj with
  | 0, hj => simp at hj; subst hj; exact h.cell 0
  | 1, hj => simp at hj; subst hj; exact h.cell 1
  | 2, hj => simp at hj; subst hj; exact h.cell 2
  | j + 3, hj => simp at hj⟩
set_option maxRecDepth 100000 in
theorem number_no (w : World) : Calls Tryz.prog 117 #[.bool false] w fun e w' => e = .returned (.int .i64 0) ∧ Below w.heap.size w w' :=
  (number_of w false).mono fun _ _ h => ⟨h.1, h.2 ▸ Below.refl _ _⟩
theorem number_yes (w : World) : Calls Tryz.prog 117 #[.bool true] w fun e w' => e = .returned (.int .i64 1) ∧ Below w.heap.size w w' :=
  (number_of w true).mono fun _ _ h => ⟨h.1, h.2 ▸ Below.refl _ _⟩
set_option maxRecDepth 100000 in
theorem strs_one {w : World} {L : Nat} {s : ByteArray} (h : Blk w L 9 [.string s]) : StrsIn w (some ⟨L, 0, none⟩) [s] := fun j q hj => by
  match j, hj with
  | 0, hj => simp at hj; subst hj; exact ⟨L, 0, rfl, h.lt, h.cell 0⟩
  | j + 1, hj => simp at hj

set_option maxRecDepth 100000 in
set_option maxHeartbeats 16000000 in
theorem encode_ok (w : World) (n m : Int) (A : Option Addr) (cap : Nat) (xs : List Wr) (h : WSrc w A xs) (hg : ∀ x ∈ xs, GoodW n m x) (hd : (wkeys xs).Nodup) (hx : xs.length ≤ 40) (hn0 : 0 ≤ n) (hn : n ≤ 24) (hm0 : 0 ≤ m) (hm : m ≤ 32) :
    Calls Tryz.prog 53 #[.int .i64 n, .int .i64 m, .slice A xs.length cap] w fun e w' => ∃ A' cap' ys, e = .returned (.tuple #[.slice A' (List.length ys) cap', .int .i64 0]) ∧ BRow w' w.heap.size A' cap' ys ∧ ys.length ≤ 30 + 100 * xs.length ∧ Below w.heap.size w w' := by
  have HA := hid (areWrites_ok w n m A cap xs h hg hd (by omega) hn0 hn hm0 hm)
  have HH := hid h
  have HG := hid hg
  clear h hg hd
  go_enter Tryz.func53, Tryz.ntmps53
  go_wp2_with fail
  refine HA.out.mono ?_
  rintro e w1 ⟨rfl, B1⟩
  have HB1 := hid B1
  have B2 := below_alloc w1 (.cells #[.int .i64 n, .int .i64 m, .int .i64 (xs.length : Int)] 3)
  have K2 := Blk.new w1 3 [.int .i64 n, .int .i64 m, .int .i64 (xs.length : Int)]
  have HI := hid (ints_three K2)
  have HB2 := hid (bstep0 B1 B2)
  clear B1 B2 K2
  go_wp2_with fail
  refine (leb_int _ none 0 [] w1.heap.size [n, m, (xs.length : Int)] (bsrc_nil _) HI.out (by simp) (by simp)).mono ?_
  rintro e w2 ⟨A1, c1, ys1, rfl, q1, hy1, b3⟩
  have HR1 := hid (q1.low HB2.out.size)
  have HB3 := hid (bstep0 HB2.out b3)
  have HY1 : Hid (ys1.length ≤ 30) := by show _ ≤ _; simpa using hy1
  clear q1 hy1 b3
  go_wp2_with fail
  go_loopw [8, 24] (fun o v wr => ∃ (j : Nat) (A' : Option Addr) (cap' : Nat) (ys : List Int), j ≤ xs.length ∧ o = .slice A' ys.length cap' ∧ v = .int .i64 (j : Int) ∧ Hid (ys.length ≤ 30 + 100 * j) ∧ Hid (BRow wr w.heap.size A' cap' ys) ∧ Hid (Below w.heap.size w wr)) (fun _ v _ => xs.length - (intOf v).toNat)
  case atStart => exact ⟨0, A1, c1, ys1, Nat.zero_le _, rfl, rfl, HY1, HR1, HB3⟩
  case round =>
    obtain ⟨j, A0, cp, ys, hj, rfl, rfl, HY, HR, HW⟩ := hrel
    by_cases hlt : j < xs.length
    · obtain ⟨x, hxj⟩ : ∃ x, xs[j]? = some x := ⟨_, List.getElem?_eq_getElem hlt⟩
      obtain ⟨g, hA, hgl, hcs⟩ := (HH.out.below HW.out) j x hxj
      subst hA
      have HGX := hid (HG.out x (List.mem_of_getElem? hxj))
      have hyl : ys.length ≤ 4030 := by have := HY.out; omega
      obtain ⟨edge, id, gone, v⟩ := x
      have c0 := hcs 0 _ rfl
      have c1 := hcs 1 _ rfl
      have c2 := hcs 2 _ rfl
      have c3 := hcs 3 _ rfl
      have c4 := hcs 4 _ rfl
      have c5 := hcs 5 _ rfl
      have c6 := hcs 6 _ rfl
      have c7 := hcs 7 _ rfl
      have c8 := hcs 8 _ rfl
      simp only [Nat.add_zero] at c0
      have hjI : (j : Int) < (xs.length : Int) := by omega
      have hj0 : (0 : Int) ≤ (j : Int) := by omega
      have K0 := Blk.new wr 113 [.bool edge, .int .i64 id, .bool gone, .slice none 0 0, .slice none 0 0, .int .i64 v.src, .int .i64 v.dst, .string v.ty, .float .f64 v.w]
      have B0 := below_alloc wr (.cells #[.bool edge, .int .i64 id, .bool gone, .slice none 0 0, .slice none 0 0, .int .i64 v.src, .int .i64 v.dst, .string v.ty, .float .f64 v.w] 113)
      have HSS : Hid ((wr.alloc (.cells #[.bool edge, .int .i64 id, .bool gone, .slice none 0 0, .slice none 0 0, .int .i64 v.src, .int .i64 v.dst, .string v.ty, .float .f64 v.w] 113)).cell? ⟨wr.heap.size, 0, none⟩ = some (.bool edge) ∧ (wr.alloc (.cells #[.bool edge, .int .i64 id, .bool gone, .slice none 0 0, .slice none 0 0, .int .i64 v.src, .int .i64 v.dst, .string v.ty, .float .f64 v.w] 113)).cell? ⟨wr.heap.size, 1, none⟩ = some (.int .i64 id) ∧ (wr.alloc (.cells #[.bool edge, .int .i64 id, .bool gone, .slice none 0 0, .slice none 0 0, .int .i64 v.src, .int .i64 v.dst, .string v.ty, .float .f64 v.w] 113)).cell? ⟨wr.heap.size, 2, none⟩ = some (.bool gone) ∧ (wr.alloc (.cells #[.bool edge, .int .i64 id, .bool gone, .slice none 0 0, .slice none 0 0, .int .i64 v.src, .int .i64 v.dst, .string v.ty, .float .f64 v.w] 113)).cell? ⟨wr.heap.size, 3, none⟩ = some (.slice none 0 0) ∧ (wr.alloc (.cells #[.bool edge, .int .i64 id, .bool gone, .slice none 0 0, .slice none 0 0, .int .i64 v.src, .int .i64 v.dst, .string v.ty, .float .f64 v.w] 113)).cell? ⟨wr.heap.size, 4, none⟩ = some (.slice none 0 0) ∧ (wr.alloc (.cells #[.bool edge, .int .i64 id, .bool gone, .slice none 0 0, .slice none 0 0, .int .i64 v.src, .int .i64 v.dst, .string v.ty, .float .f64 v.w] 113)).cell? ⟨wr.heap.size, 5, none⟩ = some (.int .i64 v.src) ∧ (wr.alloc (.cells #[.bool edge, .int .i64 id, .bool gone, .slice none 0 0, .slice none 0 0, .int .i64 v.src, .int .i64 v.dst, .string v.ty, .float .f64 v.w] 113)).cell? ⟨wr.heap.size, 6, none⟩ = some (.int .i64 v.dst) ∧ (wr.alloc (.cells #[.bool edge, .int .i64 id, .bool gone, .slice none 0 0, .slice none 0 0, .int .i64 v.src, .int .i64 v.dst, .string v.ty, .float .f64 v.w] 113)).cell? ⟨wr.heap.size, 7, none⟩ = some (.string v.ty) ∧ (wr.alloc (.cells #[.bool edge, .int .i64 id, .bool gone, .slice none 0 0, .slice none 0 0, .int .i64 v.src, .int .i64 v.dst, .string v.ty, .float .f64 v.w] 113)).cell? ⟨wr.heap.size, 8, none⟩ = some (.float .f64 v.w)) := ⟨K0.cell 0, K0.cell 1, K0.cell 2, K0.cell 3, K0.cell 4, K0.cell 5, K0.cell 6, K0.cell 7, K0.cell 8⟩
      have KEEP : Hid (∀ W, Below (World.drew (wr.alloc (.cells #[.bool edge, .int .i64 id, .bool gone, .slice none 0 0, .slice none 0 0, .int .i64 v.src, .int .i64 v.dst, .string v.ty, .float .f64 v.w] 113))).heap.size (World.drew (wr.alloc (.cells #[.bool edge, .int .i64 id, .bool gone, .slice none 0 0, .slice none 0 0, .int .i64 v.src, .int .i64 v.dst, .string v.ty, .float .f64 v.w] 113))) W → (W).cell? ⟨wr.heap.size, 0, none⟩ = some (.bool edge) ∧ (W).cell? ⟨wr.heap.size, 1, none⟩ = some (.int .i64 id) ∧ (W).cell? ⟨wr.heap.size, 2, none⟩ = some (.bool gone) ∧ (W).cell? ⟨wr.heap.size, 3, none⟩ = some (.slice none 0 0) ∧ (W).cell? ⟨wr.heap.size, 4, none⟩ = some (.slice none 0 0) ∧ (W).cell? ⟨wr.heap.size, 5, none⟩ = some (.int .i64 v.src) ∧ (W).cell? ⟨wr.heap.size, 6, none⟩ = some (.int .i64 v.dst) ∧ (W).cell? ⟨wr.heap.size, 7, none⟩ = some (.string v.ty) ∧ (W).cell? ⟨wr.heap.size, 8, none⟩ = some (.float .f64 v.w)) := fun W hW => by
        have K1 := K0.drew.below hW K0.lt
        exact ⟨K1.cell 0, K1.cell 1, K1.cell 2, K1.cell 3, K1.cell 4, K1.cell 5, K1.cell 6, K1.cell 7, K1.cell 8⟩
      have DONE : Hid (∀ W, Below (World.drew (wr.alloc (.cells #[.bool edge, .int .i64 id, .bool gone, .slice none 0 0, .slice none 0 0, .int .i64 v.src, .int .i64 v.dst, .string v.ty, .float .f64 v.w] 113))).heap.size (World.drew (wr.alloc (.cells #[.bool edge, .int .i64 id, .bool gone, .slice none 0 0, .slice none 0 0, .int .i64 v.src, .int .i64 v.dst, .string v.ty, .float .f64 v.w] 113))) W → Below w.heap.size w W) := fun W hW => bstep0 HW.out (bstep0 (bstep0 B0 (below_drew _)) hW)
      have HSRC := hid (HR.out.toSrc.below (bstep0 B0 (below_drew _)))
      clear K0 B0 hcs hxj
      cases gone with
      | true =>
        obtain rfl : edge = false := by
          cases edge with
          | false => rfl
          | true => exact absurd (HGX.out.edge rfl).2.1 (by simp)
        go_wp2_with fail
        -- REGION gone
        refine wp_region_held_drew (S := fun W => (W).cell? ⟨wr.heap.size, 0, none⟩ = some (.bool false) ∧ (W).cell? ⟨wr.heap.size, 1, none⟩ = some (.int .i64 id) ∧ (W).cell? ⟨wr.heap.size, 2, none⟩ = some (.bool true) ∧ (W).cell? ⟨wr.heap.size, 3, none⟩ = some (.slice none 0 0) ∧ (W).cell? ⟨wr.heap.size, 4, none⟩ = some (.slice none 0 0) ∧ (W).cell? ⟨wr.heap.size, 5, none⟩ = some (.int .i64 v.src) ∧ (W).cell? ⟨wr.heap.size, 6, none⟩ = some (.int .i64 v.dst) ∧ (W).cell? ⟨wr.heap.size, 7, none⟩ = some (.string v.ty) ∧ (W).cell? ⟨wr.heap.size, 8, none⟩ = some (.float .f64 v.w)) (by kernel_rfl) (by exact HSS.out) (fun hHeld => ?_)
        generalize World.drew _ = x0 at *
        refine wpAnyH_take (i := 0) (oi := { dst := some 28, op := Op.move (Operand.tmp 8), type := 81, pos := "record.go:151", after := #[], guard := none }) (v := ?_) rfl (by kernel_rfl) (by kernel_rfl) (by kernel_rfl) (fun _ _ _ h => h) (Or.inl ⟨by rfl, ?_⟩) hHeld ?_
        rotate_left
        · (intro W1 hSw; (try dsimp only at hSw); go_simp; first | done | (with_reducible rfl))
        try simp only [Act.put, List.setIfInBounds_toArray, List.set_cons_zero, List.set_cons_succ]
        refine wpAnyH_take (i := 1) (oi := { dst := some 29, op := Op.fieldAddr 113 (Operand.tmp 10) 0, type := 0, pos := "record.go:151", after := #[], guard := none }) (v := ?_) rfl (by kernel_rfl) (by kernel_rfl) (by kernel_rfl) (fun _ _ _ h => h) (Or.inl ⟨by rfl, ?_⟩) hHeld ?_
        rotate_left
        · (intro W1 hSw; (try dsimp only at hSw); go_simp; first | done | (with_reducible rfl))
        try simp only [Act.put, List.setIfInBounds_toArray, List.set_cons_zero, List.set_cons_succ]
        refine wpAnyH_take (i := 2) (oi := { dst := some 30, op := Op.load 4 (Operand.tmp 29), type := 4, pos := "record.go:151", after := #[{ on := 1, ground := Ground.data }], guard := none }) (v := ?_) rfl (by kernel_rfl) (by kernel_rfl) (by kernel_rfl) (fun _ _ _ h => h) (Or.inl ⟨by rfl, ?_⟩) hHeld ?_
        rotate_left
        · (intro W1 hSw; (try dsimp only at hSw); go_simp; first | done | (with_reducible rfl))
        try simp only [Act.put, List.setIfInBounds_toArray, List.set_cons_zero, List.set_cons_succ]
        refine wpAnyH_take (i := 4) (oi := { dst := some 32, op := Op.fieldAddr 113 (Operand.tmp 10) 1, type := 0, pos := "record.go:151", after := #[], guard := none }) (v := ?_) rfl (by kernel_rfl) (by kernel_rfl) (by kernel_rfl) (fun _ _ _ h => h) (Or.inl ⟨by rfl, ?_⟩) hHeld ?_
        rotate_left
        · (intro W1 hSw; (try dsimp only at hSw); go_simp; first | done | (with_reducible rfl))
        try simp only [Act.put, List.setIfInBounds_toArray, List.set_cons_zero, List.set_cons_succ]
        refine wpAnyH_take (i := 5) (oi := { dst := some 33, op := Op.load 3 (Operand.tmp 32), type := 3, pos := "record.go:151", after := #[{ on := 4, ground := Ground.data }], guard := none }) (v := ?_) rfl (by kernel_rfl) (by kernel_rfl) (by kernel_rfl) (fun _ _ _ h => h) (Or.inl ⟨by rfl, ?_⟩) hHeld ?_
        rotate_left
        · (intro W1 hSw; (try dsimp only at hSw); go_simp; first | done | (with_reducible rfl))
        try simp only [Act.put, List.setIfInBounds_toArray, List.set_cons_zero, List.set_cons_succ]
        refine wpAnyH_take (i := 6) (oi := { dst := some 34, op := Op.fieldAddr 113 (Operand.tmp 10) 2, type := 0, pos := "record.go:151", after := #[], guard := none }) (v := ?_) rfl (by kernel_rfl) (by kernel_rfl) (by kernel_rfl) (fun _ _ _ h => h) (Or.inl ⟨by rfl, ?_⟩) hHeld ?_
        rotate_left
        · (intro W1 hSw; (try dsimp only at hSw); go_simp; first | done | (with_reducible rfl))
        try simp only [Act.put, List.setIfInBounds_toArray, List.set_cons_zero, List.set_cons_succ]
        refine wpAnyH_take (i := 7) (oi := { dst := some 35, op := Op.load 4 (Operand.tmp 34), type := 4, pos := "record.go:151", after := #[{ on := 6, ground := Ground.data }], guard := none }) (v := ?_) rfl (by kernel_rfl) (by kernel_rfl) (by kernel_rfl) (fun _ _ _ h => h) (Or.inl ⟨by rfl, ?_⟩) hHeld ?_
        rotate_left
        · (intro W1 hSw; (try dsimp only at hSw); go_simp; first | done | (with_reducible rfl))
        try simp only [Act.put, List.setIfInBounds_toArray, List.set_cons_zero, List.set_cons_succ]
        refine wpAnyH_ready (rs := [3]) (by kernel_rfl) (by simp) ?_
        refine AllReadyH.cons (o := { dst := some 31, op := Op.call { callee := Callee.value (Operand.func 117), args := #[Operand.tmp 30], argTypes := #[4] }, type := 3, pos := "record.go:151", after := #[{ on := 2, ground := Ground.data }], guard := none }) rfl (fun K hK => ?_) AllReadyH.nil
        rw [if_pos (by rfl)]
        go_simp
        go_at_call 117
        refine (number_no x0).mono ?_
        rintro e x1 ⟨rfl, b1⟩
        refine hK.out _ _ (KEEP.out _ b1) (fun hHeld => ?_)
        clear hK K
        try simp only [Act.put, List.setIfInBounds_toArray, List.set_cons_zero, List.set_cons_succ]
        refine wpAnyH_ready (rs := [8]) (by kernel_rfl) (by simp) ?_
        refine AllReadyH.cons (o := { dst := some 36, op := Op.call { callee := Callee.value (Operand.func 117), args := #[Operand.tmp 35], argTypes := #[4] }, type := 3, pos := "record.go:151", after := #[{ on := 7, ground := Ground.data }, { on := 3, ground := Ground.chain }], guard := none }) rfl (fun K hK => ?_) AllReadyH.nil
        rw [if_pos (by rfl)]
        go_simp
        go_at_call 117
        refine (number_yes x1).mono ?_
        rintro e x2 ⟨rfl, b2⟩
        refine hK.out _ _ (KEEP.out _ (bstep0 b1 b2)) (fun hHeld => ?_)
        clear hK K
        try simp only [Act.put, List.setIfInBounds_toArray, List.set_cons_zero, List.set_cons_succ]
        refine wpAnyH_ready (rs := [9]) (by kernel_rfl) (by simp) ?_
        refine AllReadyH.cons (o := { dst := some 37, op := Op.buildSlice 31 3 #[(0, Operand.tmp 31), (1, Operand.tmp 33), (2, Operand.tmp 36)], type := 31, pos := "record.go:151", after := #[{ on := 3, ground := Ground.data }, { on := 5, ground := Ground.data }, { on := 8, ground := Ground.data }], guard := none }) rfl (fun K hK => ?_) AllReadyH.nil
        rw [if_pos (by rfl)]
        go_simp
        have b3 := below_alloc x2 (.cells #[.int .i64 0, .int .i64 id, .int .i64 1] 3)
        have k9 := Blk.new x2 3 [.int .i64 0, .int .i64 id, .int .i64 1]
        refine hK.out _ _ (KEEP.out _ (bstep0 (bstep0 b1 b2) b3)) (fun hHeld => ?_)
        generalize World.alloc x2 (.cells #[.int .i64 0, .int .i64 id, .int .i64 1] 3) = x3 at *
        clear hK K
        try simp only [Act.put, List.setIfInBounds_toArray, List.set_cons_zero, List.set_cons_succ]
        refine wpAnyH_ready (rs := [10]) (by kernel_rfl) (by simp) ?_
        refine AllReadyH.cons (o := { dst := some 38, op := Op.call { callee := Callee.value (Operand.func 116), args := #[Operand.tmp 28, Operand.tmp 37], argTypes := #[81, 31] }, type := 81, pos := "record.go:151", after := #[{ on := 0, ground := Ground.data }, { on := 9, ground := Ground.data }, { on := 8, ground := Ground.chain }], guard := none }) rfl (fun K hK => ?_) AllReadyH.nil
        rw [if_pos (by rfl)]
        go_simp
        go_at_call 116
        refine (leb_int x3 A0 cp ys (x2.heap.size) [0, id, 1] (HSRC.out.below (bstep0 (bstep0 b1 b2) b3)) (ints_three (k9.below (Below.refl _ _) k9.lt)) (by omega) (by simp)).mono ?_
        rintro e x4 ⟨A2, c2, zs, rfl, q2, hy2, b4⟩
        simp only [List.length_cons, List.length_nil] at hy2
        refine hK.out _ _ (KEEP.out _ (bstep0 (bstep0 (bstep0 b1 b2) b3) b4)) (fun hHeld => ?_)
        clear hK K
        try simp only [Act.put, List.setIfInBounds_toArray, List.set_cons_zero, List.set_cons_succ]
        refine wpAnyH_take (i := 11) (oi := { dst := some 8, op := Op.assign (Operand.tmp 38), type := 81, pos := "record.go:151", after := #[{ on := 10, ground := Ground.data }, { on := 10, ground := Ground.chain }, { on := 0, ground := Ground.phase }, { on := 1, ground := Ground.phase }, { on := 2, ground := Ground.phase }, { on := 3, ground := Ground.phase }, { on := 4, ground := Ground.phase }, { on := 5, ground := Ground.phase }, { on := 6, ground := Ground.phase }, { on := 7, ground := Ground.phase }, { on := 8, ground := Ground.phase }, { on := 9, ground := Ground.phase }, { on := 10, ground := Ground.phase }], guard := none }) (v := ?_) rfl (by kernel_rfl) (by kernel_rfl) (by kernel_rfl) (fun _ _ _ h => h) (Or.inl ⟨by rfl, ?_⟩) hHeld ?_
        rotate_left
        · (intro W1 hSw; (try dsimp only at hSw); go_simp; first | done | (with_reducible rfl))
        try simp only [Act.put, List.setIfInBounds_toArray, List.set_cons_zero, List.set_cons_succ]
        refine wpAnyH_done (by kernel_rfl) ?_ _
        have BF := hid (DONE.out _ (bstep0 (bstep0 (bstep0 b1 b2) b3) b4))
        have QF := hid (q2.low (DONE.out _ (bstep0 (bstep0 b1 b2) b3)).size)
        have hyF : Hid (zs.length ≤ 30 + 100 * (j + 1)) := by show _ ≤ _; have := HY.out; omega
        have v0 := hHeld.1
        have v2 := hHeld.2.2.1
        clear hHeld KEEP HSS
        go_wp2_with fail
        go_roundw
        case rel => exact ⟨j + 1, A2, c2, zs, by omega, rfl, by go_num, hyF, QF, BF⟩
        case measure => simp [intOf]; omega
  -- END REGION gone
      | false =>
        cases edge with
        | false =>
          go_wp2_with fail
          -- REGION node
          refine wp_region_held_drew (S := fun W => (W).cell? ⟨wr.heap.size, 0, none⟩ = some (.bool false) ∧ (W).cell? ⟨wr.heap.size, 1, none⟩ = some (.int .i64 id) ∧ (W).cell? ⟨wr.heap.size, 2, none⟩ = some (.bool false) ∧ (W).cell? ⟨wr.heap.size, 3, none⟩ = some (.slice none 0 0) ∧ (W).cell? ⟨wr.heap.size, 4, none⟩ = some (.slice none 0 0) ∧ (W).cell? ⟨wr.heap.size, 5, none⟩ = some (.int .i64 v.src) ∧ (W).cell? ⟨wr.heap.size, 6, none⟩ = some (.int .i64 v.dst) ∧ (W).cell? ⟨wr.heap.size, 7, none⟩ = some (.string v.ty) ∧ (W).cell? ⟨wr.heap.size, 8, none⟩ = some (.float .f64 v.w)) (by kernel_rfl) (by exact HSS.out) (fun hHeld => ?_)
          generalize World.drew _ = x0 at *
          refine wpAnyH_take (i := 0) (oi := { dst := some 28, op := Op.move (Operand.tmp 8), type := 81, pos := "record.go:151", after := #[], guard := none }) (v := ?_) rfl (by kernel_rfl) (by kernel_rfl) (by kernel_rfl) (fun _ _ _ h => h) (Or.inl ⟨by rfl, ?_⟩) hHeld ?_
          rotate_left
          · (intro W1 hSw; (try dsimp only at hSw); go_simp; first | done | (with_reducible rfl))
          try simp only [Act.put, List.setIfInBounds_toArray, List.set_cons_zero, List.set_cons_succ]
          refine wpAnyH_take (i := 1) (oi := { dst := some 29, op := Op.fieldAddr 113 (Operand.tmp 10) 0, type := 0, pos := "record.go:151", after := #[], guard := none }) (v := ?_) rfl (by kernel_rfl) (by kernel_rfl) (by kernel_rfl) (fun _ _ _ h => h) (Or.inl ⟨by rfl, ?_⟩) hHeld ?_
          rotate_left
          · (intro W1 hSw; (try dsimp only at hSw); go_simp; first | done | (with_reducible rfl))
          try simp only [Act.put, List.setIfInBounds_toArray, List.set_cons_zero, List.set_cons_succ]
          refine wpAnyH_take (i := 2) (oi := { dst := some 30, op := Op.load 4 (Operand.tmp 29), type := 4, pos := "record.go:151", after := #[{ on := 1, ground := Ground.data }], guard := none }) (v := ?_) rfl (by kernel_rfl) (by kernel_rfl) (by kernel_rfl) (fun _ _ _ h => h) (Or.inl ⟨by rfl, ?_⟩) hHeld ?_
          rotate_left
          · (intro W1 hSw; (try dsimp only at hSw); go_simp; first | done | (with_reducible rfl))
          try simp only [Act.put, List.setIfInBounds_toArray, List.set_cons_zero, List.set_cons_succ]
          refine wpAnyH_take (i := 4) (oi := { dst := some 32, op := Op.fieldAddr 113 (Operand.tmp 10) 1, type := 0, pos := "record.go:151", after := #[], guard := none }) (v := ?_) rfl (by kernel_rfl) (by kernel_rfl) (by kernel_rfl) (fun _ _ _ h => h) (Or.inl ⟨by rfl, ?_⟩) hHeld ?_
          rotate_left
          · (intro W1 hSw; (try dsimp only at hSw); go_simp; first | done | (with_reducible rfl))
          try simp only [Act.put, List.setIfInBounds_toArray, List.set_cons_zero, List.set_cons_succ]
          refine wpAnyH_take (i := 5) (oi := { dst := some 33, op := Op.load 3 (Operand.tmp 32), type := 3, pos := "record.go:151", after := #[{ on := 4, ground := Ground.data }], guard := none }) (v := ?_) rfl (by kernel_rfl) (by kernel_rfl) (by kernel_rfl) (fun _ _ _ h => h) (Or.inl ⟨by rfl, ?_⟩) hHeld ?_
          rotate_left
          · (intro W1 hSw; (try dsimp only at hSw); go_simp; first | done | (with_reducible rfl))
          try simp only [Act.put, List.setIfInBounds_toArray, List.set_cons_zero, List.set_cons_succ]
          refine wpAnyH_take (i := 6) (oi := { dst := some 34, op := Op.fieldAddr 113 (Operand.tmp 10) 2, type := 0, pos := "record.go:151", after := #[], guard := none }) (v := ?_) rfl (by kernel_rfl) (by kernel_rfl) (by kernel_rfl) (fun _ _ _ h => h) (Or.inl ⟨by rfl, ?_⟩) hHeld ?_
          rotate_left
          · (intro W1 hSw; (try dsimp only at hSw); go_simp; first | done | (with_reducible rfl))
          try simp only [Act.put, List.setIfInBounds_toArray, List.set_cons_zero, List.set_cons_succ]
          refine wpAnyH_take (i := 7) (oi := { dst := some 35, op := Op.load 4 (Operand.tmp 34), type := 4, pos := "record.go:151", after := #[{ on := 6, ground := Ground.data }], guard := none }) (v := ?_) rfl (by kernel_rfl) (by kernel_rfl) (by kernel_rfl) (fun _ _ _ h => h) (Or.inl ⟨by rfl, ?_⟩) hHeld ?_
          rotate_left
          · (intro W1 hSw; (try dsimp only at hSw); go_simp; first | done | (with_reducible rfl))
          try simp only [Act.put, List.setIfInBounds_toArray, List.set_cons_zero, List.set_cons_succ]
          refine wpAnyH_ready (rs := [3]) (by kernel_rfl) (by simp) ?_
          refine AllReadyH.cons (o := { dst := some 31, op := Op.call { callee := Callee.value (Operand.func 117), args := #[Operand.tmp 30], argTypes := #[4] }, type := 3, pos := "record.go:151", after := #[{ on := 2, ground := Ground.data }], guard := none }) rfl (fun K hK => ?_) AllReadyH.nil
          rw [if_pos (by rfl)]
          go_simp
          go_at_call 117
          refine (number_no x0).mono ?_
          rintro e x1 ⟨rfl, b1⟩
          refine hK.out _ _ (KEEP.out _ b1) (fun hHeld => ?_)
          clear hK K
          try simp only [Act.put, List.setIfInBounds_toArray, List.set_cons_zero, List.set_cons_succ]
          refine wpAnyH_ready (rs := [8]) (by kernel_rfl) (by simp) ?_
          refine AllReadyH.cons (o := { dst := some 36, op := Op.call { callee := Callee.value (Operand.func 117), args := #[Operand.tmp 35], argTypes := #[4] }, type := 3, pos := "record.go:151", after := #[{ on := 7, ground := Ground.data }, { on := 3, ground := Ground.chain }], guard := none }) rfl (fun K hK => ?_) AllReadyH.nil
          rw [if_pos (by rfl)]
          go_simp
          go_at_call 117
          refine (number_no x1).mono ?_
          rintro e x2 ⟨rfl, b2⟩
          refine hK.out _ _ (KEEP.out _ (bstep0 b1 b2)) (fun hHeld => ?_)
          clear hK K
          try simp only [Act.put, List.setIfInBounds_toArray, List.set_cons_zero, List.set_cons_succ]
          refine wpAnyH_ready (rs := [9]) (by kernel_rfl) (by simp) ?_
          refine AllReadyH.cons (o := { dst := some 37, op := Op.buildSlice 31 3 #[(0, Operand.tmp 31), (1, Operand.tmp 33), (2, Operand.tmp 36)], type := 31, pos := "record.go:151", after := #[{ on := 3, ground := Ground.data }, { on := 5, ground := Ground.data }, { on := 8, ground := Ground.data }], guard := none }) rfl (fun K hK => ?_) AllReadyH.nil
          rw [if_pos (by rfl)]
          go_simp
          have b3 := below_alloc x2 (.cells #[.int .i64 0, .int .i64 id, .int .i64 0] 3)
          have k9 := Blk.new x2 3 [.int .i64 0, .int .i64 id, .int .i64 0]
          refine hK.out _ _ (KEEP.out _ (bstep0 (bstep0 b1 b2) b3)) (fun hHeld => ?_)
          generalize World.alloc x2 (.cells #[.int .i64 0, .int .i64 id, .int .i64 0] 3) = x3 at *
          clear hK K
          try simp only [Act.put, List.setIfInBounds_toArray, List.set_cons_zero, List.set_cons_succ]
          refine wpAnyH_ready (rs := [10]) (by kernel_rfl) (by simp) ?_
          refine AllReadyH.cons (o := { dst := some 38, op := Op.call { callee := Callee.value (Operand.func 116), args := #[Operand.tmp 28, Operand.tmp 37], argTypes := #[81, 31] }, type := 81, pos := "record.go:151", after := #[{ on := 0, ground := Ground.data }, { on := 9, ground := Ground.data }, { on := 8, ground := Ground.chain }], guard := none }) rfl (fun K hK => ?_) AllReadyH.nil
          rw [if_pos (by rfl)]
          go_simp
          go_at_call 116
          refine (leb_int x3 A0 cp ys (x2.heap.size) [0, id, 0] (HSRC.out.below (bstep0 (bstep0 b1 b2) b3)) (ints_three (k9.below (Below.refl _ _) k9.lt)) (by omega) (by simp)).mono ?_
          rintro e x4 ⟨A2, c2, zs, rfl, q2, hy2, b4⟩
          simp only [List.length_cons, List.length_nil] at hy2
          refine hK.out _ _ (KEEP.out _ (bstep0 (bstep0 (bstep0 b1 b2) b3) b4)) (fun hHeld => ?_)
          clear hK K
          try simp only [Act.put, List.setIfInBounds_toArray, List.set_cons_zero, List.set_cons_succ]
          refine wpAnyH_take (i := 11) (oi := { dst := some 8, op := Op.assign (Operand.tmp 38), type := 81, pos := "record.go:151", after := #[{ on := 10, ground := Ground.data }, { on := 10, ground := Ground.chain }, { on := 0, ground := Ground.phase }, { on := 1, ground := Ground.phase }, { on := 2, ground := Ground.phase }, { on := 3, ground := Ground.phase }, { on := 4, ground := Ground.phase }, { on := 5, ground := Ground.phase }, { on := 6, ground := Ground.phase }, { on := 7, ground := Ground.phase }, { on := 8, ground := Ground.phase }, { on := 9, ground := Ground.phase }, { on := 10, ground := Ground.phase }], guard := none }) (v := ?_) rfl (by kernel_rfl) (by kernel_rfl) (by kernel_rfl) (fun _ _ _ h => h) (Or.inl ⟨by rfl, ?_⟩) hHeld ?_
          rotate_left
          · (intro W1 hSw; (try dsimp only at hSw); go_simp; first | done | (with_reducible rfl))
          try simp only [Act.put, List.setIfInBounds_toArray, List.set_cons_zero, List.set_cons_succ]
          refine wpAnyH_done (by kernel_rfl) ?_ _
          have BF := hid (DONE.out _ (bstep0 (bstep0 (bstep0 b1 b2) b3) b4))
          have QS := hid q2.toSrc
          have hyF : Hid (zs.length ≤ 30 + 100 * j + 30) := by show _ ≤ _; have := HY.out; omega
          have v0 := hHeld.1
          have v2 := hHeld.2.2.1
          have v3 := hHeld.2.2.2.1
          have v4 := hHeld.2.2.2.2.1
          clear hHeld KEEP HSS
          go_wp2_with fail
          refine (laysNode_bare x4 A2 c2 zs QS.out (by have := hyF.out; omega)).mono ?_
          rintro e x5 ⟨A3, c3, us, rfl, q3, hy3, b5⟩
          have QF := hid (q3.low BF.out.size)
          have BG := hid (bstep0 BF.out b5)
          have hyG : Hid (us.length ≤ 30 + 100 * (j + 1)) := by show _ ≤ _; have := hyF.out; omega
          clear q3 b5
          go_wp2_with fail
          go_roundw
          case rel => exact ⟨j + 1, A3, c3, us, by omega, rfl, by go_num, hyG, QF, BG⟩
          case measure => simp [intOf]; omega
  -- END REGION node
        | true =>
          have HE := hid (HGX.out.edge rfl).2.2
          go_wp2_with fail
          -- REGION edge
          refine wp_region_held_drew (S := fun W => (W).cell? ⟨wr.heap.size, 0, none⟩ = some (.bool true) ∧ (W).cell? ⟨wr.heap.size, 1, none⟩ = some (.int .i64 id) ∧ (W).cell? ⟨wr.heap.size, 2, none⟩ = some (.bool false) ∧ (W).cell? ⟨wr.heap.size, 3, none⟩ = some (.slice none 0 0) ∧ (W).cell? ⟨wr.heap.size, 4, none⟩ = some (.slice none 0 0) ∧ (W).cell? ⟨wr.heap.size, 5, none⟩ = some (.int .i64 v.src) ∧ (W).cell? ⟨wr.heap.size, 6, none⟩ = some (.int .i64 v.dst) ∧ (W).cell? ⟨wr.heap.size, 7, none⟩ = some (.string v.ty) ∧ (W).cell? ⟨wr.heap.size, 8, none⟩ = some (.float .f64 v.w)) (by kernel_rfl) (by exact HSS.out) (fun hHeld => ?_)
          generalize World.drew _ = x0 at *
          refine wpAnyH_take (i := 0) (oi := { dst := some 28, op := Op.move (Operand.tmp 8), type := 81, pos := "record.go:151", after := #[], guard := none }) (v := ?_) rfl (by kernel_rfl) (by kernel_rfl) (by kernel_rfl) (fun _ _ _ h => h) (Or.inl ⟨by rfl, ?_⟩) hHeld ?_
          rotate_left
          · (intro W1 hSw; (try dsimp only at hSw); go_simp; first | done | (with_reducible rfl))
          try simp only [Act.put, List.setIfInBounds_toArray, List.set_cons_zero, List.set_cons_succ]
          refine wpAnyH_take (i := 1) (oi := { dst := some 29, op := Op.fieldAddr 113 (Operand.tmp 10) 0, type := 0, pos := "record.go:151", after := #[], guard := none }) (v := ?_) rfl (by kernel_rfl) (by kernel_rfl) (by kernel_rfl) (fun _ _ _ h => h) (Or.inl ⟨by rfl, ?_⟩) hHeld ?_
          rotate_left
          · (intro W1 hSw; (try dsimp only at hSw); go_simp; first | done | (with_reducible rfl))
          try simp only [Act.put, List.setIfInBounds_toArray, List.set_cons_zero, List.set_cons_succ]
          refine wpAnyH_take (i := 2) (oi := { dst := some 30, op := Op.load 4 (Operand.tmp 29), type := 4, pos := "record.go:151", after := #[{ on := 1, ground := Ground.data }], guard := none }) (v := ?_) rfl (by kernel_rfl) (by kernel_rfl) (by kernel_rfl) (fun _ _ _ h => h) (Or.inl ⟨by rfl, ?_⟩) hHeld ?_
          rotate_left
          · (intro W1 hSw; (try dsimp only at hSw); go_simp; first | done | (with_reducible rfl))
          try simp only [Act.put, List.setIfInBounds_toArray, List.set_cons_zero, List.set_cons_succ]
          refine wpAnyH_take (i := 4) (oi := { dst := some 32, op := Op.fieldAddr 113 (Operand.tmp 10) 1, type := 0, pos := "record.go:151", after := #[], guard := none }) (v := ?_) rfl (by kernel_rfl) (by kernel_rfl) (by kernel_rfl) (fun _ _ _ h => h) (Or.inl ⟨by rfl, ?_⟩) hHeld ?_
          rotate_left
          · (intro W1 hSw; (try dsimp only at hSw); go_simp; first | done | (with_reducible rfl))
          try simp only [Act.put, List.setIfInBounds_toArray, List.set_cons_zero, List.set_cons_succ]
          refine wpAnyH_take (i := 5) (oi := { dst := some 33, op := Op.load 3 (Operand.tmp 32), type := 3, pos := "record.go:151", after := #[{ on := 4, ground := Ground.data }], guard := none }) (v := ?_) rfl (by kernel_rfl) (by kernel_rfl) (by kernel_rfl) (fun _ _ _ h => h) (Or.inl ⟨by rfl, ?_⟩) hHeld ?_
          rotate_left
          · (intro W1 hSw; (try dsimp only at hSw); go_simp; first | done | (with_reducible rfl))
          try simp only [Act.put, List.setIfInBounds_toArray, List.set_cons_zero, List.set_cons_succ]
          refine wpAnyH_take (i := 6) (oi := { dst := some 34, op := Op.fieldAddr 113 (Operand.tmp 10) 2, type := 0, pos := "record.go:151", after := #[], guard := none }) (v := ?_) rfl (by kernel_rfl) (by kernel_rfl) (by kernel_rfl) (fun _ _ _ h => h) (Or.inl ⟨by rfl, ?_⟩) hHeld ?_
          rotate_left
          · (intro W1 hSw; (try dsimp only at hSw); go_simp; first | done | (with_reducible rfl))
          try simp only [Act.put, List.setIfInBounds_toArray, List.set_cons_zero, List.set_cons_succ]
          refine wpAnyH_take (i := 7) (oi := { dst := some 35, op := Op.load 4 (Operand.tmp 34), type := 4, pos := "record.go:151", after := #[{ on := 6, ground := Ground.data }], guard := none }) (v := ?_) rfl (by kernel_rfl) (by kernel_rfl) (by kernel_rfl) (fun _ _ _ h => h) (Or.inl ⟨by rfl, ?_⟩) hHeld ?_
          rotate_left
          · (intro W1 hSw; (try dsimp only at hSw); go_simp; first | done | (with_reducible rfl))
          try simp only [Act.put, List.setIfInBounds_toArray, List.set_cons_zero, List.set_cons_succ]
          refine wpAnyH_ready (rs := [3]) (by kernel_rfl) (by simp) ?_
          refine AllReadyH.cons (o := { dst := some 31, op := Op.call { callee := Callee.value (Operand.func 117), args := #[Operand.tmp 30], argTypes := #[4] }, type := 3, pos := "record.go:151", after := #[{ on := 2, ground := Ground.data }], guard := none }) rfl (fun K hK => ?_) AllReadyH.nil
          rw [if_pos (by rfl)]
          go_simp
          go_at_call 117
          refine (number_yes x0).mono ?_
          rintro e x1 ⟨rfl, b1⟩
          refine hK.out _ _ (KEEP.out _ b1) (fun hHeld => ?_)
          clear hK K
          try simp only [Act.put, List.setIfInBounds_toArray, List.set_cons_zero, List.set_cons_succ]
          refine wpAnyH_ready (rs := [8]) (by kernel_rfl) (by simp) ?_
          refine AllReadyH.cons (o := { dst := some 36, op := Op.call { callee := Callee.value (Operand.func 117), args := #[Operand.tmp 35], argTypes := #[4] }, type := 3, pos := "record.go:151", after := #[{ on := 7, ground := Ground.data }, { on := 3, ground := Ground.chain }], guard := none }) rfl (fun K hK => ?_) AllReadyH.nil
          rw [if_pos (by rfl)]
          go_simp
          go_at_call 117
          refine (number_no x1).mono ?_
          rintro e x2 ⟨rfl, b2⟩
          refine hK.out _ _ (KEEP.out _ (bstep0 b1 b2)) (fun hHeld => ?_)
          clear hK K
          try simp only [Act.put, List.setIfInBounds_toArray, List.set_cons_zero, List.set_cons_succ]
          refine wpAnyH_ready (rs := [9]) (by kernel_rfl) (by simp) ?_
          refine AllReadyH.cons (o := { dst := some 37, op := Op.buildSlice 31 3 #[(0, Operand.tmp 31), (1, Operand.tmp 33), (2, Operand.tmp 36)], type := 31, pos := "record.go:151", after := #[{ on := 3, ground := Ground.data }, { on := 5, ground := Ground.data }, { on := 8, ground := Ground.data }], guard := none }) rfl (fun K hK => ?_) AllReadyH.nil
          rw [if_pos (by rfl)]
          go_simp
          have b3 := below_alloc x2 (.cells #[.int .i64 1, .int .i64 id, .int .i64 0] 3)
          have k9 := Blk.new x2 3 [.int .i64 1, .int .i64 id, .int .i64 0]
          refine hK.out _ _ (KEEP.out _ (bstep0 (bstep0 b1 b2) b3)) (fun hHeld => ?_)
          generalize World.alloc x2 (.cells #[.int .i64 1, .int .i64 id, .int .i64 0] 3) = x3 at *
          clear hK K
          try simp only [Act.put, List.setIfInBounds_toArray, List.set_cons_zero, List.set_cons_succ]
          refine wpAnyH_ready (rs := [10]) (by kernel_rfl) (by simp) ?_
          refine AllReadyH.cons (o := { dst := some 38, op := Op.call { callee := Callee.value (Operand.func 116), args := #[Operand.tmp 28, Operand.tmp 37], argTypes := #[81, 31] }, type := 81, pos := "record.go:151", after := #[{ on := 0, ground := Ground.data }, { on := 9, ground := Ground.data }, { on := 8, ground := Ground.chain }], guard := none }) rfl (fun K hK => ?_) AllReadyH.nil
          rw [if_pos (by rfl)]
          go_simp
          go_at_call 116
          refine (leb_int x3 A0 cp ys (x2.heap.size) [1, id, 0] (HSRC.out.below (bstep0 (bstep0 b1 b2) b3)) (ints_three (k9.below (Below.refl _ _) k9.lt)) (by omega) (by simp)).mono ?_
          rintro e x4 ⟨A2, c2, zs, rfl, q2, hy2, b4⟩
          simp only [List.length_cons, List.length_nil] at hy2
          refine hK.out _ _ (KEEP.out _ (bstep0 (bstep0 (bstep0 b1 b2) b3) b4)) (fun hHeld => ?_)
          clear hK K
          try simp only [Act.put, List.setIfInBounds_toArray, List.set_cons_zero, List.set_cons_succ]
          refine wpAnyH_take (i := 11) (oi := { dst := some 8, op := Op.assign (Operand.tmp 38), type := 81, pos := "record.go:151", after := #[{ on := 10, ground := Ground.data }, { on := 10, ground := Ground.chain }, { on := 0, ground := Ground.phase }, { on := 1, ground := Ground.phase }, { on := 2, ground := Ground.phase }, { on := 3, ground := Ground.phase }, { on := 4, ground := Ground.phase }, { on := 5, ground := Ground.phase }, { on := 6, ground := Ground.phase }, { on := 7, ground := Ground.phase }, { on := 8, ground := Ground.phase }, { on := 9, ground := Ground.phase }, { on := 10, ground := Ground.phase }], guard := none }) (v := ?_) rfl (by kernel_rfl) (by kernel_rfl) (by kernel_rfl) (fun _ _ _ h => h) (Or.inl ⟨by rfl, ?_⟩) hHeld ?_
          rotate_left
          · (intro W1 hSw; (try dsimp only at hSw); go_simp; first | done | (with_reducible rfl))
          try simp only [Act.put, List.setIfInBounds_toArray, List.set_cons_zero, List.set_cons_succ]
          refine wpAnyH_done (by kernel_rfl) ?_ _
          have QS := hid (q2.toSrc.below (below_drew x4))
          have HS2 : Hid ((x4).cell? ⟨wr.heap.size, 0, none⟩ = some (.bool true) ∧ (x4).cell? ⟨wr.heap.size, 1, none⟩ = some (.int .i64 id) ∧ (x4).cell? ⟨wr.heap.size, 2, none⟩ = some (.bool false) ∧ (x4).cell? ⟨wr.heap.size, 3, none⟩ = some (.slice none 0 0) ∧ (x4).cell? ⟨wr.heap.size, 4, none⟩ = some (.slice none 0 0) ∧ (x4).cell? ⟨wr.heap.size, 5, none⟩ = some (.int .i64 v.src) ∧ (x4).cell? ⟨wr.heap.size, 6, none⟩ = some (.int .i64 v.dst) ∧ (x4).cell? ⟨wr.heap.size, 7, none⟩ = some (.string v.ty) ∧ (x4).cell? ⟨wr.heap.size, 8, none⟩ = some (.float .f64 v.w)) := hHeld
          have v0 := hHeld.1
          have v2 := hHeld.2.2.1
          have KEEP2 : Hid (∀ W, Below (World.drew x4).heap.size (World.drew x4) W → (W).cell? ⟨wr.heap.size, 0, none⟩ = some (.bool true) ∧ (W).cell? ⟨wr.heap.size, 1, none⟩ = some (.int .i64 id) ∧ (W).cell? ⟨wr.heap.size, 2, none⟩ = some (.bool false) ∧ (W).cell? ⟨wr.heap.size, 3, none⟩ = some (.slice none 0 0) ∧ (W).cell? ⟨wr.heap.size, 4, none⟩ = some (.slice none 0 0) ∧ (W).cell? ⟨wr.heap.size, 5, none⟩ = some (.int .i64 v.src) ∧ (W).cell? ⟨wr.heap.size, 6, none⟩ = some (.int .i64 v.dst) ∧ (W).cell? ⟨wr.heap.size, 7, none⟩ = some (.string v.ty) ∧ (W).cell? ⟨wr.heap.size, 8, none⟩ = some (.float .f64 v.w)) := fun W hW => KEEP.out _ (bstep0 (bstep0 (bstep0 (bstep0 (bstep0 b1 b2) b3) b4) (below_drew _)) hW)
          have DONE2 : Hid (∀ W, Below (World.drew x4).heap.size (World.drew x4) W → Below w.heap.size w W) := fun W hW => DONE.out _ (bstep0 (bstep0 (bstep0 (bstep0 (bstep0 b1 b2) b3) b4) (below_drew _)) hW)
          have HTY : Hid (∀ s ∈ [v.ty], s.size ≤ 1) := by
            show ∀ s ∈ [v.ty], s.size ≤ 1
            intro s hs
            obtain rfl : s = v.ty := by simpa using hs
            rw [HE.out.ty]; exact Nat.le_refl _
          have HVW : Hid (v.w = 0 ∨ v.w = one) := Or.inr HE.out.w
          clear hHeld KEEP HSS DONE
          go_wp2_with fail
          clear v0 v2
          refine wp_region_held_drew (S := fun W => (W).cell? ⟨wr.heap.size, 0, none⟩ = some (.bool true) ∧ (W).cell? ⟨wr.heap.size, 1, none⟩ = some (.int .i64 id) ∧ (W).cell? ⟨wr.heap.size, 2, none⟩ = some (.bool false) ∧ (W).cell? ⟨wr.heap.size, 3, none⟩ = some (.slice none 0 0) ∧ (W).cell? ⟨wr.heap.size, 4, none⟩ = some (.slice none 0 0) ∧ (W).cell? ⟨wr.heap.size, 5, none⟩ = some (.int .i64 v.src) ∧ (W).cell? ⟨wr.heap.size, 6, none⟩ = some (.int .i64 v.dst) ∧ (W).cell? ⟨wr.heap.size, 7, none⟩ = some (.string v.ty) ∧ (W).cell? ⟨wr.heap.size, 8, none⟩ = some (.float .f64 v.w)) (by kernel_rfl) (by exact HS2.out) (fun hHeld => ?_)
          generalize World.drew x4 = y0 at *
          refine wpAnyH_take (i := 0) (oi := { dst := some 49, op := Op.move (Operand.tmp 8), type := 81, pos := "record.go:155", after := #[], guard := none }) (v := ?_) rfl (by kernel_rfl) (by kernel_rfl) (by kernel_rfl) (fun _ _ _ h => h) (Or.inl ⟨by rfl, ?_⟩) hHeld ?_
          rotate_left
          · (intro W1 hSw; (try dsimp only at hSw); go_simp; first | done | (with_reducible rfl))
          try simp only [Act.put, List.setIfInBounds_toArray, List.set_cons_zero, List.set_cons_succ]
          refine wpAnyH_take (i := 1) (oi := { dst := some 50, op := Op.fieldAddr 113 (Operand.tmp 10) 4, type := 0, pos := "record.go:155", after := #[], guard := none }) (v := ?_) rfl (by kernel_rfl) (by kernel_rfl) (by kernel_rfl) (fun _ _ _ h => h) (Or.inl ⟨by rfl, ?_⟩) hHeld ?_
          rotate_left
          · (intro W1 hSw; (try dsimp only at hSw); go_simp; first | done | (with_reducible rfl))
          try simp only [Act.put, List.setIfInBounds_toArray, List.set_cons_zero, List.set_cons_succ]
          refine wpAnyH_take (i := 2) (oi := { dst := some 51, op := Op.fieldAddr 38 (Operand.tmp 50) 0, type := 0, pos := "record.go:155", after := #[{ on := 1, ground := Ground.data }], guard := none }) (v := ?_) rfl (by kernel_rfl) (by kernel_rfl) (by kernel_rfl) (fun _ _ _ h => h) (Or.inl ⟨by rfl, ?_⟩) hHeld ?_
          rotate_left
          · (intro W1 hSw; (try dsimp only at hSw); go_simp; first | done | (with_reducible rfl))
          try simp only [Act.put, List.setIfInBounds_toArray, List.set_cons_zero, List.set_cons_succ]
          refine wpAnyH_take (i := 3) (oi := { dst := some 52, op := Op.load 3 (Operand.tmp 51), type := 3, pos := "record.go:155", after := #[{ on := 2, ground := Ground.data }], guard := none }) (v := ?_) rfl (by kernel_rfl) (by kernel_rfl) (by kernel_rfl) (fun _ _ _ h => h) (Or.inl ⟨by rfl, ?_⟩) hHeld ?_
          rotate_left
          · (intro W1 hSw; (try dsimp only at hSw); go_simp; first | done | (with_reducible rfl))
          try simp only [Act.put, List.setIfInBounds_toArray, List.set_cons_zero, List.set_cons_succ]
          refine wpAnyH_take (i := 4) (oi := { dst := some 53, op := Op.fieldAddr 113 (Operand.tmp 10) 4, type := 0, pos := "record.go:155", after := #[], guard := none }) (v := ?_) rfl (by kernel_rfl) (by kernel_rfl) (by kernel_rfl) (fun _ _ _ h => h) (Or.inl ⟨by rfl, ?_⟩) hHeld ?_
          rotate_left
          · (intro W1 hSw; (try dsimp only at hSw); go_simp; first | done | (with_reducible rfl))
          try simp only [Act.put, List.setIfInBounds_toArray, List.set_cons_zero, List.set_cons_succ]
          refine wpAnyH_take (i := 5) (oi := { dst := some 54, op := Op.fieldAddr 38 (Operand.tmp 53) 1, type := 0, pos := "record.go:155", after := #[{ on := 4, ground := Ground.data }], guard := none }) (v := ?_) rfl (by kernel_rfl) (by kernel_rfl) (by kernel_rfl) (fun _ _ _ h => h) (Or.inl ⟨by rfl, ?_⟩) hHeld ?_
          rotate_left
          · (intro W1 hSw; (try dsimp only at hSw); go_simp; first | done | (with_reducible rfl))
          try simp only [Act.put, List.setIfInBounds_toArray, List.set_cons_zero, List.set_cons_succ]
          refine wpAnyH_take (i := 6) (oi := { dst := some 55, op := Op.load 3 (Operand.tmp 54), type := 3, pos := "record.go:155", after := #[{ on := 5, ground := Ground.data }], guard := none }) (v := ?_) rfl (by kernel_rfl) (by kernel_rfl) (by kernel_rfl) (fun _ _ _ h => h) (Or.inl ⟨by rfl, ?_⟩) hHeld ?_
          rotate_left
          · (intro W1 hSw; (try dsimp only at hSw); go_simp; first | done | (with_reducible rfl))
          try simp only [Act.put, List.setIfInBounds_toArray, List.set_cons_zero, List.set_cons_succ]
          refine wpAnyH_take (i := 9) (oi := { dst := some 58, op := Op.fieldAddr 113 (Operand.tmp 10) 4, type := 0, pos := "record.go:155", after := #[], guard := none }) (v := ?_) rfl (by kernel_rfl) (by kernel_rfl) (by kernel_rfl) (fun _ _ _ h => h) (Or.inl ⟨by rfl, ?_⟩) hHeld ?_
          rotate_left
          · (intro W1 hSw; (try dsimp only at hSw); go_simp; first | done | (with_reducible rfl))
          try simp only [Act.put, List.setIfInBounds_toArray, List.set_cons_zero, List.set_cons_succ]
          refine wpAnyH_take (i := 10) (oi := { dst := some 59, op := Op.fieldAddr 38 (Operand.tmp 58) 2, type := 0, pos := "record.go:155", after := #[{ on := 9, ground := Ground.data }], guard := none }) (v := ?_) rfl (by kernel_rfl) (by kernel_rfl) (by kernel_rfl) (fun _ _ _ h => h) (Or.inl ⟨by rfl, ?_⟩) hHeld ?_
          rotate_left
          · (intro W1 hSw; (try dsimp only at hSw); go_simp; first | done | (with_reducible rfl))
          try simp only [Act.put, List.setIfInBounds_toArray, List.set_cons_zero, List.set_cons_succ]
          refine wpAnyH_take (i := 11) (oi := { dst := some 60, op := Op.load 9 (Operand.tmp 59), type := 9, pos := "record.go:155", after := #[{ on := 10, ground := Ground.data }], guard := none }) (v := ?_) rfl (by kernel_rfl) (by kernel_rfl) (by kernel_rfl) (fun _ _ _ h => h) (Or.inl ⟨by rfl, ?_⟩) hHeld ?_
          rotate_left
          · (intro W1 hSw; (try dsimp only at hSw); go_simp; first | done | (with_reducible rfl))
          try simp only [Act.put, List.setIfInBounds_toArray, List.set_cons_zero, List.set_cons_succ]
          refine wpAnyH_take (i := 14) (oi := { dst := some 63, op := Op.fieldAddr 113 (Operand.tmp 10) 4, type := 0, pos := "record.go:155", after := #[], guard := none }) (v := ?_) rfl (by kernel_rfl) (by kernel_rfl) (by kernel_rfl) (fun _ _ _ h => h) (Or.inl ⟨by rfl, ?_⟩) hHeld ?_
          rotate_left
          · (intro W1 hSw; (try dsimp only at hSw); go_simp; first | done | (with_reducible rfl))
          try simp only [Act.put, List.setIfInBounds_toArray, List.set_cons_zero, List.set_cons_succ]
          refine wpAnyH_take (i := 15) (oi := { dst := some 64, op := Op.fieldAddr 38 (Operand.tmp 63) 3, type := 0, pos := "record.go:155", after := #[{ on := 14, ground := Ground.data }], guard := none }) (v := ?_) rfl (by kernel_rfl) (by kernel_rfl) (by kernel_rfl) (fun _ _ _ h => h) (Or.inl ⟨by rfl, ?_⟩) hHeld ?_
          rotate_left
          · (intro W1 hSw; (try dsimp only at hSw); go_simp; first | done | (with_reducible rfl))
          try simp only [Act.put, List.setIfInBounds_toArray, List.set_cons_zero, List.set_cons_succ]
          refine wpAnyH_take (i := 16) (oi := { dst := some 65, op := Op.load 36 (Operand.tmp 64), type := 36, pos := "record.go:155", after := #[{ on := 15, ground := Ground.data }], guard := none }) (v := ?_) rfl (by kernel_rfl) (by kernel_rfl) (by kernel_rfl) (fun _ _ _ h => h) (Or.inl ⟨by rfl, ?_⟩) hHeld ?_
          rotate_left
          · (intro W1 hSw; (try dsimp only at hSw); go_simp; first | done | (with_reducible rfl))
          try simp only [Act.put, List.setIfInBounds_toArray, List.set_cons_zero, List.set_cons_succ]
          refine wpAnyH_ready (rs := [7, 12, 17]) (by kernel_rfl) (by simp) ?_
          refine AllReadyH.cons (o := { dst := some 56, op := Op.buildSlice 31 2 #[(0, Operand.tmp 52), (1, Operand.tmp 55)], type := 31, pos := "record.go:155", after := #[{ on := 3, ground := Ground.data }, { on := 6, ground := Ground.data }], guard := none }) rfl (fun K hK => ?_) (AllReadyH.cons (o := { dst := some 61, op := Op.buildSlice 32 1 #[(0, Operand.tmp 60)], type := 32, pos := "record.go:155", after := #[{ on := 11, ground := Ground.data }], guard := none }) rfl (fun K hK => ?_) (AllReadyH.cons (o := { dst := some 66, op := Op.buildSlice 321 1 #[(0, Operand.tmp 65)], type := 321, pos := "record.go:155", after := #[{ on := 16, ground := Ground.data }], guard := none }) rfl (fun K hK => ?_) AllReadyH.nil))
          · rw [if_pos (by rfl)]
            go_simp
            have d1 := below_alloc y0 (.cells #[.int .i64 v.src, .int .i64 v.dst] 3)
            have l7 := Blk.new y0 3 [.int .i64 v.src, .int .i64 v.dst]
            refine hK.out _ _ (KEEP2.out _ d1) (fun hHeld => ?_)
            generalize World.alloc y0 (.cells #[.int .i64 v.src, .int .i64 v.dst] 3) = y1 at *
            clear hK K
            try simp only [Act.put, List.setIfInBounds_toArray, List.set_cons_zero, List.set_cons_succ]
            refine wpAnyH_ready (rs := [8, 12, 17]) (by kernel_rfl) (by simp) ?_
            refine AllReadyH.cons (o := { dst := some 57, op := Op.call { callee := Callee.value (Operand.func 116), args := #[Operand.tmp 49, Operand.tmp 56], argTypes := #[81, 31] }, type := 81, pos := "record.go:155", after := #[{ on := 0, ground := Ground.data }, { on := 7, ground := Ground.data }], guard := none }) rfl (fun K hK => ?_) (AllReadyH.cons (o := { dst := some 61, op := Op.buildSlice 32 1 #[(0, Operand.tmp 60)], type := 32, pos := "record.go:155", after := #[{ on := 11, ground := Ground.data }], guard := none }) rfl (fun K hK => ?_) (AllReadyH.cons (o := { dst := some 66, op := Op.buildSlice 321 1 #[(0, Operand.tmp 65)], type := 321, pos := "record.go:155", after := #[{ on := 16, ground := Ground.data }], guard := none }) rfl (fun K hK => ?_) AllReadyH.nil))
            · rw [if_pos (by rfl)]
              go_simp
              go_at_call 116
              refine (leb_int y1 A2 c2 zs (y0.heap.size) [v.src, v.dst] (QS.out.below d1) (ints_two (l7.below (Below.refl _ _) l7.lt)) (by omega) (by simp)).mono ?_
              rintro e y2 ⟨A3, c3, us, rfl, q3, hy3, d2⟩
              simp only [List.length_cons, List.length_nil] at hy3
              have s3 := q3.toSrc
              refine hK.out _ _ (KEEP2.out _ (bstep0 d1 d2)) (fun hHeld => ?_)
              clear hK K
              try simp only [Act.put, List.setIfInBounds_toArray, List.set_cons_zero, List.set_cons_succ]
              refine wpAnyH_ready (rs := [12, 17]) (by kernel_rfl) (by simp) ?_
              refine AllReadyH.cons (o := { dst := some 61, op := Op.buildSlice 32 1 #[(0, Operand.tmp 60)], type := 32, pos := "record.go:155", after := #[{ on := 11, ground := Ground.data }], guard := none }) rfl (fun K hK => ?_) (AllReadyH.cons (o := { dst := some 66, op := Op.buildSlice 321 1 #[(0, Operand.tmp 65)], type := 321, pos := "record.go:155", after := #[{ on := 16, ground := Ground.data }], guard := none }) rfl (fun K hK => ?_) AllReadyH.nil)
              · rw [if_pos (by rfl)]
                go_simp
                have d3 := below_alloc y2 (.cells #[.string v.ty] 9)
                have l12 := Blk.new y2 9 [.string v.ty]
                refine hK.out _ _ (KEEP2.out _ (bstep0 (bstep0 d1 d2) d3)) (fun hHeld => ?_)
                generalize World.alloc y2 (.cells #[.string v.ty] 9) = y3 at *
                clear hK K
                try simp only [Act.put, List.setIfInBounds_toArray, List.set_cons_zero, List.set_cons_succ]
                refine wpAnyH_ready (rs := [13, 17]) (by kernel_rfl) (by simp) ?_
                refine AllReadyH.cons (o := { dst := some 62, op := Op.call { callee := Callee.value (Operand.func 119), args := #[Operand.tmp 57, Operand.tmp 61], argTypes := #[81, 32] }, type := 81, pos := "record.go:155", after := #[{ on := 8, ground := Ground.data }, { on := 12, ground := Ground.data }, { on := 8, ground := Ground.chain }], guard := none }) rfl (fun K hK => ?_) (AllReadyH.cons (o := { dst := some 66, op := Op.buildSlice 321 1 #[(0, Operand.tmp 65)], type := 321, pos := "record.go:155", after := #[{ on := 16, ground := Ground.data }], guard := none }) rfl (fun K hK => ?_) AllReadyH.nil)
                · rw [if_pos (by rfl)]
                  go_simp
                  go_at_call 119
                  refine (leb_str y3 A3 c3 us (some ⟨y2.heap.size, 0, none⟩) 1 [v.ty] 1 (s3.below d3) (strs_one (l12.below (Below.refl _ _) l12.lt)) (by omega) (by simp) (by omega) HTY.out).mono ?_
                  rintro e y4 ⟨A4, c4, ts, rfl, q4, hy4, d4⟩
                  simp only [List.length_cons, List.length_nil] at hy4
                  have s4 := q4.toSrc
                  refine hK.out _ _ (KEEP2.out _ (bstep0 (bstep0 (bstep0 d1 d2) d3) d4)) (fun hHeld => ?_)
                  clear hK K
                  try simp only [Act.put, List.setIfInBounds_toArray, List.set_cons_zero, List.set_cons_succ]
                  refine wpAnyH_ready (rs := [17]) (by kernel_rfl) (by simp) ?_
                  refine AllReadyH.cons (o := { dst := some 66, op := Op.buildSlice 321 1 #[(0, Operand.tmp 65)], type := 321, pos := "record.go:155", after := #[{ on := 16, ground := Ground.data }], guard := none }) rfl (fun K hK => ?_) AllReadyH.nil
                  rw [if_pos (by rfl)]
                  go_simp
                  have d5 := below_alloc y4 (.cells #[.float .f64 v.w] 36)
                  have l17 := Blk.new y4 36 [.float .f64 v.w]
                  refine hK.out _ _ (KEEP2.out _ (bstep0 (bstep0 (bstep0 (bstep0 d1 d2) d3) d4) d5)) (fun hHeld => ?_)
                  generalize World.alloc y4 (.cells #[.float .f64 v.w] 36) = y5 at *
                  clear hK K
                  try simp only [Act.put, List.setIfInBounds_toArray, List.set_cons_zero, List.set_cons_succ]
                  refine wpAnyH_ready (rs := [18]) (by kernel_rfl) (by simp) ?_
                  refine AllReadyH.cons (o := { dst := some 67, op := Op.call { callee := Callee.value (Operand.func 118), args := #[Operand.tmp 62, Operand.tmp 66], argTypes := #[81, 321] }, type := 81, pos := "record.go:155", after := #[{ on := 13, ground := Ground.data }, { on := 17, ground := Ground.data }, { on := 13, ground := Ground.chain }], guard := none }) rfl (fun K hK => ?_) AllReadyH.nil
                  rw [if_pos (by rfl)]
                  go_simp
                  go_at_call 118
                  refine (leb_real y5 A4 c4 ts (y4.heap.size) v.w HVW.out (s4.below d5) ⟨(l17.below (Below.refl _ _) l17.lt).lt, (l17.below (Below.refl _ _) l17.lt).cell 0⟩ (by omega)).mono ?_
                  rintro e y6 ⟨A5, c5, ks, rfl, q5, hy5, d6⟩
                  refine hK.out _ _ (KEEP2.out _ (bstep0 (bstep0 (bstep0 (bstep0 (bstep0 d1 d2) d3) d4) d5) d6)) (fun hHeld => ?_)
                  clear hK K
                  try simp only [Act.put, List.setIfInBounds_toArray, List.set_cons_zero, List.set_cons_succ]
                  refine wpAnyH_take (i := 19) (oi := { dst := some 8, op := Op.assign (Operand.tmp 67), type := 81, pos := "record.go:155", after := #[{ on := 18, ground := Ground.data }, { on := 18, ground := Ground.chain }, { on := 0, ground := Ground.phase }, { on := 1, ground := Ground.phase }, { on := 2, ground := Ground.phase }, { on := 3, ground := Ground.phase }, { on := 4, ground := Ground.phase }, { on := 5, ground := Ground.phase }, { on := 6, ground := Ground.phase }, { on := 7, ground := Ground.phase }, { on := 8, ground := Ground.phase }, { on := 9, ground := Ground.phase }, { on := 10, ground := Ground.phase }, { on := 11, ground := Ground.phase }, { on := 12, ground := Ground.phase }, { on := 13, ground := Ground.phase }, { on := 14, ground := Ground.phase }, { on := 15, ground := Ground.phase }, { on := 16, ground := Ground.phase }, { on := 17, ground := Ground.phase }, { on := 18, ground := Ground.phase }], guard := none }) (v := ?_) rfl (by kernel_rfl) (by kernel_rfl) (by kernel_rfl) (fun _ _ _ h => h) (Or.inl ⟨by rfl, ?_⟩) hHeld ?_
                  rotate_left
                  · (intro W1 hSw; (try dsimp only at hSw); go_simp; first | done | (with_reducible rfl))
                  try simp only [Act.put, List.setIfInBounds_toArray, List.set_cons_zero, List.set_cons_succ]
                  refine wpAnyH_done (by kernel_rfl) ?_ _
                  have BG := hid (DONE2.out _ (bstep0 (bstep0 (bstep0 (bstep0 (bstep0 d1 d2) d3) d4) d5) d6))
                  have QF := hid (q5.low (DONE2.out _ (bstep0 (bstep0 (bstep0 (bstep0 d1 d2) d3) d4) d5)).size)
                  have hyG : Hid (ks.length ≤ 30 + 100 * (j + 1)) := by show _ ≤ _; have := HY.out; omega
                  clear hHeld KEEP2 HS2
                  go_wp2_with fail
                  go_roundw
                  case rel => exact ⟨j + 1, A5, c5, ks, by omega, rfl, by go_num, hyG, QF, BG⟩
                  case measure => simp [intOf]; omega
                · rw [if_pos (by rfl)]
                  go_simp
                  have d4 := below_alloc y3 (.cells #[.float .f64 v.w] 36)
                  have l17 := Blk.new y3 36 [.float .f64 v.w]
                  refine hK.out _ _ (KEEP2.out _ (bstep0 (bstep0 (bstep0 d1 d2) d3) d4)) (fun hHeld => ?_)
                  generalize World.alloc y3 (.cells #[.float .f64 v.w] 36) = y4 at *
                  clear hK K
                  try simp only [Act.put, List.setIfInBounds_toArray, List.set_cons_zero, List.set_cons_succ]
                  refine wpAnyH_ready (rs := [13]) (by kernel_rfl) (by simp) ?_
                  refine AllReadyH.cons (o := { dst := some 62, op := Op.call { callee := Callee.value (Operand.func 119), args := #[Operand.tmp 57, Operand.tmp 61], argTypes := #[81, 32] }, type := 81, pos := "record.go:155", after := #[{ on := 8, ground := Ground.data }, { on := 12, ground := Ground.data }, { on := 8, ground := Ground.chain }], guard := none }) rfl (fun K hK => ?_) AllReadyH.nil
                  rw [if_pos (by rfl)]
                  go_simp
                  go_at_call 119
                  refine (leb_str y4 A3 c3 us (some ⟨y2.heap.size, 0, none⟩) 1 [v.ty] 1 (s3.below (bstep0 d3 d4)) (strs_one (l12.below d4 l12.lt)) (by omega) (by simp) (by omega) HTY.out).mono ?_
                  rintro e y5 ⟨A4, c4, ts, rfl, q4, hy4, d5⟩
                  simp only [List.length_cons, List.length_nil] at hy4
                  have s4 := q4.toSrc
                  refine hK.out _ _ (KEEP2.out _ (bstep0 (bstep0 (bstep0 (bstep0 d1 d2) d3) d4) d5)) (fun hHeld => ?_)
                  clear hK K
                  try simp only [Act.put, List.setIfInBounds_toArray, List.set_cons_zero, List.set_cons_succ]
                  refine wpAnyH_ready (rs := [18]) (by kernel_rfl) (by simp) ?_
                  refine AllReadyH.cons (o := { dst := some 67, op := Op.call { callee := Callee.value (Operand.func 118), args := #[Operand.tmp 62, Operand.tmp 66], argTypes := #[81, 321] }, type := 81, pos := "record.go:155", after := #[{ on := 13, ground := Ground.data }, { on := 17, ground := Ground.data }, { on := 13, ground := Ground.chain }], guard := none }) rfl (fun K hK => ?_) AllReadyH.nil
                  rw [if_pos (by rfl)]
                  go_simp
                  go_at_call 118
                  refine (leb_real y5 A4 c4 ts (y3.heap.size) v.w HVW.out (s4.below (Below.refl _ _)) ⟨(l17.below d5 l17.lt).lt, (l17.below d5 l17.lt).cell 0⟩ (by omega)).mono ?_
                  rintro e y6 ⟨A5, c5, ks, rfl, q5, hy5, d6⟩
                  refine hK.out _ _ (KEEP2.out _ (bstep0 (bstep0 (bstep0 (bstep0 (bstep0 d1 d2) d3) d4) d5) d6)) (fun hHeld => ?_)
                  clear hK K
                  try simp only [Act.put, List.setIfInBounds_toArray, List.set_cons_zero, List.set_cons_succ]
                  refine wpAnyH_take (i := 19) (oi := { dst := some 8, op := Op.assign (Operand.tmp 67), type := 81, pos := "record.go:155", after := #[{ on := 18, ground := Ground.data }, { on := 18, ground := Ground.chain }, { on := 0, ground := Ground.phase }, { on := 1, ground := Ground.phase }, { on := 2, ground := Ground.phase }, { on := 3, ground := Ground.phase }, { on := 4, ground := Ground.phase }, { on := 5, ground := Ground.phase }, { on := 6, ground := Ground.phase }, { on := 7, ground := Ground.phase }, { on := 8, ground := Ground.phase }, { on := 9, ground := Ground.phase }, { on := 10, ground := Ground.phase }, { on := 11, ground := Ground.phase }, { on := 12, ground := Ground.phase }, { on := 13, ground := Ground.phase }, { on := 14, ground := Ground.phase }, { on := 15, ground := Ground.phase }, { on := 16, ground := Ground.phase }, { on := 17, ground := Ground.phase }, { on := 18, ground := Ground.phase }], guard := none }) (v := ?_) rfl (by kernel_rfl) (by kernel_rfl) (by kernel_rfl) (fun _ _ _ h => h) (Or.inl ⟨by rfl, ?_⟩) hHeld ?_
                  rotate_left
                  · (intro W1 hSw; (try dsimp only at hSw); go_simp; first | done | (with_reducible rfl))
                  try simp only [Act.put, List.setIfInBounds_toArray, List.set_cons_zero, List.set_cons_succ]
                  refine wpAnyH_done (by kernel_rfl) ?_ _
                  have BG := hid (DONE2.out _ (bstep0 (bstep0 (bstep0 (bstep0 (bstep0 d1 d2) d3) d4) d5) d6))
                  have QF := hid (q5.low (DONE2.out _ (bstep0 (bstep0 (bstep0 (bstep0 d1 d2) d3) d4) d5)).size)
                  have hyG : Hid (ks.length ≤ 30 + 100 * (j + 1)) := by show _ ≤ _; have := HY.out; omega
                  clear hHeld KEEP2 HS2
                  go_wp2_with fail
                  go_roundw
                  case rel => exact ⟨j + 1, A5, c5, ks, by omega, rfl, by go_num, hyG, QF, BG⟩
                  case measure => simp [intOf]; omega
              · rw [if_pos (by rfl)]
                go_simp
                have d3 := below_alloc y2 (.cells #[.float .f64 v.w] 36)
                have l17 := Blk.new y2 36 [.float .f64 v.w]
                refine hK.out _ _ (KEEP2.out _ (bstep0 (bstep0 d1 d2) d3)) (fun hHeld => ?_)
                generalize World.alloc y2 (.cells #[.float .f64 v.w] 36) = y3 at *
                clear hK K
                try simp only [Act.put, List.setIfInBounds_toArray, List.set_cons_zero, List.set_cons_succ]
                refine wpAnyH_ready (rs := [12]) (by kernel_rfl) (by simp) ?_
                refine AllReadyH.cons (o := { dst := some 61, op := Op.buildSlice 32 1 #[(0, Operand.tmp 60)], type := 32, pos := "record.go:155", after := #[{ on := 11, ground := Ground.data }], guard := none }) rfl (fun K hK => ?_) AllReadyH.nil
                rw [if_pos (by rfl)]
                go_simp
                have d4 := below_alloc y3 (.cells #[.string v.ty] 9)
                have l12 := Blk.new y3 9 [.string v.ty]
                refine hK.out _ _ (KEEP2.out _ (bstep0 (bstep0 (bstep0 d1 d2) d3) d4)) (fun hHeld => ?_)
                generalize World.alloc y3 (.cells #[.string v.ty] 9) = y4 at *
                clear hK K
                try simp only [Act.put, List.setIfInBounds_toArray, List.set_cons_zero, List.set_cons_succ]
                refine wpAnyH_ready (rs := [13]) (by kernel_rfl) (by simp) ?_
                refine AllReadyH.cons (o := { dst := some 62, op := Op.call { callee := Callee.value (Operand.func 119), args := #[Operand.tmp 57, Operand.tmp 61], argTypes := #[81, 32] }, type := 81, pos := "record.go:155", after := #[{ on := 8, ground := Ground.data }, { on := 12, ground := Ground.data }, { on := 8, ground := Ground.chain }], guard := none }) rfl (fun K hK => ?_) AllReadyH.nil
                rw [if_pos (by rfl)]
                go_simp
                go_at_call 119
                refine (leb_str y4 A3 c3 us (some ⟨y3.heap.size, 0, none⟩) 1 [v.ty] 1 (s3.below (bstep0 d3 d4)) (strs_one (l12.below (Below.refl _ _) l12.lt)) (by omega) (by simp) (by omega) HTY.out).mono ?_
                rintro e y5 ⟨A4, c4, ts, rfl, q4, hy4, d5⟩
                simp only [List.length_cons, List.length_nil] at hy4
                have s4 := q4.toSrc
                refine hK.out _ _ (KEEP2.out _ (bstep0 (bstep0 (bstep0 (bstep0 d1 d2) d3) d4) d5)) (fun hHeld => ?_)
                clear hK K
                try simp only [Act.put, List.setIfInBounds_toArray, List.set_cons_zero, List.set_cons_succ]
                refine wpAnyH_ready (rs := [18]) (by kernel_rfl) (by simp) ?_
                refine AllReadyH.cons (o := { dst := some 67, op := Op.call { callee := Callee.value (Operand.func 118), args := #[Operand.tmp 62, Operand.tmp 66], argTypes := #[81, 321] }, type := 81, pos := "record.go:155", after := #[{ on := 13, ground := Ground.data }, { on := 17, ground := Ground.data }, { on := 13, ground := Ground.chain }], guard := none }) rfl (fun K hK => ?_) AllReadyH.nil
                rw [if_pos (by rfl)]
                go_simp
                go_at_call 118
                refine (leb_real y5 A4 c4 ts (y2.heap.size) v.w HVW.out (s4.below (Below.refl _ _)) ⟨(l17.below (bstep0 d4 d5) l17.lt).lt, (l17.below (bstep0 d4 d5) l17.lt).cell 0⟩ (by omega)).mono ?_
                rintro e y6 ⟨A5, c5, ks, rfl, q5, hy5, d6⟩
                refine hK.out _ _ (KEEP2.out _ (bstep0 (bstep0 (bstep0 (bstep0 (bstep0 d1 d2) d3) d4) d5) d6)) (fun hHeld => ?_)
                clear hK K
                try simp only [Act.put, List.setIfInBounds_toArray, List.set_cons_zero, List.set_cons_succ]
                refine wpAnyH_take (i := 19) (oi := { dst := some 8, op := Op.assign (Operand.tmp 67), type := 81, pos := "record.go:155", after := #[{ on := 18, ground := Ground.data }, { on := 18, ground := Ground.chain }, { on := 0, ground := Ground.phase }, { on := 1, ground := Ground.phase }, { on := 2, ground := Ground.phase }, { on := 3, ground := Ground.phase }, { on := 4, ground := Ground.phase }, { on := 5, ground := Ground.phase }, { on := 6, ground := Ground.phase }, { on := 7, ground := Ground.phase }, { on := 8, ground := Ground.phase }, { on := 9, ground := Ground.phase }, { on := 10, ground := Ground.phase }, { on := 11, ground := Ground.phase }, { on := 12, ground := Ground.phase }, { on := 13, ground := Ground.phase }, { on := 14, ground := Ground.phase }, { on := 15, ground := Ground.phase }, { on := 16, ground := Ground.phase }, { on := 17, ground := Ground.phase }, { on := 18, ground := Ground.phase }], guard := none }) (v := ?_) rfl (by kernel_rfl) (by kernel_rfl) (by kernel_rfl) (fun _ _ _ h => h) (Or.inl ⟨by rfl, ?_⟩) hHeld ?_
                rotate_left
                · (intro W1 hSw; (try dsimp only at hSw); go_simp; first | done | (with_reducible rfl))
                try simp only [Act.put, List.setIfInBounds_toArray, List.set_cons_zero, List.set_cons_succ]
                refine wpAnyH_done (by kernel_rfl) ?_ _
                have BG := hid (DONE2.out _ (bstep0 (bstep0 (bstep0 (bstep0 (bstep0 d1 d2) d3) d4) d5) d6))
                have QF := hid (q5.low (DONE2.out _ (bstep0 (bstep0 (bstep0 (bstep0 d1 d2) d3) d4) d5)).size)
                have hyG : Hid (ks.length ≤ 30 + 100 * (j + 1)) := by show _ ≤ _; have := HY.out; omega
                clear hHeld KEEP2 HS2
                go_wp2_with fail
                go_roundw
                case rel => exact ⟨j + 1, A5, c5, ks, by omega, rfl, by go_num, hyG, QF, BG⟩
                case measure => simp [intOf]; omega
            · rw [if_pos (by rfl)]
              go_simp
              have d2 := below_alloc y1 (.cells #[.string v.ty] 9)
              have l12 := Blk.new y1 9 [.string v.ty]
              refine hK.out _ _ (KEEP2.out _ (bstep0 d1 d2)) (fun hHeld => ?_)
              generalize World.alloc y1 (.cells #[.string v.ty] 9) = y2 at *
              clear hK K
              try simp only [Act.put, List.setIfInBounds_toArray, List.set_cons_zero, List.set_cons_succ]
              refine wpAnyH_ready (rs := [8, 17]) (by kernel_rfl) (by simp) ?_
              refine AllReadyH.cons (o := { dst := some 57, op := Op.call { callee := Callee.value (Operand.func 116), args := #[Operand.tmp 49, Operand.tmp 56], argTypes := #[81, 31] }, type := 81, pos := "record.go:155", after := #[{ on := 0, ground := Ground.data }, { on := 7, ground := Ground.data }], guard := none }) rfl (fun K hK => ?_) (AllReadyH.cons (o := { dst := some 66, op := Op.buildSlice 321 1 #[(0, Operand.tmp 65)], type := 321, pos := "record.go:155", after := #[{ on := 16, ground := Ground.data }], guard := none }) rfl (fun K hK => ?_) AllReadyH.nil)
              · rw [if_pos (by rfl)]
                go_simp
                go_at_call 116
                refine (leb_int y2 A2 c2 zs (y0.heap.size) [v.src, v.dst] (QS.out.below (bstep0 d1 d2)) (ints_two (l7.below d2 l7.lt)) (by omega) (by simp)).mono ?_
                rintro e y3 ⟨A3, c3, us, rfl, q3, hy3, d3⟩
                simp only [List.length_cons, List.length_nil] at hy3
                have s3 := q3.toSrc
                refine hK.out _ _ (KEEP2.out _ (bstep0 (bstep0 d1 d2) d3)) (fun hHeld => ?_)
                clear hK K
                try simp only [Act.put, List.setIfInBounds_toArray, List.set_cons_zero, List.set_cons_succ]
                refine wpAnyH_ready (rs := [13, 17]) (by kernel_rfl) (by simp) ?_
                refine AllReadyH.cons (o := { dst := some 62, op := Op.call { callee := Callee.value (Operand.func 119), args := #[Operand.tmp 57, Operand.tmp 61], argTypes := #[81, 32] }, type := 81, pos := "record.go:155", after := #[{ on := 8, ground := Ground.data }, { on := 12, ground := Ground.data }, { on := 8, ground := Ground.chain }], guard := none }) rfl (fun K hK => ?_) (AllReadyH.cons (o := { dst := some 66, op := Op.buildSlice 321 1 #[(0, Operand.tmp 65)], type := 321, pos := "record.go:155", after := #[{ on := 16, ground := Ground.data }], guard := none }) rfl (fun K hK => ?_) AllReadyH.nil)
                · rw [if_pos (by rfl)]
                  go_simp
                  go_at_call 119
                  refine (leb_str y3 A3 c3 us (some ⟨y1.heap.size, 0, none⟩) 1 [v.ty] 1 (s3.below (Below.refl _ _)) (strs_one (l12.below d3 l12.lt)) (by omega) (by simp) (by omega) HTY.out).mono ?_
                  rintro e y4 ⟨A4, c4, ts, rfl, q4, hy4, d4⟩
                  simp only [List.length_cons, List.length_nil] at hy4
                  have s4 := q4.toSrc
                  refine hK.out _ _ (KEEP2.out _ (bstep0 (bstep0 (bstep0 d1 d2) d3) d4)) (fun hHeld => ?_)
                  clear hK K
                  try simp only [Act.put, List.setIfInBounds_toArray, List.set_cons_zero, List.set_cons_succ]
                  refine wpAnyH_ready (rs := [17]) (by kernel_rfl) (by simp) ?_
                  refine AllReadyH.cons (o := { dst := some 66, op := Op.buildSlice 321 1 #[(0, Operand.tmp 65)], type := 321, pos := "record.go:155", after := #[{ on := 16, ground := Ground.data }], guard := none }) rfl (fun K hK => ?_) AllReadyH.nil
                  rw [if_pos (by rfl)]
                  go_simp
                  have d5 := below_alloc y4 (.cells #[.float .f64 v.w] 36)
                  have l17 := Blk.new y4 36 [.float .f64 v.w]
                  refine hK.out _ _ (KEEP2.out _ (bstep0 (bstep0 (bstep0 (bstep0 d1 d2) d3) d4) d5)) (fun hHeld => ?_)
                  generalize World.alloc y4 (.cells #[.float .f64 v.w] 36) = y5 at *
                  clear hK K
                  try simp only [Act.put, List.setIfInBounds_toArray, List.set_cons_zero, List.set_cons_succ]
                  refine wpAnyH_ready (rs := [18]) (by kernel_rfl) (by simp) ?_
                  refine AllReadyH.cons (o := { dst := some 67, op := Op.call { callee := Callee.value (Operand.func 118), args := #[Operand.tmp 62, Operand.tmp 66], argTypes := #[81, 321] }, type := 81, pos := "record.go:155", after := #[{ on := 13, ground := Ground.data }, { on := 17, ground := Ground.data }, { on := 13, ground := Ground.chain }], guard := none }) rfl (fun K hK => ?_) AllReadyH.nil
                  rw [if_pos (by rfl)]
                  go_simp
                  go_at_call 118
                  refine (leb_real y5 A4 c4 ts (y4.heap.size) v.w HVW.out (s4.below d5) ⟨(l17.below (Below.refl _ _) l17.lt).lt, (l17.below (Below.refl _ _) l17.lt).cell 0⟩ (by omega)).mono ?_
                  rintro e y6 ⟨A5, c5, ks, rfl, q5, hy5, d6⟩
                  refine hK.out _ _ (KEEP2.out _ (bstep0 (bstep0 (bstep0 (bstep0 (bstep0 d1 d2) d3) d4) d5) d6)) (fun hHeld => ?_)
                  clear hK K
                  try simp only [Act.put, List.setIfInBounds_toArray, List.set_cons_zero, List.set_cons_succ]
                  refine wpAnyH_take (i := 19) (oi := { dst := some 8, op := Op.assign (Operand.tmp 67), type := 81, pos := "record.go:155", after := #[{ on := 18, ground := Ground.data }, { on := 18, ground := Ground.chain }, { on := 0, ground := Ground.phase }, { on := 1, ground := Ground.phase }, { on := 2, ground := Ground.phase }, { on := 3, ground := Ground.phase }, { on := 4, ground := Ground.phase }, { on := 5, ground := Ground.phase }, { on := 6, ground := Ground.phase }, { on := 7, ground := Ground.phase }, { on := 8, ground := Ground.phase }, { on := 9, ground := Ground.phase }, { on := 10, ground := Ground.phase }, { on := 11, ground := Ground.phase }, { on := 12, ground := Ground.phase }, { on := 13, ground := Ground.phase }, { on := 14, ground := Ground.phase }, { on := 15, ground := Ground.phase }, { on := 16, ground := Ground.phase }, { on := 17, ground := Ground.phase }, { on := 18, ground := Ground.phase }], guard := none }) (v := ?_) rfl (by kernel_rfl) (by kernel_rfl) (by kernel_rfl) (fun _ _ _ h => h) (Or.inl ⟨by rfl, ?_⟩) hHeld ?_
                  rotate_left
                  · (intro W1 hSw; (try dsimp only at hSw); go_simp; first | done | (with_reducible rfl))
                  try simp only [Act.put, List.setIfInBounds_toArray, List.set_cons_zero, List.set_cons_succ]
                  refine wpAnyH_done (by kernel_rfl) ?_ _
                  have BG := hid (DONE2.out _ (bstep0 (bstep0 (bstep0 (bstep0 (bstep0 d1 d2) d3) d4) d5) d6))
                  have QF := hid (q5.low (DONE2.out _ (bstep0 (bstep0 (bstep0 (bstep0 d1 d2) d3) d4) d5)).size)
                  have hyG : Hid (ks.length ≤ 30 + 100 * (j + 1)) := by show _ ≤ _; have := HY.out; omega
                  clear hHeld KEEP2 HS2
                  go_wp2_with fail
                  go_roundw
                  case rel => exact ⟨j + 1, A5, c5, ks, by omega, rfl, by go_num, hyG, QF, BG⟩
                  case measure => simp [intOf]; omega
                · rw [if_pos (by rfl)]
                  go_simp
                  have d4 := below_alloc y3 (.cells #[.float .f64 v.w] 36)
                  have l17 := Blk.new y3 36 [.float .f64 v.w]
                  refine hK.out _ _ (KEEP2.out _ (bstep0 (bstep0 (bstep0 d1 d2) d3) d4)) (fun hHeld => ?_)
                  generalize World.alloc y3 (.cells #[.float .f64 v.w] 36) = y4 at *
                  clear hK K
                  try simp only [Act.put, List.setIfInBounds_toArray, List.set_cons_zero, List.set_cons_succ]
                  refine wpAnyH_ready (rs := [13]) (by kernel_rfl) (by simp) ?_
                  refine AllReadyH.cons (o := { dst := some 62, op := Op.call { callee := Callee.value (Operand.func 119), args := #[Operand.tmp 57, Operand.tmp 61], argTypes := #[81, 32] }, type := 81, pos := "record.go:155", after := #[{ on := 8, ground := Ground.data }, { on := 12, ground := Ground.data }, { on := 8, ground := Ground.chain }], guard := none }) rfl (fun K hK => ?_) AllReadyH.nil
                  rw [if_pos (by rfl)]
                  go_simp
                  go_at_call 119
                  refine (leb_str y4 A3 c3 us (some ⟨y1.heap.size, 0, none⟩) 1 [v.ty] 1 (s3.below d4) (strs_one (l12.below (bstep0 d3 d4) l12.lt)) (by omega) (by simp) (by omega) HTY.out).mono ?_
                  rintro e y5 ⟨A4, c4, ts, rfl, q4, hy4, d5⟩
                  simp only [List.length_cons, List.length_nil] at hy4
                  have s4 := q4.toSrc
                  refine hK.out _ _ (KEEP2.out _ (bstep0 (bstep0 (bstep0 (bstep0 d1 d2) d3) d4) d5)) (fun hHeld => ?_)
                  clear hK K
                  try simp only [Act.put, List.setIfInBounds_toArray, List.set_cons_zero, List.set_cons_succ]
                  refine wpAnyH_ready (rs := [18]) (by kernel_rfl) (by simp) ?_
                  refine AllReadyH.cons (o := { dst := some 67, op := Op.call { callee := Callee.value (Operand.func 118), args := #[Operand.tmp 62, Operand.tmp 66], argTypes := #[81, 321] }, type := 81, pos := "record.go:155", after := #[{ on := 13, ground := Ground.data }, { on := 17, ground := Ground.data }, { on := 13, ground := Ground.chain }], guard := none }) rfl (fun K hK => ?_) AllReadyH.nil
                  rw [if_pos (by rfl)]
                  go_simp
                  go_at_call 118
                  refine (leb_real y5 A4 c4 ts (y3.heap.size) v.w HVW.out (s4.below (Below.refl _ _)) ⟨(l17.below d5 l17.lt).lt, (l17.below d5 l17.lt).cell 0⟩ (by omega)).mono ?_
                  rintro e y6 ⟨A5, c5, ks, rfl, q5, hy5, d6⟩
                  refine hK.out _ _ (KEEP2.out _ (bstep0 (bstep0 (bstep0 (bstep0 (bstep0 d1 d2) d3) d4) d5) d6)) (fun hHeld => ?_)
                  clear hK K
                  try simp only [Act.put, List.setIfInBounds_toArray, List.set_cons_zero, List.set_cons_succ]
                  refine wpAnyH_take (i := 19) (oi := { dst := some 8, op := Op.assign (Operand.tmp 67), type := 81, pos := "record.go:155", after := #[{ on := 18, ground := Ground.data }, { on := 18, ground := Ground.chain }, { on := 0, ground := Ground.phase }, { on := 1, ground := Ground.phase }, { on := 2, ground := Ground.phase }, { on := 3, ground := Ground.phase }, { on := 4, ground := Ground.phase }, { on := 5, ground := Ground.phase }, { on := 6, ground := Ground.phase }, { on := 7, ground := Ground.phase }, { on := 8, ground := Ground.phase }, { on := 9, ground := Ground.phase }, { on := 10, ground := Ground.phase }, { on := 11, ground := Ground.phase }, { on := 12, ground := Ground.phase }, { on := 13, ground := Ground.phase }, { on := 14, ground := Ground.phase }, { on := 15, ground := Ground.phase }, { on := 16, ground := Ground.phase }, { on := 17, ground := Ground.phase }, { on := 18, ground := Ground.phase }], guard := none }) (v := ?_) rfl (by kernel_rfl) (by kernel_rfl) (by kernel_rfl) (fun _ _ _ h => h) (Or.inl ⟨by rfl, ?_⟩) hHeld ?_
                  rotate_left
                  · (intro W1 hSw; (try dsimp only at hSw); go_simp; first | done | (with_reducible rfl))
                  try simp only [Act.put, List.setIfInBounds_toArray, List.set_cons_zero, List.set_cons_succ]
                  refine wpAnyH_done (by kernel_rfl) ?_ _
                  have BG := hid (DONE2.out _ (bstep0 (bstep0 (bstep0 (bstep0 (bstep0 d1 d2) d3) d4) d5) d6))
                  have QF := hid (q5.low (DONE2.out _ (bstep0 (bstep0 (bstep0 (bstep0 d1 d2) d3) d4) d5)).size)
                  have hyG : Hid (ks.length ≤ 30 + 100 * (j + 1)) := by show _ ≤ _; have := HY.out; omega
                  clear hHeld KEEP2 HS2
                  go_wp2_with fail
                  go_roundw
                  case rel => exact ⟨j + 1, A5, c5, ks, by omega, rfl, by go_num, hyG, QF, BG⟩
                  case measure => simp [intOf]; omega
              · rw [if_pos (by rfl)]
                go_simp
                have d3 := below_alloc y2 (.cells #[.float .f64 v.w] 36)
                have l17 := Blk.new y2 36 [.float .f64 v.w]
                refine hK.out _ _ (KEEP2.out _ (bstep0 (bstep0 d1 d2) d3)) (fun hHeld => ?_)
                generalize World.alloc y2 (.cells #[.float .f64 v.w] 36) = y3 at *
                clear hK K
                try simp only [Act.put, List.setIfInBounds_toArray, List.set_cons_zero, List.set_cons_succ]
                refine wpAnyH_ready (rs := [8]) (by kernel_rfl) (by simp) ?_
                refine AllReadyH.cons (o := { dst := some 57, op := Op.call { callee := Callee.value (Operand.func 116), args := #[Operand.tmp 49, Operand.tmp 56], argTypes := #[81, 31] }, type := 81, pos := "record.go:155", after := #[{ on := 0, ground := Ground.data }, { on := 7, ground := Ground.data }], guard := none }) rfl (fun K hK => ?_) AllReadyH.nil
                rw [if_pos (by rfl)]
                go_simp
                go_at_call 116
                refine (leb_int y3 A2 c2 zs (y0.heap.size) [v.src, v.dst] (QS.out.below (bstep0 (bstep0 d1 d2) d3)) (ints_two (l7.below (bstep0 d2 d3) l7.lt)) (by omega) (by simp)).mono ?_
                rintro e y4 ⟨A3, c3, us, rfl, q3, hy3, d4⟩
                simp only [List.length_cons, List.length_nil] at hy3
                have s3 := q3.toSrc
                refine hK.out _ _ (KEEP2.out _ (bstep0 (bstep0 (bstep0 d1 d2) d3) d4)) (fun hHeld => ?_)
                clear hK K
                try simp only [Act.put, List.setIfInBounds_toArray, List.set_cons_zero, List.set_cons_succ]
                refine wpAnyH_ready (rs := [13]) (by kernel_rfl) (by simp) ?_
                refine AllReadyH.cons (o := { dst := some 62, op := Op.call { callee := Callee.value (Operand.func 119), args := #[Operand.tmp 57, Operand.tmp 61], argTypes := #[81, 32] }, type := 81, pos := "record.go:155", after := #[{ on := 8, ground := Ground.data }, { on := 12, ground := Ground.data }, { on := 8, ground := Ground.chain }], guard := none }) rfl (fun K hK => ?_) AllReadyH.nil
                rw [if_pos (by rfl)]
                go_simp
                go_at_call 119
                refine (leb_str y4 A3 c3 us (some ⟨y1.heap.size, 0, none⟩) 1 [v.ty] 1 (s3.below (Below.refl _ _)) (strs_one (l12.below (bstep0 d3 d4) l12.lt)) (by omega) (by simp) (by omega) HTY.out).mono ?_
                rintro e y5 ⟨A4, c4, ts, rfl, q4, hy4, d5⟩
                simp only [List.length_cons, List.length_nil] at hy4
                have s4 := q4.toSrc
                refine hK.out _ _ (KEEP2.out _ (bstep0 (bstep0 (bstep0 (bstep0 d1 d2) d3) d4) d5)) (fun hHeld => ?_)
                clear hK K
                try simp only [Act.put, List.setIfInBounds_toArray, List.set_cons_zero, List.set_cons_succ]
                refine wpAnyH_ready (rs := [18]) (by kernel_rfl) (by simp) ?_
                refine AllReadyH.cons (o := { dst := some 67, op := Op.call { callee := Callee.value (Operand.func 118), args := #[Operand.tmp 62, Operand.tmp 66], argTypes := #[81, 321] }, type := 81, pos := "record.go:155", after := #[{ on := 13, ground := Ground.data }, { on := 17, ground := Ground.data }, { on := 13, ground := Ground.chain }], guard := none }) rfl (fun K hK => ?_) AllReadyH.nil
                rw [if_pos (by rfl)]
                go_simp
                go_at_call 118
                refine (leb_real y5 A4 c4 ts (y2.heap.size) v.w HVW.out (s4.below (Below.refl _ _)) ⟨(l17.below (bstep0 d4 d5) l17.lt).lt, (l17.below (bstep0 d4 d5) l17.lt).cell 0⟩ (by omega)).mono ?_
                rintro e y6 ⟨A5, c5, ks, rfl, q5, hy5, d6⟩
                refine hK.out _ _ (KEEP2.out _ (bstep0 (bstep0 (bstep0 (bstep0 (bstep0 d1 d2) d3) d4) d5) d6)) (fun hHeld => ?_)
                clear hK K
                try simp only [Act.put, List.setIfInBounds_toArray, List.set_cons_zero, List.set_cons_succ]
                refine wpAnyH_take (i := 19) (oi := { dst := some 8, op := Op.assign (Operand.tmp 67), type := 81, pos := "record.go:155", after := #[{ on := 18, ground := Ground.data }, { on := 18, ground := Ground.chain }, { on := 0, ground := Ground.phase }, { on := 1, ground := Ground.phase }, { on := 2, ground := Ground.phase }, { on := 3, ground := Ground.phase }, { on := 4, ground := Ground.phase }, { on := 5, ground := Ground.phase }, { on := 6, ground := Ground.phase }, { on := 7, ground := Ground.phase }, { on := 8, ground := Ground.phase }, { on := 9, ground := Ground.phase }, { on := 10, ground := Ground.phase }, { on := 11, ground := Ground.phase }, { on := 12, ground := Ground.phase }, { on := 13, ground := Ground.phase }, { on := 14, ground := Ground.phase }, { on := 15, ground := Ground.phase }, { on := 16, ground := Ground.phase }, { on := 17, ground := Ground.phase }, { on := 18, ground := Ground.phase }], guard := none }) (v := ?_) rfl (by kernel_rfl) (by kernel_rfl) (by kernel_rfl) (fun _ _ _ h => h) (Or.inl ⟨by rfl, ?_⟩) hHeld ?_
                rotate_left
                · (intro W1 hSw; (try dsimp only at hSw); go_simp; first | done | (with_reducible rfl))
                try simp only [Act.put, List.setIfInBounds_toArray, List.set_cons_zero, List.set_cons_succ]
                refine wpAnyH_done (by kernel_rfl) ?_ _
                have BG := hid (DONE2.out _ (bstep0 (bstep0 (bstep0 (bstep0 (bstep0 d1 d2) d3) d4) d5) d6))
                have QF := hid (q5.low (DONE2.out _ (bstep0 (bstep0 (bstep0 (bstep0 d1 d2) d3) d4) d5)).size)
                have hyG : Hid (ks.length ≤ 30 + 100 * (j + 1)) := by show _ ≤ _; have := HY.out; omega
                clear hHeld KEEP2 HS2
                go_wp2_with fail
                go_roundw
                case rel => exact ⟨j + 1, A5, c5, ks, by omega, rfl, by go_num, hyG, QF, BG⟩
                case measure => simp [intOf]; omega
            · rw [if_pos (by rfl)]
              go_simp
              have d2 := below_alloc y1 (.cells #[.float .f64 v.w] 36)
              have l17 := Blk.new y1 36 [.float .f64 v.w]
              refine hK.out _ _ (KEEP2.out _ (bstep0 d1 d2)) (fun hHeld => ?_)
              generalize World.alloc y1 (.cells #[.float .f64 v.w] 36) = y2 at *
              clear hK K
              try simp only [Act.put, List.setIfInBounds_toArray, List.set_cons_zero, List.set_cons_succ]
              refine wpAnyH_ready (rs := [8, 12]) (by kernel_rfl) (by simp) ?_
              refine AllReadyH.cons (o := { dst := some 57, op := Op.call { callee := Callee.value (Operand.func 116), args := #[Operand.tmp 49, Operand.tmp 56], argTypes := #[81, 31] }, type := 81, pos := "record.go:155", after := #[{ on := 0, ground := Ground.data }, { on := 7, ground := Ground.data }], guard := none }) rfl (fun K hK => ?_) (AllReadyH.cons (o := { dst := some 61, op := Op.buildSlice 32 1 #[(0, Operand.tmp 60)], type := 32, pos := "record.go:155", after := #[{ on := 11, ground := Ground.data }], guard := none }) rfl (fun K hK => ?_) AllReadyH.nil)
              · rw [if_pos (by rfl)]
                go_simp
                go_at_call 116
                refine (leb_int y2 A2 c2 zs (y0.heap.size) [v.src, v.dst] (QS.out.below (bstep0 d1 d2)) (ints_two (l7.below d2 l7.lt)) (by omega) (by simp)).mono ?_
                rintro e y3 ⟨A3, c3, us, rfl, q3, hy3, d3⟩
                simp only [List.length_cons, List.length_nil] at hy3
                have s3 := q3.toSrc
                refine hK.out _ _ (KEEP2.out _ (bstep0 (bstep0 d1 d2) d3)) (fun hHeld => ?_)
                clear hK K
                try simp only [Act.put, List.setIfInBounds_toArray, List.set_cons_zero, List.set_cons_succ]
                refine wpAnyH_ready (rs := [12]) (by kernel_rfl) (by simp) ?_
                refine AllReadyH.cons (o := { dst := some 61, op := Op.buildSlice 32 1 #[(0, Operand.tmp 60)], type := 32, pos := "record.go:155", after := #[{ on := 11, ground := Ground.data }], guard := none }) rfl (fun K hK => ?_) AllReadyH.nil
                rw [if_pos (by rfl)]
                go_simp
                have d4 := below_alloc y3 (.cells #[.string v.ty] 9)
                have l12 := Blk.new y3 9 [.string v.ty]
                refine hK.out _ _ (KEEP2.out _ (bstep0 (bstep0 (bstep0 d1 d2) d3) d4)) (fun hHeld => ?_)
                generalize World.alloc y3 (.cells #[.string v.ty] 9) = y4 at *
                clear hK K
                try simp only [Act.put, List.setIfInBounds_toArray, List.set_cons_zero, List.set_cons_succ]
                refine wpAnyH_ready (rs := [13]) (by kernel_rfl) (by simp) ?_
                refine AllReadyH.cons (o := { dst := some 62, op := Op.call { callee := Callee.value (Operand.func 119), args := #[Operand.tmp 57, Operand.tmp 61], argTypes := #[81, 32] }, type := 81, pos := "record.go:155", after := #[{ on := 8, ground := Ground.data }, { on := 12, ground := Ground.data }, { on := 8, ground := Ground.chain }], guard := none }) rfl (fun K hK => ?_) AllReadyH.nil
                rw [if_pos (by rfl)]
                go_simp
                go_at_call 119
                refine (leb_str y4 A3 c3 us (some ⟨y3.heap.size, 0, none⟩) 1 [v.ty] 1 (s3.below d4) (strs_one (l12.below (Below.refl _ _) l12.lt)) (by omega) (by simp) (by omega) HTY.out).mono ?_
                rintro e y5 ⟨A4, c4, ts, rfl, q4, hy4, d5⟩
                simp only [List.length_cons, List.length_nil] at hy4
                have s4 := q4.toSrc
                refine hK.out _ _ (KEEP2.out _ (bstep0 (bstep0 (bstep0 (bstep0 d1 d2) d3) d4) d5)) (fun hHeld => ?_)
                clear hK K
                try simp only [Act.put, List.setIfInBounds_toArray, List.set_cons_zero, List.set_cons_succ]
                refine wpAnyH_ready (rs := [18]) (by kernel_rfl) (by simp) ?_
                refine AllReadyH.cons (o := { dst := some 67, op := Op.call { callee := Callee.value (Operand.func 118), args := #[Operand.tmp 62, Operand.tmp 66], argTypes := #[81, 321] }, type := 81, pos := "record.go:155", after := #[{ on := 13, ground := Ground.data }, { on := 17, ground := Ground.data }, { on := 13, ground := Ground.chain }], guard := none }) rfl (fun K hK => ?_) AllReadyH.nil
                rw [if_pos (by rfl)]
                go_simp
                go_at_call 118
                refine (leb_real y5 A4 c4 ts (y1.heap.size) v.w HVW.out (s4.below (Below.refl _ _)) ⟨(l17.below (bstep0 (bstep0 d3 d4) d5) l17.lt).lt, (l17.below (bstep0 (bstep0 d3 d4) d5) l17.lt).cell 0⟩ (by omega)).mono ?_
                rintro e y6 ⟨A5, c5, ks, rfl, q5, hy5, d6⟩
                refine hK.out _ _ (KEEP2.out _ (bstep0 (bstep0 (bstep0 (bstep0 (bstep0 d1 d2) d3) d4) d5) d6)) (fun hHeld => ?_)
                clear hK K
                try simp only [Act.put, List.setIfInBounds_toArray, List.set_cons_zero, List.set_cons_succ]
                refine wpAnyH_take (i := 19) (oi := { dst := some 8, op := Op.assign (Operand.tmp 67), type := 81, pos := "record.go:155", after := #[{ on := 18, ground := Ground.data }, { on := 18, ground := Ground.chain }, { on := 0, ground := Ground.phase }, { on := 1, ground := Ground.phase }, { on := 2, ground := Ground.phase }, { on := 3, ground := Ground.phase }, { on := 4, ground := Ground.phase }, { on := 5, ground := Ground.phase }, { on := 6, ground := Ground.phase }, { on := 7, ground := Ground.phase }, { on := 8, ground := Ground.phase }, { on := 9, ground := Ground.phase }, { on := 10, ground := Ground.phase }, { on := 11, ground := Ground.phase }, { on := 12, ground := Ground.phase }, { on := 13, ground := Ground.phase }, { on := 14, ground := Ground.phase }, { on := 15, ground := Ground.phase }, { on := 16, ground := Ground.phase }, { on := 17, ground := Ground.phase }, { on := 18, ground := Ground.phase }], guard := none }) (v := ?_) rfl (by kernel_rfl) (by kernel_rfl) (by kernel_rfl) (fun _ _ _ h => h) (Or.inl ⟨by rfl, ?_⟩) hHeld ?_
                rotate_left
                · (intro W1 hSw; (try dsimp only at hSw); go_simp; first | done | (with_reducible rfl))
                try simp only [Act.put, List.setIfInBounds_toArray, List.set_cons_zero, List.set_cons_succ]
                refine wpAnyH_done (by kernel_rfl) ?_ _
                have BG := hid (DONE2.out _ (bstep0 (bstep0 (bstep0 (bstep0 (bstep0 d1 d2) d3) d4) d5) d6))
                have QF := hid (q5.low (DONE2.out _ (bstep0 (bstep0 (bstep0 (bstep0 d1 d2) d3) d4) d5)).size)
                have hyG : Hid (ks.length ≤ 30 + 100 * (j + 1)) := by show _ ≤ _; have := HY.out; omega
                clear hHeld KEEP2 HS2
                go_wp2_with fail
                go_roundw
                case rel => exact ⟨j + 1, A5, c5, ks, by omega, rfl, by go_num, hyG, QF, BG⟩
                case measure => simp [intOf]; omega
              · rw [if_pos (by rfl)]
                go_simp
                have d3 := below_alloc y2 (.cells #[.string v.ty] 9)
                have l12 := Blk.new y2 9 [.string v.ty]
                refine hK.out _ _ (KEEP2.out _ (bstep0 (bstep0 d1 d2) d3)) (fun hHeld => ?_)
                generalize World.alloc y2 (.cells #[.string v.ty] 9) = y3 at *
                clear hK K
                try simp only [Act.put, List.setIfInBounds_toArray, List.set_cons_zero, List.set_cons_succ]
                refine wpAnyH_ready (rs := [8]) (by kernel_rfl) (by simp) ?_
                refine AllReadyH.cons (o := { dst := some 57, op := Op.call { callee := Callee.value (Operand.func 116), args := #[Operand.tmp 49, Operand.tmp 56], argTypes := #[81, 31] }, type := 81, pos := "record.go:155", after := #[{ on := 0, ground := Ground.data }, { on := 7, ground := Ground.data }], guard := none }) rfl (fun K hK => ?_) AllReadyH.nil
                rw [if_pos (by rfl)]
                go_simp
                go_at_call 116
                refine (leb_int y3 A2 c2 zs (y0.heap.size) [v.src, v.dst] (QS.out.below (bstep0 (bstep0 d1 d2) d3)) (ints_two (l7.below (bstep0 d2 d3) l7.lt)) (by omega) (by simp)).mono ?_
                rintro e y4 ⟨A3, c3, us, rfl, q3, hy3, d4⟩
                simp only [List.length_cons, List.length_nil] at hy3
                have s3 := q3.toSrc
                refine hK.out _ _ (KEEP2.out _ (bstep0 (bstep0 (bstep0 d1 d2) d3) d4)) (fun hHeld => ?_)
                clear hK K
                try simp only [Act.put, List.setIfInBounds_toArray, List.set_cons_zero, List.set_cons_succ]
                refine wpAnyH_ready (rs := [13]) (by kernel_rfl) (by simp) ?_
                refine AllReadyH.cons (o := { dst := some 62, op := Op.call { callee := Callee.value (Operand.func 119), args := #[Operand.tmp 57, Operand.tmp 61], argTypes := #[81, 32] }, type := 81, pos := "record.go:155", after := #[{ on := 8, ground := Ground.data }, { on := 12, ground := Ground.data }, { on := 8, ground := Ground.chain }], guard := none }) rfl (fun K hK => ?_) AllReadyH.nil
                rw [if_pos (by rfl)]
                go_simp
                go_at_call 119
                refine (leb_str y4 A3 c3 us (some ⟨y2.heap.size, 0, none⟩) 1 [v.ty] 1 (s3.below (Below.refl _ _)) (strs_one (l12.below d4 l12.lt)) (by omega) (by simp) (by omega) HTY.out).mono ?_
                rintro e y5 ⟨A4, c4, ts, rfl, q4, hy4, d5⟩
                simp only [List.length_cons, List.length_nil] at hy4
                have s4 := q4.toSrc
                refine hK.out _ _ (KEEP2.out _ (bstep0 (bstep0 (bstep0 (bstep0 d1 d2) d3) d4) d5)) (fun hHeld => ?_)
                clear hK K
                try simp only [Act.put, List.setIfInBounds_toArray, List.set_cons_zero, List.set_cons_succ]
                refine wpAnyH_ready (rs := [18]) (by kernel_rfl) (by simp) ?_
                refine AllReadyH.cons (o := { dst := some 67, op := Op.call { callee := Callee.value (Operand.func 118), args := #[Operand.tmp 62, Operand.tmp 66], argTypes := #[81, 321] }, type := 81, pos := "record.go:155", after := #[{ on := 13, ground := Ground.data }, { on := 17, ground := Ground.data }, { on := 13, ground := Ground.chain }], guard := none }) rfl (fun K hK => ?_) AllReadyH.nil
                rw [if_pos (by rfl)]
                go_simp
                go_at_call 118
                refine (leb_real y5 A4 c4 ts (y1.heap.size) v.w HVW.out (s4.below (Below.refl _ _)) ⟨(l17.below (bstep0 (bstep0 d3 d4) d5) l17.lt).lt, (l17.below (bstep0 (bstep0 d3 d4) d5) l17.lt).cell 0⟩ (by omega)).mono ?_
                rintro e y6 ⟨A5, c5, ks, rfl, q5, hy5, d6⟩
                refine hK.out _ _ (KEEP2.out _ (bstep0 (bstep0 (bstep0 (bstep0 (bstep0 d1 d2) d3) d4) d5) d6)) (fun hHeld => ?_)
                clear hK K
                try simp only [Act.put, List.setIfInBounds_toArray, List.set_cons_zero, List.set_cons_succ]
                refine wpAnyH_take (i := 19) (oi := { dst := some 8, op := Op.assign (Operand.tmp 67), type := 81, pos := "record.go:155", after := #[{ on := 18, ground := Ground.data }, { on := 18, ground := Ground.chain }, { on := 0, ground := Ground.phase }, { on := 1, ground := Ground.phase }, { on := 2, ground := Ground.phase }, { on := 3, ground := Ground.phase }, { on := 4, ground := Ground.phase }, { on := 5, ground := Ground.phase }, { on := 6, ground := Ground.phase }, { on := 7, ground := Ground.phase }, { on := 8, ground := Ground.phase }, { on := 9, ground := Ground.phase }, { on := 10, ground := Ground.phase }, { on := 11, ground := Ground.phase }, { on := 12, ground := Ground.phase }, { on := 13, ground := Ground.phase }, { on := 14, ground := Ground.phase }, { on := 15, ground := Ground.phase }, { on := 16, ground := Ground.phase }, { on := 17, ground := Ground.phase }, { on := 18, ground := Ground.phase }], guard := none }) (v := ?_) rfl (by kernel_rfl) (by kernel_rfl) (by kernel_rfl) (fun _ _ _ h => h) (Or.inl ⟨by rfl, ?_⟩) hHeld ?_
                rotate_left
                · (intro W1 hSw; (try dsimp only at hSw); go_simp; first | done | (with_reducible rfl))
                try simp only [Act.put, List.setIfInBounds_toArray, List.set_cons_zero, List.set_cons_succ]
                refine wpAnyH_done (by kernel_rfl) ?_ _
                have BG := hid (DONE2.out _ (bstep0 (bstep0 (bstep0 (bstep0 (bstep0 d1 d2) d3) d4) d5) d6))
                have QF := hid (q5.low (DONE2.out _ (bstep0 (bstep0 (bstep0 (bstep0 d1 d2) d3) d4) d5)).size)
                have hyG : Hid (ks.length ≤ 30 + 100 * (j + 1)) := by show _ ≤ _; have := HY.out; omega
                clear hHeld KEEP2 HS2
                go_wp2_with fail
                go_roundw
                case rel => exact ⟨j + 1, A5, c5, ks, by omega, rfl, by go_num, hyG, QF, BG⟩
                case measure => simp [intOf]; omega
          · rw [if_pos (by rfl)]
            go_simp
            have d1 := below_alloc y0 (.cells #[.string v.ty] 9)
            have l12 := Blk.new y0 9 [.string v.ty]
            refine hK.out _ _ (KEEP2.out _ d1) (fun hHeld => ?_)
            generalize World.alloc y0 (.cells #[.string v.ty] 9) = y1 at *
            clear hK K
            try simp only [Act.put, List.setIfInBounds_toArray, List.set_cons_zero, List.set_cons_succ]
            refine wpAnyH_ready (rs := [7, 17]) (by kernel_rfl) (by simp) ?_
            refine AllReadyH.cons (o := { dst := some 56, op := Op.buildSlice 31 2 #[(0, Operand.tmp 52), (1, Operand.tmp 55)], type := 31, pos := "record.go:155", after := #[{ on := 3, ground := Ground.data }, { on := 6, ground := Ground.data }], guard := none }) rfl (fun K hK => ?_) (AllReadyH.cons (o := { dst := some 66, op := Op.buildSlice 321 1 #[(0, Operand.tmp 65)], type := 321, pos := "record.go:155", after := #[{ on := 16, ground := Ground.data }], guard := none }) rfl (fun K hK => ?_) AllReadyH.nil)
            · rw [if_pos (by rfl)]
              go_simp
              have d2 := below_alloc y1 (.cells #[.int .i64 v.src, .int .i64 v.dst] 3)
              have l7 := Blk.new y1 3 [.int .i64 v.src, .int .i64 v.dst]
              refine hK.out _ _ (KEEP2.out _ (bstep0 d1 d2)) (fun hHeld => ?_)
              generalize World.alloc y1 (.cells #[.int .i64 v.src, .int .i64 v.dst] 3) = y2 at *
              clear hK K
              try simp only [Act.put, List.setIfInBounds_toArray, List.set_cons_zero, List.set_cons_succ]
              refine wpAnyH_ready (rs := [8, 17]) (by kernel_rfl) (by simp) ?_
              refine AllReadyH.cons (o := { dst := some 57, op := Op.call { callee := Callee.value (Operand.func 116), args := #[Operand.tmp 49, Operand.tmp 56], argTypes := #[81, 31] }, type := 81, pos := "record.go:155", after := #[{ on := 0, ground := Ground.data }, { on := 7, ground := Ground.data }], guard := none }) rfl (fun K hK => ?_) (AllReadyH.cons (o := { dst := some 66, op := Op.buildSlice 321 1 #[(0, Operand.tmp 65)], type := 321, pos := "record.go:155", after := #[{ on := 16, ground := Ground.data }], guard := none }) rfl (fun K hK => ?_) AllReadyH.nil)
              · rw [if_pos (by rfl)]
                go_simp
                go_at_call 116
                refine (leb_int y2 A2 c2 zs (y1.heap.size) [v.src, v.dst] (QS.out.below (bstep0 d1 d2)) (ints_two (l7.below (Below.refl _ _) l7.lt)) (by omega) (by simp)).mono ?_
                rintro e y3 ⟨A3, c3, us, rfl, q3, hy3, d3⟩
                simp only [List.length_cons, List.length_nil] at hy3
                have s3 := q3.toSrc
                refine hK.out _ _ (KEEP2.out _ (bstep0 (bstep0 d1 d2) d3)) (fun hHeld => ?_)
                clear hK K
                try simp only [Act.put, List.setIfInBounds_toArray, List.set_cons_zero, List.set_cons_succ]
                refine wpAnyH_ready (rs := [13, 17]) (by kernel_rfl) (by simp) ?_
                refine AllReadyH.cons (o := { dst := some 62, op := Op.call { callee := Callee.value (Operand.func 119), args := #[Operand.tmp 57, Operand.tmp 61], argTypes := #[81, 32] }, type := 81, pos := "record.go:155", after := #[{ on := 8, ground := Ground.data }, { on := 12, ground := Ground.data }, { on := 8, ground := Ground.chain }], guard := none }) rfl (fun K hK => ?_) (AllReadyH.cons (o := { dst := some 66, op := Op.buildSlice 321 1 #[(0, Operand.tmp 65)], type := 321, pos := "record.go:155", after := #[{ on := 16, ground := Ground.data }], guard := none }) rfl (fun K hK => ?_) AllReadyH.nil)
                · rw [if_pos (by rfl)]
                  go_simp
                  go_at_call 119
                  refine (leb_str y3 A3 c3 us (some ⟨y0.heap.size, 0, none⟩) 1 [v.ty] 1 (s3.below (Below.refl _ _)) (strs_one (l12.below (bstep0 d2 d3) l12.lt)) (by omega) (by simp) (by omega) HTY.out).mono ?_
                  rintro e y4 ⟨A4, c4, ts, rfl, q4, hy4, d4⟩
                  simp only [List.length_cons, List.length_nil] at hy4
                  have s4 := q4.toSrc
                  refine hK.out _ _ (KEEP2.out _ (bstep0 (bstep0 (bstep0 d1 d2) d3) d4)) (fun hHeld => ?_)
                  clear hK K
                  try simp only [Act.put, List.setIfInBounds_toArray, List.set_cons_zero, List.set_cons_succ]
                  refine wpAnyH_ready (rs := [17]) (by kernel_rfl) (by simp) ?_
                  refine AllReadyH.cons (o := { dst := some 66, op := Op.buildSlice 321 1 #[(0, Operand.tmp 65)], type := 321, pos := "record.go:155", after := #[{ on := 16, ground := Ground.data }], guard := none }) rfl (fun K hK => ?_) AllReadyH.nil
                  rw [if_pos (by rfl)]
                  go_simp
                  have d5 := below_alloc y4 (.cells #[.float .f64 v.w] 36)
                  have l17 := Blk.new y4 36 [.float .f64 v.w]
                  refine hK.out _ _ (KEEP2.out _ (bstep0 (bstep0 (bstep0 (bstep0 d1 d2) d3) d4) d5)) (fun hHeld => ?_)
                  generalize World.alloc y4 (.cells #[.float .f64 v.w] 36) = y5 at *
                  clear hK K
                  try simp only [Act.put, List.setIfInBounds_toArray, List.set_cons_zero, List.set_cons_succ]
                  refine wpAnyH_ready (rs := [18]) (by kernel_rfl) (by simp) ?_
                  refine AllReadyH.cons (o := { dst := some 67, op := Op.call { callee := Callee.value (Operand.func 118), args := #[Operand.tmp 62, Operand.tmp 66], argTypes := #[81, 321] }, type := 81, pos := "record.go:155", after := #[{ on := 13, ground := Ground.data }, { on := 17, ground := Ground.data }, { on := 13, ground := Ground.chain }], guard := none }) rfl (fun K hK => ?_) AllReadyH.nil
                  rw [if_pos (by rfl)]
                  go_simp
                  go_at_call 118
                  refine (leb_real y5 A4 c4 ts (y4.heap.size) v.w HVW.out (s4.below d5) ⟨(l17.below (Below.refl _ _) l17.lt).lt, (l17.below (Below.refl _ _) l17.lt).cell 0⟩ (by omega)).mono ?_
                  rintro e y6 ⟨A5, c5, ks, rfl, q5, hy5, d6⟩
                  refine hK.out _ _ (KEEP2.out _ (bstep0 (bstep0 (bstep0 (bstep0 (bstep0 d1 d2) d3) d4) d5) d6)) (fun hHeld => ?_)
                  clear hK K
                  try simp only [Act.put, List.setIfInBounds_toArray, List.set_cons_zero, List.set_cons_succ]
                  refine wpAnyH_take (i := 19) (oi := { dst := some 8, op := Op.assign (Operand.tmp 67), type := 81, pos := "record.go:155", after := #[{ on := 18, ground := Ground.data }, { on := 18, ground := Ground.chain }, { on := 0, ground := Ground.phase }, { on := 1, ground := Ground.phase }, { on := 2, ground := Ground.phase }, { on := 3, ground := Ground.phase }, { on := 4, ground := Ground.phase }, { on := 5, ground := Ground.phase }, { on := 6, ground := Ground.phase }, { on := 7, ground := Ground.phase }, { on := 8, ground := Ground.phase }, { on := 9, ground := Ground.phase }, { on := 10, ground := Ground.phase }, { on := 11, ground := Ground.phase }, { on := 12, ground := Ground.phase }, { on := 13, ground := Ground.phase }, { on := 14, ground := Ground.phase }, { on := 15, ground := Ground.phase }, { on := 16, ground := Ground.phase }, { on := 17, ground := Ground.phase }, { on := 18, ground := Ground.phase }], guard := none }) (v := ?_) rfl (by kernel_rfl) (by kernel_rfl) (by kernel_rfl) (fun _ _ _ h => h) (Or.inl ⟨by rfl, ?_⟩) hHeld ?_
                  rotate_left
                  · (intro W1 hSw; (try dsimp only at hSw); go_simp; first | done | (with_reducible rfl))
                  try simp only [Act.put, List.setIfInBounds_toArray, List.set_cons_zero, List.set_cons_succ]
                  refine wpAnyH_done (by kernel_rfl) ?_ _
                  have BG := hid (DONE2.out _ (bstep0 (bstep0 (bstep0 (bstep0 (bstep0 d1 d2) d3) d4) d5) d6))
                  have QF := hid (q5.low (DONE2.out _ (bstep0 (bstep0 (bstep0 (bstep0 d1 d2) d3) d4) d5)).size)
                  have hyG : Hid (ks.length ≤ 30 + 100 * (j + 1)) := by show _ ≤ _; have := HY.out; omega
                  clear hHeld KEEP2 HS2
                  go_wp2_with fail
                  go_roundw
                  case rel => exact ⟨j + 1, A5, c5, ks, by omega, rfl, by go_num, hyG, QF, BG⟩
                  case measure => simp [intOf]; omega
                · rw [if_pos (by rfl)]
                  go_simp
                  have d4 := below_alloc y3 (.cells #[.float .f64 v.w] 36)
                  have l17 := Blk.new y3 36 [.float .f64 v.w]
                  refine hK.out _ _ (KEEP2.out _ (bstep0 (bstep0 (bstep0 d1 d2) d3) d4)) (fun hHeld => ?_)
                  generalize World.alloc y3 (.cells #[.float .f64 v.w] 36) = y4 at *
                  clear hK K
                  try simp only [Act.put, List.setIfInBounds_toArray, List.set_cons_zero, List.set_cons_succ]
                  refine wpAnyH_ready (rs := [13]) (by kernel_rfl) (by simp) ?_
                  refine AllReadyH.cons (o := { dst := some 62, op := Op.call { callee := Callee.value (Operand.func 119), args := #[Operand.tmp 57, Operand.tmp 61], argTypes := #[81, 32] }, type := 81, pos := "record.go:155", after := #[{ on := 8, ground := Ground.data }, { on := 12, ground := Ground.data }, { on := 8, ground := Ground.chain }], guard := none }) rfl (fun K hK => ?_) AllReadyH.nil
                  rw [if_pos (by rfl)]
                  go_simp
                  go_at_call 119
                  refine (leb_str y4 A3 c3 us (some ⟨y0.heap.size, 0, none⟩) 1 [v.ty] 1 (s3.below d4) (strs_one (l12.below (bstep0 (bstep0 d2 d3) d4) l12.lt)) (by omega) (by simp) (by omega) HTY.out).mono ?_
                  rintro e y5 ⟨A4, c4, ts, rfl, q4, hy4, d5⟩
                  simp only [List.length_cons, List.length_nil] at hy4
                  have s4 := q4.toSrc
                  refine hK.out _ _ (KEEP2.out _ (bstep0 (bstep0 (bstep0 (bstep0 d1 d2) d3) d4) d5)) (fun hHeld => ?_)
                  clear hK K
                  try simp only [Act.put, List.setIfInBounds_toArray, List.set_cons_zero, List.set_cons_succ]
                  refine wpAnyH_ready (rs := [18]) (by kernel_rfl) (by simp) ?_
                  refine AllReadyH.cons (o := { dst := some 67, op := Op.call { callee := Callee.value (Operand.func 118), args := #[Operand.tmp 62, Operand.tmp 66], argTypes := #[81, 321] }, type := 81, pos := "record.go:155", after := #[{ on := 13, ground := Ground.data }, { on := 17, ground := Ground.data }, { on := 13, ground := Ground.chain }], guard := none }) rfl (fun K hK => ?_) AllReadyH.nil
                  rw [if_pos (by rfl)]
                  go_simp
                  go_at_call 118
                  refine (leb_real y5 A4 c4 ts (y3.heap.size) v.w HVW.out (s4.below (Below.refl _ _)) ⟨(l17.below d5 l17.lt).lt, (l17.below d5 l17.lt).cell 0⟩ (by omega)).mono ?_
                  rintro e y6 ⟨A5, c5, ks, rfl, q5, hy5, d6⟩
                  refine hK.out _ _ (KEEP2.out _ (bstep0 (bstep0 (bstep0 (bstep0 (bstep0 d1 d2) d3) d4) d5) d6)) (fun hHeld => ?_)
                  clear hK K
                  try simp only [Act.put, List.setIfInBounds_toArray, List.set_cons_zero, List.set_cons_succ]
                  refine wpAnyH_take (i := 19) (oi := { dst := some 8, op := Op.assign (Operand.tmp 67), type := 81, pos := "record.go:155", after := #[{ on := 18, ground := Ground.data }, { on := 18, ground := Ground.chain }, { on := 0, ground := Ground.phase }, { on := 1, ground := Ground.phase }, { on := 2, ground := Ground.phase }, { on := 3, ground := Ground.phase }, { on := 4, ground := Ground.phase }, { on := 5, ground := Ground.phase }, { on := 6, ground := Ground.phase }, { on := 7, ground := Ground.phase }, { on := 8, ground := Ground.phase }, { on := 9, ground := Ground.phase }, { on := 10, ground := Ground.phase }, { on := 11, ground := Ground.phase }, { on := 12, ground := Ground.phase }, { on := 13, ground := Ground.phase }, { on := 14, ground := Ground.phase }, { on := 15, ground := Ground.phase }, { on := 16, ground := Ground.phase }, { on := 17, ground := Ground.phase }, { on := 18, ground := Ground.phase }], guard := none }) (v := ?_) rfl (by kernel_rfl) (by kernel_rfl) (by kernel_rfl) (fun _ _ _ h => h) (Or.inl ⟨by rfl, ?_⟩) hHeld ?_
                  rotate_left
                  · (intro W1 hSw; (try dsimp only at hSw); go_simp; first | done | (with_reducible rfl))
                  try simp only [Act.put, List.setIfInBounds_toArray, List.set_cons_zero, List.set_cons_succ]
                  refine wpAnyH_done (by kernel_rfl) ?_ _
                  have BG := hid (DONE2.out _ (bstep0 (bstep0 (bstep0 (bstep0 (bstep0 d1 d2) d3) d4) d5) d6))
                  have QF := hid (q5.low (DONE2.out _ (bstep0 (bstep0 (bstep0 (bstep0 d1 d2) d3) d4) d5)).size)
                  have hyG : Hid (ks.length ≤ 30 + 100 * (j + 1)) := by show _ ≤ _; have := HY.out; omega
                  clear hHeld KEEP2 HS2
                  go_wp2_with fail
                  go_roundw
                  case rel => exact ⟨j + 1, A5, c5, ks, by omega, rfl, by go_num, hyG, QF, BG⟩
                  case measure => simp [intOf]; omega
              · rw [if_pos (by rfl)]
                go_simp
                have d3 := below_alloc y2 (.cells #[.float .f64 v.w] 36)
                have l17 := Blk.new y2 36 [.float .f64 v.w]
                refine hK.out _ _ (KEEP2.out _ (bstep0 (bstep0 d1 d2) d3)) (fun hHeld => ?_)
                generalize World.alloc y2 (.cells #[.float .f64 v.w] 36) = y3 at *
                clear hK K
                try simp only [Act.put, List.setIfInBounds_toArray, List.set_cons_zero, List.set_cons_succ]
                refine wpAnyH_ready (rs := [8]) (by kernel_rfl) (by simp) ?_
                refine AllReadyH.cons (o := { dst := some 57, op := Op.call { callee := Callee.value (Operand.func 116), args := #[Operand.tmp 49, Operand.tmp 56], argTypes := #[81, 31] }, type := 81, pos := "record.go:155", after := #[{ on := 0, ground := Ground.data }, { on := 7, ground := Ground.data }], guard := none }) rfl (fun K hK => ?_) AllReadyH.nil
                rw [if_pos (by rfl)]
                go_simp
                go_at_call 116
                refine (leb_int y3 A2 c2 zs (y1.heap.size) [v.src, v.dst] (QS.out.below (bstep0 (bstep0 d1 d2) d3)) (ints_two (l7.below d3 l7.lt)) (by omega) (by simp)).mono ?_
                rintro e y4 ⟨A3, c3, us, rfl, q3, hy3, d4⟩
                simp only [List.length_cons, List.length_nil] at hy3
                have s3 := q3.toSrc
                refine hK.out _ _ (KEEP2.out _ (bstep0 (bstep0 (bstep0 d1 d2) d3) d4)) (fun hHeld => ?_)
                clear hK K
                try simp only [Act.put, List.setIfInBounds_toArray, List.set_cons_zero, List.set_cons_succ]
                refine wpAnyH_ready (rs := [13]) (by kernel_rfl) (by simp) ?_
                refine AllReadyH.cons (o := { dst := some 62, op := Op.call { callee := Callee.value (Operand.func 119), args := #[Operand.tmp 57, Operand.tmp 61], argTypes := #[81, 32] }, type := 81, pos := "record.go:155", after := #[{ on := 8, ground := Ground.data }, { on := 12, ground := Ground.data }, { on := 8, ground := Ground.chain }], guard := none }) rfl (fun K hK => ?_) AllReadyH.nil
                rw [if_pos (by rfl)]
                go_simp
                go_at_call 119
                refine (leb_str y4 A3 c3 us (some ⟨y0.heap.size, 0, none⟩) 1 [v.ty] 1 (s3.below (Below.refl _ _)) (strs_one (l12.below (bstep0 (bstep0 d2 d3) d4) l12.lt)) (by omega) (by simp) (by omega) HTY.out).mono ?_
                rintro e y5 ⟨A4, c4, ts, rfl, q4, hy4, d5⟩
                simp only [List.length_cons, List.length_nil] at hy4
                have s4 := q4.toSrc
                refine hK.out _ _ (KEEP2.out _ (bstep0 (bstep0 (bstep0 (bstep0 d1 d2) d3) d4) d5)) (fun hHeld => ?_)
                clear hK K
                try simp only [Act.put, List.setIfInBounds_toArray, List.set_cons_zero, List.set_cons_succ]
                refine wpAnyH_ready (rs := [18]) (by kernel_rfl) (by simp) ?_
                refine AllReadyH.cons (o := { dst := some 67, op := Op.call { callee := Callee.value (Operand.func 118), args := #[Operand.tmp 62, Operand.tmp 66], argTypes := #[81, 321] }, type := 81, pos := "record.go:155", after := #[{ on := 13, ground := Ground.data }, { on := 17, ground := Ground.data }, { on := 13, ground := Ground.chain }], guard := none }) rfl (fun K hK => ?_) AllReadyH.nil
                rw [if_pos (by rfl)]
                go_simp
                go_at_call 118
                refine (leb_real y5 A4 c4 ts (y2.heap.size) v.w HVW.out (s4.below (Below.refl _ _)) ⟨(l17.below (bstep0 d4 d5) l17.lt).lt, (l17.below (bstep0 d4 d5) l17.lt).cell 0⟩ (by omega)).mono ?_
                rintro e y6 ⟨A5, c5, ks, rfl, q5, hy5, d6⟩
                refine hK.out _ _ (KEEP2.out _ (bstep0 (bstep0 (bstep0 (bstep0 (bstep0 d1 d2) d3) d4) d5) d6)) (fun hHeld => ?_)
                clear hK K
                try simp only [Act.put, List.setIfInBounds_toArray, List.set_cons_zero, List.set_cons_succ]
                refine wpAnyH_take (i := 19) (oi := { dst := some 8, op := Op.assign (Operand.tmp 67), type := 81, pos := "record.go:155", after := #[{ on := 18, ground := Ground.data }, { on := 18, ground := Ground.chain }, { on := 0, ground := Ground.phase }, { on := 1, ground := Ground.phase }, { on := 2, ground := Ground.phase }, { on := 3, ground := Ground.phase }, { on := 4, ground := Ground.phase }, { on := 5, ground := Ground.phase }, { on := 6, ground := Ground.phase }, { on := 7, ground := Ground.phase }, { on := 8, ground := Ground.phase }, { on := 9, ground := Ground.phase }, { on := 10, ground := Ground.phase }, { on := 11, ground := Ground.phase }, { on := 12, ground := Ground.phase }, { on := 13, ground := Ground.phase }, { on := 14, ground := Ground.phase }, { on := 15, ground := Ground.phase }, { on := 16, ground := Ground.phase }, { on := 17, ground := Ground.phase }, { on := 18, ground := Ground.phase }], guard := none }) (v := ?_) rfl (by kernel_rfl) (by kernel_rfl) (by kernel_rfl) (fun _ _ _ h => h) (Or.inl ⟨by rfl, ?_⟩) hHeld ?_
                rotate_left
                · (intro W1 hSw; (try dsimp only at hSw); go_simp; first | done | (with_reducible rfl))
                try simp only [Act.put, List.setIfInBounds_toArray, List.set_cons_zero, List.set_cons_succ]
                refine wpAnyH_done (by kernel_rfl) ?_ _
                have BG := hid (DONE2.out _ (bstep0 (bstep0 (bstep0 (bstep0 (bstep0 d1 d2) d3) d4) d5) d6))
                have QF := hid (q5.low (DONE2.out _ (bstep0 (bstep0 (bstep0 (bstep0 d1 d2) d3) d4) d5)).size)
                have hyG : Hid (ks.length ≤ 30 + 100 * (j + 1)) := by show _ ≤ _; have := HY.out; omega
                clear hHeld KEEP2 HS2
                go_wp2_with fail
                go_roundw
                case rel => exact ⟨j + 1, A5, c5, ks, by omega, rfl, by go_num, hyG, QF, BG⟩
                case measure => simp [intOf]; omega
            · rw [if_pos (by rfl)]
              go_simp
              have d2 := below_alloc y1 (.cells #[.float .f64 v.w] 36)
              have l17 := Blk.new y1 36 [.float .f64 v.w]
              refine hK.out _ _ (KEEP2.out _ (bstep0 d1 d2)) (fun hHeld => ?_)
              generalize World.alloc y1 (.cells #[.float .f64 v.w] 36) = y2 at *
              clear hK K
              try simp only [Act.put, List.setIfInBounds_toArray, List.set_cons_zero, List.set_cons_succ]
              refine wpAnyH_ready (rs := [7]) (by kernel_rfl) (by simp) ?_
              refine AllReadyH.cons (o := { dst := some 56, op := Op.buildSlice 31 2 #[(0, Operand.tmp 52), (1, Operand.tmp 55)], type := 31, pos := "record.go:155", after := #[{ on := 3, ground := Ground.data }, { on := 6, ground := Ground.data }], guard := none }) rfl (fun K hK => ?_) AllReadyH.nil
              rw [if_pos (by rfl)]
              go_simp
              have d3 := below_alloc y2 (.cells #[.int .i64 v.src, .int .i64 v.dst] 3)
              have l7 := Blk.new y2 3 [.int .i64 v.src, .int .i64 v.dst]
              refine hK.out _ _ (KEEP2.out _ (bstep0 (bstep0 d1 d2) d3)) (fun hHeld => ?_)
              generalize World.alloc y2 (.cells #[.int .i64 v.src, .int .i64 v.dst] 3) = y3 at *
              clear hK K
              try simp only [Act.put, List.setIfInBounds_toArray, List.set_cons_zero, List.set_cons_succ]
              refine wpAnyH_ready (rs := [8]) (by kernel_rfl) (by simp) ?_
              refine AllReadyH.cons (o := { dst := some 57, op := Op.call { callee := Callee.value (Operand.func 116), args := #[Operand.tmp 49, Operand.tmp 56], argTypes := #[81, 31] }, type := 81, pos := "record.go:155", after := #[{ on := 0, ground := Ground.data }, { on := 7, ground := Ground.data }], guard := none }) rfl (fun K hK => ?_) AllReadyH.nil
              rw [if_pos (by rfl)]
              go_simp
              go_at_call 116
              refine (leb_int y3 A2 c2 zs (y2.heap.size) [v.src, v.dst] (QS.out.below (bstep0 (bstep0 d1 d2) d3)) (ints_two (l7.below (Below.refl _ _) l7.lt)) (by omega) (by simp)).mono ?_
              rintro e y4 ⟨A3, c3, us, rfl, q3, hy3, d4⟩
              simp only [List.length_cons, List.length_nil] at hy3
              have s3 := q3.toSrc
              refine hK.out _ _ (KEEP2.out _ (bstep0 (bstep0 (bstep0 d1 d2) d3) d4)) (fun hHeld => ?_)
              clear hK K
              try simp only [Act.put, List.setIfInBounds_toArray, List.set_cons_zero, List.set_cons_succ]
              refine wpAnyH_ready (rs := [13]) (by kernel_rfl) (by simp) ?_
              refine AllReadyH.cons (o := { dst := some 62, op := Op.call { callee := Callee.value (Operand.func 119), args := #[Operand.tmp 57, Operand.tmp 61], argTypes := #[81, 32] }, type := 81, pos := "record.go:155", after := #[{ on := 8, ground := Ground.data }, { on := 12, ground := Ground.data }, { on := 8, ground := Ground.chain }], guard := none }) rfl (fun K hK => ?_) AllReadyH.nil
              rw [if_pos (by rfl)]
              go_simp
              go_at_call 119
              refine (leb_str y4 A3 c3 us (some ⟨y0.heap.size, 0, none⟩) 1 [v.ty] 1 (s3.below (Below.refl _ _)) (strs_one (l12.below (bstep0 (bstep0 d2 d3) d4) l12.lt)) (by omega) (by simp) (by omega) HTY.out).mono ?_
              rintro e y5 ⟨A4, c4, ts, rfl, q4, hy4, d5⟩
              simp only [List.length_cons, List.length_nil] at hy4
              have s4 := q4.toSrc
              refine hK.out _ _ (KEEP2.out _ (bstep0 (bstep0 (bstep0 (bstep0 d1 d2) d3) d4) d5)) (fun hHeld => ?_)
              clear hK K
              try simp only [Act.put, List.setIfInBounds_toArray, List.set_cons_zero, List.set_cons_succ]
              refine wpAnyH_ready (rs := [18]) (by kernel_rfl) (by simp) ?_
              refine AllReadyH.cons (o := { dst := some 67, op := Op.call { callee := Callee.value (Operand.func 118), args := #[Operand.tmp 62, Operand.tmp 66], argTypes := #[81, 321] }, type := 81, pos := "record.go:155", after := #[{ on := 13, ground := Ground.data }, { on := 17, ground := Ground.data }, { on := 13, ground := Ground.chain }], guard := none }) rfl (fun K hK => ?_) AllReadyH.nil
              rw [if_pos (by rfl)]
              go_simp
              go_at_call 118
              refine (leb_real y5 A4 c4 ts (y1.heap.size) v.w HVW.out (s4.below (Below.refl _ _)) ⟨(l17.below (bstep0 (bstep0 d3 d4) d5) l17.lt).lt, (l17.below (bstep0 (bstep0 d3 d4) d5) l17.lt).cell 0⟩ (by omega)).mono ?_
              rintro e y6 ⟨A5, c5, ks, rfl, q5, hy5, d6⟩
              refine hK.out _ _ (KEEP2.out _ (bstep0 (bstep0 (bstep0 (bstep0 (bstep0 d1 d2) d3) d4) d5) d6)) (fun hHeld => ?_)
              clear hK K
              try simp only [Act.put, List.setIfInBounds_toArray, List.set_cons_zero, List.set_cons_succ]
              refine wpAnyH_take (i := 19) (oi := { dst := some 8, op := Op.assign (Operand.tmp 67), type := 81, pos := "record.go:155", after := #[{ on := 18, ground := Ground.data }, { on := 18, ground := Ground.chain }, { on := 0, ground := Ground.phase }, { on := 1, ground := Ground.phase }, { on := 2, ground := Ground.phase }, { on := 3, ground := Ground.phase }, { on := 4, ground := Ground.phase }, { on := 5, ground := Ground.phase }, { on := 6, ground := Ground.phase }, { on := 7, ground := Ground.phase }, { on := 8, ground := Ground.phase }, { on := 9, ground := Ground.phase }, { on := 10, ground := Ground.phase }, { on := 11, ground := Ground.phase }, { on := 12, ground := Ground.phase }, { on := 13, ground := Ground.phase }, { on := 14, ground := Ground.phase }, { on := 15, ground := Ground.phase }, { on := 16, ground := Ground.phase }, { on := 17, ground := Ground.phase }, { on := 18, ground := Ground.phase }], guard := none }) (v := ?_) rfl (by kernel_rfl) (by kernel_rfl) (by kernel_rfl) (fun _ _ _ h => h) (Or.inl ⟨by rfl, ?_⟩) hHeld ?_
              rotate_left
              · (intro W1 hSw; (try dsimp only at hSw); go_simp; first | done | (with_reducible rfl))
              try simp only [Act.put, List.setIfInBounds_toArray, List.set_cons_zero, List.set_cons_succ]
              refine wpAnyH_done (by kernel_rfl) ?_ _
              have BG := hid (DONE2.out _ (bstep0 (bstep0 (bstep0 (bstep0 (bstep0 d1 d2) d3) d4) d5) d6))
              have QF := hid (q5.low (DONE2.out _ (bstep0 (bstep0 (bstep0 (bstep0 d1 d2) d3) d4) d5)).size)
              have hyG : Hid (ks.length ≤ 30 + 100 * (j + 1)) := by show _ ≤ _; have := HY.out; omega
              clear hHeld KEEP2 HS2
              go_wp2_with fail
              go_roundw
              case rel => exact ⟨j + 1, A5, c5, ks, by omega, rfl, by go_num, hyG, QF, BG⟩
              case measure => simp [intOf]; omega
          · rw [if_pos (by rfl)]
            go_simp
            have d1 := below_alloc y0 (.cells #[.float .f64 v.w] 36)
            have l17 := Blk.new y0 36 [.float .f64 v.w]
            refine hK.out _ _ (KEEP2.out _ d1) (fun hHeld => ?_)
            generalize World.alloc y0 (.cells #[.float .f64 v.w] 36) = y1 at *
            clear hK K
            try simp only [Act.put, List.setIfInBounds_toArray, List.set_cons_zero, List.set_cons_succ]
            refine wpAnyH_ready (rs := [7, 12]) (by kernel_rfl) (by simp) ?_
            refine AllReadyH.cons (o := { dst := some 56, op := Op.buildSlice 31 2 #[(0, Operand.tmp 52), (1, Operand.tmp 55)], type := 31, pos := "record.go:155", after := #[{ on := 3, ground := Ground.data }, { on := 6, ground := Ground.data }], guard := none }) rfl (fun K hK => ?_) (AllReadyH.cons (o := { dst := some 61, op := Op.buildSlice 32 1 #[(0, Operand.tmp 60)], type := 32, pos := "record.go:155", after := #[{ on := 11, ground := Ground.data }], guard := none }) rfl (fun K hK => ?_) AllReadyH.nil)
            · rw [if_pos (by rfl)]
              go_simp
              have d2 := below_alloc y1 (.cells #[.int .i64 v.src, .int .i64 v.dst] 3)
              have l7 := Blk.new y1 3 [.int .i64 v.src, .int .i64 v.dst]
              refine hK.out _ _ (KEEP2.out _ (bstep0 d1 d2)) (fun hHeld => ?_)
              generalize World.alloc y1 (.cells #[.int .i64 v.src, .int .i64 v.dst] 3) = y2 at *
              clear hK K
              try simp only [Act.put, List.setIfInBounds_toArray, List.set_cons_zero, List.set_cons_succ]
              refine wpAnyH_ready (rs := [8, 12]) (by kernel_rfl) (by simp) ?_
              refine AllReadyH.cons (o := { dst := some 57, op := Op.call { callee := Callee.value (Operand.func 116), args := #[Operand.tmp 49, Operand.tmp 56], argTypes := #[81, 31] }, type := 81, pos := "record.go:155", after := #[{ on := 0, ground := Ground.data }, { on := 7, ground := Ground.data }], guard := none }) rfl (fun K hK => ?_) (AllReadyH.cons (o := { dst := some 61, op := Op.buildSlice 32 1 #[(0, Operand.tmp 60)], type := 32, pos := "record.go:155", after := #[{ on := 11, ground := Ground.data }], guard := none }) rfl (fun K hK => ?_) AllReadyH.nil)
              · rw [if_pos (by rfl)]
                go_simp
                go_at_call 116
                refine (leb_int y2 A2 c2 zs (y1.heap.size) [v.src, v.dst] (QS.out.below (bstep0 d1 d2)) (ints_two (l7.below (Below.refl _ _) l7.lt)) (by omega) (by simp)).mono ?_
                rintro e y3 ⟨A3, c3, us, rfl, q3, hy3, d3⟩
                simp only [List.length_cons, List.length_nil] at hy3
                have s3 := q3.toSrc
                refine hK.out _ _ (KEEP2.out _ (bstep0 (bstep0 d1 d2) d3)) (fun hHeld => ?_)
                clear hK K
                try simp only [Act.put, List.setIfInBounds_toArray, List.set_cons_zero, List.set_cons_succ]
                refine wpAnyH_ready (rs := [12]) (by kernel_rfl) (by simp) ?_
                refine AllReadyH.cons (o := { dst := some 61, op := Op.buildSlice 32 1 #[(0, Operand.tmp 60)], type := 32, pos := "record.go:155", after := #[{ on := 11, ground := Ground.data }], guard := none }) rfl (fun K hK => ?_) AllReadyH.nil
                rw [if_pos (by rfl)]
                go_simp
                have d4 := below_alloc y3 (.cells #[.string v.ty] 9)
                have l12 := Blk.new y3 9 [.string v.ty]
                refine hK.out _ _ (KEEP2.out _ (bstep0 (bstep0 (bstep0 d1 d2) d3) d4)) (fun hHeld => ?_)
                generalize World.alloc y3 (.cells #[.string v.ty] 9) = y4 at *
                clear hK K
                try simp only [Act.put, List.setIfInBounds_toArray, List.set_cons_zero, List.set_cons_succ]
                refine wpAnyH_ready (rs := [13]) (by kernel_rfl) (by simp) ?_
                refine AllReadyH.cons (o := { dst := some 62, op := Op.call { callee := Callee.value (Operand.func 119), args := #[Operand.tmp 57, Operand.tmp 61], argTypes := #[81, 32] }, type := 81, pos := "record.go:155", after := #[{ on := 8, ground := Ground.data }, { on := 12, ground := Ground.data }, { on := 8, ground := Ground.chain }], guard := none }) rfl (fun K hK => ?_) AllReadyH.nil
                rw [if_pos (by rfl)]
                go_simp
                go_at_call 119
                refine (leb_str y4 A3 c3 us (some ⟨y3.heap.size, 0, none⟩) 1 [v.ty] 1 (s3.below d4) (strs_one (l12.below (Below.refl _ _) l12.lt)) (by omega) (by simp) (by omega) HTY.out).mono ?_
                rintro e y5 ⟨A4, c4, ts, rfl, q4, hy4, d5⟩
                simp only [List.length_cons, List.length_nil] at hy4
                have s4 := q4.toSrc
                refine hK.out _ _ (KEEP2.out _ (bstep0 (bstep0 (bstep0 (bstep0 d1 d2) d3) d4) d5)) (fun hHeld => ?_)
                clear hK K
                try simp only [Act.put, List.setIfInBounds_toArray, List.set_cons_zero, List.set_cons_succ]
                refine wpAnyH_ready (rs := [18]) (by kernel_rfl) (by simp) ?_
                refine AllReadyH.cons (o := { dst := some 67, op := Op.call { callee := Callee.value (Operand.func 118), args := #[Operand.tmp 62, Operand.tmp 66], argTypes := #[81, 321] }, type := 81, pos := "record.go:155", after := #[{ on := 13, ground := Ground.data }, { on := 17, ground := Ground.data }, { on := 13, ground := Ground.chain }], guard := none }) rfl (fun K hK => ?_) AllReadyH.nil
                rw [if_pos (by rfl)]
                go_simp
                go_at_call 118
                refine (leb_real y5 A4 c4 ts (y0.heap.size) v.w HVW.out (s4.below (Below.refl _ _)) ⟨(l17.below (bstep0 (bstep0 (bstep0 d2 d3) d4) d5) l17.lt).lt, (l17.below (bstep0 (bstep0 (bstep0 d2 d3) d4) d5) l17.lt).cell 0⟩ (by omega)).mono ?_
                rintro e y6 ⟨A5, c5, ks, rfl, q5, hy5, d6⟩
                refine hK.out _ _ (KEEP2.out _ (bstep0 (bstep0 (bstep0 (bstep0 (bstep0 d1 d2) d3) d4) d5) d6)) (fun hHeld => ?_)
                clear hK K
                try simp only [Act.put, List.setIfInBounds_toArray, List.set_cons_zero, List.set_cons_succ]
                refine wpAnyH_take (i := 19) (oi := { dst := some 8, op := Op.assign (Operand.tmp 67), type := 81, pos := "record.go:155", after := #[{ on := 18, ground := Ground.data }, { on := 18, ground := Ground.chain }, { on := 0, ground := Ground.phase }, { on := 1, ground := Ground.phase }, { on := 2, ground := Ground.phase }, { on := 3, ground := Ground.phase }, { on := 4, ground := Ground.phase }, { on := 5, ground := Ground.phase }, { on := 6, ground := Ground.phase }, { on := 7, ground := Ground.phase }, { on := 8, ground := Ground.phase }, { on := 9, ground := Ground.phase }, { on := 10, ground := Ground.phase }, { on := 11, ground := Ground.phase }, { on := 12, ground := Ground.phase }, { on := 13, ground := Ground.phase }, { on := 14, ground := Ground.phase }, { on := 15, ground := Ground.phase }, { on := 16, ground := Ground.phase }, { on := 17, ground := Ground.phase }, { on := 18, ground := Ground.phase }], guard := none }) (v := ?_) rfl (by kernel_rfl) (by kernel_rfl) (by kernel_rfl) (fun _ _ _ h => h) (Or.inl ⟨by rfl, ?_⟩) hHeld ?_
                rotate_left
                · (intro W1 hSw; (try dsimp only at hSw); go_simp; first | done | (with_reducible rfl))
                try simp only [Act.put, List.setIfInBounds_toArray, List.set_cons_zero, List.set_cons_succ]
                refine wpAnyH_done (by kernel_rfl) ?_ _
                have BG := hid (DONE2.out _ (bstep0 (bstep0 (bstep0 (bstep0 (bstep0 d1 d2) d3) d4) d5) d6))
                have QF := hid (q5.low (DONE2.out _ (bstep0 (bstep0 (bstep0 (bstep0 d1 d2) d3) d4) d5)).size)
                have hyG : Hid (ks.length ≤ 30 + 100 * (j + 1)) := by show _ ≤ _; have := HY.out; omega
                clear hHeld KEEP2 HS2
                go_wp2_with fail
                go_roundw
                case rel => exact ⟨j + 1, A5, c5, ks, by omega, rfl, by go_num, hyG, QF, BG⟩
                case measure => simp [intOf]; omega
              · rw [if_pos (by rfl)]
                go_simp
                have d3 := below_alloc y2 (.cells #[.string v.ty] 9)
                have l12 := Blk.new y2 9 [.string v.ty]
                refine hK.out _ _ (KEEP2.out _ (bstep0 (bstep0 d1 d2) d3)) (fun hHeld => ?_)
                generalize World.alloc y2 (.cells #[.string v.ty] 9) = y3 at *
                clear hK K
                try simp only [Act.put, List.setIfInBounds_toArray, List.set_cons_zero, List.set_cons_succ]
                refine wpAnyH_ready (rs := [8]) (by kernel_rfl) (by simp) ?_
                refine AllReadyH.cons (o := { dst := some 57, op := Op.call { callee := Callee.value (Operand.func 116), args := #[Operand.tmp 49, Operand.tmp 56], argTypes := #[81, 31] }, type := 81, pos := "record.go:155", after := #[{ on := 0, ground := Ground.data }, { on := 7, ground := Ground.data }], guard := none }) rfl (fun K hK => ?_) AllReadyH.nil
                rw [if_pos (by rfl)]
                go_simp
                go_at_call 116
                refine (leb_int y3 A2 c2 zs (y1.heap.size) [v.src, v.dst] (QS.out.below (bstep0 (bstep0 d1 d2) d3)) (ints_two (l7.below d3 l7.lt)) (by omega) (by simp)).mono ?_
                rintro e y4 ⟨A3, c3, us, rfl, q3, hy3, d4⟩
                simp only [List.length_cons, List.length_nil] at hy3
                have s3 := q3.toSrc
                refine hK.out _ _ (KEEP2.out _ (bstep0 (bstep0 (bstep0 d1 d2) d3) d4)) (fun hHeld => ?_)
                clear hK K
                try simp only [Act.put, List.setIfInBounds_toArray, List.set_cons_zero, List.set_cons_succ]
                refine wpAnyH_ready (rs := [13]) (by kernel_rfl) (by simp) ?_
                refine AllReadyH.cons (o := { dst := some 62, op := Op.call { callee := Callee.value (Operand.func 119), args := #[Operand.tmp 57, Operand.tmp 61], argTypes := #[81, 32] }, type := 81, pos := "record.go:155", after := #[{ on := 8, ground := Ground.data }, { on := 12, ground := Ground.data }, { on := 8, ground := Ground.chain }], guard := none }) rfl (fun K hK => ?_) AllReadyH.nil
                rw [if_pos (by rfl)]
                go_simp
                go_at_call 119
                refine (leb_str y4 A3 c3 us (some ⟨y2.heap.size, 0, none⟩) 1 [v.ty] 1 (s3.below (Below.refl _ _)) (strs_one (l12.below d4 l12.lt)) (by omega) (by simp) (by omega) HTY.out).mono ?_
                rintro e y5 ⟨A4, c4, ts, rfl, q4, hy4, d5⟩
                simp only [List.length_cons, List.length_nil] at hy4
                have s4 := q4.toSrc
                refine hK.out _ _ (KEEP2.out _ (bstep0 (bstep0 (bstep0 (bstep0 d1 d2) d3) d4) d5)) (fun hHeld => ?_)
                clear hK K
                try simp only [Act.put, List.setIfInBounds_toArray, List.set_cons_zero, List.set_cons_succ]
                refine wpAnyH_ready (rs := [18]) (by kernel_rfl) (by simp) ?_
                refine AllReadyH.cons (o := { dst := some 67, op := Op.call { callee := Callee.value (Operand.func 118), args := #[Operand.tmp 62, Operand.tmp 66], argTypes := #[81, 321] }, type := 81, pos := "record.go:155", after := #[{ on := 13, ground := Ground.data }, { on := 17, ground := Ground.data }, { on := 13, ground := Ground.chain }], guard := none }) rfl (fun K hK => ?_) AllReadyH.nil
                rw [if_pos (by rfl)]
                go_simp
                go_at_call 118
                refine (leb_real y5 A4 c4 ts (y0.heap.size) v.w HVW.out (s4.below (Below.refl _ _)) ⟨(l17.below (bstep0 (bstep0 (bstep0 d2 d3) d4) d5) l17.lt).lt, (l17.below (bstep0 (bstep0 (bstep0 d2 d3) d4) d5) l17.lt).cell 0⟩ (by omega)).mono ?_
                rintro e y6 ⟨A5, c5, ks, rfl, q5, hy5, d6⟩
                refine hK.out _ _ (KEEP2.out _ (bstep0 (bstep0 (bstep0 (bstep0 (bstep0 d1 d2) d3) d4) d5) d6)) (fun hHeld => ?_)
                clear hK K
                try simp only [Act.put, List.setIfInBounds_toArray, List.set_cons_zero, List.set_cons_succ]
                refine wpAnyH_take (i := 19) (oi := { dst := some 8, op := Op.assign (Operand.tmp 67), type := 81, pos := "record.go:155", after := #[{ on := 18, ground := Ground.data }, { on := 18, ground := Ground.chain }, { on := 0, ground := Ground.phase }, { on := 1, ground := Ground.phase }, { on := 2, ground := Ground.phase }, { on := 3, ground := Ground.phase }, { on := 4, ground := Ground.phase }, { on := 5, ground := Ground.phase }, { on := 6, ground := Ground.phase }, { on := 7, ground := Ground.phase }, { on := 8, ground := Ground.phase }, { on := 9, ground := Ground.phase }, { on := 10, ground := Ground.phase }, { on := 11, ground := Ground.phase }, { on := 12, ground := Ground.phase }, { on := 13, ground := Ground.phase }, { on := 14, ground := Ground.phase }, { on := 15, ground := Ground.phase }, { on := 16, ground := Ground.phase }, { on := 17, ground := Ground.phase }, { on := 18, ground := Ground.phase }], guard := none }) (v := ?_) rfl (by kernel_rfl) (by kernel_rfl) (by kernel_rfl) (fun _ _ _ h => h) (Or.inl ⟨by rfl, ?_⟩) hHeld ?_
                rotate_left
                · (intro W1 hSw; (try dsimp only at hSw); go_simp; first | done | (with_reducible rfl))
                try simp only [Act.put, List.setIfInBounds_toArray, List.set_cons_zero, List.set_cons_succ]
                refine wpAnyH_done (by kernel_rfl) ?_ _
                have BG := hid (DONE2.out _ (bstep0 (bstep0 (bstep0 (bstep0 (bstep0 d1 d2) d3) d4) d5) d6))
                have QF := hid (q5.low (DONE2.out _ (bstep0 (bstep0 (bstep0 (bstep0 d1 d2) d3) d4) d5)).size)
                have hyG : Hid (ks.length ≤ 30 + 100 * (j + 1)) := by show _ ≤ _; have := HY.out; omega
                clear hHeld KEEP2 HS2
                go_wp2_with fail
                go_roundw
                case rel => exact ⟨j + 1, A5, c5, ks, by omega, rfl, by go_num, hyG, QF, BG⟩
                case measure => simp [intOf]; omega
            · rw [if_pos (by rfl)]
              go_simp
              have d2 := below_alloc y1 (.cells #[.string v.ty] 9)
              have l12 := Blk.new y1 9 [.string v.ty]
              refine hK.out _ _ (KEEP2.out _ (bstep0 d1 d2)) (fun hHeld => ?_)
              generalize World.alloc y1 (.cells #[.string v.ty] 9) = y2 at *
              clear hK K
              try simp only [Act.put, List.setIfInBounds_toArray, List.set_cons_zero, List.set_cons_succ]
              refine wpAnyH_ready (rs := [7]) (by kernel_rfl) (by simp) ?_
              refine AllReadyH.cons (o := { dst := some 56, op := Op.buildSlice 31 2 #[(0, Operand.tmp 52), (1, Operand.tmp 55)], type := 31, pos := "record.go:155", after := #[{ on := 3, ground := Ground.data }, { on := 6, ground := Ground.data }], guard := none }) rfl (fun K hK => ?_) AllReadyH.nil
              rw [if_pos (by rfl)]
              go_simp
              have d3 := below_alloc y2 (.cells #[.int .i64 v.src, .int .i64 v.dst] 3)
              have l7 := Blk.new y2 3 [.int .i64 v.src, .int .i64 v.dst]
              refine hK.out _ _ (KEEP2.out _ (bstep0 (bstep0 d1 d2) d3)) (fun hHeld => ?_)
              generalize World.alloc y2 (.cells #[.int .i64 v.src, .int .i64 v.dst] 3) = y3 at *
              clear hK K
              try simp only [Act.put, List.setIfInBounds_toArray, List.set_cons_zero, List.set_cons_succ]
              refine wpAnyH_ready (rs := [8]) (by kernel_rfl) (by simp) ?_
              refine AllReadyH.cons (o := { dst := some 57, op := Op.call { callee := Callee.value (Operand.func 116), args := #[Operand.tmp 49, Operand.tmp 56], argTypes := #[81, 31] }, type := 81, pos := "record.go:155", after := #[{ on := 0, ground := Ground.data }, { on := 7, ground := Ground.data }], guard := none }) rfl (fun K hK => ?_) AllReadyH.nil
              rw [if_pos (by rfl)]
              go_simp
              go_at_call 116
              refine (leb_int y3 A2 c2 zs (y2.heap.size) [v.src, v.dst] (QS.out.below (bstep0 (bstep0 d1 d2) d3)) (ints_two (l7.below (Below.refl _ _) l7.lt)) (by omega) (by simp)).mono ?_
              rintro e y4 ⟨A3, c3, us, rfl, q3, hy3, d4⟩
              simp only [List.length_cons, List.length_nil] at hy3
              have s3 := q3.toSrc
              refine hK.out _ _ (KEEP2.out _ (bstep0 (bstep0 (bstep0 d1 d2) d3) d4)) (fun hHeld => ?_)
              clear hK K
              try simp only [Act.put, List.setIfInBounds_toArray, List.set_cons_zero, List.set_cons_succ]
              refine wpAnyH_ready (rs := [13]) (by kernel_rfl) (by simp) ?_
              refine AllReadyH.cons (o := { dst := some 62, op := Op.call { callee := Callee.value (Operand.func 119), args := #[Operand.tmp 57, Operand.tmp 61], argTypes := #[81, 32] }, type := 81, pos := "record.go:155", after := #[{ on := 8, ground := Ground.data }, { on := 12, ground := Ground.data }, { on := 8, ground := Ground.chain }], guard := none }) rfl (fun K hK => ?_) AllReadyH.nil
              rw [if_pos (by rfl)]
              go_simp
              go_at_call 119
              refine (leb_str y4 A3 c3 us (some ⟨y1.heap.size, 0, none⟩) 1 [v.ty] 1 (s3.below (Below.refl _ _)) (strs_one (l12.below (bstep0 d3 d4) l12.lt)) (by omega) (by simp) (by omega) HTY.out).mono ?_
              rintro e y5 ⟨A4, c4, ts, rfl, q4, hy4, d5⟩
              simp only [List.length_cons, List.length_nil] at hy4
              have s4 := q4.toSrc
              refine hK.out _ _ (KEEP2.out _ (bstep0 (bstep0 (bstep0 (bstep0 d1 d2) d3) d4) d5)) (fun hHeld => ?_)
              clear hK K
              try simp only [Act.put, List.setIfInBounds_toArray, List.set_cons_zero, List.set_cons_succ]
              refine wpAnyH_ready (rs := [18]) (by kernel_rfl) (by simp) ?_
              refine AllReadyH.cons (o := { dst := some 67, op := Op.call { callee := Callee.value (Operand.func 118), args := #[Operand.tmp 62, Operand.tmp 66], argTypes := #[81, 321] }, type := 81, pos := "record.go:155", after := #[{ on := 13, ground := Ground.data }, { on := 17, ground := Ground.data }, { on := 13, ground := Ground.chain }], guard := none }) rfl (fun K hK => ?_) AllReadyH.nil
              rw [if_pos (by rfl)]
              go_simp
              go_at_call 118
              refine (leb_real y5 A4 c4 ts (y0.heap.size) v.w HVW.out (s4.below (Below.refl _ _)) ⟨(l17.below (bstep0 (bstep0 (bstep0 d2 d3) d4) d5) l17.lt).lt, (l17.below (bstep0 (bstep0 (bstep0 d2 d3) d4) d5) l17.lt).cell 0⟩ (by omega)).mono ?_
              rintro e y6 ⟨A5, c5, ks, rfl, q5, hy5, d6⟩
              refine hK.out _ _ (KEEP2.out _ (bstep0 (bstep0 (bstep0 (bstep0 (bstep0 d1 d2) d3) d4) d5) d6)) (fun hHeld => ?_)
              clear hK K
              try simp only [Act.put, List.setIfInBounds_toArray, List.set_cons_zero, List.set_cons_succ]
              refine wpAnyH_take (i := 19) (oi := { dst := some 8, op := Op.assign (Operand.tmp 67), type := 81, pos := "record.go:155", after := #[{ on := 18, ground := Ground.data }, { on := 18, ground := Ground.chain }, { on := 0, ground := Ground.phase }, { on := 1, ground := Ground.phase }, { on := 2, ground := Ground.phase }, { on := 3, ground := Ground.phase }, { on := 4, ground := Ground.phase }, { on := 5, ground := Ground.phase }, { on := 6, ground := Ground.phase }, { on := 7, ground := Ground.phase }, { on := 8, ground := Ground.phase }, { on := 9, ground := Ground.phase }, { on := 10, ground := Ground.phase }, { on := 11, ground := Ground.phase }, { on := 12, ground := Ground.phase }, { on := 13, ground := Ground.phase }, { on := 14, ground := Ground.phase }, { on := 15, ground := Ground.phase }, { on := 16, ground := Ground.phase }, { on := 17, ground := Ground.phase }, { on := 18, ground := Ground.phase }], guard := none }) (v := ?_) rfl (by kernel_rfl) (by kernel_rfl) (by kernel_rfl) (fun _ _ _ h => h) (Or.inl ⟨by rfl, ?_⟩) hHeld ?_
              rotate_left
              · (intro W1 hSw; (try dsimp only at hSw); go_simp; first | done | (with_reducible rfl))
              try simp only [Act.put, List.setIfInBounds_toArray, List.set_cons_zero, List.set_cons_succ]
              refine wpAnyH_done (by kernel_rfl) ?_ _
              have BG := hid (DONE2.out _ (bstep0 (bstep0 (bstep0 (bstep0 (bstep0 d1 d2) d3) d4) d5) d6))
              have QF := hid (q5.low (DONE2.out _ (bstep0 (bstep0 (bstep0 (bstep0 d1 d2) d3) d4) d5)).size)
              have hyG : Hid (ks.length ≤ 30 + 100 * (j + 1)) := by show _ ≤ _; have := HY.out; omega
              clear hHeld KEEP2 HS2
              go_wp2_with fail
              go_roundw
              case rel => exact ⟨j + 1, A5, c5, ks, by omega, rfl, by go_num, hyG, QF, BG⟩
              case measure => simp [intOf]; omega
  -- END REGION edge
    · obtain rfl : j = xs.length := by omega
      go_wp2_with fail
      refine bodyPost_ret (v := .tuple #[.slice A0 ys.length cp, .int .i64 0]) (by simp [results, Tryz.results53, go_sem]) rfl ⟨A0, cp, ys, rfl, HR.out, HY.out, HW.out⟩
end Go.Proofs.YtdfkdgnhpdgphaaGreatDoor
