/-
  Bytes that a call owns; slices.Clone of bytes; leb.number, leb.Int: what they hand back is such bytes, at most ten a number.
-/
import Derived.Test.YtdfkdgnhpdgphaaGreatDoorSkw1
import Derived.Test.YtdfkdgnhpdgphaaGreatDoorSkw2
import Derived.WalkLawsBesides
import Derived.Lib.AppendStr
import Derived.Laws.Externs
namespace Go.Proofs.YtdfkdgnhpdgphaaGreatDoor
open Go.RowKit Go.Proofs.Lig

def u8s (xs : List Int) : List Value := xs.map fun x => .int .u8 x
def IsBytes (xs : List Int) : Prop := ∀ x ∈ xs, 0 ≤ x ∧ x < 256
/-- The slice of A is a row of bytes from block base on. -/
structure BRow (w : World) (base : Nat) (A : Option Addr) (cap : Nat) (xs : List Int) : Prop where
  own : w.ownsRow base 5 1 (.slice A xs.length cap) xs.length (u8s xs)
  bytes : IsBytes xs
set_option maxRecDepth 100000 in
theorem u8s_append (xs ys : List Int) : u8s (xs ++ ys) = u8s xs ++ u8s ys := by simp [u8s]
theorem u8s_one (xs : List Int) : ∀ u ∈ u8s xs, u.oneCell' = true := by
  intro u hu
  obtain ⟨x, _, rfl⟩ := List.mem_map.1 hu
  rfl
set_option maxRecDepth 100000 in
theorem u8s_len (xs : List Int) : (u8s xs).length = xs.length * 1 := by simp [u8s]
theorem IsBytes.append {xs ys : List Int} (h : IsBytes xs) (h' : IsBytes ys) : IsBytes (xs ++ ys) := fun x hx => (List.mem_append.1 hx).elim (h x) (h' x)
theorem info_u8 : (Tryz.prog.info? 5).map (fun i => (i.zero, i.size, i.bytes)) = some (some (.int .u8 0), 1, 1) := by kernel_rfl
set_option maxRecDepth 100000 in
theorem own_empty1 (w : World) (base : Nat) (hb : base ≤ w.heap.size) (e : TypeId) (size : Nat) : (w.alloc (.cells #[] e)).ownsRow base e size (.slice (some ⟨w.heap.size, 0, none⟩) 0 0) 0 [] :=
  ⟨by simp, .inr ⟨w.heap.size, 0, #[], rfl, hb, heap_alloc_new w _, Nat.le_refl _, Nat.zero_le _, by simp, by simp⟩⟩
theorem grown_below {base : Nat} {e : TypeId} {size : Nat} {v : Value} {n : Nat} {xs : List Value} {w w' : World} (h : w.ownsRow base e size v n xs) (hb : base ≤ w.heap.size) (hg : w.grownBy w' v.ownBlock) : Below base w w' := by
  refine ((Fr.refl v.ownBlock.toList w).grown hg (fun k hk => .inl (by simp [hk]))).below hb (fun k hk => ?_)
  have hk : v.ownBlock = some k := by simpa using hk
  exact (h.lt k hk).1

set_option maxRecDepth 100000 in
theorem clone_u8_nil (w : World) : Calls Tryz.prog 142 #[.slice none 0 0] w fun e w' => e = .returned (.slice none 0 0) ∧ w = w' := by
  have hq := fun W => Lib.run_eql_slice_nil (P := Tryz.prog) W 81 5 none 0 0 0 0 Tryz.underlying81
  go_enter Tryz.func142, Tryz.ntmps142
  go_wp2
  go_ret
  exact ⟨rfl, rfl⟩
set_option maxHeartbeats 400000 in
set_option maxRecDepth 100000 in
theorem clone_u8_some (w : World) (ad : Addr) (cap : Nat) (xs : List Int) (hx : ∀ j u, (u8s xs)[j]? = some u → w.cell? (ad.add j) = some u) (hl : ad.block < w.heap.size) (hb : IsBytes xs) (hn : xs.length ≤ 1000000) :
    Calls Tryz.prog 142 #[.slice (some ad) xs.length cap] w fun e w' => ∃ A' cap', e = .returned (.slice A' xs.length cap') ∧ BRow w' w.heap.size A' cap' xs ∧ Below w.heap.size w w' := by
  obtain ⟨i0, hi0, hz0, hz1, hz2⟩ := info_parts info_u8
  have hB0 : Below w.heap.size w (w.alloc (.cells #[] 5)) := (Below.refl _ _).alloc (Nat.le_refl _) _
  have S1 : Hid (∀ a, some ad = some a → ∀ j u, (u8s xs)[j]? = some u → (w.alloc (.cells #[] 5)).cell? (a.add j) = some u) := fun a ha j u hu => by
    cases ha
    refine (hB0.cell (p := ad.add j) ?_).trans (hx j u hu)
    unfold Addr.add
    split <;> exact hl
  have HB := hid hb
  have H0 := hid hB0
  obtain ⟨n, hnn⟩ : ∃ n, xs.length = n := ⟨_, rfl⟩
  have HN := hid hnn
  rw [hnn] at hn ⊢
  have HN2 := hid hn
  have L0 : Hid ((u8s xs).length = n * 1) := by show _ = _; rw [u8s_len, hnn]
  clear hx hl hb hB0 hnn hn
  have hq := fun W => Lib.run_eql_slice_nil (P := Tryz.prog) W 81 5 (some ad) n cap 0 0 Tryz.underlying81
  go_enter Tryz.func142, Tryz.ntmps142
  go_wp2_with (first
    | (at_builtin
       refine wpList_append_all (by rfl) _ _ _ (by rfl) w.heap.size 5 i0 _ 1 1 Tryz.underlying81 hi0 hz0 hz1 hz2 rfl (by omega) (some ⟨w.heap.size, 0, none⟩) 0 0 [] (by first | rfl | simp [Act.eval]) (own_empty1 w _ (Nat.le_refl _) _ _) (some ad) n cap (u8s xs) (by first | rfl | simp [Act.eval]) L0.out (by simp) S1.out (u8s_one _) (by have := HN2.out; unfold maxLen; omega) (by have := HN2.out; omega) (by simp) ?_
       intro A1 cap1 w1 hown1 hgrow1 hat1
       have B1 := hid (grown_below (own_empty1 w w.heap.size (Nat.le_refl _) 5 1) (by simp) hgrow1)))
  go_ret
  rw [Nat.zero_add] at hown1
  refine ⟨A1, cap1, by first | rfl | simp, ⟨?_, HB.out⟩, H0.out.trans B1.out⟩
  rw [HN.out]
  exact hown1

set_option maxRecDepth 100000 in
/-- .. of any slice that lies so, nil too. -/
theorem clone_u8 (w : World) (A : Option Addr) (cap : Nat) (xs : List Int) (hx : ∀ ad, A = some ad → ad.block < w.heap.size ∧ ∀ j u, (u8s xs)[j]? = some u → w.cell? (ad.add j) = some u) (h0 : A = none → xs = [] ∧ cap = 0) (hb : IsBytes xs) (hn : xs.length ≤ 1000000) :
    Calls Tryz.prog 142 #[.slice A xs.length cap] w fun e w' => ∃ A' cap', e = .returned (.slice A' xs.length cap') ∧ BRow w' w.heap.size A' cap' xs ∧ Below w.heap.size w w' := by
  cases A with
  | none =>
    obtain ⟨rfl, rfl⟩ := h0 rfl
    refine (clone_u8_nil w).mono ?_
    rintro e w' ⟨rfl, rfl⟩
    exact ⟨none, 0, rfl, ⟨World.ownsRow_nil _ _ _ _, hb⟩, Below.refl _ _⟩
  | some ad => exact clone_u8_some w ad cap xs (hx ad rfl).2 (hx ad rfl).1 hb hn
set_option maxRecDepth 100000 in
theorem BRow.src {w : World} {base : Nat} {A : Option Addr} {cap : Nat} {xs : List Int} (h : BRow w base A cap xs) : (∀ ad, A = some ad → ad.block < w.heap.size ∧ ∀ j u, (u8s xs)[j]? = some u → w.cell? (ad.add j) = some u) ∧ (A = none → xs = [] ∧ cap = 0) := by
  rcases h.own.2 with ⟨hv, h0⟩ | ⟨g, cap', cur, hv, _, hh, r⟩
  · injection hv with e1 _ e3
    subst e1 e3
    exact ⟨fun ad had => (by cases had), fun _ => ⟨List.eq_nil_of_length_eq_zero h0, rfl⟩⟩
  · injection hv with e1 _ e3
    subst e1 e3
    refine ⟨fun ad had => ?_, fun hq => by cases hq⟩
    cases had
    exact ⟨(Array.getElem?_eq_some_iff.1 hh).1, h.own.cells (g := g) rfl⟩

set_option maxRecDepth 100000 in
theorem seven_step {k : Nat} {z : Nat} (hk : k ≤ 9) (h0 : 128 ≤ z) (h : z < 2 ^ (64 - 7 * k)) : k ≤ 8 ∧ z / 128 < 2 ^ (64 - 7 * (k + 1)) := by
  have hk' : k = 0 ∨ k = 1 ∨ k = 2 ∨ k = 3 ∨ k = 4 ∨ k = 5 ∨ k = 6 ∨ k = 7 ∨ k = 8 ∨ k = 9 := by omega
  rcases hk' with rfl | rfl | rfl | rfl | rfl | rfl | rfl | rfl | rfl | rfl <;> simp at h ⊢ <;> omega

set_option maxHeartbeats 1000000 in
set_option maxRecDepth 100000 in
theorem leb_number (w : World) (base : Nat) (A : Option Addr) (cap : Nat) (xs : List Int) (z : Nat) (h : BRow w base A cap xs) (hb : base ≤ w.heap.size) (hn : xs.length ≤ 1000000) (hz : z < 2 ^ 64) :
    Calls Tryz.prog 197 #[.slice A xs.length cap, .int .u64 (z : Int)] w fun e w' => ∃ A' cap' ys, e = .returned (.slice A' ys.length cap') ∧ BRow w' base A' cap' ys ∧ ys.length ≤ xs.length + 10 ∧ xs.length < ys.length ∧ Below base w w' := by
  obtain ⟨i0, hi0, hz0, hz1, hz2⟩ := info_parts info_u8
  have HH := hid h
  have HB := hid hb
  have HN := hid hn
  clear h hb hn
  go_enter Tryz.func197, Tryz.ntmps197
  go_wp2_with fail
  go_loopw [0, 1] (fun b zz wr => ∃ (A' : Option Addr) (cap' : Nat) (ys : List Int) (q k : Nat), b = .slice A' ys.length cap' ∧ zz = .int .u64 (q : Int) ∧ q < 2 ^ (64 - 7 * k) ∧ k ≤ 9 ∧ ys.length = xs.length + k ∧ Hid (BRow wr base A' cap' ys) ∧ Hid (Below base w wr)) (fun _ zz _ => (intOf zz).toNat)
  case atStart => exact ⟨A, cap, xs, z, 0, rfl, rfl, by simpa using hz, by omega, rfl, HH, Below.refl _ _⟩
  case round =>
    obtain ⟨A', cap', ys, q, k, rfl, rfl, hq, hk, hyl, HR, HW⟩ := hrel
    have HYL := hid hyl
    have hyn : ys.length ≤ 1000009 := by have := HN.out; omega
    have hq64 : q < 18446744073709551616 := by
      have : (2 : Nat) ^ (64 - 7 * k) ≤ 2 ^ 64 := Nat.pow_le_pow_right (by omega) (by omega)
      have e : (2 : Nat) ^ 64 = 18446744073709551616 := by decide
      omega
    clear hyl
    by_cases h128 : 128 ≤ q
    · obtain ⟨hk8, hq'⟩ := seven_step hk h128 hq
      have HK8 := hid hk8
      have HQ' := hid hq'
      clear hq' hk8 hq
      have HBS : Hid (IsBytes (ys ++ [bits BinOp.or IntKind.u8 ((q : Int) % 256) 128])) := HR.out.bytes.append (fun x hx => by
        have : x = bits BinOp.or IntKind.u8 ((q : Int) % 256) 128 := by simpa using hx
        rw [this]
        have h1 := bits_lo_u8 BinOp.or ((q : Int) % 256) 128
        have h2 := bits_hi_u8 BinOp.or ((q : Int) % 256) 128
        omega)
      have HS : Hid (base ≤ wr.heap.size) := Nat.le_trans HB.out HW.out.size
      go_wp2_with (first
        | (at_builtin
           refine wpList_append_all (by rfl) _ _ _ (by rfl) base 5 i0 _ 1 1 Tryz.underlying81 hi0 hz0 hz1 hz2 rfl (by omega) A' cap' ys.length (u8s ys) (by first | rfl | simp [Act.eval]) (HR.out.own.alloc _) (some ⟨wr.heap.size, 0, none⟩) 1 1 (u8s [bits BinOp.or IntKind.u8 ((q : Int) % 256) 128]) (by first | rfl | simp [Act.eval]) (by rfl) (by simp) (fun ad had => by cases had; exact World.news_of_block (cs := #[.int .u8 (bits BinOp.or IntKind.u8 ((q : Int) % 256) 128)]) (heap_alloc_new wr _)) (u8s_one _) (by unfold maxLen; omega) (by omega) (by have := HS.out; simp; omega) ?_
           intro A1 cap1 w1 hown1 hgrow1 hat1
           have B1 := hid (((Below.refl _ wr).alloc (Nat.le_refl _) (.cells #[.int .u8 (bits BinOp.or IntKind.u8 ((q : Int) % 256) 128)] 5)).mono HS.out |>.trans (grown_below (HR.out.own.alloc _) (by have := HS.out; simp; omega) hgrow1))))
      go_roundw
      case rel =>
        refine ⟨A1, cap1, ys ++ [bits BinOp.or IntKind.u8 ((q : Int) % 256) 128], q / 128, k + 1, by simp, by rw [Int.natCast_ediv]; rfl, HQ'.out, by have := HK8.out; omega, by simp [HYL.out]; omega, ⟨?_, HBS.out⟩, HW.out.trans B1.out⟩
        rw [u8s_append]
        simpa using hown1
      case measure => simp [intOf]; omega
    · have hlt : q < 128 := by omega
      have HBS : Hid (IsBytes (ys ++ [(q : Int)])) := HR.out.bytes.append (fun x hx => by
        have : x = (q : Int) := by simpa using hx
        rw [this]
        omega)
      have HS : Hid (base ≤ wr.heap.size) := Nat.le_trans HB.out HW.out.size
      have hq256 : (q : Int) % 256 = (q : Int) := by omega
      go_wp2_with (first
        | (at_builtin
           refine wpList_append_all (by rfl) _ _ _ (by rfl) base 5 i0 _ 1 1 Tryz.underlying81 hi0 hz0 hz1 hz2 rfl (by omega) A' cap' ys.length (u8s ys) (by first | rfl | simp [Act.eval]) (HR.out.own.alloc _) (some ⟨wr.heap.size, 0, none⟩) 1 1 (u8s [(q : Int)]) (by first | rfl | simp [Act.eval]) (by rfl) (by simp) (fun ad had => by cases had; exact World.news_of_block (cs := #[.int .u8 ((q : Int))]) (heap_alloc_new wr _)) (u8s_one _) (by unfold maxLen; omega) (by omega) (by have := HS.out; simp; omega) ?_
           intro A1 cap1 w1 hown1 hgrow1 hat1
           have B1 := hid (((Below.refl _ wr).alloc (Nat.le_refl _) (.cells #[.int .u8 ((q : Int))] 5)).mono HS.out |>.trans (grown_below (HR.out.own.alloc _) (by have := HS.out; simp; omega) hgrow1))))
      go_ret
      refine ⟨A1, cap1, ys ++ [(q : Int)], by simp, ⟨?_, HBS.out⟩, by simp [HYL.out]; omega, by simp [HYL.out]; omega, HW.out.trans B1.out⟩
      rw [u8s_append]
      simpa using hown1
end Go.Proofs.YtdfkdgnhpdgphaaGreatDoor

/-
  leb.Int: some numbers behind bytes.
-/
namespace Go.Proofs.YtdfkdgnhpdgphaaGreatDoor
open Go.RowKit Go.Proofs.Lig

set_option maxRecDepth 100000 in
theorem leb_number_int (w : World) (base : Nat) (A : Option Addr) (cap : Nat) (xs : List Int) (e : Int) (h : BRow w base A cap xs) (hb : base ≤ w.heap.size) (hn : xs.length ≤ 1000000) (h0 : 0 ≤ e) (h1 : e ≤ 18446744073709551615) :
    Calls Tryz.prog 197 #[.slice A xs.length cap, .int .u64 e] w fun e w' => ∃ A' cap' ys, e = .returned (.slice A' ys.length cap') ∧ BRow w' base A' cap' ys ∧ ys.length ≤ xs.length + 10 ∧ xs.length < ys.length ∧ Below base w w' := by
  obtain ⟨z, rfl⟩ : ∃ z : Nat, e = (z : Int) := ⟨e.toNat, by omega⟩
  exact leb_number w base A cap xs z h hb hn (by have : (2 : Nat) ^ 64 = 18446744073709551616 := by decide
                                                 omega)

/-- Numbers lie in block L. -/
def IntsIn (w : World) (L : Nat) (ns : List Int) : Prop := L < w.heap.size ∧ ∀ j n, ns[j]? = some n → w.cell? ⟨L, j, none⟩ = some (.int .i64 n)
/-- A slice of bytes that may be read. -/
structure BSrc (w : World) (A : Option Addr) (cap : Nat) (xs : List Int) : Prop where
  cells : ∀ ad, A = some ad → ad.block < w.heap.size ∧ ∀ j u, (u8s xs)[j]? = some u → w.cell? (ad.add j) = some u
  none_ : A = none → xs = [] ∧ cap = 0
  bytes : IsBytes xs
set_option maxRecDepth 100000 in
theorem BRow.toSrc {w : World} {base : Nat} {A : Option Addr} {cap : Nat} {xs : List Int} (h : BRow w base A cap xs) : BSrc w A cap xs := ⟨h.src.1, h.src.2, h.bytes⟩
theorem BSrc.below {w w' : World} {A : Option Addr} {cap : Nat} {xs : List Int} (h : BSrc w A cap xs) (hb : Below w.heap.size w w') : BSrc w' A cap xs :=
  ⟨fun ad had => ⟨Nat.lt_of_lt_of_le (h.cells ad had).1 hb.size, fun j u hu => (hb.cell (p := ad.add j) (by unfold Addr.add; split <;> exact (h.cells ad had).1)).trans ((h.cells ad had).2 j u hu)⟩, h.none_, h.bytes⟩
set_option maxRecDepth 100000 in
theorem bsrc_nil (w : World) : BSrc w none 0 [] := ⟨fun ad had => (by cases had), fun _ => ⟨rfl, rfl⟩, fun x hx => by simp at hx⟩

set_option maxHeartbeats 1000000 in
set_option maxRecDepth 100000 in
theorem leb_int (w : World) (A : Option Addr) (cap : Nat) (xs : List Int) (L : Nat) (ns : List Int) (h : BSrc w A cap xs) (hL : IntsIn w L ns) (hn : xs.length ≤ 100000) (hm : ns.length ≤ 1000) :
    Calls Tryz.prog 116 #[.slice A xs.length cap, .slice (some ⟨L, 0, none⟩) ns.length ns.length] w fun e w' => ∃ A' cap' ys, e = .returned (.slice A' ys.length cap') ∧ BRow w' w.heap.size A' cap' ys ∧ ys.length ≤ xs.length + 10 * ns.length ∧ Below w.heap.size w w' := by
  have HC := hid (clone_u8 w A cap xs h.cells h.none_ h.bytes (by omega))
  have HL := hid hL
  have HN := hid hn
  have hm' := hm
  clear h hL hn
  go_enter Tryz.func116, Tryz.ntmps116
  go_wp2_with fail
  refine HC.out.mono ?_
  rintro e w1 ⟨A1, cap1, rfl, q1, b1⟩
  have Q1 := hid q1
  have B1 := hid b1
  clear q1 b1 HC
  go_wp2_with fail
  go_loopw [0, 11] (fun b i wr => ∃ (k : Nat) (A' : Option Addr) (cap' : Nat) (ys : List Int), k ≤ ns.length ∧ i = .int .i64 (k : Int) ∧ b = .slice A' ys.length cap' ∧ ys.length ≤ xs.length + 10 * k ∧ Hid (BRow wr w.heap.size A' cap' ys) ∧ Hid (Below w.heap.size w wr)) (fun _ i _ => ns.length - (intOf i).toNat)
  case atStart => exact ⟨0, A1, cap1, xs, Nat.zero_le _, rfl, rfl, by omega, Q1, B1⟩
  case round =>
    obtain ⟨k, A', cap', ys, hk, rfl, rfl, hy, HR, HW⟩ := hrel
    by_cases hlt : k < ns.length
    · obtain ⟨n, hnn⟩ : ∃ n, ns[k]? = some n := ⟨_, List.getElem?_eq_getElem hlt⟩
      have c0 := (HW.out.cell (p := ⟨L, k, none⟩) HL.out.1).trans (HL.out.2 k n hnn)
      have HSZ := hid HW.out.size
      have hy2 : ys.length ≤ 1000000 := by have := HN.out; omega
      clear hnn
      go_wp2_with (first
        | (go_at_call 197; refine (leb_number_int wr w.heap.size A' cap' ys _ HR.out HSZ.out hy2 (bits_lo_u64 _ _ _) (bits_hi_u64 _ _ _)).mono ?_; rintro e w2 ⟨A2, cap2, zs, rfl, q2, hz1, hz2, b2⟩))
      have Q2 := hid q2
      have B2 := hid b2
      clear q2 b2 HR
      go_roundw
      case rel => exact ⟨k + 1, A2, cap2, zs, by omega, by go_num, rfl, by omega, Q2, HW.out.trans B2.out⟩
      case measure => simp [intOf]; omega
    · obtain rfl : k = ns.length := by omega
      go_wp2_with fail
      go_ret
      exact ⟨A', cap', ys, rfl, HR.out, hy, HW.out⟩
end Go.Proofs.YtdfkdgnhpdgphaaGreatDoor

/-
  leb.Str: some texts behind bytes.
-/
namespace Go.Proofs.YtdfkdgnhpdgphaaGreatDoor
open Go.RowKit Go.Proofs.Lig

def strBytes (s : ByteArray) : List Int := s.data.toList.map fun b => (b.toNat : Int)
set_option maxRecDepth 100000 in
theorem strCells_u8 (s : ByteArray) : Lib.strCells s = u8s (strBytes s) := by simp [Lib.strCells, u8s, strBytes]
theorem strBytes_len (s : ByteArray) : (strBytes s).length = s.size := by rw [strBytes, List.length_map, Array.length_toList]; rfl
theorem strBytes_ok (s : ByteArray) : IsBytes (strBytes s) := by
  intro x hx
  obtain ⟨b, _, rfl⟩ := List.mem_map.1 hx
  have := b.toNat_lt
  omega
set_option maxRecDepth 100000 in
theorem BRow.low {w : World} {base base' : Nat} {A : Option Addr} {cap : Nat} {xs : List Int} (h : BRow w base' A cap xs) (hb : base ≤ base') : BRow w base A cap xs := by
  refine ⟨⟨h.own.1, ?_⟩, h.bytes⟩
  rcases h.own.2 with h2 | ⟨g, cap', cur, hv, hg, r⟩
  · exact .inl h2
  · exact .inr ⟨g, cap', cur, hv, Nat.le_trans hb hg, r⟩

/-- Texts lie in block L, each of at most M bytes. -/
def StrsIn (w : World) (A : Option Addr) (ss : List ByteArray) : Prop := ∀ j s, ss[j]? = some s → ∃ L o, A = some ⟨L, o, none⟩ ∧ L < w.heap.size ∧ w.cell? ⟨L, o + j, none⟩ = some (.string s)

set_option maxHeartbeats 1000000 in
set_option maxRecDepth 100000 in
theorem leb_str (w : World) (A : Option Addr) (cap : Nat) (xs : List Int) (SA : Option Addr) (sc : Nat) (ss : List ByteArray) (M : Nat) (h : BSrc w A cap xs) (hL : StrsIn w SA ss) (hn : xs.length ≤ 10000) (hm : ss.length ≤ 10) (hM : M ≤ 5000) (hs : ∀ s ∈ ss, s.size ≤ M) :
    Calls Tryz.prog 119 #[.slice A xs.length cap, .slice SA ss.length sc] w fun e w' => ∃ A' cap' ys, e = .returned (.slice A' ys.length cap') ∧ BRow w' w.heap.size A' cap' ys ∧ ys.length ≤ xs.length + (10 + M) * ss.length ∧ Below w.heap.size w w' := by
  obtain ⟨i0, hi0, hz0, hz1, hz2⟩ := info_parts info_u8
  have HC := hid (clone_u8 w A cap xs h.cells h.none_ h.bytes (by omega))
  have HL := hid hL
  have HN := hid hn
  have HSS := hid hs
  have HM := hid hM
  clear h hL hn hs hM
  go_enter Tryz.func119, Tryz.ntmps119
  go_wp2_with fail
  refine HC.out.mono ?_
  rintro e w1 ⟨A1, cap1, rfl, q1, b1⟩
  have Q1 := hid q1
  have B1 := hid b1
  clear q1 b1 HC
  go_wp2_with fail
  go_loopw [0, 11] (fun b i wr => ∃ (k : Nat) (A' : Option Addr) (cap' : Nat) (ys : List Int), k ≤ ss.length ∧ i = .int .i64 (k : Int) ∧ b = .slice A' ys.length cap' ∧ Hid (ys.length ≤ xs.length + (10 + M) * k) ∧ Hid (BRow wr w.heap.size A' cap' ys) ∧ Hid (Below w.heap.size w wr)) (fun _ i _ => ss.length - (intOf i).toNat)
  case atStart => exact ⟨0, A1, cap1, xs, Nat.zero_le _, rfl, rfl, by show _ ≤ _; omega, Q1, B1⟩
  case round =>
    obtain ⟨k, A', cap', ys, hk, rfl, rfl, HY, HR, HW⟩ := hrel
    by_cases hlt : k < ss.length
    · obtain ⟨s, hss⟩ : ∃ s, ss[k]? = some s := ⟨_, List.getElem?_eq_getElem hlt⟩
      obtain ⟨L, o, rfl, hLl, hc0⟩ := HL.out k s hss
      have c0 := (HW.out.cell (p := ⟨L, o + k, none⟩) hLl).trans hc0
      have HSM := hid (HSS.out s (List.mem_of_getElem? hss))
      have HY2 : Hid (ys.length ≤ 70000) := by
        show _ ≤ _
        have h1 := HY.out; have h2 := HN.out; have h3 := HM.out
        have : (10 + M) * k ≤ 5010 * 10 := Nat.mul_le_mul (by omega) (by omega)
        omega
      have hsz : (s.size : Int) ≤ 9223372036854775807 := by have := HSM.out; have := HM.out; omega
      have HSZ := hid HW.out.size
      have HI := hid (leb_int (wr.alloc (.cells #[.int .i64 (s.size : Int)] 3)) A' cap' ys wr.heap.size [(s.size : Int)] (HR.out.toSrc.below ((Below.refl _ _).alloc (Nat.le_refl _) _)) ⟨by simp, fun j n hj => by
        cases j with
        | zero => simp at hj; subst hj; exact (Blk.new wr 3 [.int .i64 (s.size : Int)]).cell 0
        | succ j => simp at hj⟩ (by have := HY2.out; omega) (by simp))
      clear hss hLl hc0
      go_wp2_with fail
      refine HI.out.mono ?_
      rintro e w2 ⟨A2, cap2, zs, rfl, q2, hz, b2⟩
      have Q2 := hid q2
      have B2 : Hid (Below w.heap.size w w2) := HW.out.trans ((((Below.refl _ wr).alloc (Nat.le_refl _) _).trans (b2.mono (by simp))).mono HSZ.out)
      have HZ : Hid (zs.length ≤ ys.length + 10) := by show _ ≤ _; simpa using hz
      clear q2 b2 hz HI HR
      go_wp2_with (first
        | (at_builtin
           refine Lib.wpList_append_own_string _ rfl (.tmp 19) (.tmp 20) 81 9 rfl w.heap.size 5 i0 Tryz.underlying81 Tryz.underlying9 hi0 hz0 hz1 hz2 (.slice A2 zs.length cap2) zs.length (u8s zs) rfl (Q2.out.low (by have := HSZ.out; simp; omega)).own s rfl (by have := HZ.out; have := HY2.out; have := HSM.out; have := HM.out; unfold maxLen; omega) (by have := HZ.out; have := HY2.out; have := HSM.out; have := HM.out; omega) B2.out.size ?_
           intro v3 w3 hown3 hgrow3 hnil3
           obtain ⟨A3, cap3, rfl⟩ := own_form hown3))
      have B3 := hid (grown_below (Q2.out.low (base := w.heap.size) (by have := HSZ.out; simp; omega)).own B2.out.size hgrow3)
      have HR3 : Hid (BRow w3 w.heap.size A3 cap3 (zs ++ strBytes s)) := ⟨by rw [u8s_append, ← strCells_u8, List.length_append, strBytes_len]; exact hown3, Q2.out.bytes.append (strBytes_ok s)⟩
      clear hown3 hgrow3 hnil3
      go_roundw
      case rel =>
        refine ⟨k + 1, A3, cap3, zs ++ strBytes s, by omega, by go_num, by rw [List.length_append, strBytes_len], ?_, HR3, B2.out.trans B3.out⟩
        show _ ≤ _
        have h1 := HY.out; have h2 := HZ.out; have h3 := HSM.out
        rw [List.length_append, strBytes_len, Nat.mul_succ]
        omega
      case measure => simp [intOf]; omega
    · obtain rfl : k = ss.length := by omega
      go_wp2_with fail
      go_ret
      exact ⟨A', cap', ys, rfl, HR.out, HY.out, HW.out⟩
end Go.Proofs.YtdfkdgnhpdgphaaGreatDoor

/-
  Numbers with all their edges, at nought and at one: IsNaN, Norm, Key, Cmp, Weight.
-/
namespace Go.Proofs.YtdfkdgnhpdgphaaGreatDoor
open Go.RowKit Go.Proofs.Lig

set_option maxRecDepth 100000 in
theorem run_bits (b : Nat) (w : World) : (callFunc 109 #[.float .f64 b]).run Tryz.prog w = .ok (.value (.int .u64 (b : Int))) w := by
  rw [run_callFunc_extern (e := Extern.MathFloatBits.float64bits) Tryz.func109 (by kernel_rfl) (by kernel_rfl) (by kernel_rfl) (by kernel_rfl)]
  rfl
abbrev one : Nat := 4607182418800017408
set_option maxRecDepth 100000 in
theorem order_self (b : Nat) (hb : b = 0 ∨ b = one) : (FloatKind.f64.format.order b b != some Ordering.eq) = false := by
  rcases hb with rfl | rfl <;> kernel_rfl
theorem isNaN_of (w : World) (b : Nat) (hb : b = 0 ∨ b = one) : Calls Tryz.prog 323 #[.float .f64 b] w fun e w' => e = .returned (.bool false) ∧ w = w' := by
  have ho := order_self b hb
  go_enter Tryz.func323, Tryz.ntmps323
  go_wp2
  go_ret
  exact ⟨by rw [← ho]; rfl, rfl⟩
set_option maxRecDepth 100000 in
theorem norm_of (w : World) (b : Nat) (hb : b = 0 ∨ b = one) : Calls Tryz.prog 266 #[.float .f64 b] w fun e w' => e = .returned (.float .f64 b) ∧ w = w' := by
  have HN := hid (isNaN_of w b hb)
  go_enter Tryz.func266, Tryz.ntmps266
  go_wp2_with fail
  refine HN.out.mono ?_
  rintro e w1 ⟨rfl, rfl⟩
  go_wp2_with fail
  go_ret
  exact ⟨rfl, rfl⟩
def keyOfBits (b : Nat) : Int := if b = 0 then 9223372036854775808 else 13830554455654793216
set_option maxRecDepth 100000 in
theorem key_of (w : World) (b : Nat) (hb : b = 0 ∨ b = one) : Calls Tryz.prog 198 #[.float .f64 b] w fun e w' => e = .returned (.int .u64 (keyOfBits b)) ∧ w = w' := by
  have HN := hid (norm_of w b hb)
  have hr := run_bits b w
  have h1 : bits .and .u64 (b : Int) 9223372036854775808 = 0 := by rcases hb with rfl | rfl <;> kernel_rfl
  have h2 : bits .or .u64 (b : Int) 9223372036854775808 = keyOfBits b := by rcases hb with rfl | rfl <;> kernel_rfl
  go_enter Tryz.func198, Tryz.ntmps198
  go_wp2_with fail
  refine HN.out.mono ?_
  rintro e w1 ⟨rfl, rfl⟩
  go_wp2_with fail
  go_ret
  exact ⟨rfl, rfl⟩
set_option maxRecDepth 100000 in
theorem weight_one (w : World) : Calls Tryz.prog 276 #[.float .f64 one] w fun e w' => e = .returned (.bool true) ∧ w = w' := by
  have ho : (FloatKind.f64.format.order one 0 == some Ordering.gt || FloatKind.f64.format.order one 0 == some Ordering.eq) = true := by kernel_rfl
  go_enter Tryz.func276, Tryz.ntmps276
  go_wp2
  go_ret
  exact ⟨by rw [← ho]; rfl, rfl⟩
set_option maxRecDepth 100000 in
theorem isNaN_u64 (w : World) (n : Int) : Calls Tryz.prog 364 #[.int .u64 n] w fun e w' => e = .returned (.bool false) ∧ w = w' := by
  go_enter Tryz.func364, Tryz.ntmps364
  go_wp2
  go_ret
  exact ⟨by first | rfl | simp, rfl⟩
set_option maxRecDepth 100000 in
theorem cmp_self (w : World) (n : Int) : Calls Tryz.prog 345 #[.int .u64 n, .int .u64 n] w fun e w' => e = .returned (.int .i64 0) ∧ w = w' := by
  have hl : decide (n < n) = false := by simp
  go_enter Tryz.func345, Tryz.ntmps345
  go_wp2_with fail
  refine (isNaN_u64 w n).mono ?_
  rintro e w1 ⟨rfl, rfl⟩
  go_wp2_with fail
  refine (isNaN_u64 w n).mono ?_
  rintro e w1 ⟨rfl, rfl⟩
  go_wp2_with fail
  go_ret
  exact ⟨rfl, rfl⟩
set_option maxRecDepth 100000 in
theorem realCmp_zero (w : World) : Calls Tryz.prog 318 #[.float .f64 0, .float .f64 0] w fun e w' => e = .returned (.int .i64 0) ∧ w = w' := by
  have HK := hid (key_of w 0 (.inl rfl))
  go_enter Tryz.func318, Tryz.ntmps318
  go_wp2_with fail
  refine HK.out.mono ?_
  rintro e w1 ⟨rfl, rfl⟩
  go_wp2_with fail
  refine HK.out.mono ?_
  rintro e w1 ⟨rfl, rfl⟩
  go_wp2_with fail
  refine (cmp_self w _).mono ?_
  rintro e w1 ⟨rfl, rfl⟩
  go_wp2_with fail
  go_ret
  exact ⟨rfl, rfl⟩
end Go.Proofs.YtdfkdgnhpdgphaaGreatDoor

/-
  leb's Cursor: Open, Good, Whole; Int over a nought.
-/
namespace Go.Proofs.YtdfkdgnhpdgphaaGreatDoor
open Go.RowKit Go.Proofs.Lig

set_option maxRecDepth 100000 in
theorem cur_open (w : World) (A : Option Addr) (cap : Nat) (xs : List Int) (h : BSrc w A cap xs) (hn : xs.length ≤ 100000) :
    Calls Tryz.prog 66 #[.slice A xs.length cap] w fun e w' => ∃ Cb A' cap', e = .returned (.pointer (some ⟨Cb, 0, none⟩)) ∧ w.heap.size ≤ Cb ∧ Blk w' Cb 243 [.slice A' xs.length cap', .bool false] ∧ BRow w' w.heap.size A' cap' xs ∧ Below w.heap.size w w' := by
  have HC := hid (clone_u8 w A cap xs h.cells h.none_ h.bytes (by omega))
  clear h hn
  go_enter Tryz.func66, Tryz.ntmps66
  go_wp2_with fail
  refine HC.out.mono ?_
  rintro e w1 ⟨A1, cap1, rfl, q1, b1⟩
  have Q1 := hid q1
  have B1 := hid b1
  clear q1 b1 HC
  go_wp2_with fail
  go_ret
  exact ⟨w1.heap.size, A1, cap1, by first | rfl | simp, B1.out.size, Blk.new w1 _ _, ⟨Q1.out.own.alloc _, Q1.out.bytes⟩, B1.out.alloc B1.out.size _⟩
set_option maxRecDepth 100000 in
theorem cur_good (w : World) (Cb : Nat) (left : Value) (bad : Bool) (h : Blk w Cb 243 [left, .bool bad]) :
    Calls Tryz.prog 67 #[.pointer (some ⟨Cb, 0, none⟩)] w fun e w' => e = .returned (.bool (!bad)) ∧ w = w' := by
  have h1 := h.cell 1
  simp only [List.getElem?_cons_zero, List.getElem?_cons_succ] at h1
  go_enter Tryz.func67, Tryz.ntmps67
  go_wp2
  go_ret
  exact ⟨by first | rfl | simp, rfl⟩
set_option maxRecDepth 100000 in
theorem cur_whole (w : World) (Cb : Nat) (A : Option Addr) (n cap : Nat) (h : Blk w Cb 243 [.slice A n cap, .bool false]) (v : Bool) (hv : decide (n = 0) = v) :
    Calls Tryz.prog 68 #[.pointer (some ⟨Cb, 0, none⟩)] w fun e w' => e = .returned (.bool v) ∧ w = w' := by
  have h0 := h.cell 0
  simp only [List.getElem?_cons_zero] at h0
  have HG := hid (cur_good w Cb _ _ h)
  clear h
  go_enter Tryz.func68, Tryz.ntmps68
  go_wp2_with fail
  refine HG.out.mono ?_
  rintro e w1 ⟨rfl, rfl⟩
  go_wp2_with fail
  go_ret
  have e : ((n : Int) == 0) = decide (n = 0) := by rw [Bool.eq_iff_iff]; simp
  exact ⟨by rw [← hv, ← e]; first | rfl | simp, rfl⟩

/-- What is left behind a byte. -/
def behind (g o n c : Nat) : Value := .slice (if c = 0 then some ⟨g, o, none⟩ else some ⟨g, o + 1, none⟩) n c
set_option maxRecDepth 100000 in
theorem cur_take1 (w : World) (Cb g o n c : Nat) (h : Blk w Cb 243 [.slice (some ⟨g, o, none⟩) (n + 1) (c + 1), .bool false]) (hnc : n ≤ c) (hc : (c : Int) ≤ 9223372036854775806) :
    Calls Tryz.prog 143 #[.pointer (some ⟨Cb, 0, none⟩), .int .i64 1] w fun e w' => e = .returned (.slice (some ⟨g, o, none⟩) 1 (c + 1)) ∧ w' = w.setCell ⟨Cb, 0, none⟩ (behind g o n c) := by
  have h0 := h.cell 0
  have f0 := h.frozen 0
  have hl := h.lt
  simp only [List.getElem?_cons_zero] at h0
  have HG := hid (cur_good w Cb _ _ h)
  clear h
  go_enter Tryz.func143, Tryz.ntmps143
  go_wp2_with fail
  refine HG.out.mono ?_
  rintro e w1 ⟨rfl, rfl⟩
  go_wp2_with fail
  all_goals
    go_ret
    refine ⟨rfl, ?_⟩
    clear hc
    simp_all [behind]

set_option maxHeartbeats 1000000 in
set_option maxRecDepth 100000 in
theorem cur_unsigned0 (w : World) (Cb g o n c : Nat) (h : Blk w Cb 243 [.slice (some ⟨g, o, none⟩) (n + 1) (c + 1), .bool false]) (hnc : n ≤ c) (hc : (c : Int) ≤ 9223372036854775806) (h0 : w.cell? ⟨g, o, none⟩ = some (.int .u8 0)) (hg : g ≠ Cb) :
    Calls Tryz.prog 144 #[.pointer (some ⟨Cb, 0, none⟩)] w fun e w' => e = .returned (.int .u64 0) ∧ w' = w.setCell ⟨Cb, 0, none⟩ (behind g o n c) := by
  have HT := hid (cur_take1 w Cb g o n c h hnc hc)
  have k0 : (w.setCell ⟨Cb, 0, none⟩ (behind g o n c)).cell? ⟨g, o, none⟩ = some (.int .u8 0) := by
    rw [← h0]
    exact World.cell?_of_block (Below.heap_setCell w _ _ g (by simpa using hg))
  clear h hnc hc h0 hg
  generalize hw : w.setCell ⟨Cb, 0, none⟩ (behind g o n c) = w2 at *
  go_enter Tryz.func144, Tryz.ntmps144
  go_wp2_with fail
  go_loopw [3, 4] (fun z i wr => z = .int .u64 0 ∧ i = .int .i64 0 ∧ w = wr) (fun _ _ _ => 1)
  case atStart => exact ⟨rfl, rfl, rfl⟩
  case round =>
    obtain ⟨rfl, rfl, rfl⟩ := hrel
    go_wp2_with fail
    refine HT.out.mono ?_
    rintro e w3 ⟨rfl, rfl⟩
    go_wp2_with fail
    go_ret
    exact ⟨rfl, rfl⟩
set_option maxRecDepth 100000 in
theorem cur_int0 (w : World) (Cb g o n c : Nat) (h : Blk w Cb 243 [.slice (some ⟨g, o, none⟩) (n + 1) (c + 1), .bool false]) (hnc : n ≤ c) (hc : (c : Int) ≤ 9223372036854775806) (h0 : w.cell? ⟨g, o, none⟩ = some (.int .u8 0)) (hg : g ≠ Cb) :
    Calls Tryz.prog 72 #[.pointer (some ⟨Cb, 0, none⟩)] w fun e w' => e = .returned (.int .i64 0) ∧ w' = w.setCell ⟨Cb, 0, none⟩ (behind g o n c) := by
  have HT := hid (cur_unsigned0 w Cb g o n c h hnc hc h0 hg)
  clear h hnc hc h0 hg
  go_enter Tryz.func72, Tryz.ntmps72
  go_wp2_with fail
  refine HT.out.mono ?_
  rintro e w3 ⟨rfl, rfl⟩
  go_wp2_with fail
  go_ret
  exact ⟨rfl, rfl⟩
end Go.Proofs.YtdfkdgnhpdgphaaGreatDoor
