/-
  record: isIn, number, IsName, IsEdge, SameEdge, Same, isWrite, of what TopSkews writes.
-/
import Derived.Test.YtdfkdgnhpdgphaaGreatDoorSkw3
import Derived.Test.YtdfkdgnhpdgphaaGreatDoorSkw29
import Derived.Test.YtdfkdgnhpdgphaaGreatDoorSkw25
import Derived.Test.YtdfkdgnhpdgphaaGreatDoorSkw23
import Derived.Laws.StructEq
namespace Go.Proofs.YtdfkdgnhpdgphaaGreatDoor
open Go.RowKit Go.Proofs.Lig
attribute [local go_sem] run_store_float

set_option maxRecDepth 100000 in
theorem isIn_yes (w : World) (n a b : Int) (h1 : a ≤ n) (h2 : n ≤ b) : Calls Tryz.prog 196 #[.int .i64 n, .int .i64 a, .int .i64 b] w fun e w' => e = .returned (.bool true) ∧ w = w' := by
  go_enter Tryz.func196, Tryz.ntmps196
  go_wp2
  go_ret
  exact ⟨by simp, rfl⟩
set_option maxRecDepth 100000 in
theorem number_of (w : World) (b : Bool) : Calls Tryz.prog 117 #[.bool b] w fun e w' => e = .returned (.int .i64 (if b then 1 else 0)) ∧ w = w' := by
  cases b
  all_goals
    go_enter Tryz.func117, Tryz.ntmps117
    go_wp2
    go_ret
    exact ⟨rfl, rfl⟩
/-- The type that the law gives. -/
abbrev tyE : ByteArray := ⟨#[101]⟩
set_option maxRecDepth 100000 in
theorem bits256 : (Tryz.prog.info? (Tryz.lays160_ren.t 116)).map (fun i => (i.zero, i.size)) = some (some (.agg (Array.replicate 256 (.bool false))), 256) := by kernel_rfl
theorem isName_e (w : World) : Calls Tryz.prog 275 #[.string tyE] w fun e w' => e = .returned (.bool true) ∧ Below w.heap.size w w' := by
  have HT := hid (Tryz.strings_Trim_laid bits256 tyE ⟨#[97, 98, 99, 100, 101, 102, 103, 104, 105, 106, 107, 108, 109, 110, 111, 112, 113, 114, 115, 116, 117, 118, 119, 120, 121, 122]⟩ w (by decide) (by decide) (by
    intro j b hb
    exact (show ∀ b ∈ (⟨#[97, 98, 99, 100, 101, 102, 103, 104, 105, 106, 107, 108, 109, 110, 111, 112, 113, 114, 115, 116, 117, 118, 119, 120, 121, 122]⟩ : ByteArray).data.toList, b.toNat < 128 by decide) b (List.mem_of_getElem? hb)))
  have he : (⟨(Lib.trimS tyE.data.toList (⟨#[97, 98, 99, 100, 101, 102, 103, 104, 105, 106, 107, 108, 109, 110, 111, 112, 113, 114, 115, 116, 117, 118, 119, 120, 121, 122]⟩ : ByteArray).data.toList).toArray⟩ : ByteArray) = ⟨#[]⟩ := by kernel_rfl
  rw [he] at HT
  clear he
  go_enter Tryz.func275, Tryz.ntmps275
  go_wp2_with fail
  refine HT.out.mono ?_
  rintro e w1 ⟨rfl, b1⟩
  go_wp2_with fail
  go_ret
  exact ⟨rfl, b1⟩
/-- An edge that the law adds. -/
structure GoodE (v : EdgV) : Prop where
  s1 : 1 ≤ v.src
  s2 : v.src ≤ 24
  d1 : 1 ≤ v.dst
  d2 : v.dst ≤ 24
  ty : v.ty = tyE
  w : v.w = one
set_option maxRecDepth 100000 in
theorem isEdge_ok (v : EdgV) (h : GoodE v) (w : World) : Calls Tryz.prog 217 #[edgVal v] w fun e w' => e = .returned (.bool true) ∧ Below w.heap.size w w' := by
  obtain ⟨src, dst, ty, wt⟩ := v
  obtain ⟨s1, s2, d1, d2, hty, hw⟩ := h
  simp only at s1 s2 d1 d2 hty hw
  subst hty hw
  have B1 := hid (below_alloc w (.cells #[.int .i64 src, .int .i64 dst, .string tyE, .float .f64 one] 38))
  have K1 := hid (Blk.new w 38 [.int .i64 src, .int .i64 dst, .string tyE, .float .f64 one])
  go_enter Tryz.func217, Tryz.ntmps217
  go_wp2_with fail
  refine (isIn_yes _ _ _ _ s1 s2).mono ?_
  rintro e w1 ⟨rfl, rfl⟩
  go_wp2_with fail
  refine (isIn_yes _ _ _ _ d1 d2).mono ?_
  rintro e w1 ⟨rfl, rfl⟩
  go_wp2_with fail
  refine (isName_e _).mono ?_
  rintro e w2 ⟨rfl, b2⟩
  have k3 : w2.cell? ⟨w.heap.size, 3, none⟩ = some (.float .f64 one) := (K1.out.below b2 K1.out.lt).cell 3
  have B2 := hid (bstep B1.out (Nat.le_refl _) b2)
  clear b2
  go_wp2_with fail
  refine (weight_one _).mono ?_
  rintro e w3 ⟨rfl, rfl⟩
  go_wp2_with fail
  go_ret
  exact ⟨rfl, B2.out⟩
set_option maxRecDepth 100000 in
theorem sameEdge_zero (w : World) : Calls Tryz.prog 264 #[edgVal z0, edgVal z0] w fun e w' => e = .returned (.bool true) ∧ Below w.heap.size w w' := by
  have B1 := hid ((below_alloc w (.cells #[.int .i64 0, .int .i64 0, .string ⟨#[]⟩, .float .f64 0] 38)).alloc (by simp) (.cells #[.int .i64 0, .int .i64 0, .string ⟨#[]⟩, .float .f64 0] 38))
  unfold edgVal z0
  go_enter Tryz.func264, Tryz.ntmps264
  go_wp2_with fail
  refine (realCmp_zero _).mono ?_
  rintro e w1 ⟨rfl, rfl⟩
  go_wp2_with fail
  go_ret
  exact ⟨rfl, B1.out⟩
set_option maxRecDepth 100000 in
theorem sameEdge_no (w : World) (v : EdgV) (h : v.src ≠ 0) : Calls Tryz.prog 264 #[edgVal v, edgVal z0] w fun e w' => e = .returned (.bool false) ∧ Below w.heap.size w w' := by
  have B1 := hid ((below_alloc w (.cells #[.int .i64 v.src, .int .i64 v.dst, .string v.ty, .float .f64 v.w] 38)).alloc (by simp) (.cells #[.int .i64 0, .int .i64 0, .string ⟨#[]⟩, .float .f64 0] 38))
  have hb : (v.src == 0) = false := by simpa using h
  unfold edgVal z0
  go_enter Tryz.func264, Tryz.ntmps264
  go_wp2_with fail
  go_ret
  exact ⟨by first | rfl | simp [hb], B1.out⟩
set_option maxRecDepth 100000 in
theorem eqFunc_nil (w : World) (f : Value) : Calls Tryz.prog 322 #[.slice none 0 0, .slice none 0 0, f] w fun e w' => e = .returned (.bool true) ∧ w = w' := by
  go_enter Tryz.func322, Tryz.ntmps322
  go_wp2_with fail
  go_loopw [17] (fun i wr => i = .int .i64 0 ∧ w = wr) (fun _ _ => 1)
  case atStart => exact ⟨rfl, rfl⟩
  case round =>
    obtain ⟨rfl, rfl⟩ := hrel
    go_wp2_with fail
    go_ret
    exact ⟨rfl, rfl⟩
set_option maxRecDepth 100000 in
theorem same_bare (w : World) : Calls Tryz.prog 265 #[nodVal, nodVal] w fun e w' => e = .returned (.bool true) ∧ Below w.heap.size w w' := by
  have B1 := hid ((below_alloc w (.cells #[.slice none 0 0, .slice none 0 0] 35)).alloc (by simp) (.cells #[.slice none 0 0, .slice none 0 0] 35))
  go_enter Tryz.func265, Tryz.ntmps265
  go_wp2_with fail
  refine (Tryz.slices_Equal_string_empty none none 0 0 0 _ (by omega)).mono ?_
  rintro e w1 ⟨rfl, hw1⟩
  subst hw1
  go_wp2_with fail
  refine (eqFunc_nil _ _).mono ?_
  rintro e w1 ⟨rfl, rfl⟩
  go_wp2_with fail
  go_ret
  exact ⟨rfl, B1.out⟩
end Go.Proofs.YtdfkdgnhpdgphaaGreatDoor

/-
  record: isWrite, of what TopSkews writes.
-/
namespace Go.Proofs.YtdfkdgnhpdgphaaGreatDoor
open Go.RowKit Go.Proofs.Lig
attribute [local go_sem] run_store_float

/-- What TopSkews writes: nodes without anything, there or gone; edges of one type and weight. -/
structure GoodW (n m : Int) (x : Wr) : Prop where
  lo : 1 ≤ x.id
  node : x.edge = false → x.id ≤ n ∧ x.e = z0
  edge : x.edge = true → x.id ≤ m ∧ x.gone = false ∧ GoodE x.e
set_option maxHeartbeats 4000000 in
set_option maxRecDepth 100000 in
theorem isWrite_ok (w : World) (n m : Int) (x : Wr) (h : GoodW n m x) (_hn : n ≤ 1000) (_hm : m ≤ 1000) :
    Calls Tryz.prog 195 #[.int .i64 n, .int .i64 m, .agg #[.bool x.edge, .int .i64 x.id, .bool x.gone, .slice none 0 0, .slice none 0 0, .int .i64 x.e.src, .int .i64 x.e.dst, .string x.e.ty, .float .f64 x.e.w]] w fun e w' => e = .returned (.bool true) ∧ Below w.heap.size w w' := by
  obtain ⟨edge, id, gone, v⟩ := x
  obtain ⟨hlo, hnode, hedge⟩ := h
  simp only at hlo hnode hedge ⊢
  have B0 := below_alloc w (.cells #[.bool edge, .int .i64 id, .bool gone, .slice none 0 0, .slice none 0 0, .int .i64 v.src, .int .i64 v.dst, .string v.ty, .float .f64 v.w] 113)
  have K0 := Blk.new w 113 [.bool edge, .int .i64 id, .bool gone, .slice none 0 0, .slice none 0 0, .int .i64 v.src, .int .i64 v.dst, .string v.ty, .float .f64 v.w]
  have hkl := K0.lt
  have CEL : Hid (∀ W, Below (w.alloc (.cells #[.bool edge, .int .i64 id, .bool gone, .slice none 0 0, .slice none 0 0, .int .i64 v.src, .int .i64 v.dst, .string v.ty, .float .f64 v.w] 113)).heap.size (w.alloc (.cells #[.bool edge, .int .i64 id, .bool gone, .slice none 0 0, .slice none 0 0, .int .i64 v.src, .int .i64 v.dst, .string v.ty, .float .f64 v.w] 113)) W →
    W.cell? ⟨w.heap.size, 0, none⟩ = some (.bool edge) ∧ W.cell? ⟨w.heap.size, 1, none⟩ = some (.int .i64 id) ∧ W.cell? ⟨w.heap.size, 2, none⟩ = some (.bool gone) ∧ W.cell? ⟨w.heap.size, 3, none⟩ = some (.slice none 0 0) ∧ W.cell? ⟨w.heap.size, 4, none⟩ = some (.slice none 0 0) ∧ W.cell? ⟨w.heap.size, 5, none⟩ = some (.int .i64 v.src) ∧ W.cell? ⟨w.heap.size, 6, none⟩ = some (.int .i64 v.dst) ∧ W.cell? ⟨w.heap.size, 7, none⟩ = some (.string v.ty) ∧ W.cell? ⟨w.heap.size, 8, none⟩ = some (.float .f64 v.w)) := fun W hW => by
    have hk := K0.below hW hkl
    exact ⟨hk.cell 0, hk.cell 1, hk.cell 2, hk.cell 3, hk.cell 4, hk.cell 5, hk.cell 6, hk.cell 7, hk.cell 8⟩
  obtain ⟨W0, hW0⟩ : ∃ W, w.alloc (.cells #[.bool edge, .int .i64 id, .bool gone, .slice none 0 0, .slice none 0 0, .int .i64 v.src, .int .i64 v.dst, .string v.ty, .float .f64 v.w] 113) = W := ⟨_, rfl⟩
  have B1 := hid (below_drewN' (w.alloc (.cells #[.bool edge, .int .i64 id, .bool gone, .slice none 0 0, .slice none 0 0, .int .i64 v.src, .int .i64 v.dst, .string v.ty, .float .f64 v.w] 113)) 1)
  have B0 := hid B0
  clear K0 hkl hW0
  have HNODE := hid hnode
  have HEDGE := hid hedge
  have SE : Hid (∀ W, Calls Tryz.prog 264 #[edgVal v, edgVal z0] W fun e w' => e = .returned (.bool (!edge)) ∧ Below W.heap.size W w') := fun W => by
    cases edge
    · rw [(hnode rfl).2]
      exact sameEdge_zero W
    · exact sameEdge_no W v (by have := (hedge rfl).2.2.s1; omega)
  clear hnode hedge
  go_enter Tryz.func195, Tryz.ntmps195
  go_wp2_with fail
  go_region_held3 (fun W => W.cell? ⟨w.heap.size, 0, none⟩ = some (.bool edge) ∧ W.cell? ⟨w.heap.size, 1, none⟩ = some (.int .i64 id) ∧ W.cell? ⟨w.heap.size, 2, none⟩ = some (.bool gone) ∧ W.cell? ⟨w.heap.size, 3, none⟩ = some (.slice none 0 0) ∧ W.cell? ⟨w.heap.size, 4, none⟩ = some (.slice none 0 0) ∧ W.cell? ⟨w.heap.size, 5, none⟩ = some (.int .i64 v.src) ∧ W.cell? ⟨w.heap.size, 6, none⟩ = some (.int .i64 v.dst) ∧ W.cell? ⟨w.heap.size, 7, none⟩ = some (.string v.ty) ∧ W.cell? ⟨w.heap.size, 8, none⟩ = some (.float .f64 v.w))
    (first
      | exact CEL.out _ B1.out
      | exact CEL.out _ B9
      | exact CEL.out _ B8
      | go_keep)
    (first
      | (go_at_call 214; refine (isNode_bare _).mono ?_; rintro e wa ⟨rfl, ba⟩
         have B8 := by first | exact bstep B9 (Nat.le_refl _) ba | exact bstep B1.out (Nat.le_refl _) ba)
      | (go_at_call 264; refine (SE.out _).mono ?_; rintro e wb ⟨rfl, bb⟩
         have B9 := by first | exact bstep B8 (Nat.le_refl _) bb | exact bstep B1.out (Nat.le_refl _) bb))
  have B9 := hid B9
  obtain ⟨k0, k1, k2, k3, k4, k5, k6, k7, k8⟩ := CEL.out _ B9.out
  have BB := hid (B0.out.trans (B9.out.mono B0.out.size))
  clear B1
  cases edge
  · have hid1 := (HNODE.out rfl).1
    cases gone
    · go_wp2_with fail
      refine (isIn_yes _ _ _ _ hlo hid1).mono ?_
      rintro e wc ⟨rfl, rfl⟩
      go_wp2_with fail
      go_ret
      exact ⟨rfl, BB.out⟩
    · have SE2 := hid (SE.out wb)
      go_wp2_with fail
      refine SE2.out.mono ?_
      rintro e wc ⟨rfl, bc⟩
      obtain ⟨_, j1, _, j3, j4, _⟩ := CEL.out _ (bstep B9.out (Nat.le_refl _) bc)
      have BC := hid (bstep BB.out (Nat.le_refl _) bc)
      have bcc := bc
      clear bc SE2
      go_wp2_with fail
      refine (same_bare _).mono ?_
      rintro e wd ⟨rfl, bd⟩
      obtain ⟨_, l1, _⟩ := CEL.out _ (bstep (bstep B9.out (Nat.le_refl _) (show Below wb.heap.size wb wc from bcc)) (Nat.le_refl _) bd)
      have BD := hid (bstep BC.out (Nat.le_refl _) bd)
      clear bd
      go_wp2_with fail
      refine (isIn_yes _ _ _ _ hlo hid1).mono ?_
      rintro e we ⟨rfl, rfl⟩
      go_wp2_with fail
      go_ret
      exact ⟨rfl, BD.out⟩
  · obtain ⟨hid1, hg, hE⟩ := HEDGE.out rfl
    subst hg
    have HE := hid hE
    have B2 := hid (B9.out.trans ((below_drewN' wb 1).mono B9.out.size))
    clear hE
    go_wp2_with fail
    go_region_held3 (fun W => W.cell? ⟨w.heap.size, 1, none⟩ = some (.int .i64 id) ∧ W.cell? ⟨w.heap.size, 2, none⟩ = some (.bool false) ∧ W.cell? ⟨w.heap.size, 3, none⟩ = some (.slice none 0 0) ∧ W.cell? ⟨w.heap.size, 4, none⟩ = some (.slice none 0 0) ∧ W.cell? ⟨w.heap.size, 5, none⟩ = some (.int .i64 v.src) ∧ W.cell? ⟨w.heap.size, 6, none⟩ = some (.int .i64 v.dst) ∧ W.cell? ⟨w.heap.size, 7, none⟩ = some (.string v.ty) ∧ W.cell? ⟨w.heap.size, 8, none⟩ = some (.float .f64 v.w))
      (first
        | exact (CEL.out _ B2.out).2
        | exact (CEL.out _ B7).2
        | exact (CEL.out _ B6).2
        | go_keep)
      (first
        | (go_at_call 217; refine (isEdge_ok v HE.out _).mono ?_; rintro e wf ⟨rfl, bf⟩
           have B6 := by first | exact bstep B7 (by omega) bf | exact bstep B2.out (by omega) bf)
        | (go_at_call 265; refine (same_bare _).mono ?_; rintro e wg ⟨rfl, bg⟩
           have B7 := by first | exact bstep B6 (by omega) bg | exact bstep B2.out (by omega) bg))
    have B7 := hid B7
    obtain ⟨_, q1, q2, _⟩ := CEL.out _ B7.out
    have BB7 := hid (B0.out.trans (B7.out.mono B0.out.size))
    clear B6 bf bg k0 k1 k2 k3 k4 k5 k6 k7 k8
    go_wp2_with fail
    refine (isIn_yes _ _ _ _ hlo hid1).mono ?_
    rintro e wh ⟨rfl, rfl⟩
    go_wp2_with fail
    go_ret
    exact ⟨rfl, BB7.out⟩
end Go.Proofs.YtdfkdgnhpdgphaaGreatDoor

/-
  record: areWrites, of what TopSkews writes: the set of what was seen.
-/
namespace Go.Proofs.YtdfkdgnhpdgphaaGreatDoor
open Go.RowKit Go.Proofs.Lig Go.MapKept

abbrev subj (x : Bool × Int) : Value := .agg #[.bool x.1, .int .i64 x.2]
set_option maxRecDepth 100000 in
theorem part4 (a : Bool) (b : Int) (w : World) : (part 4 #[.bool a, .int .i64 b] 0).run Tryz.prog w = .ok (.bool a) w := by kernel_rfl
theorem part3 (a : Bool) (b : Int) (w : World) : (part 3 #[.bool a, .int .i64 b] 1).run Tryz.prog w = .ok (.int .i64 b) w := by kernel_rfl
theorem run_check_subj (x : Bool × Int) (em : Bool) (w : World) : (Instr.checkKey em 10000 318 (subj x)).run Tryz.prog w = .ok () w := by
  obtain ⟨a, b⟩ := x
  have h4 := fun k => run_checkKey (P := Tryz.prog) (w := w) Tryz.underlying4 (k := .bool a) (by simp [IsKey]) em k
  have h3 := fun k => run_checkKey (P := Tryz.prog) (w := w) Tryz.underlying3 (k := .int .i64 b) (by simp [IsKey]) em k
  unfold Instr.checkKey
  simp [run_underlying Tryz.underlying318, Result.andThen, part4, part3, h4 9998, h3 9998]
set_option maxRecDepth 100000 in
theorem run_eq_subj (x y : Bool × Int) (w : World) : (Op.equal 318 (subj x) (subj y)).run Tryz.prog w = .ok ((x.1 == y.1) && (x.2 == y.2)) w := by
  obtain ⟨a, b⟩ := x
  obtain ⟨c, d⟩ := y
  have hf : (Tryz.prog.fieldsOf 318).toList = [{ name := "edge", type := 4, offset := 0, embedded := false, tag := "", pkgPath := "ligature/record", byteOffset := 0 }, { name := "id", type := 3, offset := 1, embedded := false, tag := "", pkgPath := "ligature/record", byteOffset := 8 }] := by kernel_rfl
  have h1 := run_equalIn_bool' (P := Tryz.prog) (w := w) 9998 4 a c Tryz.underlying4
  have h2 := run_equalIn_int (P := Tryz.prog) (w := w) 9998 3 .i64 .i64 b d Tryz.underlying3
  show (Op.equalIn (9999 + 1) _ _ _).run _ _ = _
  rw [run_equalIn_agg (P := Tryz.prog) w 9999 318 #[.bool a, .int .i64 b] #[.bool c, .int .i64 d] (by kernel_rfl) (by kernel_rfl), hf]
  simp only [Op.eqFields]
  simp [part4, part3, Result.andThen, h1, h2]
  by_cases h1 : a = c <;> by_cases h2 : b = d <;> simp [h1, h2]
/-- Block m is the set of these. -/
def MapS (w : World) (m : Nat) (ks : List (Bool × Int)) : Prop := ∃ es clk, w.heap[m]? = some (.map es clk) ∧ es.toList.map (·.key) = ks.map subj
set_option maxRecDepth 100000 in
theorem MapS.below {w w' : World} {m : Nat} {ks : List (Bool × Int)} (h : MapS w m ks) (hb : Below w.heap.size w w') : MapS w' m ks := by
  obtain ⟨es, clk, h1, h2⟩ := h
  exact ⟨es, clk, (hb.block m (Array.getElem?_eq_some_iff.1 h1).1).trans h1, h2⟩
set_option maxRecDepth 100000 in
theorem asking_none (w : World) (k : Bool × Int) : ∀ (l : List MapEntry) (ks : List (Bool × Int)) (i : Nat), l.map (·.key) = ks.map subj → k ∉ ks → (Instr.findAsking 318 (subj k) l i).run Tryz.prog w = .ok none w
  | [], [], i, _, _ => by simp [Instr.findAsking]
  | [], x :: ks, i, h, _ => by simp at h
  | e :: l, [], i, h, _ => by simp at h
  | e :: l, x :: ks, i, h, hk => by
    simp only [List.map_cons, List.cons.injEq] at h
    obtain ⟨h1, h2⟩ := h
    have hne : ((k.1 == x.1) && (k.2 == x.2)) = false := by
      rw [Bool.eq_false_iff]
      intro hq
      simp at hq
      exact hk (by simp [Prod.ext_iff, hq])
    have ih := asking_none w k l ks (i + 1) h2 (fun hm => hk (List.mem_cons_of_mem _ hm))
    have he := run_eq_subj k x w
    rw [hne] at he
    unfold Instr.findAsking
    simp [h1, he, Result.andThen, ih]
set_option maxRecDepth 100000 in
theorem find_none (w : World) (k : Bool × Int) (l : List MapEntry) (ks : List (Bool × Int)) (h : l.map (·.key) = ks.map subj) (hk : k ∉ ks) : (Instr.findKey 318 (subj k) l).run Tryz.prog w = .ok none w := by
  unfold Instr.findKey
  cases l with
  | nil => simp [run_underlying Tryz.underlying318, Result.andThen, Instr.findNow]
  | cons e l =>
    cases ks with
    | nil => simp at h
    | cons x ks =>
      have h1 : e.key = subj x := by simp at h; exact h.1
      have ha := asking_none w k (e :: l) (x :: ks) 0 h hk
      simp [run_underlying Tryz.underlying318, Result.andThen, Instr.findNow, h1, Instr.sameNow, ha]
set_option maxRecDepth 100000 in
theorem zero_bool (w : World) : (zeroValue 4).run Tryz.prog w = .ok (.bool false) w := by kernel_rfl
theorem lookup_none {w : World} {m : Nat} {ks : List (Bool × Int)} (h : MapS w m ks) (k : Bool × Int) (hk : k ∉ ks) : (Instr.lookup 316 (.map (some m)) (subj k) false).run Tryz.prog w = .ok (.bool false) w := by
  obtain ⟨es, clk, hb, he⟩ := h
  have hck := run_check_subj k es.isEmpty w
  have hfk := find_none w k es.toList ks he hk
  simp [Instr.lookup, run_underlying Tryz.underlying316, MapKept.run_getObj_map hb, hck, hfk, Result.andThen]
set_option maxRecDepth 100000 in
theorem update_none {w : World} {m : Nat} {ks : List (Bool × Int)} (h : MapS w m ks) (k : Bool × Int) (hk : k ∉ ks) (v : Value) :
    ∃ w', (Instr.mapUpdate 316 (.map (some m)) (subj k) v).run Tryz.prog w = .ok () w' ∧ MapS w' m (ks ++ [k]) ∧ Fr [m] w w' := by
  obtain ⟨es, clk, hb, he⟩ := h
  have hck := run_check_subj k false w
  have hfk := find_none w k es.toList ks he hk
  refine ⟨{ w with heap := w.heap.setIfInBounds m (.map (es.push { key := subj k, val := v, born := clk }) (clk + 1)) }, ?_, ⟨_, _, (heap_set hb).1, ?_⟩, ⟨rfl, rfl, rfl, by simp, fun q hq hn => ?_⟩⟩
  · simp [Instr.mapUpdate, run_underlying Tryz.underlying316, MapKept.run_getObj_map hb, hck, hfk, Result.andThen, MapKept.run_setObj_map _ hb]
  · simp [he]
  · exact (heap_set hb).2 q (by simpa using hn)
set_option maxRecDepth 100000 in
theorem wpList_update_s (w : World) {ops : Array Oper} {rest : List Oper} {o : Oper} {a : Act} {Q : Exit → Act → World → Prop}
    (hg : o.guard = none) (x y u : Operand) (hop : o.op = Op.mapUpdate 316 x y u) (m : Nat) (ks : List (Bool × Int)) (hx : a.eval x = .map (some m)) (h : MapS w m ks) (k : Bool × Int) (hy : a.eval y = subj k) (hk : k ∉ ks)
    (hK2 : ∀ w', MapS w' m (ks ++ [k]) → Fr [m] w w' → wpList Tryz.prog ops Q rest (a.put o.dst undef) w') : wpList Tryz.prog ops Q (o :: rest) a w := by
  refine wpList_plain hg fun K' hK' => ?_
  obtain ⟨w', hrun, h1, h2⟩ := update_none h k hk (a.eval u)
  unfold Oper.wp
  simp [execOp, hop, hx, hy, hrun, Result.andThen]
  exact hK' _ _ (hK2 w' h1 h2)
set_option maxRecDepth 100000 in
theorem wpList_lookup_s (w : World) {ops : Array Oper} {rest : List Oper} {o : Oper} {a : Act} {Q : Exit → Act → World → Prop}
    (hg : o.guard = none) (x y : Operand) (hop : o.op = Op.lookup 316 x y false) (m : Nat) (ks : List (Bool × Int)) (hx : a.eval x = .map (some m)) (h : MapS w m ks) (k : Bool × Int) (hy : a.eval y = subj k) (hk : k ∉ ks)
    (hK2 : wpList Tryz.prog ops Q rest (a.put o.dst (.bool false)) w) : wpList Tryz.prog ops Q (o :: rest) a w := by
  refine wpList_plain hg fun K' hK' => ?_
  have hrun := lookup_none h k hk
  unfold Oper.wp
  simp [execOp, hop, hx, hy, hrun, Result.andThen]
  exact hK' _ _ hK2
end Go.Proofs.YtdfkdgnhpdgphaaGreatDoor
