/-
  An append of the elements of any slice, of none too, to a row that the call owns: one law for all of its ways. No program in sight.
-/
import Derived.Test.YtdfkdgnhpdgphaaGreatDoorSkw0
import Derived.Deep.Upon
import Derived.Deep.RegionLaw
namespace Go.Proofs.Lig
open Go Go.RowKit

set_option maxRecDepth 100000 in
theorem run_append_all {P : Program} (w : World) (t ty : TypeId) (base : Nat) (e : TypeId) (i : TypeInfo) (z : Value) (size bytes : Nat) (ht : P.underlying t = some (.slice e)) (hi : P.info? e = some i) (hz : i.zero = some z)
    (hsize : i.size = size) (hby : i.bytes = bytes) (hzs : z.cells.size = size) (hsz : 0 < size)
    (A : Option Addr) (cp : Nat) (n : Nat) (xs : List Value) (hown : w.ownsRow base e size (.slice A n cp) n xs)
    (xa : Option Addr) (m c : Nat) (news : List Value) (hl : news.length = m * size) (hno : xa = none → m = 0) (hnews : ∀ ad, xa = some ad → ∀ j u, news[j]? = some u → w.cell? (ad.add j) = some u) (h1 : ∀ u ∈ news, u.oneCell' = true)
    (h63 : n + m ≤ maxLen) (hbytes : (n + m) * bytes ≤ 140737488355328) (hbase : base ≤ w.heap.size) :
    ∃ A' cap' w', (Builtin.append_ #[t, t] ty #[.slice A n cp, .slice xa m c]).run P w = .ok (.slice A' (n + m) cap') w' ∧
      w'.ownsRow base e size (.slice A' (n + m) cap') (n + m) (xs ++ news) ∧ w.grownBy w' (Value.slice A n cp).ownBlock ∧ ((Value.slice A' (n + m) cap').ownBlock = (Value.slice A n cp).ownBlock ∨ (Value.slice A' (n + m) cap').ownBlock = some w.heap.size) := by
  by_cases hm : m = 0
  · subst hm
    have hn0 : news = [] := by simpa using hl
    subst hn0
    have hle : n ≤ cp := by
      rcases hown.2 with ⟨hv, h0⟩ | ⟨g, cap', cur, hv, _, _, h1, _⟩
      · omega
      · injection hv with _ _ e3; omega
    refine ⟨A, cp, w, run_append_nothing w t t ty e i ht hi A n cp hle _ ?_, by simpa using hown, ⟨rfl, rfl, rfl, Nat.le_refl _, fun _ _ _ => rfl⟩, .inl rfl⟩
    cases xa with
    | none => exact Src.ofNil w ht c
    | some ad => exact Src.ofSlice w ht ad 0 c [] (by simp) (by simp) (by simp)
  · cases xa with
    | none => exact absurd (hno rfl) hm
    | some ad =>
      obtain ⟨g, cap, w', h2, h3, h4, h5, h6⟩ := run_append_lies (P := P) w t ty base e i z size bytes ht hi hz hsize hby hzs hsz _ n xs hown ad m c news hl (hnews ad rfl) h1 (by omega) h63 hbytes hbase _ rfl
      refine ⟨_, cap, w', h2, h3, h4, ?_⟩
      rcases h5 with h5 | h5
      · exact .inl (by rw [h5]; rfl)
      · exact .inr (by rw [h5]; rfl)

set_option maxRecDepth 100000 in
theorem step_append_all {P : Program} {w : World} {ops : Array Oper} {o : Oper} {a : Act} {K : Act → World → Prop} {Q : Exit → Act → World → Prop} {E : Prop} (hgd : o.guard = none) (s x : Operand) (t : TypeId)
    (ho : o.op = .call { callee := .builtin .append, args := #[s, x], argTypes := #[t, t] })
    (base : Nat) (e : TypeId) (i : TypeInfo) (z : Value) (size bytes : Nat) (ht : P.underlying t = some (.slice e)) (hi : P.info? e = some i) (hz : i.zero = some z)
    (hsize : i.size = size) (hby : i.bytes = bytes) (hzs : z.cells.size = size) (hsz : 0 < size)
    (A : Option Addr) (cp : Nat) (n : Nat) (xs : List Value) (hs : a.eval s = .slice A n cp) (hown : w.ownsRow base e size (.slice A n cp) n xs)
    (xa : Option Addr) (m c : Nat) (news : List Value) (hx : a.eval x = .slice xa m c) (hl : news.length = m * size) (hno : xa = none → m = 0) (hnews : ∀ ad, xa = some ad → ∀ j u, news[j]? = some u → w.cell? (ad.add j) = some u) (h1 : ∀ u ∈ news, u.oneCell' = true)
    (h63 : n + m ≤ maxLen) (hbytes : (n + m) * bytes ≤ 140737488355328) (hbase : base ≤ w.heap.size)
    (h : ∀ A' cap' w', w'.ownsRow base e size (.slice A' (n + m) cap') (n + m) (xs ++ news) → w.grownBy w' (Value.slice A n cp).ownBlock → ((Value.slice A' (n + m) cap').ownBlock = (Value.slice A n cp).ownBlock ∨ (Value.slice A' (n + m) cap').ownBlock = some w.heap.size) → K (a.put o.dst (.slice A' (n + m) cap')) w') :
    if Region.wanted o (yielded ops a.tmps) = true then Oper.wp P o a w K Q else E := by
  have hw : Region.wanted o (yielded ops a.tmps) = true := by simp [Region.wanted, hgd]
  rw [if_pos hw]
  obtain ⟨A', cap', w', hr, h2, h3, h4⟩ := run_append_all (P := P) w t o.type base e i z size bytes ht hi hz hsize hby hzs hsz A cp n xs hown xa m c news hl hno hnews h1 h63 hbytes hbase
  unfold Oper.wp execOp
  simp only [ho, resolve, invoke, builtin, Sem.run_bind, Sem.run_pure, Result.andThen_ok, List.map_toArray, List.map_cons, List.map_nil, hs, hx, hr]
  exact h A' cap' w' h2 h3 h4

set_option maxRecDepth 100000 in
/-- At a plain region's list, behind 'at_builtin'. -/
theorem wpList_append_all {P : Program} {w : World} {ops : Array Oper} {rest : List Oper} {o : Oper} {a : Act} {Q : Exit → Act → World → Prop} (hgd : o.guard = none) (s x : Operand) (t : TypeId)
    (ho : o.op = .call { callee := .builtin .append, args := #[s, x], argTypes := #[t, t] })
    (base : Nat) (e : TypeId) (i : TypeInfo) (z : Value) (size bytes : Nat) (ht : P.underlying t = some (.slice e)) (hi : P.info? e = some i) (hz : i.zero = some z)
    (hsize : i.size = size) (hby : i.bytes = bytes) (hzs : z.cells.size = size) (hsz : 0 < size)
    (A : Option Addr) (cp : Nat) (n : Nat) (xs : List Value) (hs : a.eval s = .slice A n cp) (hown : w.ownsRow base e size (.slice A n cp) n xs)
    (xa : Option Addr) (m c : Nat) (news : List Value) (hx : a.eval x = .slice xa m c) (hl : news.length = m * size) (hno : xa = none → m = 0) (hnews : ∀ ad, xa = some ad → ∀ j u, news[j]? = some u → w.cell? (ad.add j) = some u) (h1 : ∀ u ∈ news, u.oneCell' = true)
    (h63 : n + m ≤ maxLen) (hbytes : (n + m) * bytes ≤ 140737488355328) (hbase : base ≤ w.heap.size)
    (h : ∀ A' cap' w', w'.ownsRow base e size (.slice A' (n + m) cap') (n + m) (xs ++ news) → w.grownBy w' (Value.slice A n cp).ownBlock → ((Value.slice A' (n + m) cap').ownBlock = (Value.slice A n cp).ownBlock ∨ (Value.slice A' (n + m) cap').ownBlock = some w.heap.size) → wpList P ops Q rest (a.put o.dst (.slice A' (n + m) cap')) w') :
    wpList P ops Q (o :: rest) a w := by
  refine wpList_plain hgd fun K hK => ?_
  obtain ⟨A', cap', w', hr, h2, h3, h4⟩ := run_append_all (P := P) w t o.type base e i z size bytes ht hi hz hsize hby hzs hsz A cp n xs hown xa m c news hl hno hnews h1 h63 hbytes hbase
  unfold Oper.wp execOp
  simp only [ho, resolve, invoke, builtin, Sem.run_bind, Sem.run_pure, Result.andThen_ok, List.map_toArray, List.map_cons, List.map_nil, hs, hx, hr]
  exact hK _ _ (h A' cap' w' h2 h3 h4)
end Go.Proofs.Lig
