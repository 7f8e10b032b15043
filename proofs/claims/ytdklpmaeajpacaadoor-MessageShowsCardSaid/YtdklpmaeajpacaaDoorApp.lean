/-
  A text appended to a list of texts that the call holds: the old value reads as before.
-/
import Derived.Test.YtdklpmaeajpacaaDoorClo
import Derived.Deep.AppendLies
import Derived.Deep.Upon
namespace Go.Proofs.YtdklpmaeajpacaaDoor
open Go.RowKit

theorem Tryd.info_str2 : (Tryd.prog.info? 9).map (fun i => (i.zero, i.size, i.bytes)) = some (some (.string ⟨#[]⟩), 1, 16) := by kernel_rfl

theorem append_kept (w : World) (base : Nat) (ca : Option Addr) (cc : Nat) (l : List ByteArray) (blk : Nat) (hown : OwnS w base (.slice ca l.length cc) l) (h0 : 0 < l.length) (hl : l.length ≤ 100)
    (hx : w.cell? ⟨blk, 0, none⟩ = some (.string ⟨#[]⟩)) (hbase : base ≤ w.heap.size) :
    ∃ g cap w', (Builtin.append_ #[56, 56] 56 #[.slice ca l.length cc, .slice (some ⟨blk, 0, none⟩) 1 1]).run Tryd.prog w = .ok (.slice (some ⟨g, 0, none⟩) (l.length + 1) cap) w' ∧
      OwnS w' base (.slice (some ⟨g, 0, none⟩) (l.length + 1) cap) (l ++ [⟨#[]⟩]) ∧ w.grownBy w' (Value.slice ca l.length cc).ownBlock ∧ StrsAt w' (.slice ca l.length cc) l := by
  obtain ⟨i0, hi, hz0, hz1, hz2⟩ := info_parts Tryd.info_str2
  have hnews : ∀ (j : Nat) u, ([.string ⟨#[]⟩] : List Value)[j]? = some u → w.cell? ((⟨blk, 0, none⟩ : Addr).add j) = some u := by
    intro j u hj
    match j, hj with
    | 0, hj => simp at hj; subst hj; simpa [Addr.add] using hx
  have h1 : ∀ u ∈ ([.string ⟨#[]⟩] : List Value), u.oneCell' = true := by intro u hu; simp at hu; subst hu; rfl
  have hm1 : l.length + 1 ≤ maxLen := by unfold maxLen; omega
  have hm2 : (l.length + 1) * 16 ≤ 140737488355328 := by omega
  obtain ⟨g, cap, w', hr, ho, hg, hat, hlt⟩ := run_append_lies w 56 56 base 9 i0 _ 1 16 Tryd.underlying56 hi hz0 hz1 hz2 rfl (by decide) _ l.length (l.map Value.string) hown ⟨blk, 0, none⟩ 1 1 [.string ⟨#[]⟩] rfl hnews h1 (by decide) hm1 hm2 hbase _ rfl
  have ho2 : OwnS w' base (.slice (some ⟨g, 0, none⟩) (l.length + 1) cap) (l ++ [⟨#[]⟩]) := by
    have e : (l ++ [(⟨#[]⟩ : ByteArray)]).length = l.length + 1 := by simp
    unfold OwnS
    rw [e, List.map_append]
    exact ho
  refine ⟨g, cap, w', hr, ho2, hg, ?_⟩
  rcases hown.2 with ⟨_, hn⟩ | ⟨g0, cap0, cur, he, hb, hgr, hnc, hcm, hcs, htake⟩
  · omega
  · cases he
    have hglt : g0 < w.heap.size := lt_of_block hgr
    have hcame : Came w 1 (some ⟨g0, 0, none⟩) g0 0 l.length cc (l.map Value.string) :=
      { le := hnc, addr := fun _ => rfl, lt := fun _ => hglt, oldsLen := by simp,
        olds := fun j u hj => by
          rw [Nat.zero_add, cell_of_row w g0 j _ _ _ hgr]
          have hjl : j < l.length := by
            have := (List.getElem?_eq_some_iff.1 hj).1
            simpa using this
          rw [← htake, List.getElem?_take, if_pos (by omega)] at hj
          simpa using hj
        spare := fun j hj => by
          refine ⟨?_, frozen_of_row w g0 _ _ _ hgr⟩
          rw [cell_of_row w g0 _ _ _ _ hgr, Array.getElem?_eq_getElem (by omega)]
          rfl }
    obtain ⟨v2, w2, hr2, hu⟩ := run_append_upon (P := Tryd.prog) hcame 56 56 56 i0 _ 16 Tryd.underlying56 hi hz0 hz1 hz2 rfl (Upon.start hcame) _ 1 [.string ⟨#[]⟩] (Src.ofSlice w Tryd.underlying56 _ 1 1 _ rfl hnews h1) (by omega) (by omega)
    rw [hr] at hr2
    cases hr2
    refine .inr ⟨h0, by omega, g0, 0, cc, rfl, Nat.lt_of_lt_of_le hglt hg.size, fun j hj => ?_⟩
    rw [Nat.zero_add, hu.old hglt (fun j' _ ⟨_, e'⟩ => by omega)]
    have := hcame.olds j _ (List.getElem?_eq_getElem (l := l.map Value.string) (by simpa using hj))
    rw [Nat.zero_add] at this
    rw [this, strsC, List.getElem?_eq_getElem (by omega)]
    simp

theorem wpList_append_run {P : Program} {ops : Array Oper} {rest : List Oper} {o : Oper} {a : Act} {Q : Exit → Act → World → Prop} (hgd : o.guard = none) (s x : Operand) (t : TypeId)
    (ho : o.op = .call { callee := .builtin .append, args := #[s, x], argTypes := #[t, t] }) (w : World) (v xv v' : Value) (w' : World) (hs : a.eval s = v) (hx : a.eval x = xv)
    (hr : (Builtin.append_ #[t, t] o.type #[v, xv]).run P w = .ok v' w') (h : wpList P ops Q rest (a.put o.dst v') w') : wpList P ops Q (o :: rest) a w := by
  refine wpList_plain hgd fun K hK => ?_
  unfold Oper.wp execOp
  simp only [ho, resolve, invoke, builtin, Sem.run_bind, Sem.run_pure, Result.andThen_ok, List.map_toArray, List.map_cons, List.map_nil, hs, hx, hr]
  exact hK _ _ h

end Go.Proofs.YtdklpmaeajpacaaDoor
