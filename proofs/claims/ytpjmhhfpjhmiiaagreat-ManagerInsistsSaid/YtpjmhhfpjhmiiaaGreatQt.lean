/-
  Ask, behind all that leaves old memory alone.
-/
import Derived.Test.YtpjmhhfpjhmiiaaGreatQl
import Derived.Test.YtpjmhhfpjhmiiaaGreatQk
namespace Go.Proofs.YtpjmhhfpjhmiiaaGreat
open Go.RowKit Go.Shelf

theorem ask_lift {x x' : Mgr} {y y' : Wre} {a : Rsl} {E : Int} {dst kind par : Int} {dat : ByteArray} (hU : askU x y ⟨dst, kind, par, dat⟩ = (x', y', a)) (hE : askE x y ⟨dst, kind, par, dat⟩ = E) {da fa la : Option Addr} {dn dc fn fc ln lc : Nat} {V W : World} (h : WireAt V (.slice da dn dc) (.slice fa fn fc) (.slice la ln lc) y) (hb : Below V.heap.size V W) :
    Calls Tryz.prog 23 #[.agg #[.int .u64 x.id, .int .i64 x.seq, .int .i64 x.tries], .agg #[.slice da dn dc, .slice fa fn fc, .slice la ln lc], .agg #[.int .u64 dst, .int .i64 kind, .int .i64 par, .string dat]] W
      fun e w' => (∃ (da' fa' la' : Option Addr) (dc' fc' lc' : Nat), e = .returned (.tuple #[.agg #[.int .u64 x'.id, .int .i64 x'.seq, .int .i64 x'.tries], .agg #[.slice da' y'.devs.length dc', .slice fa' y'.faults.length fc', .slice la' y'.late.length lc'], .agg #[.int .i64 a.kind, .string a.dat, .int .i64 a.reason, .int .i64 a.tries], .int .i64 E]) ∧
        WireT w' (.slice da' y'.devs.length dc') (.slice fa' y'.faults.length fc') (.slice la' y'.late.length lc') y') ∧ Below V.heap.size V w' := by
  have C := maskU_any x da fa la dn dc fn fc ln lc y dst kind par dat W (h.run hb)
  rw [hU, hE] at C
  refine C.mono ?_
  rintro e w' ⟨da', fa', la', dn', dc', fn', fc', ln', lc', rfl, hw, hb'⟩
  obtain rfl : dn' = y'.devs.length := by
    obtain ⟨a, c, e⟩ := seq_shape hw.devs
    cases e
    rfl
  obtain rfl : fn' = y'.faults.length := by
    obtain ⟨a, c, e⟩ := seq_shape hw.faults
    cases e
    rfl
  obtain rfl : ln' = y'.late.length := by
    obtain ⟨a, c, e⟩ := seq_shape hw.late
    cases e
    rfl
  exact ⟨⟨da', fa', la', dc', fc', lc', rfl, hw⟩, below_run hb hb'⟩
theorem send_length (x : Mgr) (r : Rqs) (y : Wre) : (sendW x r y).devs.length = y.devs.length := by
  show (if faultW y = 1 then y.devs else sentD y.devs (ofM x r)).length = _
  split
  · rfl
  · exact sentD_length _ _
theorem askF_length (r : Rqs) : ∀ (n : Nat) (t : Int) (x : Mgr) (y : Wre), (askF r n t x y).2.1.devs.length = y.devs.length
  | 0, _, _, _ => rfl
  | n + 1, t, x, y => by
    rw [askF]
    split
    · exact send_length x r y
    · rw [askF_length r n, send_length]
theorem askU_length (x : Mgr) (y : Wre) (r : Rqs) : (askU x y r).2.1.devs.length ≤ y.devs.length := by
  unfold askU
  split
  · exact Nat.le_of_eq (askF_length r _ _ x y)
  · exact Nat.zero_le _
theorem askU_of {x : Mgr} {y : Wre} {r : Rqs} (h : askE x y r = 0) : askU x y r = askM x y r := by rw [askU, if_pos h]
end Go.Proofs.YtpjmhhfpjhmiiaaGreat
