/-
  The law's right: few devices, and right.
-/
import Derived.Test.YtiemdccjphdbmaaGreatDn
import Derived.Test.YtiemdccjphdbmaaGreatAk
import Derived.Test.YtiemdccjphdbmaaGreatBusX
namespace Go.Proofs.YtiemdccjphdbmaaGreat
open Go.RowKit

set_option maxHeartbeats 1000000 in
set_option maxRecDepth 100000 in
theorem lright_any (q : Bool) (v : Value) (l : List Dev) (w : World) (hv : DevsAt w v l) (hr : l.length * 56 ≤ 140737488351232) (hq : rightD l = q) :
    Calls Tryz.prog 25 #[v] w fun e w' => e = .returned (.bool q) ∧ Below w.heap.size w w' := by
  obtain ⟨f, hf⟩ : ∃ f, (decide (l.length ≤ 128) && l.all fun d => decide (d.lb.size ≤ 100)) = f := ⟨_, rfl⟩
  obtain ⟨n, hn⟩ : ∃ n, devsE l = n := ⟨_, rfl⟩
  have HQ : Hid (q = (decide (l.length ≤ 8) && f && decide (n = 0))) := by show q = _; rw [← hq, rightD, hf, hn]
  have CF := Lib.hid (fun V W h => fewall_is f V l W h hf)
  have CN := Lib.hid (fun V W h hl => devs_is n V l W h hl hn)
  have CD := Lib.hid (fun W (h : DevsAt W v l) => devices_any v l W h hr)
  have HL : Hid (f = true → ∀ d ∈ l, d.lb.size ≤ 9223372036854775807) := fun e d hd => by
    rw [← hf] at e
    simp only [Bool.and_eq_true, decide_eq_true_eq, List.all_eq_true] at e
    have := e.2 d hd
    omega
  have hln : ∀ a k c, v = .slice a k c → k = l.length := by
    rintro a k c rfl
    rcases hv with ⟨h0, _, _, e⟩ | ⟨_, _, _, _, _, e, _⟩ <;> cases e <;> omega
  have HV := Lib.hid hv
  obtain ⟨sa, sk, sc, rfl⟩ := slice_of hv
  obtain rfl := hln _ _ _ rfl
  clear hv hln hf hn hq
  by_cases h8 : l.length ≤ 8
  · have g8 : (l.length : Int) ≤ 8 := by omega
    go_enter Tryz.func25, Tryz.ntmps25
    go_wp2_with fail
    refine (CD.out _ HV.out).mono ?_
    rintro e w1 ⟨v1, rfl, hd1, hb1⟩
    have HD1 := Lib.hid hd1
    have HB1 := Lib.hid hb1
    clear hd1 hb1
    go_wp2_with fail
    refine (CF.out _ _ HD1.out).mono ?_
    rintro e w2 ⟨rfl, hb2⟩
    have HB2 := Lib.hid (below_run HB1.out hb2)
    clear hb2 HB1 HD1
    cases f with
    | false =>
      go_wp2
      go_ret
      exact ⟨ret_bool (by rw [HQ.out]; simp), HB2.out⟩
    | true =>
      have HLB := Lib.hid ((show true = true → ∀ d ∈ l, d.lb.size ≤ 9223372036854775807 from HL.out) rfl)
      clear HL
      go_wp2_with fail
      refine (CD.out _ (HV.out.run HB2.out)).mono ?_
      rintro e w3 ⟨v3, rfl, hd3, hb3⟩
      have HD3 := Lib.hid hd3
      have HB3 := Lib.hid (below_run HB2.out hb3)
      clear hd3 hb3
      go_wp2_with fail
      refine (CN.out _ _ HD3.out HLB.out).mono ?_
      rintro e w4 ⟨rfl, hb4⟩
      go_wp2
      go_ret
      refine ⟨ret_bool ?_, below_run HB3.out hb4⟩
      rw [HQ.out, decide_eq_true h8, Bool.true_and, Bool.true_and]
      exact decide_eq_decide.2 Iff.rfl
  · have g8 : ¬ (l.length : Int) ≤ 8 := by omega
    go_enter Tryz.func25, Tryz.ntmps25
    go_wp2
    go_ret
    exact ⟨ret_bool (by rw [HQ.out, decide_eq_false h8]; simp), Below.refl _ _⟩
end Go.Proofs.YtiemdccjphdbmaaGreat
