/-
  The reference's bytes of a message, and what it encodes.
-/
import Derived.Test.YtpkhcehddfmhpaaGreatPl46
import Derived.Test.YtpkhcehddfmhpaaGreatRchk
import Derived.Outline
namespace Go.Proofs.YtpkhcehddfmhpaaGreat
open Go.RowKit

theorem mbytes_any (n c : Int) (w : World) (h0 : 0 ≤ n) (hn : n < 18446744073709551616) (h1 : 0 ≤ c) (hc : c ≤ 100) :
    Calls Tryz.prog 168 #[.int .u64 n, .int .i64 c] w fun e w' => e = .returned (.string (bytesB n c)) ∧ Below w.heap.size w w' := by
  obtain ⟨n, rfl⟩ := Int.eq_ofNat_of_zero_le h0
  obtain ⟨c, rfl⟩ := Int.eq_ofNat_of_zero_le h1
  exact mbytes_nat n c w (by omega) (by omega)

theorem app_size (a b : ByteArray) : (a ++ b).size = a.size + b.size := by simp

/-- The bytes of a message but its sum, part by part. -/
def bodyB (m : Msg) : ByteArray := bytesB 204 1 ++ bytesB 1 1 ++ bytesB m.dst 6 ++ bytesB m.src 6 ++ bytesB m.seq 1 ++ bytesB m.kind 1 ++ bytesB m.par 2 ++ bytesB m.dat.size 1 ++ m.dat

theorem bodyB_list (m : Msg) : (bodyB m).data.toList = bodyL m := by
  simp [bodyB, bodyL, bytesB, str]
  rfl
theorem str_eq (s : ByteArray) (l : List UInt8) (h : s.data.toList = l) : s = str l := by subst h; rw [str_list]

theorem bytesB_list (n c : Int) : (bytesB n c).data.toList = bytesOf n.toNat c.toNat := by simp [bytesB, str]

theorem made_eq {body : ByteArray} {m : Msg} (h : body.data.toList = bodyL m) : body ++ bytesB ((sumN body.data.toList : Int) % 65536) 2 = str (madeL m) := by
  apply str_eq
  have e : ((sumN (bodyL m) : Int) % 65536).toNat = sumN (bodyL m) % 65536 := by omega
  rw [ByteArray.data_append, Array.toList_append, bytesB_list, h, madeL, e]
  show _ ++ bytesOf _ 2 = _
  rw [bytesOf_mod]

set_option maxHeartbeats 1000000 in
set_option maxRecDepth 100000 in
theorem refmade_any (dst src seq kind par : Int) (dat : ByteArray) (w : World) (h : chk ⟨dst, src, seq, kind, par, dat⟩ = 0) :
    Calls Tryz.prog 134 #[.agg #[.int .u64 dst, .int .u64 src, .int .i64 seq, .int .i64 kind, .int .i64 par, .string dat]] w fun e w' => e = .returned (.string (str (madeL ⟨dst, src, seq, kind, par, dat⟩))) ∧ Below w.heap.size w w' := by
  obtain ⟨d0, d1, s0, s1, q0, q1, k0, k1, p0, p1, n1⟩ := small_of_chk h
  simp only at d0 d1 s0 s1 q0 q1 k0 k1 p0 p1 n1
  clear h
  have w1 : IntKind.u64.wrap seq = seq := IntWalk.u64_in seq (by omega)
  have w2 : IntKind.u64.wrap kind = kind := IntWalk.u64_in kind (by omega)
  have w3 : IntKind.u64.wrap par = par := IntWalk.u64_in par (by omega)
  have w4 : IntKind.u64.wrap (dat.size : Int) = dat.size := IntWalk.u64_in _ (by omega)
  have z1 : (bytesB 204 1).size = 1 := by rw [bytesB_size]; rfl
  have z2 : (bytesB 1 1).size = 1 := by rw [bytesB_size]; rfl
  have z3 : (bytesB dst 6).size = 6 := by rw [bytesB_size]; rfl
  have z4 : (bytesB src 6).size = 6 := by rw [bytesB_size]; rfl
  have z5 : (bytesB seq 1).size = 1 := by rw [bytesB_size]; rfl
  have z6 : (bytesB kind 1).size = 1 := by rw [bytesB_size]; rfl
  have z7 : (bytesB par 2).size = 2 := by rw [bytesB_size]; rfl
  have z8 : (bytesB dat.size 1).size = 1 := by rw [bytesB_size]; rfl
  have zq1 : (dat.size : Int) ≤ 9223372036854775788 := by omega
  have zq2 : dat.size ≤ 9223372036854775788 := by omega
  have zq3 : ¬ (9223372036854775788 : Int) < (dat.size : Int) := by omega
  have zq4 : ¬ 9223372036854775788 < dat.size := by omega
  have zq5 : ¬ (9223372036854775807 : Int) < 19 + (dat.size : Int) := by omega
  have zq6 : 19 + (dat.size : Int) ≤ 9223372036854775807 := by omega
  have zq7 : ¬ 9223372036854775807 < 19 + dat.size := by omega
  have zq8 : 19 + dat.size ≤ 9223372036854775807 := by omega
  go_enter Tryz.func134, Tryz.ntmps134
  go_wp2
  go_region_held3 (fun w' => w'.cell? ⟨w.heap.size, 0, none⟩ = some (.int .u64 dst) ∧ w'.cell? ⟨w.heap.size, 1, none⟩ = some (.int .u64 src) ∧ w'.cell? ⟨w.heap.size, 2, none⟩ = some (.int .i64 seq) ∧ w'.cell? ⟨w.heap.size, 3, none⟩ = some (.int .i64 kind) ∧ w'.cell? ⟨w.heap.size, 4, none⟩ = some (.int .i64 par) ∧ w'.cell? ⟨w.heap.size, 5, none⟩ = some (.string dat)) (go_keep)
      (first | (go_at_call 168; refine (mbytes_any _ _ _ (by omega) (by omega) (by omega) (by omega)).mono ?_; rintro e w3 ⟨rfl, hb⟩; obtain ⟨hc, hf, hT1, hT2, hT3, hT4, hz⟩ := bfacts (n := w.heap.size + 1) hb (by first | (simp; done) | (simp; omega) | omega)))
  have zb : (bodyB ⟨dst, src, seq, kind, par, dat⟩).size = 19 + dat.size := by simp only [bodyB, app_size, z1, z2, z3, z4, z5, z6, z7, z8]
  have hbb : bodyB ⟨dst, src, seq, kind, par, dat⟩ = bytesB 204 1 ++ bytesB 1 1 ++ bytesB dst 6 ++ bytesB src 6 ++ bytesB seq 1 ++ bytesB kind 1 ++ bytesB par 2 ++ bytesB dat.size 1 ++ dat := rfl
  have HB := Lib.hid (bodyB_list ⟨dst, src, seq, kind, par, dat⟩)
  rw [← hbb]
  generalize bodyB ⟨dst, src, seq, kind, par, dat⟩ = body at zb HB
  have hsm := sumN_le body.data.toList
  have zs : (bytesB ((sumN body.data.toList : Int) % 65536) 2).size = 2 := by rw [bytesB_size]; rfl
  go_wp2_with (first | (go_at_call 135; refine (refsum_any _ _ (by omega)).mono ?_; rintro e w' ⟨rfl, rfl⟩) | (go_at_call 168; refine (mbytes_any _ _ _ (by omega) (by omega) (by omega) (by omega)).mono ?_; rintro e w5 ⟨rfl, hb⟩))
  go_ret
  exact ⟨ret_str (made_eq HB.out), by (repeat' (first | (with_reducible exact Below.refl _ _) | (with_reducible assumption) | (with_reducible refine below_drewN ?_ _) | (with_reducible refine Below.drew ?_) | (with_reducible refine Below.setCell ?_ ?_ _) | (with_reducible refine Below.alloc ?_ ?_ _) | (with_reducible refine below_after ?_ ?_ (by assumption)) | (show _ ≤ _; first | omega | (simp; done) | (simp; omega))))⟩

end Go.Proofs.YtpkhcehddfmhpaaGreat
