/-
  The contracts of a builder of texts, laid over this program.
  What the program encodes: the closures of its fields, written into a builder.
-/
import Derived.Shelf.Strings.BuilderF
import Derived.Test.YtpkhcehddfmhpaaGreatProg
import Derived.Test.YtpkhcehddfmhpaaGreatPl46
import Derived.Test.YtpkhcehddfmhpaaGreatBas
import Derived.Outline
import Derived.Laws.EntriesVeiled
namespace Go.Proofs
open Go.Shelf

def Tryz.laysW_ren : Go.Shelf.Ren := ⟨fun | 166 => 46 | 240 => 83 | 276 => 111 | n => n, fun | 0 => 0 | 3 => 3 | 4 => 4 | 5 => 5 | 9 => 9 | 20 => 20 | 37 => 73 | 70 => 112 | 72 => 114 | 75 => 116 | 80 => 109 | 164 => 193 | n => n, fun | n => n⟩
theorem Tryz.laysW : Go.Proofs.Lays.n166 Tryz.prog Tryz.laysW_ren := {
  mixed := by kernel_rfl
  f166 := Tryz.func46.trans (congrArg some (by kernel_rfl))
  f240 := Tryz.func83.trans (congrArg some (by kernel_rfl))
  f276 := Tryz.func111.trans (congrArg some (by kernel_rfl))
  t0 := Tryz.underlying0
  a0 := Tryz.isAgg0
  z0 := Tryz.sizeOf0
  v0 := Tryz.zeroValue0
  t3 := Tryz.underlying3
  a3 := Tryz.isAgg3
  z3 := Tryz.sizeOf3
  v3 := Tryz.zeroValue3
  t4 := Tryz.underlying4
  a4 := Tryz.isAgg4
  z4 := Tryz.sizeOf4
  v4 := Tryz.zeroValue4
  t9 := Tryz.underlying9
  a9 := Tryz.isAgg9
  z9 := Tryz.sizeOf9
  v9 := Tryz.zeroValue9
  t20 := Tryz.underlying20
  a20 := Tryz.isAgg20
  z20 := Tryz.sizeOf20
  v20 := Tryz.zeroValue20
  t37 := Tryz.underlying73
  a37 := Tryz.isAgg73
  z37 := Tryz.sizeOf73
  v37 := Tryz.zeroValue73
  t70 := Tryz.underlying112
  a70 := Tryz.isAgg112
  z70 := Tryz.sizeOf112
  v70 := Tryz.zeroValue112
  t72 := Tryz.underlying114
  a72 := Tryz.isAgg114
  z72 := Tryz.sizeOf114
  v72 := Tryz.zeroValue114
  t75 := Tryz.underlying116
  a75 := Tryz.isAgg116
  z75 := Tryz.sizeOf116
  v75 := Tryz.zeroValue116
  t164 := Tryz.underlying193
  a164 := Tryz.isAgg193
  z164 := Tryz.sizeOf193
  v164 := Tryz.zeroValue193 }
theorem Tryz.extraW : Builder.Extra Tryz.prog Tryz.laysW_ren := {
  sizeBuilder := by kernel_rfl
  liesBuilder := by kernel_rfl
  t5 := Tryz.underlying5
  a5 := Tryz.isAgg5
  z5 := Tryz.sizeOf5
  v5 := Tryz.zeroValue5
  infoByte := by kernel_rfl
  cellsByte := by kernel_rfl
  sizeByte := by kernel_rfl
  neB5 := by decide }

def Tryz.laysS_ren : Go.Shelf.Ren := ⟨fun | 169 => 47 | n => n, fun | 70 => 112 | 9 => 9 | 0 => 0 | 72 => 114 | 37 => 73 | 127 => 157 | 3 => 3 | 5 => 5 | n => n, fun | n => n⟩
theorem Tryz.laysS : Go.Proofs.Lays.n169 Tryz.prog Tryz.laysS_ren := {
  mixed := by kernel_rfl
  f169 := Tryz.func47.trans (congrArg some (by kernel_rfl))
  t0 := Tryz.underlying0
  a0 := Tryz.isAgg0
  z0 := Tryz.sizeOf0
  v0 := Tryz.zeroValue0
  t3 := Tryz.underlying3
  a3 := Tryz.isAgg3
  z3 := Tryz.sizeOf3
  v3 := Tryz.zeroValue3
  t9 := Tryz.underlying9
  a9 := Tryz.isAgg9
  z9 := Tryz.sizeOf9
  v9 := Tryz.zeroValue9
  t37 := Tryz.underlying73
  a37 := Tryz.isAgg73
  z37 := Tryz.sizeOf73
  v37 := Tryz.zeroValue73
  t70 := Tryz.underlying112
  a70 := Tryz.isAgg112
  z70 := Tryz.sizeOf112
  v70 := Tryz.zeroValue112
  t72 := Tryz.underlying114
  a72 := Tryz.isAgg114
  z72 := Tryz.sizeOf114
  v72 := Tryz.zeroValue114
  t127 := Tryz.underlying157
  a127 := Tryz.isAgg157
  z127 := Tryz.sizeOf157
  v127 := Tryz.zeroValue157 }
theorem Tryz.extraS : Builder.Extra Tryz.prog Tryz.laysS_ren := {
  sizeBuilder := by kernel_rfl
  liesBuilder := by kernel_rfl
  t5 := Tryz.underlying5
  a5 := Tryz.isAgg5
  z5 := Tryz.sizeOf5
  v5 := Tryz.zeroValue5
  infoByte := by kernel_rfl
  cellsByte := by kernel_rfl
  sizeByte := by kernel_rfl
  neB5 := by decide }

namespace YtpkhcehddfmhpaaGreat
open Go.RowKit

/-- A builder that holds some bytes. -/
def Bld (B b : Nat) (l : List UInt8) (w : World) : Prop := Lib.IsBuilderF 114 5 B b (Lib.byteCells l) w

theorem Bld.below {B b : Nat} {l : List UInt8} {w w' : World} (h : Bld B b l w) (hb : Below w.heap.size w w') : Bld B b l w' := by
  have hg : w.grownBy w' none := ⟨hb.os, hb.tape, hb.output, hb.size, fun k hk _ => hb.block k hk⟩
  rcases h with ⟨hB, v, hbk, hown, hne⟩ | ⟨hB, v, hbk, hown, hne⟩
  · exact .inl ⟨hB, v, (hb.block b (lt_of_block hbk)).trans hbk, hown.kept hg (by cases hv : v.ownBlock <;> simp), hne⟩
  · exact .inr ⟨hB, v, (hb.block b (lt_of_block hbk)).trans hbk, hown.kept hg (by cases hv : v.ownBlock <;> simp), hne⟩

theorem bld_write (B b : Nat) (l : List UInt8) (s : ByteArray) (w : World) (h : Bld B b l w) (hlen : l.length + s.size ≤ 140737488355328) (hBw : B ≤ w.heap.size) :
    Calls Tryz.prog 46 #[.pointer (some ⟨b, 0, none⟩), .string s] w fun e w' => e = .returned (.tuple #[.int .i64 s.size, .nilIface]) ∧ Bld B b (l ++ s.data.toList) w' ∧ Below B w w' := by
  refine (Any.Builder_WriteString_f Tryz.laysW Tryz.extraW B b (Lib.byteCells l) s w h (by rw [Lib.byteCells_length]; exact hlen) hBw).mono ?_
  rintro e w' ⟨rfl, h1, h2⟩
  refine ⟨rfl, .inr ?_, h2⟩
  rw [Lib.strCells_eq, ← Lib.byteCells_append] at h1
  exact h1

theorem bld_string (B b : Nat) (l : List UInt8) (w : World) (h : Bld B b l w) (hBw : B ≤ w.heap.size) :
    Calls Tryz.prog 47 #[.pointer (some ⟨b, 0, none⟩)] w fun e w' => e = .returned (.string ⟨l.toArray⟩) ∧ Bld B b l w' ∧ Below B w w' :=
  Any.Builder_String_any_f Tryz.laysS Tryz.extraS B b l w h hBw

end YtpkhcehddfmhpaaGreat
end Go.Proofs

namespace Go.Proofs.YtpkhcehddfmhpaaGreat
open Go.RowKit

/-- The fields of a message. -/
def partB (m : Msg) : Nat → ByteArray
  | 0 => ⟨#[204, 1]⟩
  | 1 => bytesB m.dst 6
  | 2 => bytesB m.src 6
  | 3 => bytesB m.seq 1
  | 4 => bytesB m.kind 1
  | 5 => bytesB m.par 2
  | 6 => bytesB m.dat.size 1
  | _ => m.dat
/-- The bytes of the first fields. -/
def preL (m : Msg) : Nat → List UInt8
  | 0 => []
  | k + 1 => preL m k ++ (partB m k).data.toList

theorem partB_size (m : Msg) (k : Nat) : (partB m k).size ≤ 6 + m.dat.size := by
  unfold partB
  split
  · show 2 ≤ _; omega
  all_goals first | (rw [bytesB_size]; omega) | omega
theorem list_size (s : ByteArray) : s.data.toList.length = s.size := by simp
theorem preL_length (m : Msg) (k : Nat) : (preL m k).length ≤ k * (6 + m.dat.size) := by
  induction k with
  | zero => simp [preL]
  | succ k ih =>
    have := partB_size m k
    have e : (k + 1) * (6 + m.dat.size) = k * (6 + m.dat.size) + (6 + m.dat.size) := Nat.succ_mul _ _
    rw [preL, List.length_append, list_size, e]
    omega
theorem bytesB_listE (n c : Int) : (bytesB n c).data.toList = bytesOf n.toNat c.toNat := by simp [bytesB, str]
theorem preL_all (m : Msg) : preL m 8 = bodyL m := by
  simp only [preL, partB, bytesB_listE, bodyL, List.nil_append]
  rfl

/-- The functions of the fields. -/
def fieldFns (p : Nat) : Array Value := #[.func (.func 37) #[] #[], .func (.func 38) #[] #[.pointer (some ⟨p, 0, none⟩)], .func (.func 40) #[] #[.pointer (some ⟨p, 0, none⟩)], .func (.func 41) #[] #[.pointer (some ⟨p, 0, none⟩)],
  .func (.func 42) #[] #[.pointer (some ⟨p, 0, none⟩)], .func (.func 43) #[] #[.pointer (some ⟨p, 0, none⟩)], .func (.func 44) #[] #[.pointer (some ⟨p, 0, none⟩)], .func (.func 45) #[] #[.pointer (some ⟨p, 0, none⟩)]]

theorem bld_new (w : World) (b : Nat) (hb : b = w.heap.size) : Bld b b [] (w.alloc (.cells #[.pointer none, .slice none 0 0] 114)) := by
  subst hb
  exact .inl ⟨Nat.le_refl _, .slice none 0 0, heap_alloc_new w _, World.ownsRowF_of (World.ownsRow_nil _ _ _ _), by simp [Value.ownBlock]⟩

theorem made_b (m : Msg) : (⟨(bodyL m).toArray⟩ : ByteArray) ++ bytesB (sumN (bodyL m) : Nat) 2 = str (madeL m) := by
  have h : ((⟨(bodyL m).toArray⟩ : ByteArray) ++ bytesB (sumN (bodyL m) : Nat) 2).data.toList = madeL m := by
    rw [ByteArray.data_append, Array.toList_append, bytesB_listE, madeL]
    rfl
  rw [← h, str_list]

theorem below_le {B C : Nat} {w w' : World} (h : B ≤ C) (hb : Below C w w') : Below B w w' := ⟨hb.os, hb.tape, hb.output, hb.size, fun k hk => hb.block k (by omega)⟩

set_option maxHeartbeats 4000000 in
set_option maxRecDepth 100000 in
theorem enc_any (dst src seq kind par : Int) (dat : ByteArray) (w : World) :
    Calls Tryz.prog 13 #[.agg #[.int .u64 dst, .int .u64 src, .int .i64 seq, .int .i64 kind, .int .i64 par, .string dat]] w fun e w' => ∃ s n, e = .returned (.tuple #[.string s, .int .i64 n]) ∧ Hid (encM ⟨dst, src, seq, kind, par, dat⟩ = (s, n)) ∧ Below w.heap.size w w' := by
  go_enter Tryz.func13, Tryz.ntmps13
  go_wp2_with (first | (go_at_call 36; refine (chk_any _ _ _ _ _ _ _).mono ?_; rintro e w1 ⟨rfl, hb⟩; obtain ⟨hc, hf, hT1, hT2, hT3, hT4, hz⟩ := bfacts (n := w.heap.size + 1) hb (by first | (simp; done) | (simp; omega) | omega)))
  · have h : chk ⟨dst, src, seq, kind, par, dat⟩ ≠ 0 := ne_of_bne (by assumption)
    refine bodyPost_ret (v := .tuple #[.string ⟨#[]⟩, .int .i64 (chk ⟨dst, src, seq, kind, par, dat⟩)]) ?_ rfl ⟨_, _, rfl, ?_, ?_⟩
    · simp [results, Tryz.results13, go_sem]
    · simp [Hid, encM, h]
    · (repeat' (first | (with_reducible exact Below.refl _ _) | (with_reducible assumption) | (with_reducible refine below_drewN ?_ _) | (with_reducible refine Below.drew ?_) | (with_reducible refine Below.setCell ?_ ?_ _) | (with_reducible refine Below.alloc ?_ ?_ _) | (with_reducible refine below_after ?_ ?_ (by assumption)) | (show _ ≤ _; first | omega | (simp; done) | (simp; omega))))
  · rename (chk _ != 0) = false => hq
    have h : chk ⟨dst, src, seq, kind, par, dat⟩ = 0 := eq_of_bne hq
    clear hq
    obtain ⟨d0, d1, s0, s1, q0, q1, k0, k1, p0, p1, n1⟩ := small_of_chk h
    simp only at d0 d1 s0 s1 q0 q1 k0 k1 p0 p1 n1
    have HC := Lib.hid h
    clear h
    have v1 : IntKind.u64.wrap seq = seq := IntWalk.u64_in seq (by omega)
    have v2 : IntKind.u64.wrap kind = kind := IntWalk.u64_in kind (by omega)
    have v3 : IntKind.u64.wrap par = par := IntWalk.u64_in par (by omega)
    have v4 : IntKind.u64.wrap (dat.size : Int) = dat.size := IntWalk.u64_in _ (by omega)
    have hw1 := hb.size
    (try simp at hw1)
    have hM : RowAt w1 w.heap.size 52 #[.int .u64 dst, .int .u64 src, .int .i64 seq, .int .i64 kind, .int .i64 par, .string dat] := (by (repeat' (first | (with_reducible assumption) | (with_reducible refine RowAt.drewN ?_ _) | (with_reducible refine RowAt.drew ?_) | (with_reducible apply RowAt.six) | (with_reducible apply RowAt.seven) | ((with_reducible refine RowAt.mk ?_ ?_); (focus (first | rfl | (simp; done))); rfl) | (with_reducible refine RowAt.alloc ?_ _) | (with_reducible refine RowAt.far ?_ ?_) | (with_reducible refine RowAt.run ?_ (by assumption)) | (with_reducible refine RowAt.below ?_ (by assumption) ?_) | (with_reducible refine RowAt.upd ?_ (by assumption) ?_) | (show _ < _; first | omega | (simp; done) | (simp; omega)) | (show ¬ _ = _; first | omega | (simp; done) | (simp; omega)) | exact rfl))); obtain ⟨hMa, hMb, hMc, hMd, hMe, hMf⟩ := row_facts hM
    obtain ⟨m, hm⟩ : ∃ m : Msg, m = ⟨dst, src, seq, kind, par, dat⟩ := ⟨_, rfl⟩
    have HM := Lib.hid hm
    have hnm : m.dat.size = dat.size := by rw [hm]
    clear hm
    have z0 : (⟨#[204, 1]⟩ : ByteArray).size = 2 := rfl
    have z1 : (bytesB dst 6).size = 6 := by rw [bytesB_size]; rfl
    have z2 : (bytesB src 6).size = 6 := by rw [bytesB_size]; rfl
    have z3 : (bytesB seq 1).size = 1 := by rw [bytesB_size]; rfl
    have z4 : (bytesB kind 1).size = 1 := by rw [bytesB_size]; rfl
    have z5 : (bytesB par 2).size = 2 := by rw [bytesB_size]; rfl
    have z6 : (bytesB dat.size 1).size = 1 := by rw [bytesB_size]; rfl
    go_loopw [8, 24] (fun _ i wr => ∃ k : Nat, k ≤ 8 ∧ i = .int .i64 k ∧ Bld (w1.heap.size + 1) (w1.heap.size + 1) (preL m k) wr ∧ RowAt wr w.heap.size 52 #[.int .u64 dst, .int .u64 src, .int .i64 seq, .int .i64 kind, .int .i64 par, .string dat] ∧ RowAt wr w1.heap.size 109 (fieldFns w.heap.size) ∧ Below w.heap.size w wr ∧ w1.heap.size + 2 ≤ wr.heap.size) (fun _ i _ => 8 - (intOf i).toNat)
    case atStart =>
      refine ⟨0, by omega, rfl, bld_new _ _ (by simp), ?_, ?_, by (repeat' (first | (with_reducible exact Below.refl _ _) | (with_reducible assumption) | (with_reducible refine below_drewN ?_ _) | (with_reducible refine Below.drew ?_) | (with_reducible refine Below.setCell ?_ ?_ _) | (with_reducible refine Below.alloc ?_ ?_ _) | (with_reducible refine below_after ?_ ?_ (by assumption)) | (show _ ≤ _; first | omega | (simp; done) | (simp; omega)))), by simp⟩
      · exact (hM.alloc _).alloc _
      · exact (RowAt.mk rfl rfl).alloc _
    case round =>
      obtain ⟨k, hk, rfl, hbl, hr1, hr2, hbel, hsz⟩ := hrel
      obtain ⟨a1, a2, a3, a4, a5, a6⟩ := row_facts hr1
      obtain ⟨b1, b2, b3, b4, b5, b6⟩ := row_facts hr2
      simp only [fieldFns] at b1
      have hlen := preL_length m k
      by_cases hlt : k < 8
      · have hk8 : k = 0 ∨ k = 1 ∨ k = 2 ∨ k = 3 ∨ k = 4 ∨ k = 5 ∨ k = 6 ∨ k = 7 := by omega
        rcases hk8 with rfl | rfl | rfl | rfl | rfl | rfl | rfl | rfl
        · go_wp2_with (first | (go_at_call 37; go_in) | (go_at_call 46; refine (bld_write _ _ _ _ _ hbl (by omega) (by omega)).mono ?_; rintro e w3 ⟨rfl, hbl2, hb2⟩))
          go_roundw
          case rel =>
            have hz2 := hb2.size
            exact ⟨1, by omega, rfl, by have e := HM.out; subst e; exact hbl2, hr1.below hb2 (by omega), hr2.below hb2 (by omega), hbel.trans (below_le (by omega) hb2), by omega⟩
          case measure => simp [intOf]
        · go_wp2_with (first | (go_at_call 38; go_in) | (go_at_call 39; refine (bytes_any _ _ _ (by omega) (by omega) (by omega) (by omega)).mono ?_; rintro e w2 ⟨rfl, hb1⟩; have hz1 := hb1.size) | (go_at_call 46; refine (bld_write _ _ _ _ _ (hbl.below hb1) (by omega) (by omega)).mono ?_; rintro e w3 ⟨rfl, hbl2, hb2⟩))
          go_roundw
          case rel =>
            have hz2 := hb2.size
            exact ⟨2, by omega, rfl, by have e := HM.out; subst e; exact hbl2, (hr1.run hb1).below hb2 (by omega), (hr2.run hb1).below hb2 (by omega), (hbel.trans (below_le (by omega) hb1)).trans (below_le (by omega) hb2), by omega⟩
          case measure => simp [intOf]
        · go_wp2_with (first | (go_at_call 40; go_in) | (go_at_call 39; refine (bytes_any _ _ _ (by omega) (by omega) (by omega) (by omega)).mono ?_; rintro e w2 ⟨rfl, hb1⟩; have hz1 := hb1.size) | (go_at_call 46; refine (bld_write _ _ _ _ _ (hbl.below hb1) (by omega) (by omega)).mono ?_; rintro e w3 ⟨rfl, hbl2, hb2⟩))
          go_roundw
          case rel =>
            have hz2 := hb2.size
            exact ⟨3, by omega, rfl, by have e := HM.out; subst e; exact hbl2, (hr1.run hb1).below hb2 (by omega), (hr2.run hb1).below hb2 (by omega), (hbel.trans (below_le (by omega) hb1)).trans (below_le (by omega) hb2), by omega⟩
          case measure => simp [intOf]
        · go_wp2_with (first | (go_at_call 41; go_in) | (go_at_call 39; refine (bytes_any _ _ _ (by omega) (by omega) (by omega) (by omega)).mono ?_; rintro e w2 ⟨rfl, hb1⟩; have hz1 := hb1.size) | (go_at_call 46; refine (bld_write _ _ _ _ _ (hbl.below hb1) (by omega) (by omega)).mono ?_; rintro e w3 ⟨rfl, hbl2, hb2⟩))
          go_roundw
          case rel =>
            have hz2 := hb2.size
            exact ⟨4, by omega, rfl, by have e := HM.out; subst e; exact hbl2, (hr1.run hb1).below hb2 (by omega), (hr2.run hb1).below hb2 (by omega), (hbel.trans (below_le (by omega) hb1)).trans (below_le (by omega) hb2), by omega⟩
          case measure => simp [intOf]
        · go_wp2_with (first | (go_at_call 42; go_in) | (go_at_call 39; refine (bytes_any _ _ _ (by omega) (by omega) (by omega) (by omega)).mono ?_; rintro e w2 ⟨rfl, hb1⟩; have hz1 := hb1.size) | (go_at_call 46; refine (bld_write _ _ _ _ _ (hbl.below hb1) (by omega) (by omega)).mono ?_; rintro e w3 ⟨rfl, hbl2, hb2⟩))
          go_roundw
          case rel =>
            have hz2 := hb2.size
            exact ⟨5, by omega, rfl, by have e := HM.out; subst e; exact hbl2, (hr1.run hb1).below hb2 (by omega), (hr2.run hb1).below hb2 (by omega), (hbel.trans (below_le (by omega) hb1)).trans (below_le (by omega) hb2), by omega⟩
          case measure => simp [intOf]
        · go_wp2_with (first | (go_at_call 43; go_in) | (go_at_call 39; refine (bytes_any _ _ _ (by omega) (by omega) (by omega) (by omega)).mono ?_; rintro e w2 ⟨rfl, hb1⟩; have hz1 := hb1.size) | (go_at_call 46; refine (bld_write _ _ _ _ _ (hbl.below hb1) (by omega) (by omega)).mono ?_; rintro e w3 ⟨rfl, hbl2, hb2⟩))
          go_roundw
          case rel =>
            have hz2 := hb2.size
            exact ⟨6, by omega, rfl, by have e := HM.out; subst e; exact hbl2, (hr1.run hb1).below hb2 (by omega), (hr2.run hb1).below hb2 (by omega), (hbel.trans (below_le (by omega) hb1)).trans (below_le (by omega) hb2), by omega⟩
          case measure => simp [intOf]
        · go_wp2_with (first | (go_at_call 44; go_in) | (go_at_call 39; refine (bytes_any _ _ _ (by omega) (by omega) (by omega) (by omega)).mono ?_; rintro e w2 ⟨rfl, hb1⟩; have hz1 := hb1.size) | (go_at_call 46; refine (bld_write _ _ _ _ _ (hbl.below hb1) (by omega) (by omega)).mono ?_; rintro e w3 ⟨rfl, hbl2, hb2⟩))
          go_roundw
          case rel =>
            have hz2 := hb2.size
            exact ⟨7, by omega, rfl, by have e := HM.out; subst e; exact hbl2, (hr1.run hb1).below hb2 (by omega), (hr2.run hb1).below hb2 (by omega), (hbel.trans (below_le (by omega) hb1)).trans (below_le (by omega) hb2), by omega⟩
          case measure => simp [intOf]
        · go_wp2_with (first | (go_at_call 45; go_in) | (go_at_call 46; refine (bld_write _ _ _ _ _ hbl (by omega) (by omega)).mono ?_; rintro e w3 ⟨rfl, hbl2, hb2⟩))
          go_roundw
          case rel =>
            have hz2 := hb2.size
            exact ⟨8, by omega, rfl, by have e := HM.out; subst e; exact hbl2, hr1.below hb2 (by omega), hr2.below hb2 (by omega), hbel.trans (below_le (by omega) hb2), by omega⟩
          case measure => simp [intOf]
      · obtain rfl : k = 8 := by omega
        have hpl : preL m 8 = bodyL m := preL_all m
        have hbz : (⟨(bodyL m).toArray⟩ : ByteArray).size = 19 + dat.size := by
          show (bodyL m).length = _
          rw [bodyL_length, hnm]
        have zs : (bytesB (sumN (bodyL m) : Nat) 2).size = 2 := by rw [bytesB_size]; rfl
        rw [hpl] at hbl
        go_wp2_with (first | (go_at_call 47; refine (bld_string _ _ _ _ hbl (by omega)).mono ?_; rintro e w2 ⟨rfl, hbl2, hb2⟩; have hz2 := hb2.size) | (go_at_call 47; refine (bld_string _ _ _ _ hbl2 (by omega)).mono ?_; rintro e w3 ⟨rfl, hbl3, hb3⟩; have hz3 := hb3.size) | (go_at_call 48; refine (sum_any _ _ (by omega)).mono ?_; rintro e w4 ⟨rfl, hb4⟩))
        go_ret2
        refine ⟨_, _, rfl, ?_, by (repeat' (first | (with_reducible exact Below.refl _ _) | (with_reducible assumption) | (with_reducible refine below_drewN ?_ _) | (with_reducible refine Below.drew ?_) | (with_reducible refine Below.setCell ?_ ?_ _) | (with_reducible refine Below.alloc ?_ ?_ _) | (with_reducible refine below_after ?_ ?_ (by assumption)) | (show _ ≤ _; first | omega | (simp; done) | (simp; omega))))⟩
        have e := HM.out
        subst e
        rw [made_b]
        simp [Hid, encM, HC.out]

end Go.Proofs.YtpkhcehddfmhpaaGreat
