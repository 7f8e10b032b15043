/-
  The contract of the table of settings, and of what is found there.
-/
import Derived.Test.YtiemdccjphdbmaaGreatDchk
import Derived.Test.YtiemdccjphdbmaaGreatIds
import Derived.Test.YtiemdccjphdbmaaGreatMsg
import Derived.Laws.EntriesVeiled
import Derived.Deep.WholeRow
namespace Go.Proofs.YtiemdccjphdbmaaGreat
open Go.RowKit

/-- A function as a value. -/
@[go_sem] def fv (f : FuncId) : Value := .func (.func f) #[] #[]

/-- The rows of the table. -/
def rowsT : List (Int × Value × Int × Value) :=
  [(80, fv 154, 0, .nilFunc), (96, fv 155, 0, .nilFunc), (130, fv 156, -1, fv 157), (240, fv 158, 2, fv 159),
   (1024, fv 160, 0, .nilFunc), (4096, fv 161, 1, fv 163), (4097, .nilFunc, 1, fv 164)]

@[go_sem] def rowA (r : Int × Value × Int × Value) : Array Value := #[.int .i64 r.1, r.2.1, .int .i64 r.2.2.1, r.2.2.2]

/-- The table. -/
def tabT : Array Value := ((rowsT.map fun r => (rowA r).toList).flatten).toArray

/-- The setting with a number, and whether there is one. -/
def findT (p : Int) : Array Value × Bool :=
  if p = 80 then (rowA (80, fv 154, 0, .nilFunc), true) else if p = 96 then (rowA (96, fv 155, 0, .nilFunc), true)
  else if p = 130 then (rowA (130, fv 156, -1, fv 157), true) else if p = 240 then (rowA (240, fv 158, 2, fv 159), true)
  else if p = 1024 then (rowA (1024, fv 160, 0, .nilFunc), true) else if p = 4096 then (rowA (4096, fv 161, 1, fv 163), true)
  else if p = 4097 then (rowA (4097, .nilFunc, 1, fv 164), true) else (rowA (0, .nilFunc, 0, .nilFunc), false)

theorem Tryz.size_tab : (Tryz.prog.info? 207).map (·.size) = some tabT.size := by kernel_rfl
theorem tabT_cells : tabT.all (·.oneCell') = true := by kernel_rfl

set_option maxHeartbeats 1000000 in
set_option maxRecDepth 100000 in
theorem settings_any (w : World) : Calls Tryz.prog 147 #[] w fun e w' => e = .returned (.agg tabT) ∧ Below w.heap.size w w' := by
  have hi := Tryz.size_tab
  have h1 := tabT_cells
  go_enter Tryz.func147, Tryz.ntmps147
  iterate 35 go_step
  refine wpList_store_row rfl 207 (.tmp 0) (.tmp 8) rfl w.heap.size tabT rfl rfl 207 _ (heap_alloc_new w _) hi rfl h1 ?_
  rw [World.setRow_alloc_new]
  go_wp2
  refine bodyPost_ret (v := .agg tabT) (results_cell_row rfl _ _ w.heap.size 207 tabT (0, 0) _ rfl ?_ Tryz.underlying207 rfl hi) rfl ⟨rfl, ?_⟩
  · exact heap_alloc_new w _
  · (repeat' (first | (with_reducible exact Below.refl _ _) | (with_reducible assumption) | (with_reducible refine below_drewN ?_ _) | (with_reducible refine Below.drew ?_) | (with_reducible refine Below.setCell ?_ ?_ _) | (with_reducible refine Below.alloc ?_ ?_ _) | (with_reducible refine below_after ?_ ?_ (by assumption)) | (show _ ≤ _; first | omega | (simp; done) | (simp; omega))))

/-- The numbers of the settings. -/
def parT (k : Nat) : Int := if k = 0 then 80 else if k = 1 then 96 else if k = 2 then 130 else if k = 3 then 240 else if k = 4 then 1024 else if k = 5 then 4096 else 4097

theorem find_none (p : Int) (h : ∀ j, j < 7 → parT j ≠ p) : findT p = (rowA (0, .nilFunc, 0, .nilFunc), false) := by
  have h0 := h 0 (by omega); have h1 := h 1 (by omega); have h2 := h 2 (by omega); have h3 := h 3 (by omega); have h4 := h 4 (by omega); have h5 := h 5 (by omega); have h6 := h 6 (by omega)
  simp only [parT] at h0 h1 h2 h3 h4 h5 h6
  unfold findT
  rw [if_neg (fun e => h0 e.symm), if_neg (fun e => h1 e.symm), if_neg (fun e => h2 e.symm), if_neg (fun e => h3 e.symm), if_neg (fun e => h4 e.symm), if_neg (fun e => h5 e.symm), if_neg (fun e => h6 e.symm)]

theorem idx_0 (w : World) : (Instr.index 207 (.agg tabT) (.int .i64 0)).run Tryz.prog w = .ok (.agg #[.int .i64 80, .func (.func 154) #[] #[], .int .i64 (0), .nilFunc]) w := by kernel_rfl
theorem idx_1 (w : World) : (Instr.index 207 (.agg tabT) (.int .i64 1)).run Tryz.prog w = .ok (.agg #[.int .i64 96, .func (.func 155) #[] #[], .int .i64 (0), .nilFunc]) w := by kernel_rfl
theorem idx_2 (w : World) : (Instr.index 207 (.agg tabT) (.int .i64 2)).run Tryz.prog w = .ok (.agg #[.int .i64 130, .func (.func 156) #[] #[], .int .i64 (-1), .func (.func 157) #[] #[]]) w := by kernel_rfl
theorem idx_3 (w : World) : (Instr.index 207 (.agg tabT) (.int .i64 3)).run Tryz.prog w = .ok (.agg #[.int .i64 240, .func (.func 158) #[] #[], .int .i64 (2), .func (.func 159) #[] #[]]) w := by kernel_rfl
theorem idx_4 (w : World) : (Instr.index 207 (.agg tabT) (.int .i64 4)).run Tryz.prog w = .ok (.agg #[.int .i64 1024, .func (.func 160) #[] #[], .int .i64 (0), .nilFunc]) w := by kernel_rfl
theorem idx_5 (w : World) : (Instr.index 207 (.agg tabT) (.int .i64 5)).run Tryz.prog w = .ok (.agg #[.int .i64 4096, .func (.func 161) #[] #[], .int .i64 (1), .func (.func 163) #[] #[]]) w := by kernel_rfl
theorem idx_6 (w : World) : (Instr.index 207 (.agg tabT) (.int .i64 6)).run Tryz.prog w = .ok (.agg #[.int .i64 4097, .nilFunc, .int .i64 (1), .func (.func 164) #[] #[]]) w := by kernel_rfl

theorem no_more {p : Int} {k : Nat} (h : ∀ j, j < k → parT j ≠ p) (hk : parT k ≠ p) : ∀ j, j < k + 1 → parT j ≠ p := by
  intro j hj
  by_cases e : j = k
  · subst e; exact hk
  · exact h j (by omega)

set_option maxHeartbeats 1000000 in
set_option maxRecDepth 100000 in
theorem find_any (p : Int) (w : World) : Calls Tryz.prog 139 #[.int .i64 p] w fun e w' => e = .returned (.tuple #[.agg (findT p).1, .bool (findT p).2]) ∧ Below w.heap.size w w' := by
  go_enter Tryz.func139, Tryz.ntmps139
  go_wp2_with (go_at_call 147; refine (settings_any _).mono ?_; rintro e w1 ⟨rfl, hb⟩; obtain ⟨hc, hf, hT1, hT2, hT3, hT4, hz⟩ := bfacts (n := w.heap.size + 1) hb (by first | (simp; done) | (simp; omega) | omega))
  have hB : Below (w.heap.size + 1) (w.alloc (.cells (rowA (0, .nilFunc, 0, .nilFunc)) 193)) w1 := by
    refine hb.mono ?_
    simp
  clear hb hc hf hT1 hT2 hT3 hT4
  go_loopw [7] (fun i wr => ∃ k : Nat, k ≤ 7 ∧ i = .int .i64 k ∧ (∀ j, j < k → parT j ≠ p) ∧ Below (w.heap.size + 1) (w.alloc (.cells (rowA (0, .nilFunc, 0, .nilFunc)) 193)) wr) (fun i _ => 7 - (intOf i).toNat)
  case atStart => exact ⟨0, by omega, rfl, fun j hj => by omega, hB⟩
  case round =>
    obtain ⟨k, hk, rfl, hno, hb⟩ := hrel
    have HN := Lib.hid hno
    clear hno hB
    have hcase : k = 0 ∨ k = 1 ∨ k = 2 ∨ k = 3 ∨ k = 4 ∨ k = 5 ∨ k = 6 ∨ k = 7 := by omega
    obtain ⟨hc, hf, hT1, hT2, hT3, hT4, hz⟩ := bfactsB (n := w.heap.size + 1) hb (by first | (simp; done) | (simp; omega) | omega) (by first | (simp; done) | (simp; omega) | omega)
    rcases hcase with h | h | h | h | h | h | h | h
    · have hi : ∀ w, (Instr.index 207 (.agg tabT) (.int .i64 (k : Int))).run Tryz.prog w = .ok (.agg #[.int .i64 80, .func (.func 154) #[] #[], .int .i64 (0), .nilFunc]) w := fun w => by rw [h]; exact idx_0 w
      have hlt : (k : Int) < 7 := by omega
      have HK := Lib.hid h
      clear h
      obtain ⟨b, hbq⟩ : ∃ b, ((80 : Int) == p) = b := ⟨_, rfl⟩
      cases b
      · go_wp2
        go_roundw
        case rel => exact ⟨k + 1, by omega, by go_num, no_more HN.out (by rw [HK.out]; exact ne_of_beq hbq), by (repeat' (first | (with_reducible exact Below.refl _ _) | (with_reducible assumption) | (with_reducible refine below_drewN ?_ _) | (with_reducible refine Below.drew ?_) | (with_reducible refine Below.setCell ?_ ?_ _) | (with_reducible refine Below.alloc ?_ ?_ _) | (with_reducible refine below_after ?_ ?_ (by assumption)) | (show _ ≤ _; first | omega | (simp; done) | (simp; omega))))⟩
        case measure => simp [intOf]; omega
      · obtain rfl : p = 80 := (eq_of_beq hbq).symm
        go_wp2
        refine bodyPost_ret (v := .tuple #[.agg (findT 80).1, .bool true]) ?_ rfl ⟨rfl, ?_⟩
        · simp [results, Tryz.results139, go_sem, findT, rowA, *]
        · (repeat' (first | (with_reducible exact Below.refl _ _) | (with_reducible assumption) | (with_reducible refine below_drewN ?_ _) | (with_reducible refine Below.drew ?_) | (with_reducible refine Below.setCell ?_ ?_ _) | (with_reducible refine Below.alloc ?_ ?_ _) | (with_reducible refine below_after ?_ ?_ (by assumption)) | (show _ ≤ _; first | omega | (simp; done) | (simp; omega))))
    · have hi : ∀ w, (Instr.index 207 (.agg tabT) (.int .i64 (k : Int))).run Tryz.prog w = .ok (.agg #[.int .i64 96, .func (.func 155) #[] #[], .int .i64 (0), .nilFunc]) w := fun w => by rw [h]; exact idx_1 w
      have hlt : (k : Int) < 7 := by omega
      have HK := Lib.hid h
      clear h
      obtain ⟨b, hbq⟩ : ∃ b, ((96 : Int) == p) = b := ⟨_, rfl⟩
      cases b
      · go_wp2
        go_roundw
        case rel => exact ⟨k + 1, by omega, by go_num, no_more HN.out (by rw [HK.out]; exact ne_of_beq hbq), by (repeat' (first | (with_reducible exact Below.refl _ _) | (with_reducible assumption) | (with_reducible refine below_drewN ?_ _) | (with_reducible refine Below.drew ?_) | (with_reducible refine Below.setCell ?_ ?_ _) | (with_reducible refine Below.alloc ?_ ?_ _) | (with_reducible refine below_after ?_ ?_ (by assumption)) | (show _ ≤ _; first | omega | (simp; done) | (simp; omega))))⟩
        case measure => simp [intOf]; omega
      · obtain rfl : p = 96 := (eq_of_beq hbq).symm
        go_wp2
        refine bodyPost_ret (v := .tuple #[.agg (findT 96).1, .bool true]) ?_ rfl ⟨rfl, ?_⟩
        · simp [results, Tryz.results139, go_sem, findT, rowA, *]
        · (repeat' (first | (with_reducible exact Below.refl _ _) | (with_reducible assumption) | (with_reducible refine below_drewN ?_ _) | (with_reducible refine Below.drew ?_) | (with_reducible refine Below.setCell ?_ ?_ _) | (with_reducible refine Below.alloc ?_ ?_ _) | (with_reducible refine below_after ?_ ?_ (by assumption)) | (show _ ≤ _; first | omega | (simp; done) | (simp; omega))))
    · have hi : ∀ w, (Instr.index 207 (.agg tabT) (.int .i64 (k : Int))).run Tryz.prog w = .ok (.agg #[.int .i64 130, .func (.func 156) #[] #[], .int .i64 (-1), .func (.func 157) #[] #[]]) w := fun w => by rw [h]; exact idx_2 w
      have hlt : (k : Int) < 7 := by omega
      have HK := Lib.hid h
      clear h
      obtain ⟨b, hbq⟩ : ∃ b, ((130 : Int) == p) = b := ⟨_, rfl⟩
      cases b
      · go_wp2
        go_roundw
        case rel => exact ⟨k + 1, by omega, by go_num, no_more HN.out (by rw [HK.out]; exact ne_of_beq hbq), by (repeat' (first | (with_reducible exact Below.refl _ _) | (with_reducible assumption) | (with_reducible refine below_drewN ?_ _) | (with_reducible refine Below.drew ?_) | (with_reducible refine Below.setCell ?_ ?_ _) | (with_reducible refine Below.alloc ?_ ?_ _) | (with_reducible refine below_after ?_ ?_ (by assumption)) | (show _ ≤ _; first | omega | (simp; done) | (simp; omega))))⟩
        case measure => simp [intOf]; omega
      · obtain rfl : p = 130 := (eq_of_beq hbq).symm
        go_wp2
        refine bodyPost_ret (v := .tuple #[.agg (findT 130).1, .bool true]) ?_ rfl ⟨rfl, ?_⟩
        · simp [results, Tryz.results139, go_sem, findT, rowA, *]
        · (repeat' (first | (with_reducible exact Below.refl _ _) | (with_reducible assumption) | (with_reducible refine below_drewN ?_ _) | (with_reducible refine Below.drew ?_) | (with_reducible refine Below.setCell ?_ ?_ _) | (with_reducible refine Below.alloc ?_ ?_ _) | (with_reducible refine below_after ?_ ?_ (by assumption)) | (show _ ≤ _; first | omega | (simp; done) | (simp; omega))))
    · have hi : ∀ w, (Instr.index 207 (.agg tabT) (.int .i64 (k : Int))).run Tryz.prog w = .ok (.agg #[.int .i64 240, .func (.func 158) #[] #[], .int .i64 (2), .func (.func 159) #[] #[]]) w := fun w => by rw [h]; exact idx_3 w
      have hlt : (k : Int) < 7 := by omega
      have HK := Lib.hid h
      clear h
      obtain ⟨b, hbq⟩ : ∃ b, ((240 : Int) == p) = b := ⟨_, rfl⟩
      cases b
      · go_wp2
        go_roundw
        case rel => exact ⟨k + 1, by omega, by go_num, no_more HN.out (by rw [HK.out]; exact ne_of_beq hbq), by (repeat' (first | (with_reducible exact Below.refl _ _) | (with_reducible assumption) | (with_reducible refine below_drewN ?_ _) | (with_reducible refine Below.drew ?_) | (with_reducible refine Below.setCell ?_ ?_ _) | (with_reducible refine Below.alloc ?_ ?_ _) | (with_reducible refine below_after ?_ ?_ (by assumption)) | (show _ ≤ _; first | omega | (simp; done) | (simp; omega))))⟩
        case measure => simp [intOf]; omega
      · obtain rfl : p = 240 := (eq_of_beq hbq).symm
        go_wp2
        refine bodyPost_ret (v := .tuple #[.agg (findT 240).1, .bool true]) ?_ rfl ⟨rfl, ?_⟩
        · simp [results, Tryz.results139, go_sem, findT, rowA, *]
        · (repeat' (first | (with_reducible exact Below.refl _ _) | (with_reducible assumption) | (with_reducible refine below_drewN ?_ _) | (with_reducible refine Below.drew ?_) | (with_reducible refine Below.setCell ?_ ?_ _) | (with_reducible refine Below.alloc ?_ ?_ _) | (with_reducible refine below_after ?_ ?_ (by assumption)) | (show _ ≤ _; first | omega | (simp; done) | (simp; omega))))
    · have hi : ∀ w, (Instr.index 207 (.agg tabT) (.int .i64 (k : Int))).run Tryz.prog w = .ok (.agg #[.int .i64 1024, .func (.func 160) #[] #[], .int .i64 (0), .nilFunc]) w := fun w => by rw [h]; exact idx_4 w
      have hlt : (k : Int) < 7 := by omega
      have HK := Lib.hid h
      clear h
      obtain ⟨b, hbq⟩ : ∃ b, ((1024 : Int) == p) = b := ⟨_, rfl⟩
      cases b
      · go_wp2
        go_roundw
        case rel => exact ⟨k + 1, by omega, by go_num, no_more HN.out (by rw [HK.out]; exact ne_of_beq hbq), by (repeat' (first | (with_reducible exact Below.refl _ _) | (with_reducible assumption) | (with_reducible refine below_drewN ?_ _) | (with_reducible refine Below.drew ?_) | (with_reducible refine Below.setCell ?_ ?_ _) | (with_reducible refine Below.alloc ?_ ?_ _) | (with_reducible refine below_after ?_ ?_ (by assumption)) | (show _ ≤ _; first | omega | (simp; done) | (simp; omega))))⟩
        case measure => simp [intOf]; omega
      · obtain rfl : p = 1024 := (eq_of_beq hbq).symm
        go_wp2
        refine bodyPost_ret (v := .tuple #[.agg (findT 1024).1, .bool true]) ?_ rfl ⟨rfl, ?_⟩
        · simp [results, Tryz.results139, go_sem, findT, rowA, *]
        · (repeat' (first | (with_reducible exact Below.refl _ _) | (with_reducible assumption) | (with_reducible refine below_drewN ?_ _) | (with_reducible refine Below.drew ?_) | (with_reducible refine Below.setCell ?_ ?_ _) | (with_reducible refine Below.alloc ?_ ?_ _) | (with_reducible refine below_after ?_ ?_ (by assumption)) | (show _ ≤ _; first | omega | (simp; done) | (simp; omega))))
    · have hi : ∀ w, (Instr.index 207 (.agg tabT) (.int .i64 (k : Int))).run Tryz.prog w = .ok (.agg #[.int .i64 4096, .func (.func 161) #[] #[], .int .i64 (1), .func (.func 163) #[] #[]]) w := fun w => by rw [h]; exact idx_5 w
      have hlt : (k : Int) < 7 := by omega
      have HK := Lib.hid h
      clear h
      obtain ⟨b, hbq⟩ : ∃ b, ((4096 : Int) == p) = b := ⟨_, rfl⟩
      cases b
      · go_wp2
        go_roundw
        case rel => exact ⟨k + 1, by omega, by go_num, no_more HN.out (by rw [HK.out]; exact ne_of_beq hbq), by (repeat' (first | (with_reducible exact Below.refl _ _) | (with_reducible assumption) | (with_reducible refine below_drewN ?_ _) | (with_reducible refine Below.drew ?_) | (with_reducible refine Below.setCell ?_ ?_ _) | (with_reducible refine Below.alloc ?_ ?_ _) | (with_reducible refine below_after ?_ ?_ (by assumption)) | (show _ ≤ _; first | omega | (simp; done) | (simp; omega))))⟩
        case measure => simp [intOf]; omega
      · obtain rfl : p = 4096 := (eq_of_beq hbq).symm
        go_wp2
        refine bodyPost_ret (v := .tuple #[.agg (findT 4096).1, .bool true]) ?_ rfl ⟨rfl, ?_⟩
        · simp [results, Tryz.results139, go_sem, findT, rowA, *]
        · (repeat' (first | (with_reducible exact Below.refl _ _) | (with_reducible assumption) | (with_reducible refine below_drewN ?_ _) | (with_reducible refine Below.drew ?_) | (with_reducible refine Below.setCell ?_ ?_ _) | (with_reducible refine Below.alloc ?_ ?_ _) | (with_reducible refine below_after ?_ ?_ (by assumption)) | (show _ ≤ _; first | omega | (simp; done) | (simp; omega))))
    · have hi : ∀ w, (Instr.index 207 (.agg tabT) (.int .i64 (k : Int))).run Tryz.prog w = .ok (.agg #[.int .i64 4097, .nilFunc, .int .i64 (1), .func (.func 164) #[] #[]]) w := fun w => by rw [h]; exact idx_6 w
      have hlt : (k : Int) < 7 := by omega
      have HK := Lib.hid h
      clear h
      obtain ⟨b, hbq⟩ : ∃ b, ((4097 : Int) == p) = b := ⟨_, rfl⟩
      cases b
      · go_wp2
        go_roundw
        case rel => exact ⟨k + 1, by omega, by go_num, no_more HN.out (by rw [HK.out]; exact ne_of_beq hbq), by (repeat' (first | (with_reducible exact Below.refl _ _) | (with_reducible assumption) | (with_reducible refine below_drewN ?_ _) | (with_reducible refine Below.drew ?_) | (with_reducible refine Below.setCell ?_ ?_ _) | (with_reducible refine Below.alloc ?_ ?_ _) | (with_reducible refine below_after ?_ ?_ (by assumption)) | (show _ ≤ _; first | omega | (simp; done) | (simp; omega))))⟩
        case measure => simp [intOf]; omega
      · obtain rfl : p = 4097 := (eq_of_beq hbq).symm
        go_wp2
        refine bodyPost_ret (v := .tuple #[.agg (findT 4097).1, .bool true]) ?_ rfl ⟨rfl, ?_⟩
        · simp [results, Tryz.results139, go_sem, findT, rowA, *]
        · (repeat' (first | (with_reducible exact Below.refl _ _) | (with_reducible assumption) | (with_reducible refine below_drewN ?_ _) | (with_reducible refine Below.drew ?_) | (with_reducible refine Below.setCell ?_ ?_ _) | (with_reducible refine Below.alloc ?_ ?_ _) | (with_reducible refine below_after ?_ ?_ (by assumption)) | (show _ ≤ _; first | omega | (simp; done) | (simp; omega))))
    · have hn := find_none p (by rw [← h]; exact HN.out)
      have hge : (7 : Int) ≤ (k : Int) := by omega
      clear h
      have HF := Lib.hid hn
      clear hn
      go_wp2
      refine bodyPost_ret (v := .tuple #[.agg (rowA (0, .nilFunc, 0, .nilFunc)), .bool false]) ?_ rfl ⟨by rw [HF.out], ?_⟩
      · simp [results, Tryz.results139, go_sem, rowA, *]
      · (repeat' (first | (with_reducible exact Below.refl _ _) | (with_reducible assumption) | (with_reducible refine below_drewN ?_ _) | (with_reducible refine Below.drew ?_) | (with_reducible refine Below.setCell ?_ ?_ _) | (with_reducible refine Below.alloc ?_ ?_ _) | (with_reducible refine below_after ?_ ?_ (by assumption)) | (show _ ≤ _; first | omega | (simp; done) | (simp; omega))))

end Go.Proofs.YtiemdccjphdbmaaGreat
