/- The contracts of pick's Level, of its reference, and of what they call. -/
import Derived.Test.YtjhdogdaldlkhaaWd
import Derived.Test.YtjhdogdaldlkhaaBs3
import Derived.Laws.StructEq
namespace Go.Proofs.Ytjhdogdaldlkhaa
open Go.RowKit
set_option linter.unusedVariables false
set_option linter.unusedSimpArgs false

theorem isLevel_any (n : Int) (w : World) :
    Calls Try.prog 41 #[.int .i64 n] w fun e w' => e = .returned (.bool (withinB n 0 65535)) ∧ w = w' := by
  go_enter Try.func41, Try.ntmps41
  go_wp2_with (go_at_call 46; refine (within_any _ _ _ _).mono ?_; rintro e w' ⟨rfl, rfl⟩)
  go_ret
  exact ⟨rfl, rfl⟩
theorem isLevel1_any (n : Int) (w : World) :
    Calls Try.prog 42 #[.int .i64 n] w fun e w' => e = .returned (.bool (withinB n 0 65535)) ∧ w = w' := by
  go_enter Try.func42, Try.ntmps42
  go_wp2_with (go_at_call 48; refine (within1_any _ _ _ _).mono ?_; rintro e w' ⟨rfl, rfl⟩)
  go_ret
  exact ⟨rfl, rfl⟩
def keyB (a : Int) (p : ByteArray) (b : Int) (q : ByteArray) : Bool := a == b && p.toList == q.toList
theorem bytes_ext {p q : ByteArray} (h : p.toList = q.toList) : p = q := by
  have h1 : p.data.toList = q.data.toList := by simpa [ByteArray.toList_eq] using h
  cases p; cases q; simp at h1; simpa using h1
theorem keyB_iff (k : KeyD) (b : Int) (q : ByteArray) : keyB k.unit k.param b q = true ↔ k = ⟨b, q⟩ := by
  obtain ⟨a, p⟩ := k
  simp only [keyB, Bool.and_eq_true, beq_iff_eq, KeyD.mk.injEq]
  exact ⟨fun h => ⟨h.1, bytes_ext h.2⟩, fun h => ⟨h.1, by rw [h.2]⟩⟩
theorem eql_key (a : Int) (p : ByteArray) (b : Int) (q : ByteArray) (w : World) :
    (binOp .eql 24 (.agg #[.int .i64 a, .string p]) (.agg #[.int .i64 b, .string q])).run Try.prog w = .ok (.bool (keyB a p b q)) w := by
  have hS : Try.prog.underlying 24 = some (.struct (Try.prog.fieldsOf 24)) := by kernel_rfl
  have hp : Try.prog.stoodInHeld 24 = false := by kernel_rfl
  have u3 := Try.underlying3
  have us := Try.underlying9
  rw [run_eql_struct, show (10000 : Nat) = 9999 + 1 from rfl, run_equalIn_agg w 9999 24 _ _ hS hp]
  simp only [Program.fieldsOf, Try.underlying24]
  go_simp
  by_cases h1 : a = b <;> by_cases h2 : p.toList = q.toList <;> simp [h1, h2, keyB]
end Go.Proofs.Ytjhdogdaldlkhaa
