/- Digits at two bytes. -/
import Derived.Test.YtchbbdplopchlaaDoorTxD
namespace Go.Proofs.YtchbbdplopchlaaDoor
open Go.RowKit Go.Sort
set_option linter.unusedVariables false
set_option linter.unusedSimpArgs false
def isD (b : UInt8) : Bool := decide (48 ≤ b.toNat ∧ b.toNat ≤ 57)
def digs : List UInt8 := [48, 49, 50, 51, 52, 53, 54, 55, 56, 57]
theorem con_fin : ∀ n : Fin 256, digs.contains (UInt8.ofNat n.val) = isD (UInt8.ofNat n.val) := by decide +kernel
theorem con_digs (b : UInt8) : digs.contains b = isD b := by
  have := con_fin ⟨b.toNat, b.toNat_lt⟩
  simpa using this
theorem trim2 (a b : UInt8) : (Lib.trimS [a, b] digs).isEmpty = (isD a && isD b) := by
  have ha := con_digs a
  have hb := con_digs b
  unfold Lib.trimS Lib.trimLeftS Lib.trimRightS
  generalize digs = D at *
  have hr : [a, b].reverse = [b, a] := rfl
  rw [hr]
  cases h1 : isD a <;> cases h2 : isD b <;> rw [h1] at ha <;> rw [h2] at hb <;> simp only [List.dropWhile_cons, ha, hb, if_true, Bool.false_eq_true, if_false, List.dropWhile_nil, List.reverse_cons, List.reverse_nil, List.nil_append, List.cons_append] <;> rfl
theorem Digits2_any (a b : UInt8) (w : World) :
    Calls Tryd.prog 15 #[.string ⟨#[a, b]⟩] w fun e w' => e = .returned (.bool (isD a && isD b)) ∧ Gr w w' := by
  have hcon := fun W => Tryd.strings_Trim ⟨#[a, b]⟩ ⟨#[48, 49, 50, 51, 52, 53, 54, 55, 56, 57]⟩ W (by show 2 ≤ _; omega) (by decide) (by
    intro j c h
    have : c ∈ digs := List.mem_of_getElem? h
    have h2 : digs.contains c = true := by simpa using this
    rw [con_digs] at h2
    have := of_decide_eq_true h2
    omega)
  obtain ⟨r, hr⟩ : ∃ r, r = (⟨(Lib.trimS [a, b] digs).toArray⟩ : ByteArray) := ⟨_, rfl⟩
  have hcon' : ∀ W, Calls Tryd.prog 25 #[.string ⟨#[a, b]⟩, .string ⟨#[48, 49, 50, 51, 52, 53, 54, 55, 56, 57]⟩] W fun e w' => e = .returned (.string r) ∧ Gr W w' := fun W => by rw [hr]; exact hcon W
  clear hcon
  have HC := Lib.hid hcon'; clear hcon'
  have hre : r.toList.isEmpty = (isD a && isD b) := by
    rw [hr, ByteArray.toList_eq]
    exact trim2 a b
  clear hr
  generalize (isD a && isD b) = q at *
  go_enter Tryd.func15, Tryd.ntmps15
  go_wp2_with (go_at_call 25; refine (HC.out _).mono ?_; rintro e w' ⟨rfl, hb⟩)
  go_ret
  exact ⟨rfl, hb⟩
end Go.Proofs.YtchbbdplopchlaaDoor
