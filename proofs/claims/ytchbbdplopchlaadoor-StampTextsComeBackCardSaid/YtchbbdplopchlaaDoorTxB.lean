/- Show and its reference: the contracts. -/
import Derived.Test.YtchbbdplopchlaaDoorTxA
import Derived.Test.YtchbbdplopchlaaDoorShelf
import Derived.Test.YtchbbdplopchlaaDoorTrim
import Derived.Lib.QuietBelow
import Derived.Lib.SmallJoins
namespace Go.Proofs.YtchbbdplopchlaaDoor
open Go.RowKit Go.Sort
set_option linter.unusedVariables false
set_option linter.unusedSimpArgs false

/-- strconv's table, as Itoa reads it. -/
def TabP (w : World) : Prop := Lib.TabIs Tryd.prog w "internal/strconv.uint64pow10" .u64 Lib.pow10Tab
theorem gPow : Tryd.prog.globalNamed "internal/strconv.uint64pow10" = some 2 := by kernel_rfl
theorem TabP.mono {w w' : World} (h : TabP w) (g : Gr w w') : TabP w' := Joins.tab_stays gPow h g (Nat.le_refl _)
theorem gr_grow (w : World) (k : Nat) (os : Array Obj) : Gr w (grow (w.drewN k) os) :=
  ⟨rfl, rfl, rfl, by simp [grow, World.drewN], fun k hk => by simp [grow, World.drewN, Array.getElem?_append, hk]⟩

def dig (n : Int) : UInt8 := UInt8.ofNat (48 + n.toNat)
/-- A number as two digits. -/
def twoS (n : Int) : ByteArray := ⟨#[dig (n / 10), dig (n % 10)]⟩
theorem twoS_size (n : Int) : (twoS n).size = 2 := rfl
theorem itoa_100 : ∀ n : Nat, n < 100 → Lib.itoa (100 + (n : Int)) = [49, dig ((n : Int) / 10), dig ((n : Int) % 10)] := by decide +kernel
theorem digits_low : ∀ n : Nat, n < 10 → (Lib.decDigits n).toArray = #[dig ((n : Int) % 10)] ∧ dig ((n : Int) / 10) = 48 := by decide +kernel
theorem digits_high : ∀ n : Nat, n < 100 → 10 ≤ n → (Lib.decDigits n).toArray = #[dig ((n : Int) / 10), dig ((n : Int) % 10)] := by decide +kernel

theorem Itoa_100 (n : Int) (h0 : 0 ≤ n) (h1 : n ≤ 99) (w : World) (ht : TabP w) :
    Calls Tryd.prog 26 #[.int .i64 (100 + n)] w fun e w' => e = .returned (.string ⟨#[49, dig (n / 10), dig (n % 10)]⟩) ∧ Gr w w' := by
  obtain ⟨k, rfl⟩ := Int.eq_ofNat_of_zero_le h0
  refine (Tryd.strconv_Itoa (100 + (k : Int)) (by omega) (by omega) w ht).mono ?_
  rintro e w' ⟨rfl, j, os, rfl⟩
  exact ⟨by rw [itoa_100 k (by omega)], gr_grow _ _ _⟩

theorem two_any (n : Int) (h0 : 0 ≤ n) (h1 : n ≤ 99) (w : World) (ht : TabP w) :
    Calls Tryd.prog 21 #[.int .i64 n] w fun e w' => e = .returned (.string (twoS n)) ∧ Gr w w' := by
  have hw : IntKind.i64.wrap (100 + n) = 100 + n := wrap_in (by omega)
  have HT := Lib.hid ht; clear ht
  go_enter Tryd.func21, Tryd.ntmps21
  go_wp2_with (go_at_call 26; refine (Itoa_100 n h0 h1 _ HT.out).mono ?_; rintro e w' ⟨rfl, hb⟩)
  go_ret
  exact ⟨rfl, hb⟩

theorem two8_any (n : Int) (h0 : 0 ≤ n) (h1 : n ≤ 99) (w : World) :
    Calls Tryd.prog 22 #[.int .i64 n] w fun e w' => e = .returned (.string (twoS n)) ∧ w = w' := by
  obtain ⟨k, rfl⟩ := Int.eq_ofNat_of_zero_le h0
  by_cases h : k < 10
  · have hi : (k : Int) < 10 := by omega
    have HA := Lib.hid (digits_low k h)
    go_enter Tryd.func22, Tryd.ntmps22
    go_wp2_with (go_at_call 26; refine (Tryd.strconv_Itoa_small k (by omega) _).mono ?_; rintro e w' ⟨rfl, rfl⟩; rw [HA.out.1])
    go_ret
    exact ⟨by rw [twoS, HA.out.2]; rfl, rfl⟩
  · have hi : ¬ (k : Int) < 10 := by omega
    have HA := Lib.hid (digits_high k (by omega) (by omega))
    go_enter Tryd.func22, Tryd.ntmps22
    go_wp2_with (go_at_call 26; refine (Tryd.strconv_Itoa_small k (by omega) _).mono ?_; rintro e w' ⟨rfl, rfl⟩; rw [HA.out])
    go_ret
    exact ⟨rfl, rfl⟩

/-- What stands ahead of the frames. -/
def mkC (r : Int) : UInt8 := if r = 29 then 59 else 58
theorem mark_any (r : Int) (w : World) :
    Calls Tryd.prog 14 #[.int .i64 r] w fun e w' => e = .returned (.string ⟨#[mkC r]⟩) ∧ w = w' := by
  by_cases h : r = 29
  · subst h
    go_enter Tryd.func14, Tryd.ntmps14
    go_wp2
    go_ret
    exact ⟨rfl, rfl⟩
  · have h1 : ((r : Int) == 29) = false := beq_eq_false_iff_ne.2 h
    have H := Lib.hid h; clear h
    go_enter Tryd.func14, Tryd.ntmps14
    go_wp2
    go_ret
    exact ⟨by rw [mkC, if_neg H.out]; rfl, rfl⟩
theorem last8_any (r : Int) (w : World) :
    Calls Tryd.prog 23 #[.int .i64 r] w fun e w' => e = .returned (.string ⟨#[mkC r]⟩) ∧ w = w' := by
  by_cases h : r = 29
  · subst h
    go_enter Tryd.func23, Tryd.ntmps23
    go_wp2
    go_ret
    exact ⟨rfl, rfl⟩
  · have h1 : ((r : Int) == 29) = false := beq_eq_false_iff_ne.2 h
    have H := Lib.hid h; clear h
    go_enter Tryd.func23, Tryd.ntmps23
    go_wp2
    go_ret
    exact ⟨by rw [mkC, if_neg H.out]; rfl, rfl⟩

/-- The text of a stamp. -/
def showS (r h m s f : Int) : ByteArray := twoS h ++ ⟨#[58]⟩ ++ twoS m ++ ⟨#[58]⟩ ++ twoS s ++ ⟨#[mkC r]⟩ ++ twoS f
def in99 (n : Int) : Prop := 0 ≤ n ∧ n ≤ 99
theorem regrown_gr (w : World) (d : Nat) (os : Array Obj) : Gr w (grow (redrawn w d) os) := below_regrown w d os

set_option maxHeartbeats 4000000 in
theorem show_any (r h m s f : Int) (hh : in99 h) (hm : in99 m) (hs : in99 s) (hf : in99 f) (w : World) (ht : TabP w) :
    Calls Tryd.prog 10 #[.int .i64 r, .agg #[.int .i64 h, .int .i64 m, .int .i64 s, .int .i64 f]] w fun e w' => e = .returned (.string (showS r h m s f)) ∧ Gr w w' := by
  have HT := Lib.hid ht; clear ht
  have HH := Lib.hid hh; have HM := Lib.hid hm; have HS := Lib.hid hs; have HF := Lib.hid hf; clear hh hm hs hf
  have z : ∀ n, (twoS n).size = 2 := fun _ => rfl
  go_enter Tryd.func10, Tryd.ntmps10
  go_wp2
  generalize hw2 : World.alloc w _ = w2
  have hg2 : Gr w w2 := by rw [← hw2]; exact (Gr.refl w).alloc _
  have K : Box4 w2 w.heap.size (.int .i64 h) (.int .i64 m) (.int .i64 s) (.int .i64 f) := by rw [← hw2]; exact Box4.of (heap_last _ _)
  have HT2 := Lib.hid (HT.out.mono hg2)
  clear hw2 HT
  obtain ⟨⟨k0, k1, k2, k3⟩, _, _⟩ := K
  have q0 := cell_regrown k0
  have q1 := cell_regrown k1
  have q2 := cell_regrown k2
  have q3 := cell_regrown k3
  have c0 : ∀ d os, Calls Tryd.prog 21 #[.int .i64 h] (grow (redrawn w2 d) os) fun e w'' => e = .returned (.string (twoS h)) ∧ ∃ p : Regrown, w'' = grow (redrawn w2 p.d) p.os := fun d os => Calls.regrown_of (two_any h HH.out.1 HH.out.2 _ (HT2.out.mono (regrown_gr w2 d os)))
  have c1 : ∀ d os, Calls Tryd.prog 21 #[.int .i64 m] (grow (redrawn w2 d) os) fun e w'' => e = .returned (.string (twoS m)) ∧ ∃ p : Regrown, w'' = grow (redrawn w2 p.d) p.os := fun d os => Calls.regrown_of (two_any m HM.out.1 HM.out.2 _ (HT2.out.mono (regrown_gr w2 d os)))
  have c2 : ∀ d os, Calls Tryd.prog 21 #[.int .i64 s] (grow (redrawn w2 d) os) fun e w'' => e = .returned (.string (twoS s)) ∧ ∃ p : Regrown, w'' = grow (redrawn w2 p.d) p.os := fun d os => Calls.regrown_of (two_any s HS.out.1 HS.out.2 _ (HT2.out.mono (regrown_gr w2 d os)))
  have c3 : ∀ d os, Calls Tryd.prog 21 #[.int .i64 f] (grow (redrawn w2 d) os) fun e w'' => e = .returned (.string (twoS f)) ∧ ∃ p : Regrown, w'' = grow (redrawn w2 p.d) p.os := fun d os => Calls.regrown_of (two_any f HF.out.1 HF.out.2 _ (HT2.out.mono (regrown_gr w2 d os)))
  have c4 : ∀ d os, Calls Tryd.prog 14 #[.int .i64 r] (grow (redrawn w2 d) os) fun e w'' => e = .returned (.string ⟨#[mkC r]⟩) ∧ ∃ p : Regrown, w'' = grow (redrawn w2 p.d) p.os := fun d os => Calls.regrown_of ((mark_any r _).mono fun e w' ⟨h1, h2⟩ => ⟨h1, h2 ▸ Gr.refl _⟩)
  refine wp_region_quiet_below (by kernel_rfl) (by kernel_rfl) ?_
  repeat (quiet_step (with_reducible (first | exact c0 _ _ | exact c1 _ _ | exact c2 _ _ | exact c3 _ _ | exact c4 _ _)))
  refine wpQuiet_nil ?_
  intro _ hw'
  obtain ⟨⟨dq, osq⟩, hw''⟩ := hw'
  subst hw''
  go_wp2
  go_ret
  exact ⟨rfl, hg2.trans (regrown_gr w2 dq osq)⟩

end Go.Proofs.YtchbbdplopchlaaDoor
