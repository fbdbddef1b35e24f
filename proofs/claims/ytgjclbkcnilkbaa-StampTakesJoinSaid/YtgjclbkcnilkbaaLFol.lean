/- The walk of StampFollowersMatchSpec. -/
import Derived.Test.YtgjclbkcnilkbaaStM
import Derived.Test.YtgjclbkcnilkbaaRd
namespace Go.Proofs.Ytgjclbkcnilkbaa
open Go.RowKit
set_option linter.unusedVariables false
set_option linter.unusedSimpArgs false

/-- A call of a follower: its kind, its stamp, its time. -/
abbrev CallD := Int × (Int × Int × Int × Int) × Int
def callC : Cod CallD := intC.pair ((intC.pair (intC.pair (intC.pair intC))).pair intC)
theorem callC_size : callC.size = 6 := rfl
theorem callC_cells {w : World} {cs : List Value} {x : CallD} (h : callC.is w cs x) :
    cs = [.int .i64 x.1, .int .i64 x.2.1.1, .int .i64 x.2.1.2.1, .int .i64 x.2.1.2.2.1, .int .i64 x.2.1.2.2.2, .int .i64 x.2.2] := by
  have hl := callC.len h
  rw [callC_size] at hl
  match cs, hl with
  | [c0, c1, c2, c3, c4, c5], _ =>
    simp [callC, Cod.pair, intC] at h
    obtain ⟨⟨h0, _⟩, ⟨⟨h1, _⟩, ⟨h2, _⟩, ⟨h3, _⟩, h4, _⟩, h5, _⟩ := h
    rw [h0, h1, h2, h3, h4, h5]
theorem reads_stamp : Reads Try.prog (intC.pair (intC.pair (intC.pair intC))) 29 :=
  reads_struct4 Try.underlying29 (by kernel_rfl) rfl rfl rfl rfl (by kernel_rfl) (by kernel_rfl) (by kernel_rfl) (by kernel_rfl) (reads_int Try.underlying3) (reads_int Try.underlying3) (reads_int Try.underlying3) (reads_int Try.underlying3)
theorem reads_call : Reads Try.prog callC 50 :=
  reads_struct3 (c1 := intC.pair (intC.pair (intC.pair intC))) Try.underlying50 (by kernel_rfl) rfl rfl rfl (by kernel_rfl) (by kernel_rfl) (by kernel_rfl) (reads_int Try.underlying3) reads_stamp (reads_int Try.underlying3)
theorem reads_calls : Reads Try.prog (sliceC callC) 42 :=
  reads_slice Try.underlying42 (by kernel_rfl) (by decide) reads_call

theorem Box6.mo {w w1 : World} {b c : Nat} {v0 v1 v2 v3 v4 v5 : Value} (k : Box6 w c v0 v1 v2 v3 v4 v5) (h : Mo b w w1) (hne : c ≠ b) : Box6 w1 c v0 v1 v2 v3 v4 v5 := by
  obtain ⟨⟨k0, k1, k2, k3, k4, k5⟩, ⟨f0, f1, f2, f3, f4, f5⟩, hlt⟩ := k
  have hb := h.2.2.2.2 c hlt hne
  exact ⟨⟨(World.cell?_of_block (w := w) hb).trans k0, (World.cell?_of_block (w := w) hb).trans k1, (World.cell?_of_block (w := w) hb).trans k2, (World.cell?_of_block (w := w) hb).trans k3, (World.cell?_of_block (w := w) hb).trans k4, (World.cell?_of_block (w := w) hb).trans k5⟩, ⟨(World.frozen?_of_block (w := w) hb).trans f0, (World.frozen?_of_block (w := w) hb).trans f1, (World.frozen?_of_block (w := w) hb).trans f2, (World.frozen?_of_block (w := w) hb).trans f3, (World.frozen?_of_block (w := w) hb).trans f4, (World.frozen?_of_block (w := w) hb).trans f5⟩, Nat.lt_of_lt_of_le hlt h.2.2.2.1⟩
theorem Box8.mo {w w1 : World} {b c : Nat} {v0 v1 v2 v3 v4 v5 v6 v7 : Value} (k : Box8 w c v0 v1 v2 v3 v4 v5 v6 v7) (h : Mo b w w1) (hne : c ≠ b) : Box8 w1 c v0 v1 v2 v3 v4 v5 v6 v7 := by
  obtain ⟨⟨k0, k1, k2, k3, k4, k5, k6, k7⟩, ⟨f0, f1, f2, f3, f4, f5, f6, f7⟩, hlt⟩ := k
  have hb := h.2.2.2.2 c hlt hne
  exact ⟨⟨(World.cell?_of_block (w := w) hb).trans k0, (World.cell?_of_block (w := w) hb).trans k1, (World.cell?_of_block (w := w) hb).trans k2, (World.cell?_of_block (w := w) hb).trans k3, (World.cell?_of_block (w := w) hb).trans k4, (World.cell?_of_block (w := w) hb).trans k5, (World.cell?_of_block (w := w) hb).trans k6, (World.cell?_of_block (w := w) hb).trans k7⟩, ⟨(World.frozen?_of_block (w := w) hb).trans f0, (World.frozen?_of_block (w := w) hb).trans f1, (World.frozen?_of_block (w := w) hb).trans f2, (World.frozen?_of_block (w := w) hb).trans f3, (World.frozen?_of_block (w := w) hb).trans f4, (World.frozen?_of_block (w := w) hb).trans f5, (World.frozen?_of_block (w := w) hb).trans f6, (World.frozen?_of_block (w := w) hb).trans f7⟩, Nat.lt_of_lt_of_le hlt h.2.2.2.1⟩
theorem Box9.mo {w w1 : World} {b c : Nat} {v0 v1 v2 v3 v4 v5 v6 v7 v8 : Value} (k : Box9 w c v0 v1 v2 v3 v4 v5 v6 v7 v8) (h : Mo b w w1) (hne : c ≠ b) : Box9 w1 c v0 v1 v2 v3 v4 v5 v6 v7 v8 := by
  obtain ⟨⟨k0, k1, k2, k3, k4, k5, k6, k7, k8⟩, ⟨f0, f1, f2, f3, f4, f5, f6, f7, f8⟩, hlt⟩ := k
  have hb := h.2.2.2.2 c hlt hne
  exact ⟨⟨(World.cell?_of_block (w := w) hb).trans k0, (World.cell?_of_block (w := w) hb).trans k1, (World.cell?_of_block (w := w) hb).trans k2, (World.cell?_of_block (w := w) hb).trans k3, (World.cell?_of_block (w := w) hb).trans k4, (World.cell?_of_block (w := w) hb).trans k5, (World.cell?_of_block (w := w) hb).trans k6, (World.cell?_of_block (w := w) hb).trans k7, (World.cell?_of_block (w := w) hb).trans k8⟩, ⟨(World.frozen?_of_block (w := w) hb).trans f0, (World.frozen?_of_block (w := w) hb).trans f1, (World.frozen?_of_block (w := w) hb).trans f2, (World.frozen?_of_block (w := w) hb).trans f3, (World.frozen?_of_block (w := w) hb).trans f4, (World.frozen?_of_block (w := w) hb).trans f5, (World.frozen?_of_block (w := w) hb).trans f6, (World.frozen?_of_block (w := w) hb).trans f7, (World.frozen?_of_block (w := w) hb).trans f8⟩, Nat.lt_of_lt_of_le hlt h.2.2.2.1⟩
theorem newF_ok {R F J : Int} (h : newF R F J = 0) : rateB R = true ∧ (0 ≤ F ∧ F ≤ 1000) ∧ (1 ≤ J ∧ J ≤ 1000) := by
  rcases new_cases R F J with ⟨hr, hz⟩ | ⟨hr, h1, hz⟩ | ⟨hr, h1, h2, hz⟩ | ⟨hr, h1, h2, hz⟩
  case inr.inr.inr => exact ⟨hr, withinB_true h1, withinB_true h2⟩
  all_goals (rw [hz] at h; cases h)
/-- The two followers stand alike. -/
def FolRel (w0 : World) (ba bb : Nat) (R F J : Int) (wr : World) : Prop := ∃ (last stamp time at0 : Int) (heard kept : Bool), okFol R F J last stamp time ∧ (0 ≤ at0 ∧ at0 < dayI R) ∧
  Box9 wr ba (.int .i64 R) (.int .i64 F) (.int .i64 J) (.int .i64 last) (.bool heard) (.int .i64 stamp) (.int .i64 time) (.bool kept) (.int .i64 at0) ∧ Box8 wr bb (.int .i64 R) (.int .i64 F) (.int .i64 J) (.bool heard) (.int .i64 stamp) (.int .i64 time) (.int .i64 last) (.int .i64 (if kept = true then at0 else -1)) ∧ Gr w0 wr

set_option maxHeartbeats 4000000 in
set_option maxRecDepth 100000 in
theorem stampFollowersMatchSpec_walk (R F J : Int) (v : Value) (l : List CallD) (w : World) (hl : (sliceC callC).is w [v] l) :
    Calls Try.prog 10 #[.int .i64 R, .int .i64 F, .int .i64 J, v] w fun e w' => e = .returned (.bool true) ∧ Gr w w' := by
  by_cases hF : newF R F J = 0
  · have Hn := Lib.hid hF
    have hn : ∃ (a : Option Addr) (cap : Nat), v = .slice a l.length cap ∧ l.length ≤ maxLen := by
      rcases hl with ⟨h1, rfl⟩ | ⟨b, off, sp, cap, h1, h2, h3, _⟩
      · exact ⟨none, 0, by simpa using h1, by simp⟩
      · exact ⟨some ⟨b, off, sp⟩, cap, by simpa using h1, by omega⟩
    obtain ⟨va, cap, rfl, hlen⟩ := hn
    unfold maxLen at hlen
    have HL := Lib.hid hl
    obtain ⟨n, hnl⟩ : ∃ n, n = l.length := ⟨_, rfl⟩
    have HN := Lib.hid hnl
    rw [← hnl] at hlen HL ⊢
    clear hl hF hnl
    go_enter Try.func10, Try.ntmps10
    go_wp2_with (first | (go_at_call 31; refine (New9_ok _ _ _ _ Hn.out).mono ?_; rintro e w1 ⟨ba, rfl, hba, K9, hb⟩) | (go_at_call 32; refine (New8_ok _ _ _ _ Hn.out).mono ?_; rintro e w2 ⟨bb, rfl, hbb, K8, hb2⟩))
    have hne : ba ≠ bb := by
      have := K9.2.2
      have h3 := hb2.size
      omega
    have hinit : FolRel w ba bb R F J w2 := by
      have h0 := newF_ok Hn.out
      have hd := dayI_le h0.1
      exact ⟨0, 0, 0, 0, false, false, ⟨h0.1, h0.2.1, h0.2.2, by omega, by omega, by omega⟩, by omega, K9.mono hb2, K8, (by repeat (first | exact Gr.refl _ | assumption | refine Gr.alloc ?_ _ | refine Gr.drew ?_ | refine Gr.drewN ?_ _ | (refine Gr.put ?_ ?_ _; first | exact Nat.le_refl _ | (simp; done) | omega) | (apply Gr.after; assumption)))⟩
    have hbb' : w.heap.size ≤ bb := Nat.le_trans hb.size hbb
    clear K9 K8 hb hb2 hbb
    go_loopw [59] (fun i wr => ∃ k : Nat, k ≤ n ∧ i = .int .i64 k ∧ FolRel w ba bb R F J wr) (fun i _ => n - (intOf i).toNat)
    case atStart => exact ⟨0, Nat.zero_le _, rfl, hinit⟩
    case round =>
      clear hinit
      obtain ⟨k, hk, rfl, last, stamp, time, at0, heard, kept, ok, hat, K9, K8, hG⟩ := hrel
      by_cases hlt : k < n
      · have hkl : k < l.length := by have := HN.out; omega
        rcases HL.out with ⟨h1, h2⟩ | ⟨B, off, sp, cap', h1, _, _, h4⟩
        · rw [h2] at hkl; simp at hkl
        · simp only [List.cons.injEq, Value.slice.injEq, and_true] at h1
          obtain ⟨rfl, hnn, rfl⟩ := h1
          clear hnn
          obtain ⟨rfl, cs', hc, his⟩ := h4 k hkl
          have hcs := callC_cells his
          subst hcs
          generalize l[k] = x at *
          obtain ⟨kd, ⟨h, m, s, f⟩, t⟩ := x
          simp only [callC_size] at hc
          have c0 := hG.cell (hc 0 (by omega))
          have c1 := hG.cell (hc 1 (by omega))
          have c2 := hG.cell (hc 2 (by omega))
          have c3 := hG.cell (hc 3 (by omega))
          have c4 := hG.cell (hc 4 (by omega))
          have c5 := hG.cell (hc 5 (by omega))
          simp only [Nat.add_zero, ← Nat.add_assoc] at c0 c1 c2 c3 c4 c5
          clear hc his h4
          by_cases hk0 : kd = 0
          · subst hk0
            by_cases hf : hearF last t R h m s f = 0
            · have hw0 : whenF last t = 0 := by
                by_cases h0 : whenF last t = 0
                · exact h0
                · rw [hearF, if_neg h0] at hf; exact hf
              have hc0 : chkF R h m s f = 0 := by rw [hearF, if_pos hw0] at hf; exact hf
              have hw := whenF_zero hw0
              go_wp2
              obtain ⟨W, hW⟩ : ∃ W, W = wr.alloc (.cells #[.int .i64 0, .int .i64 h, .int .i64 m, .int .i64 s, .int .i64 f, .int .i64 t] 50) := ⟨_, rfl⟩
              have K6 : Box6 W wr.heap.size (.int .i64 0) (.int .i64 h) (.int .i64 m) (.int .i64 s) (.int .i64 f) (.int .i64 t) := by subst hW; exact Box6.of (by repeat (first | exact heap_last _ _ | (refine heap_at _ _ _ ?_; (simp; done)) | (refine heap_old _ _ _ _ (by simp; try omega) ?_)))
              have hGW : Gr wr W := by subst hW; exact (by repeat (first | exact Gr.refl _ | assumption | refine Gr.alloc ?_ _ | refine Gr.drew ?_ | refine Gr.drewN ?_ _ | (refine Gr.put ?_ ?_ _; first | exact Nat.le_refl _ | (simp; done) | omega) | (apply Gr.after; assumption)))
              have n1 : wr.heap.size ≠ ba := by have := K9.2.2; omega
              have n2 : wr.heap.size ≠ bb := by have := K8.2.2; omega
              have K9 := K9.mono hGW
              have K8 := K8.mono hGW
              have hGw : Gr w W := hG.trans hGW
              rw [← hW]
              clear hW c0 c1 c2 c3 c4 c5
              go_region_held3 (fun w' => Box6 w' wr.heap.size (.int .i64 0) (.int .i64 h) (.int .i64 m) (.int .i64 s) (.int .i64 f) (.int .i64 t)) ((first | exact K6 | exact K6.mono ((Gr.refl _).drew))) (first | (go_at_call 33; refine (Hear9_ok _ _ _ _ _ _ _ _ _ _ _ _ _ _ _ _ hf (K9.mono ((Gr.refl _).drew))).mono ?_; rintro e w1 ⟨rfl, hm9, K9⟩; have K8 := (K8.mono ((Gr.refl _).drew)).mo hm9 (Ne.symm hne); have K6 := (K6.mono ((Gr.refl _).drew)).mo hm9 n1) | (go_at_call 34; refine (Hear8_ok _ _ _ _ _ _ _ _ _ _ _ _ _ _ _ hf K8).mono ?_; rintro e w2 ⟨rfl, hm8, K8⟩; have K9 := K9.mo hm8 hne; have K6 := K6.mo hm8 n2))
              go_wp2
              go_roundw
              case rel => first | exact ⟨k + 1, by omega, by go_num, t, numI R h m s f, t, at0, true, kept, ⟨ok.1, ok.2.1, ok.2.2.1, by omega, numI_bd (okS_of hc0), by omega⟩, hat, K9, K8, Mo.gr (Mo.gr hGw.drew hm9 hba) hm8 hbb'⟩ | ((repeat apply Exists.intro); exact ⟨⟨k + 1, by omega, by go_num, t, numI R h m s f, t, at0, true, kept, ⟨ok.1, ok.2.1, ok.2.2.1, by omega, numI_bd (okS_of hc0), by omega⟩, hat, K9, K8, Mo.gr (Mo.gr hGw.drew hm9 hba) hm8 hbb'⟩, rfl⟩)
              case measure => simp [intOf]; omega
            · go_wp2
              obtain ⟨W, hW⟩ : ∃ W, W = wr.alloc (.cells #[.int .i64 0, .int .i64 h, .int .i64 m, .int .i64 s, .int .i64 f, .int .i64 t] 50) := ⟨_, rfl⟩
              have K6 : Box6 W wr.heap.size (.int .i64 0) (.int .i64 h) (.int .i64 m) (.int .i64 s) (.int .i64 f) (.int .i64 t) := by subst hW; exact Box6.of (by repeat (first | exact heap_last _ _ | (refine heap_at _ _ _ ?_; (simp; done)) | (refine heap_old _ _ _ _ (by simp; try omega) ?_)))
              have hGW : Gr wr W := by subst hW; exact (by repeat (first | exact Gr.refl _ | assumption | refine Gr.alloc ?_ _ | refine Gr.drew ?_ | refine Gr.drewN ?_ _ | (refine Gr.put ?_ ?_ _; first | exact Nat.le_refl _ | (simp; done) | omega) | (apply Gr.after; assumption)))
              have n1 : wr.heap.size ≠ ba := by have := K9.2.2; omega
              have n2 : wr.heap.size ≠ bb := by have := K8.2.2; omega
              have K9 := K9.mono hGW
              have K8 := K8.mono hGW
              have hGw : Gr w W := hG.trans hGW
              rw [← hW]
              clear hW c0 c1 c2 c3 c4 c5
              go_region_held3 (fun w' => Box6 w' wr.heap.size (.int .i64 0) (.int .i64 h) (.int .i64 m) (.int .i64 s) (.int .i64 f) (.int .i64 t)) ((first | exact K6 | exact K6.mono ((Gr.refl _).drew))) (first | (go_at_call 33; refine (Hear9_no _ _ _ _ _ _ _ _ _ _ _ _ _ _ _ _ hf (K9.mono ((Gr.refl _).drew))).mono ?_; rintro e w1 ⟨rfl, hb9⟩; have K9 := (K9.mono ((Gr.refl _).drew)).mono hb9; have K8 := (K8.mono ((Gr.refl _).drew)).mono hb9; have K6 := (K6.mono ((Gr.refl _).drew)).mono hb9) | (go_at_call 34; refine (Hear8_no _ _ _ _ _ _ _ _ _ _ _ _ _ _ _ hf K8).mono ?_; rintro e w2 ⟨rfl, hb8⟩; have K8 := K8.mono hb8; have K9 := K9.mono hb8; have K6 := K6.mono hb8))
              go_wp2
              go_roundw
              case rel => first | exact ⟨k + 1, by omega, by go_num, last, stamp, time, at0, heard, kept, ok, hat, K9, K8, (hGw.drew.trans hb9).trans hb8⟩ | ((repeat apply Exists.intro); exact ⟨⟨k + 1, by omega, by go_num, last, stamp, time, at0, heard, kept, ok, hat, K9, K8, (hGw.drew.trans hb9).trans hb8⟩, rfl⟩)
              case measure => simp [intOf]; omega
          · have hk0' : (kd == 0) = false := by simpa using hk0
            by_cases hk1 : kd = 1
            · subst hk1
              clear hk0 hk0'
              by_cases hf : whenF last t = 0
              · have hw := whenF_zero hf
                have hGW : Gr wr (wr.alloc (.cells #[.int .i64 1, .int .i64 h, .int .i64 m, .int .i64 s, .int .i64 f, .int .i64 t] 50)) := (Gr.refl _).alloc _
                have K6 : Box6 (wr.alloc (.cells #[.int .i64 1, .int .i64 h, .int .i64 m, .int .i64 s, .int .i64 f, .int .i64 t] 50)) wr.heap.size (.int .i64 1) (.int .i64 h) (.int .i64 m) (.int .i64 s) (.int .i64 f) (.int .i64 t) := Box6.of (heap_last _ _)
                have n1 : wr.heap.size ≠ ba := by have := K9.2.2; omega
                have n2 : wr.heap.size ≠ bb := by have := K8.2.2; omega
                have K9 := K9.mono hGW
                have K8 := K8.mono hGW
                have hGw : Gr w (wr.alloc (.cells #[.int .i64 1, .int .i64 h, .int .i64 m, .int .i64 s, .int .i64 f, .int .i64 t] 50)) := hG.trans hGW
                go_wp2_with (first
                  | (go_at_call 35; refine (Where9_ok _ _ _ _ _ _ _ _ _ _ _ _ hf ok K9).mono ?_; rintro e w1 ⟨rfl, hm9, K9⟩; have K8 := K8.mo hm9 (Ne.symm hne); have K6 := K6.mo hm9 n1)
                  | (go_at_call 36; refine (Where8_ok _ _ _ _ _ _ _ _ _ _ _ hf ok K8).mono ?_; rintro e w2 ⟨rfl, hm8, K8⟩; have K9 := K9.mo hm8 hne; have K6 := K6.mo hm8 n2))
                go_roundw
                case rel => first | exact ⟨k + 1, by omega, by go_num, t, stamp, time, at0, heard, kept, ⟨ok.1, ok.2.1, ok.2.2.1, by omega, ok.2.2.2.2.1, by have := ok.2.2.2.2.2; omega⟩, hat, K9, K8, Mo.gr (Mo.gr hGw hm9 hba) hm8 hbb'⟩ | ((repeat apply Exists.intro); exact ⟨⟨k + 1, by omega, by go_num, t, stamp, time, at0, heard, kept, ⟨ok.1, ok.2.1, ok.2.2.1, by omega, ok.2.2.2.2.1, by have := ok.2.2.2.2.2; omega⟩, hat, K9, K8, Mo.gr (Mo.gr hGw hm9 hba) hm8 hbb'⟩, rfl⟩)
                case measure => simp [intOf]; omega
              · have hGW : Gr wr (wr.alloc (.cells #[.int .i64 1, .int .i64 h, .int .i64 m, .int .i64 s, .int .i64 f, .int .i64 t] 50)) := (Gr.refl _).alloc _
                have K6 : Box6 (wr.alloc (.cells #[.int .i64 1, .int .i64 h, .int .i64 m, .int .i64 s, .int .i64 f, .int .i64 t] 50)) wr.heap.size (.int .i64 1) (.int .i64 h) (.int .i64 m) (.int .i64 s) (.int .i64 f) (.int .i64 t) := Box6.of (heap_last _ _)
                have n1 : wr.heap.size ≠ ba := by have := K9.2.2; omega
                have n2 : wr.heap.size ≠ bb := by have := K8.2.2; omega
                have K9 := K9.mono hGW
                have K8 := K8.mono hGW
                have hGw : Gr w (wr.alloc (.cells #[.int .i64 1, .int .i64 h, .int .i64 m, .int .i64 s, .int .i64 f, .int .i64 t] 50)) := hG.trans hGW
                have hb' : (whenF last t != 0) = true := by simpa using hf
                go_wp2_with (first
                  | (go_at_call 35; refine (Where9_no _ _ _ _ _ _ _ _ _ _ _ _ hf K9).mono ?_; rintro e w1 ⟨rfl, hb9⟩; have K9 := K9.mono hb9; have K8 := K8.mono hb9; have K6 := K6.mono hb9)
                  | (go_at_call 36; refine (Where8_no _ _ _ _ _ _ _ _ _ _ _ hf K8).mono ?_; rintro e w2 ⟨rfl, hb8⟩; have K8 := K8.mono hb8; have K9 := K9.mono hb8; have K6 := K6.mono hb8))
                go_roundw
                case rel => first | exact ⟨k + 1, by omega, by go_num, last, stamp, time, at0, heard, kept, ok, hat, K9, K8, (hGw.trans hb9).trans hb8⟩ | ((repeat apply Exists.intro); exact ⟨⟨k + 1, by omega, by go_num, last, stamp, time, at0, heard, kept, ok, hat, K9, K8, (hGw.trans hb9).trans hb8⟩, rfl⟩)
                case measure => simp [intOf]; omega
            · have hk1' : (kd == 1) = false := by simpa using hk1
              clear hk0 hk1
              by_cases hf : takeF last t heard = 0
              · have hw0 : whenF last t = 0 := by
                  by_cases h0 : whenF last t = 0
                  · exact h0
                  · rw [takeF, if_neg h0] at hf; exact hf
                have hw := whenF_zero hw0
                cases kept
                · replace K8 : Box8 wr bb (.int .i64 R) (.int .i64 F) (.int .i64 J) (.bool heard) (.int .i64 stamp) (.int .i64 time) (.int .i64 last) (.int .i64 (-1)) := K8
                  have Ha1 : Hid ((-1 : Int) ≤ -1 ∧ -1 < dayI R) := Lib.hid (by omega)
                  have hd1 : decide ((0 : Int) ≤ -1) = false := by decide
                  have hfr : ∀ g a p, tkFrom false J g a p = p := fun _ _ _ => rfl
                  have hto : ∀ g a p, tkTo false J g a p = p := fun _ _ _ => rfl
                  have hj : ∀ g, tkJ false J g = false := fun _ => rfl
                  have hGW : Gr wr (wr.alloc (.cells #[.int .i64 kd, .int .i64 h, .int .i64 m, .int .i64 s, .int .i64 f, .int .i64 t] 50)) := (Gr.refl _).alloc _
                  have K6 : Box6 (wr.alloc (.cells #[.int .i64 kd, .int .i64 h, .int .i64 m, .int .i64 s, .int .i64 f, .int .i64 t] 50)) wr.heap.size (.int .i64 kd) (.int .i64 h) (.int .i64 m) (.int .i64 s) (.int .i64 f) (.int .i64 t) := Box6.of (heap_last _ _)
                  have n1 : wr.heap.size ≠ ba := by have := K9.2.2; omega
                  have n2 : wr.heap.size ≠ bb := by have := K8.2.2; omega
                  have K9 := K9.mono hGW
                  have K8 := K8.mono hGW
                  have hGw : Gr w (wr.alloc (.cells #[.int .i64 kd, .int .i64 h, .int .i64 m, .int .i64 s, .int .i64 f, .int .i64 t] 50)) := hG.trans hGW
                  go_wp2_with (first
                    | (go_at_call 37; refine (Take9_ok _ _ _ _ _ _ _ _ _ _ _ _ hf ok hat K9).mono ?_; rintro e w1 ⟨rfl, hm9, K9⟩; have K8 := K8.mo hm9 (Ne.symm hne); have K6 := K6.mo hm9 n1)
                    | (go_at_call 38; refine (Take8_ok _ _ _ _ _ _ _ _ _ _ _ hf ok Ha1.out K8).mono ?_; rintro e w2 ⟨rfl, hm8, K8⟩; have K9 := K9.mo hm8 hne; have K6 := K6.mo hm8 n2))
                  go_roundw
                  case rel => first | exact ⟨k + 1, by omega, by go_num, t, stamp, time, wP true R F stamp time t, true, true, ⟨ok.1, ok.2.1, ok.2.2.1, by omega, ok.2.2.2.2.1, by have := ok.2.2.2.2.2; omega⟩, wP_bd ok.1 true, K9, K8, Mo.gr (Mo.gr hGw hm9 hba) hm8 hbb'⟩ | ((repeat apply Exists.intro); exact ⟨⟨k + 1, by omega, by go_num, t, stamp, time, wP true R F stamp time t, true, true, ⟨ok.1, ok.2.1, ok.2.2.1, by omega, ok.2.2.2.2.1, by have := ok.2.2.2.2.2; omega⟩, wP_bd ok.1 true, K9, K8, Mo.gr (Mo.gr hGw hm9 hba) hm8 hbb'⟩, rfl⟩)
                  case measure => simp [intOf]; omega
                · replace K8 : Box8 wr bb (.int .i64 R) (.int .i64 F) (.int .i64 J) (.bool heard) (.int .i64 stamp) (.int .i64 time) (.int .i64 last) (.int .i64 at0) := K8
                  have Ha1 : Hid (-1 ≤ at0 ∧ at0 < dayI R) := Lib.hid (by omega)
                  have Hd1 : Hid (decide (0 ≤ at0) = true) := Lib.hid (by simp; omega)
                  have hGW : Gr wr (wr.alloc (.cells #[.int .i64 kd, .int .i64 h, .int .i64 m, .int .i64 s, .int .i64 f, .int .i64 t] 50)) := (Gr.refl _).alloc _
                  have K6 : Box6 (wr.alloc (.cells #[.int .i64 kd, .int .i64 h, .int .i64 m, .int .i64 s, .int .i64 f, .int .i64 t] 50)) wr.heap.size (.int .i64 kd) (.int .i64 h) (.int .i64 m) (.int .i64 s) (.int .i64 f) (.int .i64 t) := Box6.of (heap_last _ _)
                  have n1 : wr.heap.size ≠ ba := by have := K9.2.2; omega
                  have n2 : wr.heap.size ≠ bb := by have := K8.2.2; omega
                  have K9 := K9.mono hGW
                  have K8 := K8.mono hGW
                  have hGw : Gr w (wr.alloc (.cells #[.int .i64 kd, .int .i64 h, .int .i64 m, .int .i64 s, .int .i64 f, .int .i64 t] 50)) := hG.trans hGW
                  go_wp2_with (first
                    | (go_at_call 37; refine (Take9_ok _ _ _ _ _ _ _ _ _ _ _ _ hf ok hat K9).mono ?_; rintro e w1 ⟨rfl, hm9, K9⟩; have K8 := K8.mo hm9 (Ne.symm hne); have K6 := K6.mo hm9 n1)
                    | (go_at_call 38; refine (Take8_ok _ _ _ _ _ _ _ _ _ _ _ hf ok Ha1.out K8).mono ?_; rintro e w2 ⟨rfl, hm8, K8⟩; have K9 := K9.mo hm8 hne; have K6 := K6.mo hm8 n2))
                  go_roundw
                  case rel => first | exact ⟨k + 1, by omega, by go_num, t, stamp, time, wP true R F stamp time t, true, true, ⟨ok.1, ok.2.1, ok.2.2.1, by omega, ok.2.2.2.2.1, by have := ok.2.2.2.2.2; omega⟩, wP_bd ok.1 true, K9, K8, Mo.gr (Mo.gr hGw hm9 hba) hm8 hbb'⟩ | ((repeat apply Exists.intro); exact ⟨⟨k + 1, by omega, by go_num, t, stamp, time, wP true R F stamp time t, true, true, ⟨ok.1, ok.2.1, ok.2.2.1, by omega, ok.2.2.2.2.1, by have := ok.2.2.2.2.2; omega⟩, wP_bd ok.1 true, K9, K8, Mo.gr (Mo.gr hGw hm9 hba) hm8 hbb'⟩, rfl⟩)
                  case measure => simp [intOf]; omega
              · have hGW : Gr wr (wr.alloc (.cells #[.int .i64 kd, .int .i64 h, .int .i64 m, .int .i64 s, .int .i64 f, .int .i64 t] 50)) := (Gr.refl _).alloc _
                have K6 : Box6 (wr.alloc (.cells #[.int .i64 kd, .int .i64 h, .int .i64 m, .int .i64 s, .int .i64 f, .int .i64 t] 50)) wr.heap.size (.int .i64 kd) (.int .i64 h) (.int .i64 m) (.int .i64 s) (.int .i64 f) (.int .i64 t) := Box6.of (heap_last _ _)
                have n1 : wr.heap.size ≠ ba := by have := K9.2.2; omega
                have n2 : wr.heap.size ≠ bb := by have := K8.2.2; omega
                have K9 := K9.mono hGW
                have K8 := K8.mono hGW
                have hGw : Gr w (wr.alloc (.cells #[.int .i64 kd, .int .i64 h, .int .i64 m, .int .i64 s, .int .i64 f, .int .i64 t] 50)) := hG.trans hGW
                have hb' : (takeF last t heard != 0) = true := by simpa using hf
                go_wp2_with (first
                  | (go_at_call 37; refine (Take9_no _ _ _ _ _ _ _ _ _ _ _ _ hf K9).mono ?_; rintro e w1 ⟨rfl, hb9⟩; have K9 := K9.mono hb9; have K8 := K8.mono hb9; have K6 := K6.mono hb9)
                  | (go_at_call 38; refine (Take8_no _ _ _ _ _ _ _ _ _ _ _ hf K8).mono ?_; rintro e w2 ⟨rfl, hb8⟩; have K8 := K8.mono hb8; have K9 := K9.mono hb8; have K6 := K6.mono hb8))
                go_roundw
                case rel => first | exact ⟨k + 1, by omega, by go_num, last, stamp, time, at0, heard, kept, ok, hat, K9, K8, (hGw.trans hb9).trans hb8⟩ | ((repeat apply Exists.intro); exact ⟨⟨k + 1, by omega, by go_num, last, stamp, time, at0, heard, kept, ok, hat, K9, K8, (hGw.trans hb9).trans hb8⟩, rfl⟩)
                case measure => simp [intOf]; omega
      · go_wp2
        go_ret
        exact ⟨rfl, hG⟩
  · have Hn := Lib.hid hF
    have hb' : (newF R F J != 0) = true := by simpa using hF
    clear hF
    go_enter Try.func10, Try.ntmps10
    go_wp2_with (first | (go_at_call 31; refine (New9_no _ _ _ _ Hn.out).mono ?_; rintro e w1 ⟨rfl, hb⟩) | (go_at_call 32; refine (New8_no _ _ _ _ Hn.out).mono ?_; rintro e w2 ⟨rfl, hb2⟩))
    go_ret
    exact ⟨rfl, (by repeat (first | exact Gr.refl _ | assumption | refine Gr.alloc ?_ _ | refine Gr.drew ?_ | refine Gr.drewN ?_ _ | (refine Gr.put ?_ ?_ _; first | exact Nat.le_refl _ | (simp; done) | omega) | (apply Gr.after; assumption)))⟩
end Go.Proofs.Ytgjclbkcnilkbaa
