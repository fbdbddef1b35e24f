/- The walk of StampTakesJoin. -/
import Derived.Test.YtgjclbkcnilkbaaLFol
namespace Go.Proofs.Ytgjclbkcnilkbaa
open Go.RowKit
set_option linter.unusedVariables false
set_option linter.unusedSimpArgs false

/-- The follower is right, and lst is the place that it keeps, or -1. -/
def JoinRel (w0 : World) (ba : Nat) (R F J lst : Int) (wr : World) : Prop := ∃ (last stamp time at0 : Int) (heard kept : Bool), okFol R F J last stamp time ∧ (0 ≤ at0 ∧ at0 < dayI R) ∧
  Box9 wr ba (.int .i64 R) (.int .i64 F) (.int .i64 J) (.int .i64 last) (.bool heard) (.int .i64 stamp) (.int .i64 time) (.bool kept) (.int .i64 at0) ∧ Gr w0 wr ∧ Hid (kept = true ∧ lst = at0 ∨ kept = false ∧ lst = -1)

set_option maxHeartbeats 4000000 in
set_option maxRecDepth 100000 in
theorem stampTakesJoin_walk (R F J : Int) (v : Value) (l : List CallD) (w : World) (hl : (sliceC callC).is w [v] l) :
    Calls Try.prog 11 #[.int .i64 R, .int .i64 F, .int .i64 J, v] w fun e w' => e = .returned (.bool true) ∧ Gr w w' := by
  have z0 := resI0
  by_cases hF : newF R F J = 0
  · have Hn := Lib.hid hF
    have hn : ∃ (a : Option Addr) (cap : Nat), v = .slice a l.length cap ∧ l.length ≤ maxLen := by
      rcases hl with ⟨h1, rfl⟩ | ⟨b, off, sp, cap, h1, h2, h3, _⟩
      · exact ⟨none, 0, by simpa using h1, by simp⟩
      · exact ⟨some ⟨b, off, sp⟩, cap, by simpa using h1, by omega⟩
    obtain ⟨va, cap, rfl, hlen⟩ := hn
    unfold maxLen at hlen
    have HL := Lib.hid hl
    obtain ⟨n, hnl⟩ : ∃ n, n = l.length := ⟨_, rfl⟩
    have HN := Lib.hid hnl
    rw [← hnl] at hlen HL ⊢
    have h0 := newF_ok hF
    have Hr := Lib.hid h0.1
    have hmo : modeI R = 0 := by simp [modeI, h0.1]
    have hd := dayI_le h0.1
    clear hl hF hnl h0
    go_enter Try.func11, Try.ntmps11
    go_wp2_with (first | (go_at_call 31; refine (New9_ok _ _ _ _ Hn.out).mono ?_; rintro e w1 ⟨ba, rfl, hba, K9, hb⟩) | (go_at_call 16; refine (Day_any _ _).mono ?_; rintro e w2 ⟨rfl, rfl⟩))
    have hinit : JoinRel w ba R F J (-1) w1 := by
      have h0 := newF_ok Hn.out
      exact ⟨0, 0, 0, 0, false, false, ⟨h0.1, h0.2.1, h0.2.2, by omega, by omega, by omega⟩, by omega, K9, hb, Lib.hid (.inr ⟨rfl, rfl⟩)⟩
    clear K9 hb
    go_loopw [13, 49] (fun a i wr => ∃ (k : Nat) (lst : Int), k ≤ n ∧ i = .int .i64 k ∧ a = .int .i64 lst ∧ JoinRel w ba R F J lst wr) (fun _ i _ => n - (intOf i).toNat)
    case atStart => exact ⟨0, -1, Nat.zero_le _, rfl, rfl, hinit⟩
    case round =>
      clear hinit
      obtain ⟨k, lst, hk, rfl, rfl, last, stamp, time, at0, heard, kept, ok, hat, K9, hG, HK⟩ := hrel
      by_cases hlt : k < n
      · have hkl : k < l.length := by have := HN.out; omega
        rcases HL.out with ⟨h1, h2⟩ | ⟨B, off, sp, cap', h1, _, _, h4⟩
        · rw [h2] at hkl; simp at hkl
        · simp only [List.cons.injEq, Value.slice.injEq, and_true] at h1
          obtain ⟨rfl, hnn, rfl⟩ := h1
          clear hnn
          obtain ⟨rfl, cs', hc, his⟩ := h4 k hkl
          have hcs := callC_cells his
          subst hcs
          generalize l[k] = x at *
          obtain ⟨kd, ⟨h, m, s, f⟩, t⟩ := x
          simp only [callC_size] at hc
          have c0 := hG.cell (hc 0 (by omega))
          have c1 := hG.cell (hc 1 (by omega))
          have c2 := hG.cell (hc 2 (by omega))
          have c3 := hG.cell (hc 3 (by omega))
          have c4 := hG.cell (hc 4 (by omega))
          have c5 := hG.cell (hc 5 (by omega))
          simp only [Nat.add_zero, ← Nat.add_assoc] at c0 c1 c2 c3 c4 c5
          clear hc his h4
          by_cases hk0 : kd = 0
          · subst hk0
            by_cases hf : hearF last t R h m s f = 0
            · have hw0 : whenF last t = 0 := by
                by_cases h0 : whenF last t = 0
                · exact h0
                · rw [hearF, if_neg h0] at hf; exact hf
              have hc0 : chkF R h m s f = 0 := by rw [hearF, if_pos hw0] at hf; exact hf
              have hw := whenF_zero hw0
              have hGW : Gr wr (wr.alloc (.cells #[.int .i64 0, .int .i64 h, .int .i64 m, .int .i64 s, .int .i64 f, .int .i64 t] 50)) := (Gr.refl _).alloc _
              have K6 : Box6 (wr.alloc (.cells #[.int .i64 0, .int .i64 h, .int .i64 m, .int .i64 s, .int .i64 f, .int .i64 t] 50)) wr.heap.size (.int .i64 0) (.int .i64 h) (.int .i64 m) (.int .i64 s) (.int .i64 f) (.int .i64 t) := Box6.of (heap_last _ _)
              have n1 : wr.heap.size ≠ ba := by have := K9.2.2; omega
              replace K9 := K9.mono hGW
              have hGw : Gr w (wr.alloc (.cells #[.int .i64 0, .int .i64 h, .int .i64 m, .int .i64 s, .int .i64 f, .int .i64 t] 50)) := hG.trans hGW
              go_wp2_with (go_at_call 33; refine (Hear9_ok _ _ _ _ _ _ _ _ _ _ _ _ _ _ _ _ hf K9).mono ?_; rintro e w1 ⟨rfl, hm9, K9⟩)
              go_roundw
              case rel => first | exact ⟨k + 1, lst, by omega, by go_num, rfl, t, numI R h m s f, t, at0, true, kept, ⟨ok.1, ok.2.1, ok.2.2.1, by omega, numI_bd (okS_of hc0), by omega⟩, hat, K9, Mo.gr hGw hm9 hba, HK⟩ | ((repeat apply Exists.intro); exact ⟨⟨k + 1, lst, by omega, by go_num, rfl, t, numI R h m s f, t, at0, true, kept, ⟨ok.1, ok.2.1, ok.2.2.1, by omega, numI_bd (okS_of hc0), by omega⟩, hat, K9, Mo.gr hGw hm9 hba, HK⟩, rfl⟩)
              case measure => simp [intOf]; omega
            · have hGW : Gr wr (wr.alloc (.cells #[.int .i64 0, .int .i64 h, .int .i64 m, .int .i64 s, .int .i64 f, .int .i64 t] 50)) := (Gr.refl _).alloc _
              have K6 : Box6 (wr.alloc (.cells #[.int .i64 0, .int .i64 h, .int .i64 m, .int .i64 s, .int .i64 f, .int .i64 t] 50)) wr.heap.size (.int .i64 0) (.int .i64 h) (.int .i64 m) (.int .i64 s) (.int .i64 f) (.int .i64 t) := Box6.of (heap_last _ _)
              have n1 : wr.heap.size ≠ ba := by have := K9.2.2; omega
              replace K9 := K9.mono hGW
              have hGw : Gr w (wr.alloc (.cells #[.int .i64 0, .int .i64 h, .int .i64 m, .int .i64 s, .int .i64 f, .int .i64 t] 50)) := hG.trans hGW
              go_wp2_with (go_at_call 33; refine (Hear9_no _ _ _ _ _ _ _ _ _ _ _ _ _ _ _ _ hf K9).mono ?_; rintro e w1 ⟨rfl, hb9⟩; have K9 := K9.mono hb9)
              go_roundw
              case rel => first | exact ⟨k + 1, lst, by omega, by go_num, rfl, last, stamp, time, at0, heard, kept, ok, hat, K9, hGw.trans hb9, HK⟩ | ((repeat apply Exists.intro); exact ⟨⟨k + 1, lst, by omega, by go_num, rfl, last, stamp, time, at0, heard, kept, ok, hat, K9, hGw.trans hb9, HK⟩, rfl⟩)
              case measure => simp [intOf]; omega
          · have hk0' : (kd == 0) = false := by simpa using hk0
            by_cases hk1 : kd = 1
            · subst hk1
              clear hk0 hk0'
              by_cases hf : whenF last t = 0
              · have hw := whenF_zero hf
                have hGW : Gr wr (wr.alloc (.cells #[.int .i64 1, .int .i64 h, .int .i64 m, .int .i64 s, .int .i64 f, .int .i64 t] 50)) := (Gr.refl _).alloc _
                have K6 : Box6 (wr.alloc (.cells #[.int .i64 1, .int .i64 h, .int .i64 m, .int .i64 s, .int .i64 f, .int .i64 t] 50)) wr.heap.size (.int .i64 1) (.int .i64 h) (.int .i64 m) (.int .i64 s) (.int .i64 f) (.int .i64 t) := Box6.of (heap_last _ _)
                have n1 : wr.heap.size ≠ ba := by have := K9.2.2; omega
                replace K9 := K9.mono hGW
                have hGw : Gr w (wr.alloc (.cells #[.int .i64 1, .int .i64 h, .int .i64 m, .int .i64 s, .int .i64 f, .int .i64 t] 50)) := hG.trans hGW
                go_wp2_with (go_at_call 35; refine (Where9_ok _ _ _ _ _ _ _ _ _ _ _ _ hf ok K9).mono ?_; rintro e w1 ⟨rfl, hm9, K9⟩)
                go_roundw
                case rel => first | exact ⟨k + 1, lst, by omega, by go_num, rfl, t, stamp, time, at0, heard, kept, ⟨ok.1, ok.2.1, ok.2.2.1, by omega, ok.2.2.2.2.1, by have := ok.2.2.2.2.2; omega⟩, hat, K9, Mo.gr hGw hm9 hba, HK⟩ | ((repeat apply Exists.intro); exact ⟨⟨k + 1, lst, by omega, by go_num, rfl, t, stamp, time, at0, heard, kept, ⟨ok.1, ok.2.1, ok.2.2.1, by omega, ok.2.2.2.2.1, by have := ok.2.2.2.2.2; omega⟩, hat, K9, Mo.gr hGw hm9 hba, HK⟩, rfl⟩)
                case measure => simp [intOf]; omega
              · have hGW : Gr wr (wr.alloc (.cells #[.int .i64 1, .int .i64 h, .int .i64 m, .int .i64 s, .int .i64 f, .int .i64 t] 50)) := (Gr.refl _).alloc _
                have K6 : Box6 (wr.alloc (.cells #[.int .i64 1, .int .i64 h, .int .i64 m, .int .i64 s, .int .i64 f, .int .i64 t] 50)) wr.heap.size (.int .i64 1) (.int .i64 h) (.int .i64 m) (.int .i64 s) (.int .i64 f) (.int .i64 t) := Box6.of (heap_last _ _)
                have n1 : wr.heap.size ≠ ba := by have := K9.2.2; omega
                replace K9 := K9.mono hGW
                have hGw : Gr w (wr.alloc (.cells #[.int .i64 1, .int .i64 h, .int .i64 m, .int .i64 s, .int .i64 f, .int .i64 t] 50)) := hG.trans hGW
                go_wp2_with (go_at_call 35; refine (Where9_no _ _ _ _ _ _ _ _ _ _ _ _ hf K9).mono ?_; rintro e w1 ⟨rfl, hb9⟩; have K9 := K9.mono hb9)
                go_roundw
                case rel => first | exact ⟨k + 1, lst, by omega, by go_num, rfl, last, stamp, time, at0, heard, kept, ok, hat, K9, hGw.trans hb9, HK⟩ | ((repeat apply Exists.intro); exact ⟨⟨k + 1, lst, by omega, by go_num, rfl, last, stamp, time, at0, heard, kept, ok, hat, K9, hGw.trans hb9, HK⟩, rfl⟩)
                case measure => simp [intOf]; omega
            · have hk1' : (kd == 1) = false := by simpa using hk1
              clear hk0 hk1
              by_cases hf : takeF last t heard = 0
              · have hw0 : whenF last t = 0 := by
                  by_cases h0 : whenF last t = 0
                  · exact h0
                  · rw [takeF, if_neg h0] at hf; exact hf
                have hw := whenF_zero hw0
                have HW : Hid (whenF t t = 0) := Lib.hid (by simp [whenF, withinB]; omega)
                have OK2 : Hid (okFol R F J t stamp time) := Lib.hid ⟨ok.1, ok.2.1, ok.2.2.1, by omega, ok.2.2.2.2.1, by have := ok.2.2.2.2.2; omega⟩
                have hJ := ok.2.2.1
                have hp := wP_bd (R := R) (F := F) (stamp := stamp) (time := time) (t := t) ok.1 true
                have hne0 : ¬ dayI R = 0 := by omega
                have hpm : wP true R F stamp time t % dayI R = wP true R F stamp time t := Int.emod_eq_of_lt hp.1 hp.2
                rcases HK.out with ⟨rfl, hls⟩ | ⟨rfl, hls⟩
                · subst hls
                  have hg := mod_bd ok.1 (wP true R F stamp time t - lst)
                  by_cases hgJ : tkG R lst (wP true R F stamp time t) ≤ J
                  · have hfr : tkFrom true J (tkG R lst (wP true R F stamp time t)) lst (wP true R F stamp time t) = lst := if_pos ⟨rfl, hgJ⟩
                    have hto : tkTo true J (tkG R lst (wP true R F stamp time t)) lst (wP true R F stamp time t) = lst + tkG R lst (wP true R F stamp time t) := if_pos ⟨rfl, hgJ⟩
                    have hj : tkJ true J (tkG R lst (wP true R F stamp time t)) = false := by simp [tkJ]; omega
                    have hgb : 0 ≤ tkG R lst (wP true R F stamp time t) ∧ tkG R lst (wP true R F stamp time t) < dayI R := hg
                    have hmod : (lst + tkG R lst (wP true R F stamp time t)) % dayI R = wP true R F stamp time t := by
                      unfold tkG
                      rw [Int.add_emod_emod, show lst + (wP true R F stamp time t - lst) = wP true R F stamp time t by omega]; exact hpm
                    clear hw0 hg HK
                    have hGW : Gr wr (wr.alloc (.cells #[.int .i64 kd, .int .i64 h, .int .i64 m, .int .i64 s, .int .i64 f, .int .i64 t] 50)) := (Gr.refl _).alloc _
                    have K6 : Box6 (wr.alloc (.cells #[.int .i64 kd, .int .i64 h, .int .i64 m, .int .i64 s, .int .i64 f, .int .i64 t] 50)) wr.heap.size (.int .i64 kd) (.int .i64 h) (.int .i64 m) (.int .i64 s) (.int .i64 f) (.int .i64 t) := Box6.of (heap_last _ _)
                    have n1 : wr.heap.size ≠ ba := by have := K9.2.2; omega
                    replace K9 := K9.mono hGW
                    have hGw : Gr w (wr.alloc (.cells #[.int .i64 kd, .int .i64 h, .int .i64 m, .int .i64 s, .int .i64 f, .int .i64 t] 50)) := hG.trans hGW
                    go_wp2_with (first
                      | (go_at_call 37; refine (Take9_ok _ _ _ _ _ _ _ _ _ _ _ _ hf ok hat K9).mono ?_; rintro e w1 ⟨rfl, hm9, K9⟩; have K6 := K6.mo hm9 n1)
                      | (go_at_call 35; refine (Where9_ok _ _ _ _ _ _ _ _ _ _ _ _ HW.out OK2.out K9).mono ?_; rintro e w2 ⟨rfl, hm8, K9⟩))
                    go_roundw
                    case rel => (refine ⟨k + 1, wP true R F stamp time t, by omega, by go_num, ?_, t, stamp, time, wP true R F stamp time t, true, true, OK2.out, wP_bd ok.1 true, K9, Mo.gr (Mo.gr hGw hm9 hba) hm8 hba, Lib.hid (.inl ⟨rfl, rfl⟩)⟩; first | rw [hpm] | rw [hmod])
                    case measure => simp [intOf]; omega
                  · have hfr : tkFrom true J (tkG R lst (wP true R F stamp time t)) lst (wP true R F stamp time t) = wP true R F stamp time t := if_neg (fun h => hgJ h.2)
                    have hto : tkTo true J (tkG R lst (wP true R F stamp time t)) lst (wP true R F stamp time t) = wP true R F stamp time t := if_neg (fun h => hgJ h.2)
                    have hj : tkJ true J (tkG R lst (wP true R F stamp time t)) = true := by simp [tkJ]; omega
                    clear hw0 hg HK hgJ
                    have hGW : Gr wr (wr.alloc (.cells #[.int .i64 kd, .int .i64 h, .int .i64 m, .int .i64 s, .int .i64 f, .int .i64 t] 50)) := (Gr.refl _).alloc _
                    have K6 : Box6 (wr.alloc (.cells #[.int .i64 kd, .int .i64 h, .int .i64 m, .int .i64 s, .int .i64 f, .int .i64 t] 50)) wr.heap.size (.int .i64 kd) (.int .i64 h) (.int .i64 m) (.int .i64 s) (.int .i64 f) (.int .i64 t) := Box6.of (heap_last _ _)
                    have n1 : wr.heap.size ≠ ba := by have := K9.2.2; omega
                    replace K9 := K9.mono hGW
                    have hGw : Gr w (wr.alloc (.cells #[.int .i64 kd, .int .i64 h, .int .i64 m, .int .i64 s, .int .i64 f, .int .i64 t] 50)) := hG.trans hGW
                    go_wp2_with (first
                      | (go_at_call 37; refine (Take9_ok _ _ _ _ _ _ _ _ _ _ _ _ hf ok hat K9).mono ?_; rintro e w1 ⟨rfl, hm9, K9⟩; have K6 := K6.mo hm9 n1)
                      | (go_at_call 35; refine (Where9_ok _ _ _ _ _ _ _ _ _ _ _ _ HW.out OK2.out K9).mono ?_; rintro e w2 ⟨rfl, hm8, K9⟩))
                    go_roundw
                    case rel => (refine ⟨k + 1, wP true R F stamp time t, by omega, by go_num, ?_, t, stamp, time, wP true R F stamp time t, true, true, OK2.out, wP_bd ok.1 true, K9, Mo.gr (Mo.gr hGw hm9 hba) hm8 hba, Lib.hid (.inl ⟨rfl, rfl⟩)⟩; first | rw [hpm] | rw [hmod])
                    case measure => simp [intOf]; omega
                · subst hls
                  have hfr : ∀ g a p, tkFrom false J g a p = p := fun _ _ _ => rfl
                  have hto : ∀ g a p, tkTo false J g a p = p := fun _ _ _ => rfl
                  have hj : ∀ g, tkJ false J g = false := fun _ => rfl
                  clear hw0 HK
                  have hGW : Gr wr (wr.alloc (.cells #[.int .i64 kd, .int .i64 h, .int .i64 m, .int .i64 s, .int .i64 f, .int .i64 t] 50)) := (Gr.refl _).alloc _
                  have K6 : Box6 (wr.alloc (.cells #[.int .i64 kd, .int .i64 h, .int .i64 m, .int .i64 s, .int .i64 f, .int .i64 t] 50)) wr.heap.size (.int .i64 kd) (.int .i64 h) (.int .i64 m) (.int .i64 s) (.int .i64 f) (.int .i64 t) := Box6.of (heap_last _ _)
                  have n1 : wr.heap.size ≠ ba := by have := K9.2.2; omega
                  replace K9 := K9.mono hGW
                  have hGw : Gr w (wr.alloc (.cells #[.int .i64 kd, .int .i64 h, .int .i64 m, .int .i64 s, .int .i64 f, .int .i64 t] 50)) := hG.trans hGW
                  go_wp2_with (first
                    | (go_at_call 37; refine (Take9_ok _ _ _ _ _ _ _ _ _ _ _ _ hf ok hat K9).mono ?_; rintro e w1 ⟨rfl, hm9, K9⟩; have K6 := K6.mo hm9 n1)
                    | (go_at_call 35; refine (Where9_ok _ _ _ _ _ _ _ _ _ _ _ _ HW.out OK2.out K9).mono ?_; rintro e w2 ⟨rfl, hm8, K9⟩))
                  go_roundw
                  case rel => (refine ⟨k + 1, wP true R F stamp time t, by omega, by go_num, ?_, t, stamp, time, wP true R F stamp time t, true, true, OK2.out, wP_bd ok.1 true, K9, Mo.gr (Mo.gr hGw hm9 hba) hm8 hba, Lib.hid (.inl ⟨rfl, rfl⟩)⟩; first | rw [hpm] | rw [hmod])
                  case measure => simp [intOf]; omega
              · have hGW : Gr wr (wr.alloc (.cells #[.int .i64 kd, .int .i64 h, .int .i64 m, .int .i64 s, .int .i64 f, .int .i64 t] 50)) := (Gr.refl _).alloc _
                have K6 : Box6 (wr.alloc (.cells #[.int .i64 kd, .int .i64 h, .int .i64 m, .int .i64 s, .int .i64 f, .int .i64 t] 50)) wr.heap.size (.int .i64 kd) (.int .i64 h) (.int .i64 m) (.int .i64 s) (.int .i64 f) (.int .i64 t) := Box6.of (heap_last _ _)
                have n1 : wr.heap.size ≠ ba := by have := K9.2.2; omega
                replace K9 := K9.mono hGW
                have hGw : Gr w (wr.alloc (.cells #[.int .i64 kd, .int .i64 h, .int .i64 m, .int .i64 s, .int .i64 f, .int .i64 t] 50)) := hG.trans hGW
                have hb' : (takeF last t heard != 0) = true := by simpa using hf
                go_wp2_with (go_at_call 37; refine (Take9_no _ _ _ _ _ _ _ _ _ _ _ _ hf K9).mono ?_; rintro e w1 ⟨rfl, hb9⟩; have K9 := K9.mono hb9)
                go_roundw
                case rel => first | exact ⟨k + 1, lst, by omega, by go_num, rfl, last, stamp, time, at0, heard, kept, ok, hat, K9, hGw.trans hb9, HK⟩ | ((repeat apply Exists.intro); exact ⟨⟨k + 1, lst, by omega, by go_num, rfl, last, stamp, time, at0, heard, kept, ok, hat, K9, hGw.trans hb9, HK⟩, rfl⟩)
                case measure => simp [intOf]; omega
      · go_wp2
        go_ret
        exact ⟨rfl, hG⟩
  · have Hn := Lib.hid hF
    have hb' : (newF R F J != 0) = true := by simpa using hF
    clear hF
    go_enter Try.func11, Try.ntmps11
    go_wp2_with (first | (go_at_call 31; refine (New9_no _ _ _ _ Hn.out).mono ?_; rintro e w1 ⟨rfl, hb⟩) | (go_at_call 16; refine (Day_any _ _).mono ?_; rintro e w2 ⟨rfl, rfl⟩))
    go_ret
    exact ⟨rfl, (by repeat (first | exact Gr.refl _ | assumption | refine Gr.alloc ?_ _ | refine Gr.drew ?_ | refine Gr.drewN ?_ _ | (refine Gr.put ?_ ?_ _; first | exact Nat.le_refl _ | (simp; done) | omega) | (apply Gr.after; assumption)))⟩
end Go.Proofs.Ytgjclbkcnilkbaa
